import Derived.Test.YtkcclefonmnpnaaVXe
namespace Go.Proofs.Ytkcclefonmnpnaa
open Go.RowKit Go.BigFrame
abbrev LI:Obj:=.cells #[.int .i64 0,.int .i64 0,.slice none 0 0] 49
def Zn (w:World)(b:Nat):Prop:=w.heap.size≤b∨w.heap[b]? = some LI
abbrev P3 (w:World)(b:Nat)(u v z:Value):World:=((w.setCell ⟨b,0,none⟩ u).setCell ⟨b,1,none⟩ v).setCell ⟨b,2,none⟩ z
theorem P3.heap {w:World}{b:Nat}(h:w.heap[b]? = some LI)(u v z:Value):(P3 w b u v z).heap[b]? = some (.cells #[u,v,z] 49):=by
 have h1:=heap_setCell (j:=0) h u
 have h2:=heap_setCell (j:=1) h1 v
 have h3:=heap_setCell (j:=2) h2 z
 simpa using h3
theorem P3.other {w:World}{b q:Nat}(hq:q≠b)(u v z:Value):(P3 w b u v z).heap[q]? = w.heap[q]? :=
 (heap_setCell_other _ ⟨b,2,none⟩ q _ hq).trans ((heap_setCell_other _ ⟨b,1,none⟩ q _ hq).trans (heap_setCell_other _ ⟨b,0,none⟩ q _ hq))
theorem P3.os (w:World)(b:Nat)(u v z:Value):(P3 w b u v z).os=w.os:=rfl
theorem P3.tape (w:World)(b:Nat)(u v z:Value):(P3 w b u v z).tape=w.tape:=rfl
theorem P3.output (w:World)(b:Nat)(u v z:Value):(P3 w b u v z).output=w.output:=rfl
theorem P3.size (w:World)(b:Nat)(u v z:Value):(P3 w b u v z).heap.size=w.heap.size:=by simp
theorem RdB.zn {w w':World}{A:Option Addr}{l:List Int}{b1 b2:Nat}(h:RdB w A l)(h1:Zn w b1)(h2:Zn w b2)(hs:w.heap.size≤w'.heap.size)(hk:∀ q,q<w.heap.size→q≠b1→q≠b2→w'.heap[q]? = w.heap[q]?):RdB w' A l:=fun j n hj=>by
 obtain⟨b,o,e1,e2,e3⟩:=h j n hj
 have key:∀ c,Zn w c→b≠c:=fun c hc e=>by
  subst e
  rcases hc with hc|hc
  ·omega
  ·have e4:(#[Value.int .i64 0,.int .i64 0,.slice none 0 0]:Array Value)[o+j]? = some (.int .u8 n):=by
    simpa[World.cell?,hc] using e3
   match o+j,e4 with
   | 0,e4=>simp at e4
   | 1,e4=>simp at e4
   | 2,e4=>simp at e4
   | k+3,e4=>simp at e4
 refine⟨b,o,e1,Nat.lt_of_lt_of_le e2 hs,?_⟩
 rw[←e3]
 simp only[World.cell?,hk b e2 (key b1 h1) (key b2 h2)]
end Go.Proofs.Ytkcclefonmnpnaa
