import Derived.Test.YthbcdckonaljiaaZa
namespace Go.Proofs.Ythbcdckonaljiaa
open Go.RowKit Go.BigFrame
def Tru (p:Prop)(e:Ending):Prop:=∃ b:Bool,e = .returned (.bool b)∧(b=true↔p)
theorem Tru.no {p:Prop}(h:¬ p):Tru p (.returned (.bool false)):=⟨false,rfl,by simp [h]⟩
abbrev funcObj (nm:ByteArray)(ps R Fr:Int)(C:Option Addr)(L cap:Nat):Obj:=.cells #[.string nm,.int .i64 ps,.int .i64 R,.int .i64 Fr,.slice C L cap] 26
abbrev funcAgg (nm:ByteArray)(ps R Fr:Int)(C:Option Addr)(L cap:Nat):Value:=.agg #[.string nm,.int .i64 ps,.int .i64 R,.int .i64 Fr,.slice C L cap]
theorem box3 (w:World)(o o' o'':Obj):(((w.alloc o).alloc o').alloc o'').heap[w.heap.size]? = some o∧(((w.alloc o).alloc o').alloc o'').heap[w.heap.size + 1]? = some o'∧(((w.alloc o).alloc o').alloc o'').heap[w.heap.size + 1 + 1]? = some o'' ∧
    (((w.alloc o).alloc o').alloc o'').heap.size=w.heap.size + 3∧Below w.heap.size w (((w.alloc o).alloc o').alloc o''):=by
  have h1:=heap_alloc_new w o
  have h2:=heap_alloc_new (w.alloc o) o'
  have h3:=heap_alloc_new ((w.alloc o).alloc o') o''
  rw [show (w.alloc o).heap.size=w.heap.size + 1 by simp] at h2
  rw [show ((w.alloc o).alloc o').heap.size=w.heap.size + 1 + 1 by simp] at h3
  exact ⟨alloc_keeps (alloc_keeps h1 _) _,alloc_keeps h2 _,h3,by simp,((Below.one w o).alloc (by simp) _).alloc (by simp; omega) _⟩
structure RSt (w w1:World)(i o:Ins)(nm:ByteArray)(ps R Fr:Int)(C:Option Addr)(L cap:Nat):Prop where
  bi:w1.heap[w.heap.size]? = some i.obj
  bf:w1.heap[w.heap.size + 1]? = some (funcObj nm ps R Fr C L cap)
  bo:w1.heap[w.heap.size + 1 + 1]? = some o.obj
  below:Below w.heap.size w w1
theorem RSt.later {w w1 w2:World}{i o:Ins}{nm:ByteArray}{ps R Fr:Int}{C:Option Addr}{L cap:Nat}(h:RSt w w1 i o nm ps R Fr C L cap)(hb:Below w1.heap.size w1 w2):RSt w w2 i o nm ps R Fr C L cap :=
  ⟨(hb.block _ (Array.getElem?_eq_some_iff.1 h.bi).1).trans h.bi,(hb.block _ (Array.getElem?_eq_some_iff.1 h.bf).1).trans h.bf,(hb.block _ (Array.getElem?_eq_some_iff.1 h.bo).1).trans h.bo,h.below.trans (hb.mono h.below.size)⟩
theorem RSt.store {w w1:World}{i o o':Ins}{nm:ByteArray}{ps R Fr:Int}{C:Option Addr}{L cap:Nat}(h:RSt w w1 i o nm ps R Fr C L cap)(j:Nat)(v:Value)(ho:(o.l.toArray.setIfInBounds j v)=o'.l.toArray) :
    RSt w (w1.setCell ⟨w.heap.size + 1 + 1,j,none⟩ v) i o' nm ps R Fr C L cap :=
  ⟨(Below.heap_setCell _ _ _ _ (by simp only; omega)).trans h.bi,(Below.heap_setCell _ _ _ _ (by simp only; omega)).trans h.bf,by rw [heap_setCell h.bo]; exact congrArg some (congrArg (fun c=>Obj.cells c 31 (0,0)) ho),h.below.setCell (p:=⟨w.heap.size + 1 + 1,j,none⟩) (by simp only; omega) _⟩
theorem RSt.free {w w1:World}{i o:Ins}{nm:ByteArray}{ps R Fr:Int}{C:Option Addr}{L cap:Nat}(h:RSt w w1 i o nm ps R Fr C L cap)(j:Nat):w1.frozen? ⟨w.heap.size + 1 + 1,j,none⟩=false:=free_of_heap h.bo j
end Go.Proofs.Ythbcdckonaljiaa
namespace Go.Proofs.Ythbcdckonaljiaa
open Go.RowKit Go.BigFrame
theorem Ins.uses_len (i:Ins):i.uses.length≤8:=by
  unfold Ins.uses
  simp only [List.length_append]
  have h1:(if kA i.kind then [i.a] else []).length≤1:=by split <;> simp
  have h2:(if kB i.kind then [i.b] else []).length≤1:=by split <;> simp
  have h3:(if i.kind=8 then i.args.take i.n.toNat else []).length≤6:=by
    split
    · rw [List.length_take]; simp [Ins.args]; omega
    · simp
  omega
end Go.Proofs.Ythbcdckonaljiaa
/- THE DOCUMENT's right, calls (p). -/
