import Derived.Carry
import Derived.Test.YtkcclefonmnpnaaShelf
import Derived.StillTailTactics
import Derived.RegionTactic
import Derived.BigRegion
import Derived.Laws.OwnMore
import Derived.Test.YtkcclefonmnpnaaZi
namespace Go.Proofs.Ytkcclefonmnpnaa
open Go.RowKit Go.BigFrame
structure MapsW (w:World)(sb N:Nat)(S:Sets):Prop where
  h:Pre g1 1 115 w sb ((List.range N).map fun p=>.map (some (sb + 2 + p)))
  r:∀ p,p < N→SetI w (sb + 2 + p) (S p)
theorem MapsW.later {w w':World}{sb N:Nat}{S:Sets}(h:MapsW w sb N S)(hb:Below w.heap.size w w'):MapsW w' sb N S:=⟨Pre.later h.h hb,fun p hp=>(h.r p hp).below hb (h.r p hp).lt⟩
theorem MapsW.cell {w:World}{sb N:Nat}{S:Sets}(h:MapsW w sb N S){p:Nat}(hp:p < N):w.cell? ⟨sb,p,none⟩=some (.map (some (sb + 2 + p))):=Pre1.cell h.h (by simp [hp])
def hdrm (N sb k:Nat):List Value:=(List.range N).map fun j=>if j < k then .map (some (sb + 2 + j)) else .map none
theorem hdrm_get {N sb k j:Nat}(hj:j < N):(hdrm N sb k)[j]? = some (if j < k then .map (some (sb + 2 + j)) else .map none):=by simp [hdrm,hj]
theorem hdrm_zero (N sb:Nat):hdrm N sb 0=List.replicate N (.map none):=by
  apply List.ext_getElem?
  intro j
  by_cases hj:j < N
  · rw [hdrm_get hj,if_neg (Nat.not_lt_zero j)]; simp [hj]
  · rw [List.getElem?_eq_none (by simp [hdrm]; omega),List.getElem?_eq_none (by simp; omega)]
theorem hdrm_set {N sb k:Nat}(hk:k < N):(hdrm N sb k).set k (.map (some (sb + 2 + k)))=hdrm N sb (k + 1):=by
  apply List.ext_getElem?
  intro j
  by_cases hj:j < N
  · rw [List.getElem?_set,hdrm_get hj,hdrm_get hj]
    by_cases h1:k=j
    · subst h1; rw [if_pos rfl,if_pos (by simp [hdrm,hk]),if_pos (by omega)]
    · rw [if_neg h1]
      by_cases h2:j < k
      · rw [if_pos h2,if_pos (by omega)]
      · rw [if_neg h2,if_neg (by omega)]
  · rw [List.getElem?_eq_none (by simp [hdrm]; omega),List.getElem?_eq_none (by simp [hdrm]; omega)]
theorem hdrm_all (N sb:Nat):hdrm N sb N=(List.range N).map fun p=>.map (some (sb + 2 + p)):=by
  apply List.ext_getElem?
  intro j
  by_cases hj:j < N
  · rw [hdrm_get hj,if_pos hj]; simp [hj]
  · rw [List.getElem?_eq_none (by simp [hdrm]; omega),List.getElem?_eq_none (by simp; omega)]
structure Lpm (W1 wr:World)(N k:Nat):Prop where
  h:Pre g1 1 115 wr W1.heap.size (hdrm N W1.heap.size k)
  bx:wr.heap[W1.heap.size + 1]? = some (.cells #[.slice (some ⟨W1.heap.size,0,none⟩) N N] 113 (0,0))
  r:∀ j,j < k→SetI wr (W1.heap.size + 2 + j) (fun _=>false)
  s:wr.heap.size=W1.heap.size + 2 + k
  b:Below W1.heap.size W1 wr
theorem Lpm.start (W1:World)(N:Nat):Lpm W1 ((W1.alloc (.cells (madeCells #[.map none] N) 115)).alloc (.cells #[.slice (some ⟨W1.heap.size,0,none⟩) N N] 113)) N 0:=by
  have h:=made_pre (g:=g1) (d:=1) (t:=115) W1 #[.map none] N (.map none) rfl (fun k hk=>by
    obtain rfl:k=0:=by omega
    rfl)
  rw [Nat.mul_one] at h
  have hb:=Below.one (W1.alloc (.cells (madeCells #[.map none] N) 115)) (.cells #[.slice (some ⟨W1.heap.size,0,none⟩) N N] 113)
  refine ⟨by rw [hdrm_zero]; exact Pre.later h hb,?_,fun j hj=>by omega,by simp,(Below.one _ _).trans (hb.mono (by simp))⟩
  have h2:=heap_alloc_new (W1.alloc (.cells (madeCells #[.map none] N) 115)) (.cells #[.slice (some ⟨W1.heap.size,0,none⟩) N N] 113)
  rwa [show (W1.alloc (.cells (madeCells #[.map none] N) 115)).heap.size=W1.heap.size + 1 by simp] at h2
theorem Lpm.next {W1 wr:World}{N k:Nat}(h:Lpm W1 wr N k)(hk:k < N):Lpm W1 ((wr.alloc (.map #[] 0)).setCell ⟨W1.heap.size,k,none⟩ (.map (some wr.heap.size))) N (k + 1):=by
  have hb:=Below.one wr (.map #[] 0)
  have h1:=Pre1.set (Pre.later h.h hb) (j:=k) (by simp [hdrm,hk]) (.map (some (W1.heap.size + 2 + k)))
  rw [hdrm_set hk] at h1
  have hs:=h.s
  have hm:=SetI.made wr
  have ho:∀ b,b≠W1.heap.size→((wr.alloc (.map #[] 0)).setCell ⟨W1.heap.size,k,none⟩ (.map (some wr.heap.size))).heap[b]? = (wr.alloc (.map #[] 0)).heap[b]?:=fun b hb=>heap_setCell_other _ ⟨W1.heap.size,k,none⟩ b _ hb
  rw [hs] at hm ho ⊢
  refine ⟨h1,(ho _ (by omega)).trans ((hb.block _ (by omega)).trans h.bx),fun j hj=>?_,by simp [hs]; omega,(h.b.alloc (by omega) _).setCell (Nat.le_refl _) _⟩
  by_cases hjk:j < k
  · exact ((h.r j hjk).below hb (by omega)).of_block (ho _ (by omega))
  · obtain rfl:j=k:=by omega
    exact hm.of_block (ho _ (by omega))
theorem Lpm.cell {W1 wr:World}{N k:Nat}(h:Lpm W1 wr N k)(hk:k < N):wr.cell? ⟨W1.heap.size,k,none⟩=some (.map none):=by
  have:=Pre1.cell h.h (hdrm_get hk)
  rwa [if_neg (Nat.lt_irrefl k)] at this
theorem Lpm.done {W1 wr:World}{N:Nat}(h:Lpm W1 wr N N):Fl W1 (wr.alloc (.cells #[.bool true] 4)) W1.heap.size N (fun _ _=>false) wr.heap.size true:=by
  have hb:=Below.one wr (.cells #[.bool true] 4)
  have hs:=h.s
  have h1:=Pre.later h.h hb
  rw [hdrm_all] at h1
  exact ⟨h1,(hb.block _ (by omega)).trans h.bx,fun p hp=>(h.r p hp).below hb (by omega),heap_alloc_new _ _,by omega,h.b.trans (hb.mono (by omega))⟩
end Go.Proofs.Ytkcclefonmnpnaa
namespace Go.Proofs.Ytkcclefonmnpnaa
open Go.RowKit Go.BigFrame
theorem RdN.store_other {w:World}{A:Option Addr}{l:List Int}(h:RdN w A l){ob k:Nat}{v0:Value}(hc:w.cell? ⟨ob,k,none⟩=some v0)(hv:∀ n,v0≠.int .i64 n)(v:Value):RdN (w.setCell ⟨ob,k,none⟩ v) A l:=fun j n hn=>by
  obtain ⟨b,o,e1,e2,e3⟩:=h j n hn
  refine ⟨b,o,e1,by simpa using e2,?_⟩
  rw [World.cell?_setCell_other]
  · exact e3
  · intro e
    injection e with e4 e5
    subst e4 e5
    rw [hc] at e3
    injection e3 with e3
    exact hv n e3
def RowV (w:World)(v:Value)(P:Int→Prop):Prop:=∃ A l cap,v = .slice A l.length cap∧RdN w A l∧l.Pairwise (· < ·)∧∀ x,x ∈ l↔P x
theorem RowV.below {w w':World}{v:Value}{P:Int→Prop}(h:RowV w v P)(hb:Below w.heap.size w w'):RowV w' v P:=by
  obtain ⟨A,l,cap,h1,h2,h3⟩:=h
  exact ⟨A,l,cap,h1,h2.below hb,h3⟩
def RowsK (w:World)(ob N k:Nat)(P:Nat→Int→Prop):Prop:=∃ vs:List Value,vs.length=N∧Pre g1 1 33 w ob vs∧(∀ (j:Nat) (v:Value),vs[j]? = some v→∃ A n c,v=Value.slice A n c)∧∀ j,j < k→∃ v,vs[j]? = some v∧RowV w v (P j)
theorem RowsK.later {w w':World}{ob N k:Nat}{P:Nat→Int→Prop}(h:RowsK w ob N k P)(hb:Below w.heap.size w w'):RowsK w' ob N k P:=by
  obtain ⟨vs,h1,h2,h3,h4⟩:=h
  exact ⟨vs,h1,Pre.later h2 hb,h3,fun j hj=>by obtain ⟨v,h5,h6⟩:=h4 j hj; exact ⟨v,h5,h6.below hb⟩⟩
theorem RowsK.lt {w:World}{ob N k:Nat}{P:Nat→Int→Prop}(h:RowsK w ob N k P):ob < w.heap.size:=by
  obtain ⟨vs,h1,h2,h3,h4⟩:=h
  exact Pre.lt h2
theorem RowsK.cell {w:World}{ob N k p:Nat}{P:Nat→Int→Prop}(h:RowsK w ob N k P)(hp:p < N):(∃ A n c,w.cell? ⟨ob,p,none⟩=some (Value.slice A n c))∧w.frozen? ⟨ob,p,none⟩=false:=by
  obtain ⟨vs,h1,h2,h3,h4⟩:=h
  have hv:vs[p]? = some (vs[p]'(by omega)):=List.getElem?_eq_getElem (by omega)
  obtain ⟨A,n,c,h5⟩:=h3 p _ hv
  exact ⟨⟨A,n,c,by rw [Pre1.cell h2 hv,h5]⟩,Pre.free h2 p⟩
theorem RowsK.set {w:World}{ob N k:Nat}{P:Nat→Int→Prop}(h:RowsK w ob N k P)(hk:k < N){v:Value}(hv:RowV w v (P k)):RowsK (w.setCell ⟨ob,k,none⟩ v) ob N (k + 1) P:=by
  obtain ⟨⟨A,n,c,hc⟩,_⟩:=h.cell hk
  obtain ⟨vs,h1,h2,h3,h4⟩:=h
  have hst:∀ {u:Value} {Q:Int→Prop},RowV w u Q→RowV (w.setCell ⟨ob,k,none⟩ v) u Q:=fun ⟨A',l,c',e1,e2,e3⟩=>⟨A',l,c',e1,e2.store_other hc (fun n h=>by cases h) v,e3⟩
  refine ⟨vs.set k v,by simp [h1],Pre1.set h2 (by omega) v,fun j u hu=>?_,fun j hj=>?_⟩
  · rw [List.getElem?_set] at hu
    split at hu
    · rename_i e
      subst e
      rw [if_pos (by omega)] at hu
      injection hu with hu
      subst hu
      obtain ⟨A',l,c',e1,_⟩:=hv
      exact ⟨A',_,c',e1⟩
    · exact h3 j u hu
  · by_cases e:j=k
    · subst e
      exact ⟨v,by rw [List.getElem?_set_self (by omega)],hst hv⟩
    · obtain ⟨u,h5,h6⟩:=h4 j (by omega)
      exact ⟨u,by rw [List.getElem?_set_ne (by omega)]; exact h5,hst h6⟩
theorem RowsK.made (W:World)(N:Nat)(P:Nat→Int→Prop):RowsK (W.alloc (.cells (madeCells #[.slice none 0 0] N) 33)) W.heap.size N 0 P:=by
  have h:=made_pre (g:=g1) (d:=1) (t:=33) W #[.slice none 0 0] N (.slice none 0 0) rfl (fun k hk=>by
    obtain rfl:k=0:=by omega
    rfl)
  rw [Nat.mul_one] at h
  exact ⟨_,by simp,h,fun j v hj=>by
    have:=List.mem_of_getElem? hj
    exact ⟨none,0,0,List.eq_of_mem_replicate this⟩,fun j hj=>by omega⟩
theorem RowsK.done {w:World}{ob N:Nat}{P:Nat→Int→Prop}(h:RowsK w ob N N P){p:Nat}(hp:p < N):∃ v,w.cell? ⟨ob,p,none⟩=some v∧RowV w v (P p):=by
  obtain ⟨vs,h1,h2,h3,h4⟩:=h
  obtain ⟨v,h5,h6⟩:=h4 p hp
  exact ⟨v,Pre1.cell h2 h5,h6⟩
theorem MapsW.other {w:World}{sb N:Nat}{S:Sets}(h:MapsW w sb N S){ob k:Nat}(hob:ob < sb)(v:Value):MapsW (w.setCell ⟨ob,k,none⟩ v) sb N S :=
  ⟨Pre.other h.h (by simp only; omega) v,fun p hp=>(h.r p hp).of_block (heap_setCell_other w ⟨ob,k,none⟩ _ v (by simp only; omega))⟩
end Go.Proofs.Ytkcclefonmnpnaa
namespace Go.Proofs.Ytkcclefonmnpnaa
open Go.RowKit Go.BigFrame
theorem Kp.grown {w w':World}{mb:Nat}(hg:w.grownBy w' (some mb))(hz:w'.heap.size=w.heap.size):Kp w w' mb mb:=⟨by omega,fun b hb h1 _=>hg.block b hb (fun e=>h1 (by injection e))⟩
end Go.Proofs.Ytkcclefonmnpnaa
namespace Go.Proofs.Ytkcclefonmnpnaa
open Go.RowKit Go.BigFrame
def stdy (op:Int):Bool:=decide (1≤op∧op≤23∧¬ (4≤op∧op≤7))
def pur (i:Ins):Bool:=decide (i.kind=1∨i.kind=2∨i.kind=4∨i.kind=5) || (decide (i.kind=3) && stdy i.op)
end Go.Proofs.Ytkcclefonmnpnaa
namespace Go.Proofs.Ytkcclefonmnpnaa
open Go.RowKit Go.BigFrame
theorem OwnN.later {w w':World}{V:Value}{l:List Int}(h:OwnN w V l)(hb:Below w.heap.size w w'):OwnN w' V l:=by
  obtain ⟨h1,h2⟩:=h
  refine ⟨h1,?_⟩
  rcases h2 with h2 | ⟨g,cap,cur,e1,e2,e3,e4⟩
  · exact Or.inl h2
  · exact Or.inr ⟨g,cap,cur,e1,e2,(hb.block g (Array.getElem?_eq_some_iff.1 e3).1).trans e3,e4⟩
end Go.Proofs.Ytkcclefonmnpnaa
namespace Go.Proofs.Ytkcclefonmnpnaa
open Go.RowKit Go.BigFrame
structure Seen (f:Fn7)(a:Nat)(r:Int)(T:List Int)(k:Nat):Prop where
  hd:T[0]? = some (a:Int)
  nd:T.Nodup
  bd:∀ x ∈ T,0≤x∧x < (f.code.length:Int)
  kl:k≤T.length
  done:∀ (j:Nat) p i,j < k→T[j]? = some p→f.code[p.toNat]? = some i→r ∉ i.uses∧(i.sets=r∨∀ n ∈ i.next p.toNat,n ∈ T)
  way:∀ p ∈ T,Lv f.code p.toNat r→Lv f.code a r
theorem Seen.start {f:Fn7}{a:Nat}(ha:a < f.code.length)(r:Int):Seen f a r [(a:Int)] 0 :=
  ⟨rfl,by simp,fun x hx=>by simp only [List.mem_singleton] at hx; subst hx; omega,by simp,fun j p i hj=>by omega,fun p hp h=>by simp only [List.mem_singleton] at hp; subst hp; simpa using h⟩
theorem Seen.len {f:Fn7}{a:Nat}{r:Int}{T:List Int}{k:Nat}(h:Seen f a r T k):T.length≤f.code.length:=nodup_le _ T h.nd h.bd
theorem Seen.skip {f:Fn7}{a:Nat}{r:Int}{T:List Int}{k:Nat}(h:Seen f a r T k){p:Int}(hp:T[k]? = some p){i:Ins}(hi:f.code[p.toNat]? = some i)(hu:r ∉ i.uses)(hs:i.sets=r):Seen f a r T (k + 1) :=
  ⟨h.hd,h.nd,h.bd,by have:=(List.getElem?_eq_some_iff.1 hp).1; omega,fun j q x hj hq hx=>by
    by_cases hjk:j=k
    · subst hjk
      rw [hp] at hq
      injection hq with hq
      subst hq
      rw [hi] at hx
      injection hx with hx
      subst hx
      exact ⟨hu,Or.inl hs⟩
    · exact h.done j q x (by omega) hq hx,h.way⟩
theorem OwnN.one (w:World)(x:Int):OwnN (w.alloc (.cells #[.int .i64 x] 3)) (.slice (some ⟨w.heap.size,0,none⟩) 1 1) [x] :=
  ⟨by simp,Or.inr ⟨w.heap.size,1,_,rfl,Nat.zero_le _,heap_alloc_new w _,Nat.le_refl _,by simp [maxLen],by simp,by simp⟩⟩
end Go.Proofs.Ytkcclefonmnpnaa
namespace Go.Proofs.Ytkcclefonmnpnaa
def kl (G:Nat→Bool)(k:Nat):List Nat:=(List.range k).filter fun p=>!G p
def toI (G:Nat→Bool)(p:Nat):Nat:=(kl G p).length
theorem kl_succ (G:Nat→Bool)(k:Nat):kl G (k + 1)=if G k=true then kl G k else kl G k++[k]:=by
  unfold kl
  rw [List.range_succ,List.filter_append]
  cases h:G k <;> simp [h]
theorem toI_succ (G:Nat→Bool)(k:Nat):toI G (k + 1)=if G k=true then toI G k else toI G k + 1:=by
  unfold toI
  rw [kl_succ]
  split <;> simp
theorem toI_le (G:Nat→Bool):∀ k,toI G k≤k
  | 0=>Nat.le_refl _
  | k + 1=>by
    have:=toI_le G k
    rw [toI_succ]
    split <;> omega
theorem kl_inv (G:Nat→Bool):∀ {N q p:Nat},(kl G N)[q]? = some p→p < N∧G p=false∧toI G p=q
  | 0,q,p,h=>by simp [kl] at h
  | N + 1,q,p,h=>by
    rw [kl_succ] at h
    split at h
    · obtain ⟨h1,h2,h3⟩:=kl_inv G h
      exact ⟨by omega,h2,h3⟩
    · rename_i hG
      by_cases hq:q < (kl G N).length
      · rw [List.getElem?_append_left hq] at h
        obtain ⟨h1,h2,h3⟩:=kl_inv G h
        exact ⟨by omega,h2,h3⟩
      · rw [List.getElem?_append_right (by omega)] at h
        have hq2:q - (kl G N).length=0:=by
          have:=(List.getElem?_eq_some_iff.1 h).1
          simp at this
          omega
        rw [hq2] at h
        injection h with h
        subst h
        exact ⟨by omega,by simpa using hG,by show (kl G N).length=q; omega⟩
def fixI (G:Nat→Bool)(i:Ins):Ins:={ i with to_:=if i.kind=11∨i.kind=12 then (toI G i.to_.toNat:Int) else i.to_,els:=if i.kind=12 then (toI G i.els.toNat:Int) else i.els }
def insD (l:List Ins)(p:Nat):Ins:=l.getD p ⟨0,0,0,0,0,0,⟨#[]⟩,0,0,0,0,0,0,0,0⟩
theorem insD_in {l:List Ins}{p:Nat}(h:p < l.length):l[p]? = some (insD l p):=by simp [insD,List.getD,h]
def wout (G:Nat→Bool)(l:List Ins):List Ins:=(kl G l.length).map fun p=>fixI G (insD l p)
theorem wout_len (G:Nat→Bool)(l:List Ins):(wout G l).length=toI G l.length:=by simp [wout,toI]
theorem wout_inv {G:Nat→Bool}{l:List Ins}{q:Nat}{j:Ins}(h:(wout G l)[q]? = some j):∃ p i,l[p]? = some i∧G p=false∧toI G p=q∧j=fixI G i:=by
  unfold wout at h
  rw [List.getElem?_map] at h
  cases hk:(kl G l.length)[q]? with
  | none=>rw [hk] at h; cases h
  | some p =>
    rw [hk] at h
    injection h with h
    obtain ⟨h1,h2,h3⟩:=kl_inv G hk
    exact ⟨p,insD l p,insD_in h1,h2,h3,h.symm⟩
theorem fixI_ok {G:Nat→Bool}{i:Ins}{R Fr:Int}{L L':Nat}(h:Ok i R Fr L)(hn:∀ n:Nat,(n:Int) ∈ i.next 0→i.kind=11∨i.kind=12→toI G n < L'):Ok (fixI G i) R Fr L':=by
  have hk:=h.kind
  have hm:=h.mask
  refine ⟨h.kind,h.uses,h.dst,h.word,h.fr,h.call,h.one,h.two,fun e=>?_,fun e=>?_,?_⟩
  · have e':i.kind=11∨i.kind=12:=e
    have h1:=h.to_ e'
    show (0:Int)≤(if i.kind=11∨i.kind=12 then (toI G i.to_.toNat:Int) else i.to_)∧(if i.kind=11∨i.kind=12 then (toI G i.to_.toNat:Int) else i.to_) < (L':Int)
    rw [if_pos e']
    have:=hn i.to_.toNat (by
      rw [Int.toNat_of_nonneg h1.1]
      unfold Ins.next
      rcases e' with e' | e'
      · rw [if_pos e']; simp
      · rw [if_neg (by omega),if_pos e']; simp) e'
    omega
  · have e':i.kind=12:=e
    have h1:=h.els e'
    show (0:Int)≤(if i.kind=12 then (toI G i.els.toNat:Int) else i.els)∧(if i.kind=12 then (toI G i.els.toNat:Int) else i.els) < (L':Int)
    rw [if_pos e']
    have:=hn i.els.toNat (by
      rw [Int.toNat_of_nonneg h1.1]
      unfold Ins.next
      rw [if_neg (by omega),if_pos e']; simp) (Or.inr e')
    omega
  · obtain ⟨k,op,dst,a,b,n,text,r0,r1,r2,r3,r4,r5,to_,els⟩:=i
    simp only [Ins.mask,fixI,Ins.mk.injEq] at hm ⊢
    obtain ⟨_,m1,m2,m3,m4,m5,m6,m7,m8,m9,m10,m11,m12,m13,m14⟩:=hm
    refine ⟨trivial,m1,m2,m3,m4,m5,m6,m7,m8,m9,m10,m11,m12,?_,?_⟩
    · by_cases e:k=11∨k=12
      · rw [if_pos e,if_pos e]
      · rw [if_neg e,if_neg e]; rw [if_neg e] at m13; exact m13
    · by_cases e:k=12
      · rw [if_pos e,if_pos e]
      · rw [if_neg e,if_neg e]; rw [if_neg e] at m14; exact m14
inductive Rch (l:List Ins):Nat→Prop
  | zero (h:0 < l.length):Rch l 0
  | step {p:Nat} {i:Ins} {n:Int} (hr:Rch l p) (h:l[p]? = some i) (hn:n ∈ i.next p):Rch l n.toNat
theorem Rch.lt {f:Fn7}(hf:OkF f){p:Nat}(h:Rch f.code p):p < f.code.length:=by
  cases h with
  | zero h=>exact h
  | step _ h hn=>exact (hf.next h _ hn).2
structure Fits (G:Nat→Bool)(f:Fn7):Prop where
  tgt:∀ (p:Nat) i,f.code[p]? = some i→G p=false→∀ n ∈ i.next p,toI G n.toNat < toI G f.code.length
  last:∀ (p:Nat) i,f.code[p]? = some i→G p=false→toI G p + 1=toI G f.code.length→11≤i.kind
  pos:0 < toI G f.code.length
def wF (G:Nat→Bool)(f:Fn7):Fn7:={ f with code:=wout G f.code }
theorem next0 {i:Ins}(h:i.kind=11∨i.kind=12)(p q:Int):i.next p=i.next q:=by
  unfold Ins.next
  rcases h with h | h
  · rw [if_pos h,if_pos h]
  · rw [if_neg (by omega),if_pos h,if_neg (by omega),if_pos h]
theorem Fits.ok {G:Nat→Bool}{f:Fn7}(hf:OkF f)(h:Fits G f):OkF (wF G f):=by
  have hlen:(wF G f).code.length=toI G f.code.length:=wout_len G f.code
  refine ⟨hf.nm,hf.ps,hf.R,hf.Fr,by rw [hlen]; have:=toI_le G f.code.length; have:=hf.len; have:=h.pos; omega,fun i hi=>?_,fun i hi=>?_⟩
  · obtain ⟨q,hq⟩:=List.mem_iff_getElem?.1 hi
    obtain ⟨p,j,h1,h2,h3,rfl⟩:=wout_inv (show (wout G f.code)[q]? = some i from hq)
    rw [hlen]
    exact fixI_ok (hf.ok j (List.mem_of_getElem? h1)) (fun n hn hk=>by
      have:=h.tgt p j h1 h2 n (by rw [next0 hk p 0]; exact hn)
      simpa using this)
  · rw [hlen] at hi
    obtain ⟨p,j,h1,h2,h3,rfl⟩:=wout_inv (show (wout G f.code)[toI G f.code.length - 1]? = some i from hi)
    have:=h.pos
    exact h.last p j h1 h2 (by omega)
end Go.Proofs.Ytkcclefonmnpnaa
namespace Go.Proofs.Ytkcclefonmnpnaa
open Go.RowKit Go.BigFrame
def bl (N:Nat)(m:Nat→Bool):List Bool:=(List.range N).map m
def setM (m:Nat→Bool)(p:Nat):Nat→Bool:=fun q=>decide (q=p) || m q
def cntF (N:Nat)(m:Nat→Bool):Nat:=(List.range N).countP fun p=>!m p
theorem cntF_lt {N:Nat}{m:Nat→Bool}{p:Nat}(hp:p < N)(h:m p=false):cntF N (setM m p) < cntF N m :=
  countP_lt (fun x _ hx=>by simp [setM] at hx ⊢; exact hx.2) ⟨p,List.mem_range.2 hp,by simp [h],by simp [setM]⟩
structure Mk (f:Fn7)(m:Nat→Bool)(T:List Int):Prop where
  lo:∀ p,m p=true→Rch f.code p
  td:∀ x ∈ T,0≤x∧Rch f.code x.toNat
  z:m 0=true∨(0:Int) ∈ T
  cl:∀ p i,m p=true→f.code[p]? = some i→∀ n ∈ i.next p,m n.toNat=true∨n ∈ T
  len:T.length + 2 * cntF f.code.length m≤2 * f.code.length + 1
theorem Mk.start {f:Fn7}(hf:OkF f):Mk f (fun _=>false) [0] :=
  ⟨(fun p h=>by cases h),fun x hx=>by
    simp only [List.mem_singleton] at hx
    subst hx
    exact ⟨Int.le_refl _,Rch.zero (by have:=hf.len; omega)⟩,Or.inr (by simp),(fun p i h=>by cases h),by
    have:cntF f.code.length (fun _=>false)≤f.code.length:=by
      unfold cntF
      have:=List.countP_le_length (p:=fun p=>!(fun _:Nat=>false) p) (l:=List.range f.code.length)
      rwa [List.length_range] at this
    simp; omega⟩
theorem Mk.skip {f:Fn7} {m:Nat→Bool} {T:List Int} {x:Int} (h:Mk f m (T++[x])) (hm:m x.toNat=true):Mk f m T:=by
  refine ⟨h.lo,fun y hy=>h.td y (by simp [hy]),?_,fun p i hp hi n hn=>?_,by have:=h.len; simp at this; omega⟩
  · rcases h.z with hz | hz
    · exact Or.inl hz
    · rcases List.mem_append.1 hz with hz | hz
      · exact Or.inr hz
      · simp only [List.mem_singleton] at hz
        subst hz
        exact Or.inl hm
  · rcases h.cl p i hp hi n hn with h1 | h1
    · exact Or.inl h1
    · rcases List.mem_append.1 h1 with h1 | h1
      · exact Or.inr h1
      · simp only [List.mem_singleton] at h1
        subst h1
        exact Or.inl hm
theorem Mk.add {f:Fn7} (hf:OkF f) {m:Nat→Bool} {T:List Int} {p:Nat} {i:Ins} (h:Mk f m (T++[(p:Int)])) (hm:m p=false) (hi:f.code[p]? = some i):Mk f (setM m p) (T++i.next p):=by
  have hr:Rch f.code p:=by have:=(h.td (p:Int) (by simp)).2; simpa using this
  have hp:=(List.getElem?_eq_some_iff.1 hi).1
  refine ⟨fun q hq=>?_,fun y hy=>?_,?_,fun q j hq hj n hn=>?_,?_⟩
  · unfold setM at hq
    rw [Bool.or_eq_true,decide_eq_true_eq] at hq
    rcases hq with rfl | hq
    · exact hr
    · exact h.lo q hq
  · rcases List.mem_append.1 hy with hy | hy
    · exact h.td y (by simp [hy])
    · exact ⟨(hf.next hi y hy).1,Rch.step hr hi hy⟩
  · rcases h.z with hz | hz
    · exact Or.inl (by simp [setM,hz])
    · rcases List.mem_append.1 hz with hz | hz
      · exact Or.inr (by simp [hz])
      · simp only [List.mem_singleton] at hz
        have:p=0:=by omega
        subst this
        exact Or.inl (by simp [setM])
  · unfold setM at hq
    rw [Bool.or_eq_true,decide_eq_true_eq] at hq
    rcases hq with rfl | hq
    · rw [hi] at hj
      injection hj with hj
      subst hj
      exact Or.inr (by simp [hn])
    · rcases h.cl q j hq hj n hn with h1 | h1
      · exact Or.inl (by simp [setM,h1])
      · rcases List.mem_append.1 h1 with h1 | h1
        · exact Or.inr (by simp [h1])
        · simp only [List.mem_singleton] at h1
          subst h1
          exact Or.inl (by simp [setM])
  · have h1:=cntF_lt hp hm
    have h2:=h.len
    have h3:=Ins.next_len i p
    rw [List.length_append] at h2 ⊢
    simp at h2
    omega
theorem Mk.done {f:Fn7}{m:Nat→Bool}(h:Mk f m [])(p:Nat):m p=tb (Rch f.code p):=by
  rw [Bool.eq_iff_iff,tb_true]
  refine ⟨h.lo p,fun hr=>?_⟩
  induction hr with
  | zero _ =>
    rcases h.z with hz | hz
    · exact hz
    · cases hz
  | step _ hi hn ih =>
    rcases h.cl _ _ ih hi _ hn with h1 | h1
    · exact h1
    · cases h1
end Go.Proofs.Ytkcclefonmnpnaa

