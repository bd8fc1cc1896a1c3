import Derived.StillTailTactics
import Derived.RegionTactic
import Derived.BigRegion
import Derived.Laws.OwnMore
import Derived.Test.YtgdbkoncaojmoaaZi
import Derived.Test.YtgdbkoncaojmoaaZf
import Derived.Test.YtgdbkoncaojmoaaFc
namespace Go.Proofs.Ytgdbkoncaojmoaa
open Go.RowKit Go.BigFrame
theorem info_ints:(Try.prog.info? 31).map (fun i=>(i.zero,i.size,i.bytes))=some (some (.slice none 0 0),1,24):=by kernel_rfl
theorem make_intss (L:Nat)(hL:L≤100000)(W:World):(Instr.makeSlice 27 (.int .i64 L) (.int .i64 L)).run Try.prog W = .ok (.slice (some ⟨W.heap.size,0,none⟩) L L) (W.alloc (.cells (madeCells #[.slice none 0 0] L) 31)):=by
  obtain ⟨i0,hi,hz0,hz1,hz2⟩:=info_parts info_ints
  have:=run_make (P:=Try.prog) W 27 31 i0 (.slice none 0 0) (by kernel_rfl) hi hz0 .i64 .i64 L L (by omega) (by omega) (by rw [hz2]; omega) (by omega)
  simpa [hz1,Value.cells] using this
theorem RightFunc_yes (f:Fn7)(hf:OkF f)(C:Option Addr)(cap:Nat)(w:World)(hC:RdI w C f.code):Calls Try.prog 30 #[funcAgg f.nm f.ps f.R f.Fr C f.code.length cap] w fun e w'=>e = .returned (.bool true)∧Below w.heap.size w w' :=
  (RightFunc_any f C cap w hC).mono fun e w' ⟨⟨b,h1,h2⟩,hb⟩=>⟨by rw [h1,h2.2 hf],hb⟩
theorem RightFunc_no (f:Fn7)(hf:¬ OkF f)(C:Option Addr)(cap:Nat)(w:World)(hC:RdI w C f.code):Calls Try.prog 30 #[funcAgg f.nm f.ps f.R f.Fr C f.code.length cap] w fun e w'=>e = .returned (.bool false)∧Below w.heap.size w w' :=
  (RightFunc_any f C cap w hC).mono fun e w' ⟨⟨b,h1,h2⟩,hb⟩=>⟨by
    cases b with
    | false=>exact h1
    | true=>exact absurd (h2.1 rfl) hf,hb⟩
theorem RdN.store_other {w:World}{A:Option Addr}{l:List Int}(h:RdN w A l){ob k:Nat}{v0:Value}(hc:w.cell? ⟨ob,k,none⟩=some v0)(hv:∀ n,v0≠.int .i64 n)(v:Value):RdN (w.setCell ⟨ob,k,none⟩ v) A l:=fun j n hn=>by
  obtain ⟨b,o,e1,e2,e3⟩:=h j n hn
  refine ⟨b,o,e1,by simpa using e2,?_⟩
  rw [World.cell?_setCell_other]
  · exact e3
  · intro e
    injection e with e4 e5
    subst e4 e5
    rw [hc] at e3
    injection e3 with e3
    exact hv n e3
def RowV (w:World)(v:Value)(P:Int→Prop):Prop:=∃ A l cap,v = .slice A l.length cap∧RdN w A l∧l.Pairwise (· < ·)∧∀ x,x ∈ l↔P x
theorem RowV.below {w w':World}{v:Value}{P:Int→Prop}(h:RowV w v P)(hb:Below w.heap.size w w'):RowV w' v P:=by
  obtain ⟨A,l,cap,h1,h2,h3⟩:=h
  exact ⟨A,l,cap,h1,h2.below hb,h3⟩
def RowsK (w:World)(ob N k:Nat)(P:Nat→Int→Prop):Prop:=∃ vs:List Value,vs.length=N∧Pre g1 1 31 w ob vs∧(∀ (j:Nat) (v:Value),vs[j]? = some v→∃ A n c,v=Value.slice A n c)∧∀ j,j < k→∃ v,vs[j]? = some v∧RowV w v (P j)
theorem RowsK.later {w w':World}{ob N k:Nat}{P:Nat→Int→Prop}(h:RowsK w ob N k P)(hb:Below w.heap.size w w'):RowsK w' ob N k P:=by
  obtain ⟨vs,h1,h2,h3,h4⟩:=h
  exact ⟨vs,h1,Pre.later h2 hb,h3,fun j hj=>by obtain ⟨v,h5,h6⟩:=h4 j hj; exact ⟨v,h5,h6.below hb⟩⟩
theorem RowsK.lt {w:World}{ob N k:Nat}{P:Nat→Int→Prop}(h:RowsK w ob N k P):ob < w.heap.size:=by
  obtain ⟨vs,h1,h2,h3,h4⟩:=h
  exact Pre.lt h2
theorem RowsK.cell {w:World}{ob N k p:Nat}{P:Nat→Int→Prop}(h:RowsK w ob N k P)(hp:p < N):(∃ A n c,w.cell? ⟨ob,p,none⟩=some (Value.slice A n c))∧w.frozen? ⟨ob,p,none⟩=false:=by
  obtain ⟨vs,h1,h2,h3,h4⟩:=h
  have hv:vs[p]? = some (vs[p]'(by omega)):=List.getElem?_eq_getElem (by omega)
  obtain ⟨A,n,c,h5⟩:=h3 p _ hv
  exact ⟨⟨A,n,c,by rw [Pre1.cell h2 hv,h5]⟩,Pre.free h2 p⟩
theorem RowsK.set {w:World}{ob N k:Nat}{P:Nat→Int→Prop}(h:RowsK w ob N k P)(hk:k < N){v:Value}(hv:RowV w v (P k)):RowsK (w.setCell ⟨ob,k,none⟩ v) ob N (k + 1) P:=by
  obtain ⟨⟨A,n,c,hc⟩,_⟩:=h.cell hk
  obtain ⟨vs,h1,h2,h3,h4⟩:=h
  have hst:∀ {u:Value} {Q:Int→Prop},RowV w u Q→RowV (w.setCell ⟨ob,k,none⟩ v) u Q:=fun ⟨A',l,c',e1,e2,e3⟩=>⟨A',l,c',e1,e2.store_other hc (fun n h=>by cases h) v,e3⟩
  refine ⟨vs.set k v,by simp [h1],Pre1.set h2 (by omega) v,fun j u hu=>?_,fun j hj=>?_⟩
  · rw [List.getElem?_set] at hu
    split at hu
    · rename_i e
      subst e
      rw [if_pos (by omega)] at hu
      injection hu with hu
      subst hu
      obtain ⟨A',l,c',e1,_⟩:=hv
      exact ⟨A',_,c',e1⟩
    · exact h3 j u hu
  · by_cases e:j=k
    · subst e
      exact ⟨v,by rw [List.getElem?_set_self (by omega)],hst hv⟩
    · obtain ⟨u,h5,h6⟩:=h4 j (by omega)
      exact ⟨u,by rw [List.getElem?_set_ne (by omega)]; exact h5,hst h6⟩
theorem RowsK.made (W:World)(N:Nat)(P:Nat→Int→Prop):RowsK (W.alloc (.cells (madeCells #[.slice none 0 0] N) 31)) W.heap.size N 0 P:=by
  have h:=made_pre (g:=g1) (d:=1) (t:=31) W #[.slice none 0 0] N (.slice none 0 0) rfl (fun k hk=>by
    obtain rfl:k=0:=by omega
    rfl)
  rw [Nat.mul_one] at h
  exact ⟨_,by simp,h,fun j v hj=>by
    have:=List.mem_of_getElem? hj
    exact ⟨none,0,0,List.eq_of_mem_replicate this⟩,fun j hj=>by omega⟩
theorem RowsK.done {w:World}{ob N:Nat}{P:Nat→Int→Prop}(h:RowsK w ob N N P){p:Nat}(hp:p < N):∃ v,w.cell? ⟨ob,p,none⟩=some v∧RowV w v (P p):=by
  obtain ⟨vs,h1,h2,h3,h4⟩:=h
  obtain ⟨v,h5,h6⟩:=h4 p hp
  exact ⟨v,Pre1.cell h2 h5,h6⟩
def RowsT (N:Nat)(P:Nat→Int→Prop)(e:Ending)(w:World):Prop:=∃ ob,e = .returned (.slice (some ⟨ob,0,none⟩) N N)∧RowsK w ob N N P
end Go.Proofs.Ytgdbkoncaojmoaa
namespace Go.Proofs.Ytgdbkoncaojmoaa
open Go.RowKit Go.BigFrame
theorem Kp.grown {w w':World}{mb:Nat}(hg:w.grownBy w' (some mb))(hz:w'.heap.size=w.heap.size):Kp w w' mb mb:=⟨by omega,fun b hb h1 _=>hg.block b hb (fun e=>h1 (by injection e))⟩
def Bh (l:List Ins)(p:Nat)(r:Int):Prop:=∃ i,l[p]? = some i∧∃ n ∈ i.next p,Lv l n.toNat r
end Go.Proofs.Ytgdbkoncaojmoaa
namespace Go.Proofs.Ytgdbkoncaojmoaa
open Go.RowKit Go.BigFrame
def stdy (op:Int):Bool:=decide (1≤op∧op≤23∧¬ (4≤op∧op≤7))
def pur (i:Ins):Bool:=decide (i.kind=1∨i.kind=2∨i.kind=4∨i.kind=5) || (decide (i.kind=3) && stdy i.op)
theorem Contains_rd (A:Option Addr)(l:List Int)(cap:Nat)(x:Int)(w:World)(h:RdN w A l)(hl:l.length≤100000):Calls Try.prog 32 #[.slice A l.length cap,.int .i64 x] w fun e w'=>e = .returned (.bool (l.contains x))∧w=w':=by
  cases l with
  | nil=>exact (Try.slices_Contains_int_empty A cap x w).mono fun e w' ⟨h1,h2⟩=>⟨h1,h2.symm⟩
  | cons y l =>
    obtain ⟨b,o,rfl,_,_⟩:=h 0 y rfl
    refine (Try.slices_Contains_int b o (y::l).length cap (y::l) x w (Nat.le_refl _) (by omega) (fun j hj=>?_)).mono fun e w' ⟨h1,h2⟩=>⟨by rw [h1,List.take_length],h2.symm⟩
    obtain ⟨b',o',e1,_,e3⟩:=h j ((y::l)[j]) (List.getElem?_eq_getElem hj)
    injection e1 with e1
    injection e1 with e1 e2
    subst e1 e2
    rw [e3,List.getD_eq_getElem?_getD,List.getElem?_eq_getElem hj]
    rfl
end Go.Proofs.Ytgdbkoncaojmoaa
namespace Go.Proofs.Ytgdbkoncaojmoaa
open Go.RowKit Go.BigFrame
noncomputable def deadB (l:List Ins)(p:Nat):Bool:=tb (∃ i,l[p]? = some i∧pur i=true∧¬ Bh l p i.dst)
noncomputable def deadK (l:List Ins)(k:Nat):List Int:=((List.range k).filter (deadB l)).map fun (n:Nat)=>(n:Int)
noncomputable def deadL (l:List Ins):List Int:=deadK l l.length
theorem OwnN.later {w w':World}{V:Value}{l:List Int}(h:OwnN w V l)(hb:Below w.heap.size w w'):OwnN w' V l:=by
  obtain ⟨h1,h2⟩:=h
  refine ⟨h1,?_⟩
  rcases h2 with h2 | ⟨g,cap,cur,e1,e2,e3,e4⟩
  · exact Or.inl h2
  · exact Or.inr ⟨g,cap,cur,e1,e2,(hb.block g (Array.getElem?_eq_some_iff.1 e3).1).trans e3,e4⟩
end Go.Proofs.Ytgdbkoncaojmoaa
namespace Go.Proofs.Ytgdbkoncaojmoaa
open Go.RowKit Go.BigFrame
theorem RdN.keepS {w w':World}{A:Option Addr}{l:List Int}(h:RdN w A l)(hs:w.heap.size≤w'.heap.size)(hk:∀ b o,A=some ⟨b,o,none⟩→b < w.heap.size→w'.heap[b]? = w.heap[b]?):RdN w' A l:=fun j n hn=>by
  obtain ⟨b,o,e1,e2,e3⟩:=h j n hn
  exact ⟨b,o,e1,by omega,by rw [← e3]; simp only [World.cell?,hk b o e1 e2]⟩
set_option maxRecDepth 1000000 in
theorem In_any (A:Option Addr) (l:List Int) (cap:Nat) (x:Int) (w:World) (h:RdN w A l) (hl:l.length≤100000):Calls Try.prog 26 #[.slice A l.length cap,.int .i64 x] w fun e w'=>e = .returned (.bool (l.contains x))∧w=w':=by
  obtain ⟨L,hL⟩:∃ L,l.length=L:=⟨_,rfl⟩
  rw [hL] at hl ⊢
  have HL:=Lib.hid hL
  have H:=Lib.hid h
  obtain ⟨z,hz⟩:∃ z,l.contains x=z:=⟨_,rfl⟩
  rw [hz]
  have HZ:=Lib.hid hz
  clear hL h hz
  go_enter Try.func26,Try.ntmps26
  go_wp2
  go_loop [5] (fun ix=>∃ k:Nat,k≤L∧ix = .int .i64 k∧x ∉ l.take k) (fun ix=>L - (intOf ix).toNat)
  case atStart=>exact ⟨0,by omega,rfl,by simp⟩
  case round =>
    obtain ⟨k,hk,rfl,hno⟩:=hrel
    have HNO:=Lib.hid hno
    clear hno
    by_cases hlt:k < L
    · obtain ⟨y,hy⟩:∃ y,l[k]? = some y:=⟨_,List.getElem?_eq_getElem (by rw [HL.out]; exact hlt)⟩
      obtain ⟨b,o,rfl,hbl,hc⟩:=H.out k y hy
      have HY:=Lib.hid hy
      clear hy
      by_cases hxy:y=x
      · have q1:(y == x)=true:=by simp [hxy]
        have HR:Hid (l.contains x=true):=Lib.hid (by rw [List.contains_iff_mem,← hxy]; exact List.mem_of_getElem? HY.out)
        clear hxy
        go_wp2
        go_returns
        exact ⟨by rw [← HZ.out,HR.out]; rfl,rfl⟩
      · have q1:(y == x)=false:=by simp [hxy]
        have HN:Hid (x ∉ l.take (k + 1)):=Lib.hid (by
          rw [List.take_add_one,HY.out,Option.toList_some]
          intro h
          rcases List.mem_append.1 h with h | h
          · exact HNO.out h
          · simp only [List.mem_singleton] at h; exact hxy h.symm)
        clear hxy
        go_wp2
        go_round
        case rel=>exact ⟨k + 1,by omega,by go_num,HN.out⟩
        case measure=>simp [intOf]; omega
    · obtain rfl:k=L:=by omega
      have HR:Hid (l.contains x=false):=Lib.hid (by
        rw [Bool.eq_false_iff]
        intro h
        rw [List.contains_iff_mem] at h
        exact HNO.out (by rw [List.take_of_length_le (by rw [HL.out]; omega)]; exact h))
      go_wp2
      go_returns
      exact ⟨by rw [← HZ.out,HR.out]; rfl,rfl⟩
structure Grow (N:Nat)(nx T0 T:List Int)(k:Nat):Prop where
  ext:∃ E,T=T0++E
  nd:T.Nodup
  bd:∀ x ∈ T,0≤x∧x < (N:Int)
  all:∀ (j:Nat) n,j < k→nx[j]? = some n→n ∈ T
  only:∀ x ∈ T,x ∈ T0∨x ∈ nx
end Go.Proofs.Ytgdbkoncaojmoaa
namespace Go.Proofs.Ytgdbkoncaojmoaa
open Go.RowKit Go.BigFrame
structure Seen (f:Fn7)(a:Nat)(r:Int)(T:List Int)(k:Nat):Prop where
  hd:T[0]? = some (a:Int)
  nd:T.Nodup
  bd:∀ x ∈ T,0≤x∧x < (f.code.length:Int)
  kl:k≤T.length
  done:∀ (j:Nat) p i,j < k→T[j]? = some p→f.code[p.toNat]? = some i→r ∉ i.uses∧(i.sets=r∨∀ n ∈ i.next p.toNat,n ∈ T)
  way:∀ p ∈ T,Lv f.code p.toNat r→Lv f.code a r
theorem Seen.start {f:Fn7}{a:Nat}(ha:a < f.code.length)(r:Int):Seen f a r [(a:Int)] 0 :=
  ⟨rfl,by simp,fun x hx=>by simp only [List.mem_singleton] at hx; subst hx; omega,by simp,fun j p i hj=>by omega,fun p hp h=>by simp only [List.mem_singleton] at hp; subst hp; simpa using h⟩
theorem Seen.len {f:Fn7}{a:Nat}{r:Int}{T:List Int}{k:Nat}(h:Seen f a r T k):T.length≤f.code.length:=nodup_le _ T h.nd h.bd
theorem Seen.skip {f:Fn7}{a:Nat}{r:Int}{T:List Int}{k:Nat}(h:Seen f a r T k){p:Int}(hp:T[k]? = some p){i:Ins}(hi:f.code[p.toNat]? = some i)(hu:r ∉ i.uses)(hs:i.sets=r):Seen f a r T (k + 1) :=
  ⟨h.hd,h.nd,h.bd,by have:=(List.getElem?_eq_some_iff.1 hp).1; omega,fun j q x hj hq hx=>by
    by_cases hjk:j=k
    · subst hjk
      rw [hp] at hq
      injection hq with hq
      subst hq
      rw [hi] at hx
      injection hx with hx
      subst hx
      exact ⟨hu,Or.inl hs⟩
    · exact h.done j q x (by omega) hq hx,h.way⟩
theorem Seen.grow {f:Fn7}{a:Nat}{r:Int}{T T':List Int}{k Ln:Nat}(h:Seen f a r T k){p:Int}(hp:T[k]? = some p){i:Ins}(hi:f.code[p.toNat]? = some i)(hu:r ∉ i.uses)(hs:i.sets≠r)(hL:(i.next p.toNat).length=Ln)(hg:Grow f.code.length (i.next p.toNat) T T' Ln):Seen f a r T' (k + 1):=by
  obtain ⟨E,hE⟩:=hg.ext
  have hkl:=(List.getElem?_eq_some_iff.1 hp).1
  have hmem:∀ x,x ∈ T→x ∈ T':=fun x hx=>by rw [hE]; exact List.mem_append_left _ hx
  refine ⟨by rw [hE,List.getElem?_append_left (by omega)]; exact h.hd,hg.nd,hg.bd,by rw [hE,List.length_append]; omega,fun j q x hj hq hx=>?_,fun q hq hl=>?_⟩
  · rw [hE,List.getElem?_append_left (by omega)] at hq
    by_cases hjk:j=k
    · subst hjk
      rw [hp] at hq
      injection hq with hq
      subst hq
      rw [hi] at hx
      injection hx with hx
      subst hx
      refine ⟨hu,Or.inr fun n hn=>?_⟩
      obtain ⟨m,hm⟩:=List.mem_iff_getElem?.1 hn
      exact hg.all m n (by rw [← hL]; exact (List.getElem?_eq_some_iff.1 hm).1) hm
    · obtain ⟨h1,h2⟩:=h.done j q x (by omega) hq hx
      exact ⟨h1,h2.imp (fun h=>h) fun h n hn=>hmem _ (h n hn)⟩
  · rcases hg.only q hq with h1 | h1
    · exact h.way q h1 hl
    · exact h.way p (List.mem_of_getElem? hp) (Lv.step hi h1 hs hl)
theorem Seen.closed {f:Fn7} {a:Nat} {r:Int} {T:List Int} (h:Seen f a r T T.length):¬ Lv f.code a r:=by
  have:∀ p,Lv f.code p r→(p:Int) ∈ T→False:=fun p hl=>by
    induction hl with
    | use h' hu =>
      intro hm
      obtain ⟨j,hj⟩:=List.mem_iff_getElem?.1 hm
      exact (h.done j _ _ (List.getElem?_eq_some_iff.1 hj).1 hj (by simpa using h')).1 hu
    | @step p i n r h' hn hs hl ih =>
      intro hm
      obtain ⟨j,hj⟩:=List.mem_iff_getElem?.1 hm
      rcases (h.done j _ _ (List.getElem?_eq_some_iff.1 hj).1 hj (by simpa using h')).2 with h1 | h1
      · exact hs h1
      · have h2:=h1 n (by simpa using hn)
        have:=h.bd n h2
        exact ih h (by rw [Int.toNat_of_nonneg this.1]; exact h2)
  exact fun hl=>this a hl (List.mem_of_getElem? h.hd)
theorem OwnN.one (w:World)(x:Int):OwnN (w.alloc (.cells #[.int .i64 x] 3)) (.slice (some ⟨w.heap.size,0,none⟩) 1 1) [x] :=
  ⟨by simp,Or.inr ⟨w.heap.size,1,_,rfl,Nat.zero_le _,heap_alloc_new w _,Nat.le_refl _,by simp [maxLen],by simp,by simp⟩⟩
end Go.Proofs.Ytgdbkoncaojmoaa
namespace Go.Proofs.Ytgdbkoncaojmoaa
def kl (G:Nat→Bool)(k:Nat):List Nat:=(List.range k).filter fun p=>!G p
def toI (G:Nat→Bool)(p:Nat):Nat:=(kl G p).length
theorem kl_succ (G:Nat→Bool)(k:Nat):kl G (k + 1)=if G k=true then kl G k else kl G k++[k]:=by
  unfold kl
  rw [List.range_succ,List.filter_append]
  cases h:G k <;> simp [h]
theorem toI_succ (G:Nat→Bool)(k:Nat):toI G (k + 1)=if G k=true then toI G k else toI G k + 1:=by
  unfold toI
  rw [kl_succ]
  split <;> simp
theorem toI_le (G:Nat→Bool):∀ k,toI G k≤k
  | 0=>Nat.le_refl _
  | k + 1=>by
    have:=toI_le G k
    rw [toI_succ]
    split <;> omega
theorem kl_get (G:Nat→Bool):∀ {N p:Nat},p < N→G p=false→(kl G N)[toI G p]? = some p
  | 0,p,h,_=>by omega
  | N + 1,p,h,hG=>by
    rw [kl_succ]
    by_cases hp:p=N
    · subst hp
      rw [hG]
      simp [toI]
    · have ih:=kl_get G (show p < N by omega) hG
      have hl:=(List.getElem?_eq_some_iff.1 ih).1
      split
      · exact ih
      · rw [List.getElem?_append_left hl]; exact ih
theorem kl_inv (G:Nat→Bool):∀ {N q p:Nat},(kl G N)[q]? = some p→p < N∧G p=false∧toI G p=q
  | 0,q,p,h=>by simp [kl] at h
  | N + 1,q,p,h=>by
    rw [kl_succ] at h
    split at h
    · obtain ⟨h1,h2,h3⟩:=kl_inv G h
      exact ⟨by omega,h2,h3⟩
    · rename_i hG
      by_cases hq:q < (kl G N).length
      · rw [List.getElem?_append_left hq] at h
        obtain ⟨h1,h2,h3⟩:=kl_inv G h
        exact ⟨by omega,h2,h3⟩
      · rw [List.getElem?_append_right (by omega)] at h
        have hq2:q - (kl G N).length=0:=by
          have:=(List.getElem?_eq_some_iff.1 h).1
          simp at this
          omega
        rw [hq2] at h
        injection h with h
        subst h
        exact ⟨by omega,by simpa using hG,by show (kl G N).length=q; omega⟩
theorem toI_none {G:Nat→Bool}:∀ {k:Nat},(∀ p,p < k→G p=false)→toI G k=k
  | 0,_=>rfl
  | k + 1,h=>by rw [toI_succ,h k (by omega),toI_none fun p hp=>h p (by omega)]; rfl
def fixI (G:Nat→Bool)(i:Ins):Ins:={ i with to_:=if i.kind=11∨i.kind=12 then (toI G i.to_.toNat:Int) else i.to_,els:=if i.kind=12 then (toI G i.els.toNat:Int) else i.els }
def insD (l:List Ins)(p:Nat):Ins:=l.getD p ⟨0,0,0,0,0,0,⟨#[]⟩,0,0,0,0,0,0,0,0⟩
theorem insD_some {l:List Ins}{p:Nat}{i:Ins}(h:l[p]? = some i):insD l p=i:=by simp [insD,List.getD,h]
theorem insD_in {l:List Ins}{p:Nat}(h:p < l.length):l[p]? = some (insD l p):=by simp [insD,List.getD,h]
def wout (G:Nat→Bool)(l:List Ins):List Ins:=(kl G l.length).map fun p=>fixI G (insD l p)
theorem wout_len (G:Nat→Bool)(l:List Ins):(wout G l).length=toI G l.length:=by simp [wout,toI]
theorem wout_get {G:Nat→Bool}{l:List Ins}{p:Nat}{i:Ins}(h:l[p]? = some i)(hG:G p=false):(wout G l)[toI G p]? = some (fixI G i):=by
  unfold wout
  rw [List.getElem?_map,kl_get G (List.getElem?_eq_some_iff.1 h).1 hG,Option.map_some,insD_some h]
theorem wout_inv {G:Nat→Bool}{l:List Ins}{q:Nat}{j:Ins}(h:(wout G l)[q]? = some j):∃ p i,l[p]? = some i∧G p=false∧toI G p=q∧j=fixI G i:=by
  unfold wout at h
  rw [List.getElem?_map] at h
  cases hk:(kl G l.length)[q]? with
  | none=>rw [hk] at h; cases h
  | some p =>
    rw [hk] at h
    injection h with h
    obtain ⟨h1,h2,h3⟩:=kl_inv G hk
    exact ⟨p,insD l p,insD_in h1,h2,h3,h.symm⟩
theorem fixI_ok {G:Nat→Bool}{i:Ins}{R Fr:Int}{L L':Nat}(h:Ok i R Fr L)(hn:∀ n:Nat,(n:Int) ∈ i.next 0→i.kind=11∨i.kind=12→toI G n < L'):Ok (fixI G i) R Fr L':=by
  have hk:=h.kind
  have hm:=h.mask
  refine ⟨h.kind,h.uses,h.dst,h.word,h.fr,h.call,h.one,h.two,fun e=>?_,fun e=>?_,?_⟩
  · have e':i.kind=11∨i.kind=12:=e
    have h1:=h.to_ e'
    show (0:Int)≤(if i.kind=11∨i.kind=12 then (toI G i.to_.toNat:Int) else i.to_)∧(if i.kind=11∨i.kind=12 then (toI G i.to_.toNat:Int) else i.to_) < (L':Int)
    rw [if_pos e']
    have:=hn i.to_.toNat (by
      rw [Int.toNat_of_nonneg h1.1]
      unfold Ins.next
      rcases e' with e' | e'
      · rw [if_pos e']; simp
      · rw [if_neg (by omega),if_pos e']; simp) e'
    omega
  · have e':i.kind=12:=e
    have h1:=h.els e'
    show (0:Int)≤(if i.kind=12 then (toI G i.els.toNat:Int) else i.els)∧(if i.kind=12 then (toI G i.els.toNat:Int) else i.els) < (L':Int)
    rw [if_pos e']
    have:=hn i.els.toNat (by
      rw [Int.toNat_of_nonneg h1.1]
      unfold Ins.next
      rw [if_neg (by omega),if_pos e']; simp) (Or.inr e')
    omega
  · obtain ⟨k,op,dst,a,b,n,text,r0,r1,r2,r3,r4,r5,to_,els⟩:=i
    simp only [Ins.mask,fixI,Ins.mk.injEq] at hm ⊢
    obtain ⟨_,m1,m2,m3,m4,m5,m6,m7,m8,m9,m10,m11,m12,m13,m14⟩:=hm
    refine ⟨trivial,m1,m2,m3,m4,m5,m6,m7,m8,m9,m10,m11,m12,?_,?_⟩
    · by_cases e:k=11∨k=12
      · rw [if_pos e,if_pos e]
      · rw [if_neg e,if_neg e]; rw [if_neg e] at m13; exact m13
    · by_cases e:k=12
      · rw [if_pos e,if_pos e]
      · rw [if_neg e,if_neg e]; rw [if_neg e] at m14; exact m14
inductive Rch (l:List Ins):Nat→Prop
  | zero (h:0 < l.length):Rch l 0
  | step {p:Nat} {i:Ins} {n:Int} (hr:Rch l p) (h:l[p]? = some i) (hn:n ∈ i.next p):Rch l n.toNat
theorem Rch.lt {f:Fn7}(hf:OkF f){p:Nat}(h:Rch f.code p):p < f.code.length:=by
  cases h with
  | zero h=>exact h
  | step _ h hn=>exact (hf.next h _ hn).2
structure Fits (G:Nat→Bool)(f:Fn7):Prop where
  tgt:∀ (p:Nat) i,f.code[p]? = some i→G p=false→∀ n ∈ i.next p,toI G n.toNat < toI G f.code.length
  last:∀ (p:Nat) i,f.code[p]? = some i→G p=false→toI G p + 1=toI G f.code.length→11≤i.kind
  pos:0 < toI G f.code.length
def wF (G:Nat→Bool)(f:Fn7):Fn7:={ f with code:=wout G f.code }
theorem next0 {i:Ins}(h:i.kind=11∨i.kind=12)(p q:Int):i.next p=i.next q:=by
  unfold Ins.next
  rcases h with h | h
  · rw [if_pos h,if_pos h]
  · rw [if_neg (by omega),if_pos h,if_neg (by omega),if_pos h]
theorem Fits.ok {G:Nat→Bool}{f:Fn7}(hf:OkF f)(h:Fits G f):OkF (wF G f):=by
  have hlen:(wF G f).code.length=toI G f.code.length:=wout_len G f.code
  refine ⟨hf.nm,hf.ps,hf.R,hf.Fr,by rw [hlen]; have:=toI_le G f.code.length; have:=hf.len; have:=h.pos; omega,fun i hi=>?_,fun i hi=>?_⟩
  · obtain ⟨q,hq⟩:=List.mem_iff_getElem?.1 hi
    obtain ⟨p,j,h1,h2,h3,rfl⟩:=wout_inv (show (wout G f.code)[q]? = some i from hq)
    rw [hlen]
    exact fixI_ok (hf.ok j (List.mem_of_getElem? h1)) (fun n hn hk=>by
      have:=h.tgt p j h1 h2 n (by rw [next0 hk p 0]; exact hn)
      simpa using this)
  · rw [hlen] at hi
    obtain ⟨p,j,h1,h2,h3,rfl⟩:=wout_inv (show (wout G f.code)[toI G f.code.length - 1]? = some i from hi)
    have:=h.pos
    exact h.last p j h1 h2 (by omega)
noncomputable def GU (f:Fn7)(p:Nat):Bool:=!tb (Rch f.code p)
theorem GU_false {f:Fn7}{p:Nat}:GU f p=false↔Rch f.code p:=by
  unfold GU
  rw [Bool.not_eq_false',tb_true]
def AllRch (f:Fn7):Prop:=∀ p,p < f.code.length→Rch f.code p
theorem wout_none {f:Fn7} (hf:OkF f) {G:Nat→Bool} (h:∀ p,p < f.code.length→G p=false):wF G f=f:=by
  have hlen:toI G f.code.length=f.code.length:=toI_none h
  have hcode:wout G f.code=f.code:=by
    apply List.ext_getElem?
    intro q
    by_cases hq:q < f.code.length
    · have hi:=insD_in hq
      have hid:∀ n:Nat,n≤f.code.length→toI G n=n:=fun n hn=>toI_none fun p hp=>h p (by omega)
      have h1:=wout_get hi (h q hq)
      rw [hid q (by omega)] at h1
      rw [h1,hi]
      have ho:=hf.ok _ (List.mem_of_getElem? hi)
      generalize insD f.code q=i at *
      have:fixI G i=i:=by
        obtain ⟨k,op,dst,a,b,n,text,r0,r1,r2,r3,r4,r5,to_,els⟩:=i
        have h2:=ho.to_
        have h3:=ho.els
        simp only at h2 h3
        simp only [fixI,Ins.mk.injEq,true_and]
        constructor
        · by_cases e:k=11∨k=12
          · rw [if_pos e,hid _ (by have:=h2 e; omega)]; have:=h2 e; omega
          · rw [if_neg e]
        · by_cases e:k=12
          · rw [if_pos e,hid _ (by have:=h3 e; omega)]; have:=h3 e; omega
          · rw [if_neg e]
      rw [this]
    · rw [List.getElem?_eq_none (by rw [wout_len,hlen]; omega),List.getElem?_eq_none (by omega)]
  unfold wF
  rw [hcode]
noncomputable def uF (f:Fn7):Fn7:=wF (GU f) f
noncomputable def dF (f:Fn7):Fn7:=wF (deadB f.code) f
theorem uF_same {f:Fn7}(hf:OkF f)(h:AllRch f):uF f=f:=wout_none hf fun p hp=>GU_false.2 (h p hp)
inductive Swp:Fn7→Fn7→Prop
  | done {f:Fn7} (h:deadL (uF f).code=[]):Swp f (uF f)
  | more {f g:Fn7} (h:deadL (uF f).code≠[]) (hs:Swp (dF (uF f)) g):Swp f g
theorem Swp.again {f g:Fn7}(h:Swp f g)(hf:OkF f)(hd:deadL f.code=[])(ha:AllRch f):g=f:=by
  cases h with
  | done h=>exact uF_same hf ha
  | more h hs =>
    rw [uF_same hf ha] at h
    exact absurd hd h
end Go.Proofs.Ytgdbkoncaojmoaa
namespace Go.Proofs.Ytgdbkoncaojmoaa
open Go.RowKit Go.BigFrame
theorem OwnN.pop {w:World}{g cap n:Nat}{l:List Int}{x:Int}(h:OwnN w (.slice (some ⟨g,0,none⟩) (n + 1) cap) (l++[x]))(hl:l.length=n):OwnN w (.slice (some ⟨g,0,none⟩) n cap) l:=by
  obtain ⟨h1,h2⟩:=h
  refine ⟨by simp,?_⟩
  rcases h2 with ⟨h2,_⟩ | ⟨g',cap',cur,e,hB,hg,hnc,hcm,hsz,htake⟩
  · cases h2
  · injection e with e1 e2 e3
    injection e1 with e1
    injection e1 with e1
    subst e1 e3
    refine Or.inr ⟨g,cap,cur,by rw [hl],hB,hg,by rw [List.length_append] at hnc; omega,hcm,hsz,?_⟩
    have:=congrArg (List.take l.length) htake
    rw [List.take_take] at this
    simp only [List.length_append,List.length_singleton,Nat.mul_one,List.map_append] at this ⊢
    rw [Nat.min_eq_left (by omega)] at this
    rw [this,List.take_append_of_le_length (by simp),List.take_of_length_le (by simp)]
def bl (N:Nat)(m:Nat→Bool):List Bool:=(List.range N).map m
def setM (m:Nat→Bool)(p:Nat):Nat→Bool:=fun q=>decide (q=p) || m q
theorem bl_get {N:Nat}{m:Nat→Bool}{p:Nat}(h:p < N):(bl N m)[p]? = some (m p):=by simp [bl,h]
theorem bl_set {N:Nat}{m:Nat→Bool}{p:Nat}:(bl N m).set p true=bl N (setM m p):=by
  apply List.ext_getElem?
  intro j
  by_cases hj:j < N
  · rw [List.getElem?_set,bl_get hj,bl_get hj]
    by_cases h:p=j
    · subst h; simp [bl,hj,setM]
    · rw [if_neg h]; simp [setM,Ne.symm h]
  · rw [List.getElem?_eq_none (by simp [bl]; omega),List.getElem?_eq_none (by simp [bl]; omega)]
def cntF (N:Nat)(m:Nat→Bool):Nat:=(List.range N).countP fun p=>!m p
theorem cntF_lt {N:Nat}{m:Nat→Bool}{p:Nat}(hp:p < N)(h:m p=false):cntF N (setM m p) < cntF N m :=
  countP_lt (fun x _ hx=>by simp [setM] at hx ⊢; exact hx.2) ⟨p,List.mem_range.2 hp,by simp [h],by simp [setM]⟩
structure Mk (f:Fn7)(m:Nat→Bool)(T:List Int):Prop where
  lo:∀ p,m p=true→Rch f.code p
  td:∀ x ∈ T,0≤x∧Rch f.code x.toNat
  z:m 0=true∨(0:Int) ∈ T
  cl:∀ p i,m p=true→f.code[p]? = some i→∀ n ∈ i.next p,m n.toNat=true∨n ∈ T
  len:T.length + 2 * cntF f.code.length m≤2 * f.code.length + 1
theorem Mk.start {f:Fn7}(hf:OkF f):Mk f (fun _=>false) [0] :=
  ⟨(fun p h=>by cases h),fun x hx=>by
    simp only [List.mem_singleton] at hx
    subst hx
    exact ⟨Int.le_refl _,Rch.zero (by have:=hf.len; omega)⟩,Or.inr (by simp),(fun p i h=>by cases h),by
    have:cntF f.code.length (fun _=>false)≤f.code.length:=by
      unfold cntF
      have:=List.countP_le_length (p:=fun p=>!(fun _:Nat=>false) p) (l:=List.range f.code.length)
      rwa [List.length_range] at this
    simp; omega⟩
theorem Mk.skip {f:Fn7} {m:Nat→Bool} {T:List Int} {x:Int} (h:Mk f m (T++[x])) (hm:m x.toNat=true):Mk f m T:=by
  refine ⟨h.lo,fun y hy=>h.td y (by simp [hy]),?_,fun p i hp hi n hn=>?_,by have:=h.len; simp at this; omega⟩
  · rcases h.z with hz | hz
    · exact Or.inl hz
    · rcases List.mem_append.1 hz with hz | hz
      · exact Or.inr hz
      · simp only [List.mem_singleton] at hz
        subst hz
        exact Or.inl hm
  · rcases h.cl p i hp hi n hn with h1 | h1
    · exact Or.inl h1
    · rcases List.mem_append.1 h1 with h1 | h1
      · exact Or.inr h1
      · simp only [List.mem_singleton] at h1
        subst h1
        exact Or.inl hm
theorem Mk.add {f:Fn7} (hf:OkF f) {m:Nat→Bool} {T:List Int} {p:Nat} {i:Ins} (h:Mk f m (T++[(p:Int)])) (hm:m p=false) (hi:f.code[p]? = some i):Mk f (setM m p) (T++i.next p):=by
  have hr:Rch f.code p:=by have:=(h.td (p:Int) (by simp)).2; simpa using this
  have hp:=(List.getElem?_eq_some_iff.1 hi).1
  refine ⟨fun q hq=>?_,fun y hy=>?_,?_,fun q j hq hj n hn=>?_,?_⟩
  · unfold setM at hq
    rw [Bool.or_eq_true,decide_eq_true_eq] at hq
    rcases hq with rfl | hq
    · exact hr
    · exact h.lo q hq
  · rcases List.mem_append.1 hy with hy | hy
    · exact h.td y (by simp [hy])
    · exact ⟨(hf.next hi y hy).1,Rch.step hr hi hy⟩
  · rcases h.z with hz | hz
    · exact Or.inl (by simp [setM,hz])
    · rcases List.mem_append.1 hz with hz | hz
      · exact Or.inr (by simp [hz])
      · simp only [List.mem_singleton] at hz
        have:p=0:=by omega
        subst this
        exact Or.inl (by simp [setM])
  · unfold setM at hq
    rw [Bool.or_eq_true,decide_eq_true_eq] at hq
    rcases hq with rfl | hq
    · rw [hi] at hj
      injection hj with hj
      subst hj
      exact Or.inr (by simp [hn])
    · rcases h.cl q j hq hj n hn with h1 | h1
      · exact Or.inl (by simp [setM,h1])
      · rcases List.mem_append.1 h1 with h1 | h1
        · exact Or.inr (by simp [h1])
        · simp only [List.mem_singleton] at h1
          subst h1
          exact Or.inl (by simp [setM])
  · have h1:=cntF_lt hp hm
    have h2:=h.len
    have h3:=Ins.next_len i p
    rw [List.length_append] at h2 ⊢
    simp at h2
    omega
theorem Mk.done {f:Fn7}{m:Nat→Bool}(h:Mk f m [])(p:Nat):m p=tb (Rch f.code p):=by
  rw [Bool.eq_iff_iff,tb_true]
  refine ⟨h.lo p,fun hr=>?_⟩
  induction hr with
  | zero _ =>
    rcases h.z with hz | hz
    · exact hz
    · cases hz
  | step _ hi hn ih =>
    rcases h.cl _ _ ih hi _ hn with h1 | h1
    · exact h1
    · cases h1
end Go.Proofs.Ytgdbkoncaojmoaa
namespace Go.Proofs.Ytgdbkoncaojmoaa
open Go.RowKit Go.BigFrame
def toL (G:Nat→Bool)(N k:Nat):List Value:=(List.range N).map fun j=>.int .i64 (if j < k then (toI G j:Int) else 0)
theorem OwnI.form {w:World}{base:Nat}{V:Value}{l:List Ins}(h:OwnI w base V l):∃ A cap,V = .slice A l.length cap:=by
  obtain ⟨_,h2⟩:=h
  rcases h2 with ⟨rfl,h0⟩ | ⟨g',cap,cur,rfl,hB,_⟩
  · exact ⟨none,0,by rw [h0]⟩
  · exact ⟨_,cap,rfl⟩
end Go.Proofs.Ytgdbkoncaojmoaa
namespace Go.Proofs.Ytgdbkoncaojmoaa
open Go.RowKit Go.BigFrame
def mixK (G:Nat→Bool)(l:List Ins)(k:Nat):List Ins:=(List.range l.length).map fun j=>if j < k then fixI G (insD l j) else insD l j
theorem mixK_get {G:Nat→Bool}{l:List Ins}{k j:Nat}(hj:j < l.length):(mixK G l k)[j]? = some (if j < k then fixI G (insD l j) else insD l j):=by simp [mixK,hj]
theorem mixK_len (G:Nat→Bool)(l:List Ins)(k:Nat):(mixK G l k).length=l.length:=by simp [mixK]
theorem mixK_set {G:Nat→Bool}{l:List Ins}{k:Nat}(hk:k < l.length){i:Ins}(hi:i=fixI G (insD l k)):(mixK G l k).set k i=mixK G l (k + 1):=by
  subst hi
  apply List.ext_getElem?
  intro j
  by_cases hj:j < l.length
  · rw [List.getElem?_set,mixK_get hj,mixK_get hj]
    by_cases h1:k=j
    · subst h1; rw [if_pos rfl,if_pos (by rw [mixK_len]; exact hk),if_pos (by omega)]
    · rw [if_neg h1]
      by_cases h2:j < k
      · rw [if_pos h2,if_pos (by omega)]
      · rw [if_neg h2,if_neg (by omega)]
  · rw [List.getElem?_eq_none (by rw [List.length_set,mixK_len]; omega),List.getElem?_eq_none (by rw [mixK_len]; omega)]
theorem PreI.st13 {W:World}{g k:Nat}{l:List Ins}{i:Ins}(h:PreI W g l)(hi:l[k]? = some i)(v:Int):PreI (W.setCell ⟨g,k * 15 + 13,none⟩ (.int .i64 v)) g (l.set k { i with to_:=v }) :=
  Pre.store h hi (by omega) rfl rfl (fun k' hk'=>by
    obtain ⟨kk,op,dst,a',b',n,text,r0,r1,r2,r3,r4,r5,to_,els⟩:=i
    match k',hk' with
    | 0,_ | 1,_ | 2,_ | 3,_ | 4,_ | 5,_ | 6,_ | 7,_ | 8,_ | 9,_ | 10,_ | 11,_ | 12,_ | 14,_=>rfl
    | 13,h=>exact absurd rfl h
    | n + 15,_=>rfl)
theorem PreI.st14 {W:World}{g k:Nat}{l:List Ins}{i:Ins}(h:PreI W g l)(hi:l[k]? = some i)(v:Int):PreI (W.setCell ⟨g,k * 15 + 14,none⟩ (.int .i64 v)) g (l.set k { i with els:=v }) :=
  Pre.store h hi (by omega) rfl rfl (fun k' hk'=>by
    obtain ⟨kk,op,dst,a',b',n,text,r0,r1,r2,r3,r4,r5,to_,els⟩:=i
    match k',hk' with
    | 0,_ | 1,_ | 2,_ | 3,_ | 4,_ | 5,_ | 6,_ | 7,_ | 8,_ | 9,_ | 10,_ | 11,_ | 12,_ | 13,_=>rfl
    | 14,h=>exact absurd rfl h
    | n + 15,_=>rfl)
structure Wo2 (W wr:World)(G:Nat→Bool)(l:List Ins)(N g k:Nat):Prop where
  t:Pre g1 1 3 wr W.heap.size (toL G N N)
  i:PreI wr g (mixK G l k)
  b:Below W.heap.size W wr
theorem Wo2.box {W wr:World}{G:Nat→Bool}{l:List Ins}{N g k k':Nat}(h:Wo2 W wr G l N g k)(he:mixK G l k'=mixK G l k)(o:Obj):Wo2 W (wr.alloc o) G l N g k' :=
  ⟨Pre.later h.t (Below.one wr o),by rw [he]; exact Pre.later h.i (Below.one wr o),h.b.alloc h.b.size _⟩
theorem Wo2.st13 {W wr:World}{G:Nat→Bool}{l:List Ins}{N g k:Nat}(h:Wo2 W wr G l N g k)(hgW:W.heap.size < g)(hk:k < l.length)(v:Int) :
    Pre g1 1 3 (wr.setCell ⟨g,k * 15 + 13,none⟩ (.int .i64 v)) W.heap.size (toL G N N)∧PreI (wr.setCell ⟨g,k * 15 + 13,none⟩ (.int .i64 v)) g ((mixK G l k).set k { insD l k with to_:=v })∧Below W.heap.size W (wr.setCell ⟨g,k * 15 + 13,none⟩ (.int .i64 v)) :=
  ⟨Pre.other h.t (by simp only; omega) _,PreI.st13 h.i (by rw [mixK_get hk,if_neg (by omega)]) v,h.b.setCell (by simp only; omega) _⟩
theorem Wo2.br {W wr:World}{G:Nat→Bool}{l:List Ins}{N g k:Nat}(h:Wo2 W wr G l N g k)(hgW:W.heap.size < g)(hk:k < l.length)(h12:(insD l k).kind=12)(o:Obj) :
    Wo2 W (((wr.setCell ⟨g,k * 15 + 13,none⟩ (.int .i64 (toI G (insD l k).to_.toNat:Int))).setCell ⟨g,k * 15 + 14,none⟩ (.int .i64 (toI G (insD l k).els.toNat:Int))).alloc o) G l N g (k + 1):=by
  obtain ⟨h1,h2,h3⟩:=h.st13 hgW hk (toI G (insD l k).to_.toNat:Int)
  have h4:=PreI.st14 h2 (List.getElem?_set_self (by rw [mixK_len]; exact hk)) (toI G (insD l k).els.toNat:Int)
  rw [List.set_set,mixK_set hk (by simp [fixI,h12])] at h4
  exact Wo2.box (k:=k + 1) ⟨Pre.other h1 (by simp only; omega) _,h4,h3.setCell (by simp only; omega) _⟩ rfl o
end Go.Proofs.Ytgdbkoncaojmoaa
namespace Go.Proofs.Ytgdbkoncaojmoaa
open Go.RowKit Go.BigFrame
theorem OwnI.pre {w:World}{base:Nat}{V:Value}{l:List Ins}(h:OwnI w base V l)(h0:0 < l.length):∃ g cap,V = .slice (some ⟨g,0,none⟩) l.length cap∧base≤g∧PreI w g l:=by
  obtain ⟨ha,hh⟩:=h
  rcases hh with ⟨rfl,h1⟩ | ⟨g,cap,cur,rfl,hB,hg,hnc,_,hsz,htake⟩
  · omega
  · refine ⟨g,cap,rfl,hB,cur,hg,fun j y hj k hk=>?_⟩
    have hf:=flatI_get l j k hk
    rw [hj] at hf
    simp only [Option.bind_some] at hf
    rw [← hf,← htake,List.getElem?_take]
    have hjl:=(List.getElem?_eq_some_iff.1 hj).1
    rw [if_pos (by omega)]
    simp
end Go.Proofs.Ytgdbkoncaojmoaa
/- live.Sweep: its closures. -/
