import Derived.StillTailTactics
import Derived.RegionTactic
import Derived.BigRegion
import Derived.Laws.OwnMore
import Derived.Test.YthbcdckonaljiaaZi
import Derived.Test.YthbcdckonaljiaaZf
namespace Go.Proofs.Ythbcdckonaljiaa
open Go.RowKit Go.BigFrame
theorem info_ints:(Try.prog.info? 45).map (fun i=>(i.zero,i.size,i.bytes))=some (some (.slice none 0 0),1,24):=by kernel_rfl
theorem make_intss (L:Nat)(hL:L≤100000)(W:World):(Instr.makeSlice 51 (.int .i64 L) (.int .i64 L)).run Try.prog W = .ok (.slice (some ⟨W.heap.size,0,none⟩) L L) (W.alloc (.cells (madeCells #[.slice none 0 0] L) 45)):=by
  obtain ⟨i0,hi,hz0,hz1,hz2⟩:=info_parts info_ints
  have:=run_make (P:=Try.prog) W 51 45 i0 (.slice none 0 0) (by kernel_rfl) hi hz0 .i64 .i64 L L (by omega) (by omega) (by rw [hz2]; omega) (by omega)
  simpa [hz1,Value.cells] using this
theorem RightFunc_yes (f:Fn7)(hf:OkF f)(C:Option Addr)(cap:Nat)(w:World)(hC:RdI w C f.code):Calls Try.prog 28 #[funcAgg f.nm f.ps f.R f.Fr C f.code.length cap] w fun e w'=>e = .returned (.bool true)∧Below w.heap.size w w' :=
  (RightFunc_any f C cap w hC).mono fun e w' ⟨⟨b,h1,h2⟩,hb⟩=>⟨by rw [h1,h2.2 hf],hb⟩
theorem RightFunc_no (f:Fn7)(hf:¬ OkF f)(C:Option Addr)(cap:Nat)(w:World)(hC:RdI w C f.code):Calls Try.prog 28 #[funcAgg f.nm f.ps f.R f.Fr C f.code.length cap] w fun e w'=>e = .returned (.bool false)∧Below w.heap.size w w' :=
  (RightFunc_any f C cap w hC).mono fun e w' ⟨⟨b,h1,h2⟩,hb⟩=>⟨by
    cases b with
    | false=>exact h1
    | true=>exact absurd (h2.1 rfl) hf,hb⟩
theorem RdN.store_other {w:World}{A:Option Addr}{l:List Int}(h:RdN w A l){ob k:Nat}{v0:Value}(hc:w.cell? ⟨ob,k,none⟩=some v0)(hv:∀ n,v0≠.int .i64 n)(v:Value):RdN (w.setCell ⟨ob,k,none⟩ v) A l:=fun j n hn=>by
  obtain ⟨b,o,e1,e2,e3⟩:=h j n hn
  refine ⟨b,o,e1,by simpa using e2,?_⟩
  rw [World.cell?_setCell_other]
  · exact e3
  · intro e
    injection e with e4 e5
    subst e4 e5
    rw [hc] at e3
    injection e3 with e3
    exact hv n e3
def RowV (w:World)(v:Value)(P:Int→Prop):Prop:=∃ A l cap,v = .slice A l.length cap∧RdN w A l∧l.Pairwise (· < ·)∧∀ x,x ∈ l↔P x
theorem RowV.below {w w':World}{v:Value}{P:Int→Prop}(h:RowV w v P)(hb:Below w.heap.size w w'):RowV w' v P:=by
  obtain ⟨A,l,cap,h1,h2,h3⟩:=h
  exact ⟨A,l,cap,h1,h2.below hb,h3⟩
def RowsK (w:World)(ob N k:Nat)(P:Nat→Int→Prop):Prop:=∃ vs:List Value,vs.length=N∧Pre g1 1 45 w ob vs∧(∀ (j:Nat) (v:Value),vs[j]? = some v→∃ A n c,v=Value.slice A n c)∧∀ j,j < k→∃ v,vs[j]? = some v∧RowV w v (P j)
theorem RowsK.later {w w':World}{ob N k:Nat}{P:Nat→Int→Prop}(h:RowsK w ob N k P)(hb:Below w.heap.size w w'):RowsK w' ob N k P:=by
  obtain ⟨vs,h1,h2,h3,h4⟩:=h
  exact ⟨vs,h1,Pre.later h2 hb,h3,fun j hj=>by obtain ⟨v,h5,h6⟩:=h4 j hj; exact ⟨v,h5,h6.below hb⟩⟩
theorem RowsK.lt {w:World}{ob N k:Nat}{P:Nat→Int→Prop}(h:RowsK w ob N k P):ob < w.heap.size:=by
  obtain ⟨vs,h1,h2,h3,h4⟩:=h
  exact Pre.lt h2
theorem RowsK.cell {w:World}{ob N k p:Nat}{P:Nat→Int→Prop}(h:RowsK w ob N k P)(hp:p < N):(∃ A n c,w.cell? ⟨ob,p,none⟩=some (Value.slice A n c))∧w.frozen? ⟨ob,p,none⟩=false:=by
  obtain ⟨vs,h1,h2,h3,h4⟩:=h
  have hv:vs[p]? = some (vs[p]'(by omega)):=List.getElem?_eq_getElem (by omega)
  obtain ⟨A,n,c,h5⟩:=h3 p _ hv
  exact ⟨⟨A,n,c,by rw [Pre1.cell h2 hv,h5]⟩,Pre.free h2 p⟩
theorem RowsK.set {w:World}{ob N k:Nat}{P:Nat→Int→Prop}(h:RowsK w ob N k P)(hk:k < N){v:Value}(hv:RowV w v (P k)):RowsK (w.setCell ⟨ob,k,none⟩ v) ob N (k + 1) P:=by
  obtain ⟨⟨A,n,c,hc⟩,_⟩:=h.cell hk
  obtain ⟨vs,h1,h2,h3,h4⟩:=h
  have hst:∀ {u:Value} {Q:Int→Prop},RowV w u Q→RowV (w.setCell ⟨ob,k,none⟩ v) u Q:=fun ⟨A',l,c',e1,e2,e3⟩=>⟨A',l,c',e1,e2.store_other hc (fun n h=>by cases h) v,e3⟩
  refine ⟨vs.set k v,by simp [h1],Pre1.set h2 (by omega) v,fun j u hu=>?_,fun j hj=>?_⟩
  · rw [List.getElem?_set] at hu
    split at hu
    · rename_i e
      subst e
      rw [if_pos (by omega)] at hu
      injection hu with hu
      subst hu
      obtain ⟨A',l,c',e1,_⟩:=hv
      exact ⟨A',_,c',e1⟩
    · exact h3 j u hu
  · by_cases e:j=k
    · subst e
      exact ⟨v,by rw [List.getElem?_set_self (by omega)],hst hv⟩
    · obtain ⟨u,h5,h6⟩:=h4 j (by omega)
      exact ⟨u,by rw [List.getElem?_set_ne (by omega)]; exact h5,hst h6⟩
theorem RowsK.made (W:World)(N:Nat)(P:Nat→Int→Prop):RowsK (W.alloc (.cells (madeCells #[.slice none 0 0] N) 45)) W.heap.size N 0 P:=by
  have h:=made_pre (g:=g1) (d:=1) (t:=45) W #[.slice none 0 0] N (.slice none 0 0) rfl (fun k hk=>by
    obtain rfl:k=0:=by omega
    rfl)
  rw [Nat.mul_one] at h
  exact ⟨_,by simp,h,fun j v hj=>by
    have:=List.mem_of_getElem? hj
    exact ⟨none,0,0,List.eq_of_mem_replicate this⟩,fun j hj=>by omega⟩
theorem RowsK.done {w:World}{ob N:Nat}{P:Nat→Int→Prop}(h:RowsK w ob N N P){p:Nat}(hp:p < N):∃ v,w.cell? ⟨ob,p,none⟩=some v∧RowV w v (P p):=by
  obtain ⟨vs,h1,h2,h3,h4⟩:=h
  obtain ⟨v,h5,h6⟩:=h4 p hp
  exact ⟨v,Pre1.cell h2 h5,h6⟩
def RowsT (N:Nat)(P:Nat→Int→Prop)(e:Ending)(w:World):Prop:=∃ ob,e = .returned (.slice (some ⟨ob,0,none⟩) N N)∧RowsK w ob N N P
theorem MapsW.other {w:World}{sb N:Nat}{S:Sets}(h:MapsW w sb N S){ob k:Nat}(hob:ob < sb)(v:Value):MapsW (w.setCell ⟨ob,k,none⟩ v) sb N S :=
  ⟨Pre.other h.h (by simp only; omega) v,fun p hp=>(h.r p hp).of_block (heap_setCell_other w ⟨ob,k,none⟩ _ v (by simp only; omega))⟩
theorem Ahead_no (f:Fn7)(hf:¬ OkF f)(C:Option Addr)(cap:Nat)(w:World)(hC:RdI w C f.code) :
    Calls Try.prog 48 #[funcAgg f.nm f.ps f.R f.Fr C f.code.length cap] w fun e w'=>e = .returned (.slice none 0 0)∧Below w.heap.size w w':=by
  have hB:=Below.one w (funcObj f.nm f.ps f.R f.Fr C f.code.length cap)
  have bx:=heap_alloc_new w (funcObj f.nm f.ps f.R f.Fr C f.code.length cap)
  have hR:=Lib.hid (RightFunc_no f hf C cap _ (hC.below hB))
  simp only [funcObj,funcAgg] at hB bx hR ⊢
  clear hf hC
  go_enter Try.func48,Try.ntmps48
  go_wp2_with (first
    | (refine hR.out.mono ?_; rintro e w3 ⟨rfl,hb3⟩))
  go_returns
  exact ⟨rfl,hB.trans (hb3.mono hB.size)⟩
set_option maxRecDepth 1000000 in
set_option maxHeartbeats 16000000 in
theorem Ahead_yes (f:Fn7) (hf:OkF f) (C:Option Addr) (cap:Nat) (w:World) (hC:RdI w C f.code) :
    Calls Try.prog 48 #[funcAgg f.nm f.ps f.R f.Fr C f.code.length cap] w fun e w'=>RowsT f.code.length (Lv f.code) e w'∧Below w.heap.size w w':=by
  obtain ⟨N,hN⟩:∃ N,f.code.length=N:=⟨_,rfl⟩
  have hN2:N≤8192:=by rw [← hN]; exact hf.len.2
  have hR0:0≤f.R∧f.R≤4096:=by have:=hf.R; have:=hf.ps; omega
  have hB:=Below.one w (funcObj f.nm f.ps f.R f.Fr C f.code.length cap)
  have bx:=heap_alloc_new w (funcObj f.nm f.ps f.R f.Fr C f.code.length cap)
  have hC1:=hC.below hB
  have hR:=RightFunc_yes f hf C cap _ hC1
  have hM:=fun W h=>flow_live f hf C cap W h
  have hbd:∀ p r,Lv f.code p r→0≤r∧r < (f.R.toNat:Int):=fun p r h=>by have:=(h.bound hf).1; omega
  rw [hN] at hR hM hB bx hC1 ⊢
  simp only [funcObj,funcAgg] at hR hB bx hC1 hM ⊢
  have HR:=Lib.hid hR
  have HM:=Lib.hid hM
  have HC1:=Lib.hid hC1
  have HBD:=Lib.hid hbd
  have HB:=Lib.hid hB
  have hRn:f.R.toNat≤5000:=by omega
  obtain ⟨W,hW⟩:∃ W,w.alloc (.cells #[.string f.nm,.int .i64 f.ps,.int .i64 f.R,.int .i64 f.Fr,.slice C N cap] 26)=W:=⟨_,rfl⟩
  rw [hW] at bx HR HC1 HB
  have HBX:=Lib.hid bx
  have hBl:=(Array.getElem?_eq_some_iff.1 bx).1
  have hmk:=fun W=>make_intss N (by omega) W
  have g0:=cell_of_heap bx 0 _ rfl
  have g1:=cell_of_heap bx 1 _ rfl
  have g2:=cell_of_heap bx 2 _ rfl
  have g3:=cell_of_heap bx 3 _ rfl
  have g4:=cell_of_heap bx 4 _ rfl
  clear hf hN hC hB hR hM hC1 hbd bx
  go_enter Try.func48,Try.ntmps48
  go_wp2_with (first
    | (refine HR.out.mono ?_; rintro e w3 ⟨rfl,hb3⟩; have hx3:=(hb3.block _ hBl).trans HBX.out; have h0:=cell_of_heap hx3 0 _ rfl; have h1:=cell_of_heap hx3 1 _ rfl; have h2:=cell_of_heap hx3 2 _ rfl; have h3:=cell_of_heap hx3 3 _ rfl; have h4:=cell_of_heap hx3 4 _ rfl; have hl3:=(Array.getElem?_eq_some_iff.1 hx3).1; clear hx3)
    | (refine (HM.out _ ((HC1.out.below hb3).below (Below.one _ _))).mono ?_; rintro e w5 ⟨⟨sb,S,rfl,hbase,hmw,hS⟩,hb5⟩))
  have hbase':w3.heap.size < sb:=by simp at hbase; omega
  have hb35:=hb3.trans (((Below.one w3 _).trans (hb5.mono (by simp))).mono hb3.size)
  have H0:=Lib.hid (show RowsK w5 w3.heap.size N 0 (Lv f.code)∧MapsW w5 sb N S∧Below w.heap.size w w5 from ⟨(RowsK.made w3 N (Lv f.code)).later hb5,hmw,HB.out.trans (hb35.mono HB.out.size)⟩)
  have HS:=Lib.hid hS
  have hw3:w.heap.size≤w3.heap.size:=Nat.le_trans HB.out.size hb3.size
  clear hS hmw hbase hb5 hb3 hb35 h0 h1 h2 h3 h4 g0 g1 g2 g3 g4 hW hmk
  go_loopw [16] (fun ix wr=>∃ k:Nat,k≤N∧ix = .int .i64 k∧RowsK wr w3.heap.size N k (Lv f.code)∧MapsW wr sb N S∧Below w.heap.size w wr) (fun ix _=>N - (intOf ix).toNat)
  case atStart=>exact ⟨0,by omega,rfl,H0.out⟩
  case round =>
    obtain ⟨k,hk,rfl,hrk,hmw,hb⟩:=hrel
    clear H0
    by_cases hlt:k < N
    · have c0:=hmw.cell hlt
      have hso:=sorted_any (sb + 2 + k) (S k) _ hRn wr (hmw.r k hlt) (fun x hx=>HBD.out k x ((HS.out k hlt x).1 hx))
      have HSO:=Lib.hid hso
      have HRK:=Lib.hid hrk
      have HMW:=Lib.hid hmw
      have HBB:=Lib.hid hb
      clear hso hrk hmw hb
      go_wp2_with (first
        | (refine HSO.out.mono ?_; rintro e w6 ⟨⟨A,l,c,rfl,hrd,hpw,hmem⟩,hb6⟩; have hrk6:=HRK.out.later hb6; have ⟨⟨A0,n0,c0',hc6⟩,hf6⟩:=hrk6.cell hlt; have hl6:=hrk6.lt; have HRK6:=Lib.hid hrk6; have HV:=Lib.hid (show RowV w6 (.slice A l.length c) (Lv f.code k) from ⟨A,l,c,rfl,hrd,hpw,fun x=>(hmem x).trans (HS.out k hlt x)⟩); have HB6:=Lib.hid hb6; clear hrk6 hrd hpw hmem hb6))
      exact ⟨⟨k + 1,by omega,by go_num,HRK6.out.set hlt HV.out,(HMW.out.later HB6.out).other hbase' _,(HBB.out.trans (HB6.out.mono HBB.out.size)).setCell (by simp only; omega) _⟩,by simp [intOf]; omega⟩
    · obtain rfl:k=N:=by omega
      have HR2:=Lib.hid (show RowsT k (Lv f.code) (.returned (.slice (some ⟨w3.heap.size,0,none⟩) k k)) wr∧Below w.heap.size w wr from ⟨⟨_,rfl,hrk⟩,hb⟩)
      clear hrk hmw hb
      go_wp2
      go_returns
      exact HR2.out
end Go.Proofs.Ythbcdckonaljiaa
namespace Go.Proofs.Ythbcdckonaljiaa
open Go.RowKit Go.BigFrame
noncomputable def lb1:Code:=((((Try.f46.body).map loopsOf).getD [])[0]?).getD .skip
noncomputable def lb2:Code:=((loopsOf (inLoop lb1))[0]?).getD .skip
noncomputable def lb3:Code:=((loopsOf (inLoop lb2))[0]?).getD .skip
theorem RdN.kp1 {w w':World}{mb:Nat}{S:Int→Bool}{A:Option Addr}{l:List Int}(h:RdN w A l)(hm:SetI w mb S)(hk:Kp w w' mb mb):RdN w' A l:=fun j n hn=>by
  obtain ⟨b,o,e1,e2,e3⟩:=h j n hn
  have hne:b≠mb:=fun e=>by
    subst e
    obtain ⟨es,clock,h2,_⟩:=hm
    simp [World.cell?,h2] at e3
  have hb:w'.heap[b]? = w.heap[b]?:=hk.k b e2 hne hne
  exact ⟨b,o,e1,Nat.lt_of_lt_of_le e2 hk.s,by rw [← e3]; simp only [World.cell?,hb]⟩
theorem MapsW.kp {w w':World}{sb N mb:Nat}{S:Sets}(h:MapsW w sb N S)(hk:Kp w w' mb mb)(hm:sb + 2 + N≤mb):MapsW w' sb N S :=
  ⟨Pre.of_heap h.h (hk.k _ (Pre.lt h.h) (by omega) (by omega)),fun p hp=>(h.r p hp).of_block (hk.k _ (h.r p hp).lt (by omega) (by omega))⟩
theorem Kp.grown {w w':World}{mb:Nat}(hg:w.grownBy w' (some mb))(hz:w'.heap.size=w.heap.size):Kp w w' mb mb:=⟨by omega,fun b hb h1 _=>hg.block b hb (fun e=>h1 (by injection e))⟩
set_option maxRecDepth 1000000 in
set_option maxHeartbeats 8000000 in
theorem lb3_any (w0 w:World) (mb rb b:Nat) (S T0:Int→Bool) (lst:List Int) (hm:SetI w mb T0) (hR:RgD w rb b S lst) (hall:∀ x,x ∈ lst↔S x=true) (hk:Kp w0 w mb mb) (hbw:Below mb w0 w) (hmb:mb < w0.heap.size) (hrb:w0.heap.size≤rb) (hb:b≠mb)
    {x0 x1 x2 x3 x4 x5 x6 x8 x9 x10 x11 x12 x13 x14 x15 x16 x17 x18 x19 x20 x21 x22 x23 x24 x25 x26 x27 x28 x29 x30 x31 x32 x33 x34 x35 x36 x37 x38 x39 x40 x42 x43 x44 x45 x46 x47 x48 x49 x50 x51 x52 x53 x54 x55:Value} (Q:Exit→Act→World→Prop)
    (hexit:∀ (y10 y42 y43 y44 y45 y46 y47:Value) (w':World) (T:Int→Bool),SetI w' mb T→Kp w0 w' mb mb→Below mb w0 w'→(∀ x,T x=true↔T0 x=true∨S x=true)→Q (.exit 4) ⟨(x0::x1::x2::x3::x4::x5::x6::.map (some mb)::x8::x9::y10::x11::x12::x13::x14::x15::x16::x17::x18::x19::x20::x21::x22::x23::x24::x25::x26::x27::x28::x29::x30::x31::x32::x33::x34::x35::x36::x37::x38::x39::x40::.pointer (some ⟨rb,0,none⟩)::y42::y43::y44::y45::y46::y47::x48::x49::x50::x51::x52::x53::x54::x55::[]).toArray,[]⟩ w') :
    Code.wp Try.prog lb3 Q ⟨(x0::x1::x2::x3::x4::x5::x6::.map (some mb)::x8::x9::x10::x11::x12::x13::x14::x15::x16::x17::x18::x19::x20::x21::x22::x23::x24::x25::x26::x27::x28::x29::x30::x31::x32::x33::x34::x35::x36::x37::x38::x39::x40::.pointer (some ⟨rb,0,none⟩)::x42::x43::x44::x45::x46::x47::x48::x49::x50::x51::x52::x53::x54::x55::[]).toArray,[]⟩ w:=by
  conv=>arg 2; whnf
  have HE:=Lib.hid hexit
  have H0:Hid (∃ (lst':List Int) (T:Int→Bool),lst.length=lst'.length∧RgD w rb b S lst'∧SetI w mb T∧Kp w0 w mb mb∧Below mb w0 w∧(∀ x,T x=true↔T0 x=true∨(S x=true∧x ∉ lst'))) :=
    Lib.hid ⟨lst,T0,rfl,hR,hm,hk,hbw,fun x=>⟨Or.inl,fun h=>h.elim (fun h=>h) (fun h=>absurd ((hall x).2 h.1) h.2)⟩⟩
  clear hexit hm hR hall hk hbw
  go_loopg [42] lst.length (fun g _ wr=>∃ (lst':List Int) (T:Int→Bool),g=lst'.length∧RgD wr rb b S lst'∧SetI wr mb T∧Kp w0 wr mb mb∧Below mb w0 wr∧(∀ x,T x=true↔T0 x=true∨(S x=true∧x ∉ lst')))
  case atStart=>exact H0.out
  case round =>
    obtain ⟨lst',T,hg,hrg,hm,hk,hbw,hT⟩:=hrel
    have HG:=Lib.hid hg
    have HRG:=Lib.hid hrg
    have HM:=Lib.hid hm
    have HK:=Lib.hid hk
    have HT:=Lib.hid hT
    have HBW:=Lib.hid hbw
    clear hg hrg hm hk hT H0 hbw
    go_wp2_with (first
      | (at_next; refine wpList_next_set _ rfl _ rfl rb b S lst' rfl HRG.out ?_ ?_))
    · intro hl
      have HX:=fun y10 y42 y43 y44 y45 y46 y47=>Lib.hid (HE.out y10 y42 y43 y44 y45 y46 y47 wr T HM.out HK.out HBW.out (fun x=>(HT.out x).trans (by rw [hl]; simp)))
      clear HE
      go_wp2
      exact (HX _ _ _ _ _ _ _).out
    · intro s l' w2 hms hs hmem hlt hrg2 hg2 hz2 hen
      have hks:=HK.out.s
      have hm2:SetI w2 mb T:=HM.out.kept hg2 (fun e=>by injection e; omega)
      have hk2:Kp w0 w2 mb mb:=⟨by omega,fun x hx h1 h2=>(hg2.block x (by omega) (fun e=>by injection e; omega)).trans (HK.out.k x hx h1 h2)⟩
      have HB2:=Lib.hid (Below.grown HBW.out hg2 (by omega) (fun k hk=>by injection hk; omega))
      have HM2:=Lib.hid hm2
      have HK2:=Lib.hid hk2
      have HRG2:=Lib.hid hrg2
      have HME:=Lib.hid hmem
      have HS:=Lib.hid hs
      have HMS:=Lib.hid hms
      have HLT:=Lib.hid hlt
      clear hms hs hmem hlt hrg2 hg2 hz2 hm2 hk2
      go_wp2_with (first
        | (refine wpList_update_set _ rfl _ _ _ 73 rfl umap uint mb T rfl HM2.out s rfl rfl ?_; intro w3 hm3 hg3 hz3))
      go_roundg l'.length
      case measure=>rw [HG.out]; exact HLT.out
      case rel =>
        have hl2:=HRG2.out.lt
        have hk3:=Kp.grown hg3 hz3
        refine ⟨l',_,rfl,HRG2.out.of_blocks (hk3.k _ hl2.1 hb hb) (hk3.k _ hl2.2 (by omega) (by omega)),hm3,HK2.out.trans hk3,Below.grown HB2.out hg3 (by omega) (fun k hk=>by injection hk; omega),fun x=>?_⟩
        rw [HME.out]
        simp only [insS_,Bool.or_eq_true,decide_eq_true_eq]
        rw [HT.out]
        constructor
        · rintro (rfl | h | ⟨h1,h2⟩)
          · exact Or.inr ⟨HS.out,fun h=>h.2 rfl⟩
          · exact Or.inl h
          · exact Or.inr ⟨h1,fun h=>h2 h.1⟩
        · rintro (h | ⟨h1,h2⟩)
          · exact Or.inr (Or.inl h)
          · by_cases hx:x=s
            · exact Or.inl hx
            · exact Or.inr (Or.inr ⟨h1,fun h=>h2 ⟨h,hx⟩⟩)
set_option maxRecDepth 1000000 in
set_option maxHeartbeats 8000000 in
theorem lb2_any (w:World) (sb N mb:Nat) (S:Sets) (T0:Int→Bool) (hT0:∀ x,T0 x=false) (nx:List Int) (A:Option Addr) (cap Ln:Nat) (hLn:nx.length=Ln) (hLn2:Ln≤100) (hM:MapsW w sb N S) (hm:SetI w mb T0) (hmb:sb + 2 + N≤mb) (hR:RdN w A nx) (hin:∀ n ∈ nx,0≤n∧n.toNat < N)
    {x0 x1 x2 x4 x5 x6 x8 x9 x10 x11 x12 x13 x14 x15 x16 x17 x18 x19 x20 x21 x22 x23 x24 x25 x26 x27 x28 x29 x30 x34 x35 x36 x37 x38 x39 x40 x41 x42 x43 x44 x45 x46 x47 x48 x49 x50 x51 x52 x53 x54 x55:Value} (Q:Exit→Act→World→Prop)
    (hexit:∀ (y9 y10 y34 y35 y36 y37 y38 y39 y40 y41 y42 y43 y44 y45 y46 y47 y48:Value) (w':World) (T:Int→Bool),SetI w' mb T→Kp w w' mb mb→Below mb w w'→(∀ x,T x=true↔∃ n ∈ nx,S n.toNat x=true)→Q (.exit 2) ⟨(x0::x1::x2::.slice (some ⟨sb,0,none⟩) N N::x4::x5::x6::.map (some mb)::x8::y9::y10::x11::x12::x13::x14::x15::x16::x17::x18::x19::x20::x21::x22::x23::x24::x25::x26::x27::x28::x29::x30::.slice A Ln cap::.int .i64 (Ln:Int)::.int .i64 (Ln:Int)::y34::y35::y36::y37::y38::y39::y40::y41::y42::y43::y44::y45::y46::y47::y48::x49::x50::x51::x52::x53::x54::x55::[]).toArray,[]⟩ w') :
    Code.wp Try.prog lb2 Q ⟨(x0::x1::x2::.slice (some ⟨sb,0,none⟩) N N::x4::x5::x6::.map (some mb)::x8::x9::x10::x11::x12::x13::x14::x15::x16::x17::x18::x19::x20::x21::x22::x23::x24::x25::x26::x27::x28::x29::x30::.slice A Ln cap::.int .i64 (Ln:Int)::.int .i64 0::x34::x35::x36::x37::x38::x39::x40::x41::x42::x43::x44::x45::x46::x47::x48::x49::x50::x51::x52::x53::x54::x55::[]).toArray,[]⟩ w:=by
  conv=>arg 2; whnf
  have HE:=Lib.hid hexit
  have HLN:=Lib.hid hLn
  have HR:=Lib.hid hR
  have HIN:=Lib.hid hin
  have HM:=Lib.hid hM
  have hml:=hm.lt
  have HM0:=Lib.hid hm
  have HT0:=Lib.hid hT0
  clear hexit hLn hR hin hM hm hT0
  go_loopw [33] (fun ix wr=>∃ (k:Nat) (T:Int→Bool),k≤Ln∧ix = .int .i64 k∧SetI wr mb T∧Kp w wr mb mb∧Below mb w wr∧(∀ x,T x=true↔∃ (j:Nat) (n:Int),j < k∧nx[j]? = some n∧S n.toNat x=true)) (fun ix _=>Ln - (intOf ix).toNat)
  case atStart=>exact ⟨0,T0,by omega,rfl,HM0.out,Kp.refl _ _ _,Below.refl _ _,fun x=>⟨fun h=>(by rw [HT0.out] at h; cases h),fun ⟨j,n,hj,_⟩=>by omega⟩⟩
  case round =>
    obtain ⟨k,T,hk,rfl,hm,hkp,hbw,hT⟩:=hrel
    by_cases hlt:k < Ln
    · obtain ⟨n,hn⟩:∃ n,nx[k]? = some n:=⟨_,List.getElem?_eq_getElem (by rw [HLN.out]; exact hlt)⟩
      have hnb:=HIN.out n (List.mem_of_getElem? hn)
      obtain ⟨m,rfl⟩:∃ m:Nat,n=(m:Int):=⟨n.toNat,by omega⟩
      have hmN:m < N:=by have:=hnb.2; rwa [Int.toNat_natCast] at this
      obtain ⟨b,o,rfl,hbl,hc⟩:=(HR.out.kp1 HM0.out hkp) k _ hn
      have hmw:=HM.out.kp hkp hmb
      have c1:=hmw.cell hmN
      have HSET:=Lib.hid (hmw.r m hmN)
      have HNN:=Lib.hid hn
      have HMM:=Lib.hid hm
      have HK:=Lib.hid hkp
      have HT:=Lib.hid hT
      have HBW:=Lib.hid hbw
      have hmlt:=hm.lt
      clear hn hnb hm hkp hT hmw hbw
      go_wp2_with (first
        | (at_range; refine wpList_range_set _ rfl _ 73 rfl umap (sb + 2 + m) (S m) rfl HSET.out ?_; intro lst o' hrg hnd hall))
      go_frame
      refine lb3_any wr (wr.alloc o') mb wr.heap.size (sb + 2 + m) (S m) T lst (HMM.out.below (Below.one _ _) hmlt) hrg hall (Kp.below (Below.one _ _)) ((Below.one _ _).mono (by omega)) hmlt (Nat.le_refl _) (by omega) _ ?_
      intro z10 z42 z43 z44 z45 z46 z47 w' T' hm' hk' hb' hT'
      have HN:Hid (∃ (k':Nat) (T2:Int→Bool),k'≤Ln∧Value.int IntKind.i64 ((k:Int) + 1) = .int .i64 k'∧SetI w' mb T2∧Kp w w' mb mb∧Below mb w w'∧(∀ x,T2 x=true↔∃ (j:Nat) (n:Int),j < k'∧nx[j]? = some n∧S n.toNat x=true)):=Lib.hid ⟨k + 1,T',by omega,by go_num,hm',HK.out.trans hk',HBW.out.trans hb',fun x=>by
        rw [hT',HT.out]
        constructor
        · rintro (⟨j,n,h1,h2,h3⟩ | h)
          · exact ⟨j,n,by omega,h2,h3⟩
          · exact ⟨k,m,by omega,HNN.out,by rw [Int.toNat_natCast]; exact h⟩
        · rintro ⟨j,n,h1,h2,h3⟩
          by_cases hjk:j=k
          · subst hjk
            rw [HNN.out] at h2
            injection h2 with h2
            subst h2
            rw [Int.toNat_natCast] at h3
            exact Or.inr h3
          · exact Or.inl ⟨j,n,by omega,h2,h3⟩⟩
      clear hm' hk' hT' hb'
      go_wp2
      exact ⟨HN.out,by simp [intOf]; omega⟩
    · obtain rfl:k=Ln:=by omega
      have HX:=fun y9 y10 y34 y35 y36 y37 y38 y39 y40 y41 y42 y43 y44 y45 y46 y47 y48=>Lib.hid (HE.out y9 y10 y34 y35 y36 y37 y38 y39 y40 y41 y42 y43 y44 y45 y46 y47 y48 wr T hm hkp hbw (fun x=>(hT x).trans ⟨fun ⟨j,n,h1,h2,h3⟩=>⟨n,List.mem_of_getElem? h2,h3⟩,fun ⟨n,h1,h2⟩=>by
        obtain ⟨j,hj⟩:=List.mem_iff_getElem?.1 h1
        exact ⟨j,n,by have:=(List.getElem?_eq_some_iff.1 hj).1; rw [HLN.out] at this; exact this,hj,h2⟩⟩))
      clear hm hkp HE hT hbw
      go_wp2
      exact (HX _ _ _ _ _ _ _ _ _ _ _ _ _ _ _ _ _).out
theorem MapsW.other2 {w:World}{sb N:Nat}{S:Sets}(h:MapsW w sb N S){ob k:Nat}(hob:sb + 2 + N≤ob)(v:Value):MapsW (w.setCell ⟨ob,k,none⟩ v) sb N S :=
  ⟨Pre.other h.h (by simp only; omega) v,fun p hp=>(h.r p hp).of_block (heap_setCell_other w ⟨ob,k,none⟩ _ v (by simp only; omega))⟩
theorem RowV.kp {w w':World}{mb:Nat}{S:Int→Bool}{v:Value}{P:Int→Prop}(h:RowV w v P)(hm:SetI w mb S)(hk:Kp w w' mb mb):RowV w' v P:=by
  obtain ⟨A,l,cap,h1,h2,h3⟩:=h
  exact ⟨A,l,cap,h1,h2.kp1 hm hk,h3⟩
theorem RowsK.kp {w w':World}{ob N k mb:Nat}{P:Nat→Int→Prop}{S:Int→Bool}(h:RowsK w ob N k P)(hm:SetI w mb S)(hk:Kp w w' mb mb)(hne:ob≠mb):RowsK w' ob N k P:=by
  obtain ⟨vs,h1,h2,h3,h4⟩:=h
  exact ⟨vs,h1,Pre.of_heap h2 (hk.k _ (Pre.lt h2) hne hne),h3,fun j hj=>by obtain ⟨v,h5,h6⟩:=h4 j hj; exact ⟨v,h5,h6.kp hm hk⟩⟩
def Bh (l:List Ins)(p:Nat)(r:Int):Prop:=∃ i,l[p]? = some i∧∃ n ∈ i.next p,Lv l n.toNat r
theorem Behind_no (f:Fn7)(hf:¬ OkF f)(C:Option Addr)(cap:Nat)(w:World)(hC:RdI w C f.code) :
    Calls Try.prog 46 #[funcAgg f.nm f.ps f.R f.Fr C f.code.length cap] w fun e w'=>e = .returned (.slice none 0 0)∧Below w.heap.size w w':=by
  have hB:=Below.one w (funcObj f.nm f.ps f.R f.Fr C f.code.length cap)
  have hR:=Lib.hid (RightFunc_no f hf C cap _ (hC.below hB))
  simp only [funcObj,funcAgg] at hB hR ⊢
  clear hf hC
  go_enter Try.func46,Try.ntmps46
  go_wp2_with (first
    | (refine hR.out.mono ?_; rintro e w3 ⟨rfl,hb3⟩))
  go_returns
  exact ⟨rfl,hB.trans (hb3.mono hB.size)⟩
set_option maxRecDepth 1000000 in
set_option maxHeartbeats 16000000 in
theorem Behind_yes (f:Fn7) (hf:OkF f) (C:Option Addr) (cap:Nat) (w:World) (hC:RdI w C f.code) :
    Calls Try.prog 46 #[funcAgg f.nm f.ps f.R f.Fr C f.code.length cap] w fun e w'=>RowsT f.code.length (Bh f.code) e w'∧Below w.heap.size w w':=by
  obtain ⟨N,hN⟩:∃ N,f.code.length=N:=⟨_,rfl⟩
  have hN2:N≤8192:=by rw [← hN]; exact hf.len.2
  have hR0:0≤f.R∧f.R≤4096:=by have:=hf.R; have:=hf.ps; omega
  have hB:=Below.one w (funcObj f.nm f.ps f.R f.Fr C f.code.length cap)
  have bx:=heap_alloc_new w (funcObj f.nm f.ps f.R f.Fr C f.code.length cap)
  have hC1:=hC.below hB
  have hR:=RightFunc_yes f hf C cap _ hC1
  have hM:=fun W h=>flow_live f hf C cap W h
  have hbd:∀ p r,Lv f.code p r→0≤r∧r < (f.R.toNat:Int):=fun p r h=>by have:=(h.bound hf).1; omega
  rw [hN] at hR hM hB bx hC1 ⊢
  simp only [funcObj,funcAgg] at hR hB bx hC1 hM ⊢
  have HR:=Lib.hid hR
  have HM:=Lib.hid hM
  have HC1:=Lib.hid hC1
  have HBD:=Lib.hid hbd
  have HB:=Lib.hid hB
  have HF:=Lib.hid hf
  have HN:=Lib.hid hN
  have hRn:f.R.toNat≤5000:=by omega
  obtain ⟨W,hW⟩:∃ W,w.alloc (.cells #[.string f.nm,.int .i64 f.ps,.int .i64 f.R,.int .i64 f.Fr,.slice C N cap] 26)=W:=⟨_,rfl⟩
  rw [hW] at bx HR HC1 HB
  have HBX:=Lib.hid bx
  have hBl:=(Array.getElem?_eq_some_iff.1 bx).1
  have hmk:=fun W=>make_intss N (by omega) W
  have g0:=cell_of_heap bx 0 _ rfl
  have g1:=cell_of_heap bx 1 _ rfl
  have g2:=cell_of_heap bx 2 _ rfl
  have g3:=cell_of_heap bx 3 _ rfl
  have g4:=cell_of_heap bx 4 _ rfl
  clear hf hN hC hB hR hM hC1 hbd bx
  go_enter Try.func46,Try.ntmps46
  go_wp2_with (first
    | (refine HR.out.mono ?_; rintro e w3 ⟨rfl,hb3⟩; have hx3:=(hb3.block _ hBl).trans HBX.out; have h0:=cell_of_heap hx3 0 _ rfl; have h1:=cell_of_heap hx3 1 _ rfl; have h2:=cell_of_heap hx3 2 _ rfl; have h3:=cell_of_heap hx3 3 _ rfl; have h4:=cell_of_heap hx3 4 _ rfl; have hl3:=(Array.getElem?_eq_some_iff.1 hx3).1; have HX3:=Lib.hid hx3; clear hx3)
    | (refine (HM.out _ (HC1.out.below hb3)).mono ?_; rintro e w5 ⟨⟨sb,S,rfl,hbase,hmw,hS⟩,hb5⟩; have hx5:=(hb5.block _ hl3).trans HX3.out; have h5:=cell_of_heap hx5 4 _ rfl; have hl5:=(Array.getElem?_eq_some_iff.1 hx5).1; have HMW:=Lib.hid hmw; have HX5:=Lib.hid hx5; clear hmw hx5))
  have HS:=Lib.hid hS
  have hw3:w.heap.size≤w3.heap.size:=Nat.le_trans HB.out.size hb3.size
  have hmN:=fun (h:0 < N)=>(HMW.out.r (N - 1) (by omega)).lt
  have H0:=Lib.hid (show RowsK (w5.alloc (.cells (madeCells #[.slice none 0 0] N) 45)) w5.heap.size N 0 (Bh f.code)∧MapsW (w5.alloc (.cells (madeCells #[.slice none 0 0] N) 45)) sb N S∧Below w5.heap.size w5 (w5.alloc (.cells (madeCells #[.slice none 0 0] N) 45)) from ⟨RowsK.made w5 N (Bh f.code),HMW.out.later (Below.one _ _),Below.one _ _⟩)
  have HW5:=Lib.hid (show Below W.heap.size W w5 from hb3.trans (hb5.mono hb3.size))
  have hw5:w.heap.size≤w5.heap.size:=Nat.le_trans hw3 hb5.size
  have hsbl:sb < w5.heap.size:=Pre.lt HMW.out.h
  clear hS hbase hb5 hb3 h0 h1 h2 h3 h4 h5 g0 g1 g2 g3 g4 hW hmk
  go_loopw [23] (fun ix wr=>∃ k:Nat,k≤N∧ix = .int .i64 k∧RowsK wr w5.heap.size N k (Bh f.code)∧MapsW wr sb N S∧Below w5.heap.size w5 wr) (fun ix _=>N - (intOf ix).toNat)
  case atStart=>exact ⟨0,by omega,rfl,H0.out⟩
  case round =>
    obtain ⟨k,hk,rfl,hrk,hmw,hb⟩:=hrel
    clear H0
    by_cases hlt:k < N
    · have hmN:=hmN (by omega)
      obtain ⟨i,hi⟩:∃ i,f.code[k]? = some i:=⟨_,List.getElem?_eq_getElem (by rw [HN.out]; exact hlt)⟩
      obtain ⟨bb,oo,rfl,hbl,hcs⟩:=((HC1.out.below HW5.out).below hb) k i hi
      obtain ⟨x0,x1,x2,x3,x4,x5,x6,x7,x8,x9,x10,x11,x12,x13,x14⟩:=RdI.load hcs
      have kx:=heap_alloc_new wr i.obj
      have hnxt:=HF.out.next hi
      rw [HN.out] at hnxt
      have hnl:=Ins.next_len i k
      have hna:=fun W=>Next_any i k (by omega) W
      have HBH:Hid (∀ x,Bh f.code k x↔∃ n ∈ i.next k,Lv f.code n.toNat x):=Lib.hid fun x=>⟨fun ⟨i',h1,h2⟩=>by
        rw [hi] at h1
        injection h1 with h1
        subst h1
        exact h2,fun h=>⟨i,hi,h⟩⟩
      obtain ⟨nx,hnx⟩:∃ nx,i.next k=nx:=⟨_,rfl⟩
      rw [hnx] at hnl hna hnxt HBH
      clear hnx
      obtain ⟨Ln,hLn⟩:∃ Ln,nx.length=Ln:=⟨_,rfl⟩
      obtain ⟨kk,op,dst,a,b',n,text,r0,r1,r2,r3,r4,r5,to_,els⟩:=i
      have hNA:∀ W,Calls Try.prog 54 #[.agg #[.int .i64 kk,.int .i64 op,.int .i64 dst,.int .i64 a,.int .i64 b',.int .i64 n,.string text,.int .i64 r0,.int .i64 r1,.int .i64 r2,.int .i64 r3,.int .i64 r4,.int .i64 r5,.int .i64 to_,.int .i64 els],.int .i64 k] W fun e w'=>(∃ A c,e = .returned (.slice A Ln c)∧RdN w' A nx)∧Below W.heap.size W w':=fun W=>(hna W).mono fun e w' ⟨⟨A,c,h1,h2⟩,h3⟩=>⟨⟨A,c,by rw [h1,hLn],h2⟩,h3⟩
      have HNA:=Lib.hid hNA
      have HNXT:=Lib.hid hnxt
      have HLn:=Lib.hid hLn
      have HN10:Hid (Ln≤100):=Lib.hid (by omega)
      have kx2:=alloc_keeps kx (.map #[] 0)
      have ⟨d0,d1,d2,d3,d4,d5,d6,d7,d8,d9,d10,d11,d12,d13,d14⟩:=Ins.cells (i:=⟨kk,op,dst,a,b',n,text,r0,r1,r2,r3,r4,r5,to_,els⟩) kx
      simp only at x0 x1 x2 x3 x4 x5 x6 x7 x8 x9 x10 x11 x12 x13 x14 d0 d1 d2 d3 d4 d5 d6 d7 d8 d9 d10 d11 d12 d13 d14
      have hm0:=SetI.made (wr.alloc (Ins.obj ⟨kk,op,dst,a,b',n,text,r0,r1,r2,r3,r4,r5,to_,els⟩))
      rw [show (wr.alloc (Ins.obj ⟨kk,op,dst,a,b',n,text,r0,r1,r2,r3,r4,r5,to_,els⟩)).heap.size=wr.heap.size + 1 by simp] at hm0
      have hb2:Below wr.heap.size wr ((wr.alloc (Ins.obj ⟨kk,op,dst,a,b',n,text,r0,r1,r2,r3,r4,r5,to_,els⟩)).alloc (.map #[] 0)):=(Below.one wr _).alloc (by simp) _
      have hw5r:=hb.size
      have HM0:=Lib.hid hm0
      have HB2:=Lib.hid hb2
      have HRK:=Lib.hid hrk
      have HMW2:=Lib.hid hmw
      have HBB:=Lib.hid hb
      clear hna hNA hnxt hLn hnl hi kx kx2 hcs hm0 hb2 hrk hmw hb
      have hmm:=@run_makeMap Try.prog
      go_wp2_with (first
        | (refine (HNA.out _).mono ?_; rintro e w6 ⟨⟨A4,c4,rfl,hrd⟩,hb6⟩; have HB6:=Lib.hid hb6; have HRD:=Lib.hid hrd; clear hrd hb6))
      have hmb:sb + 2 + N≤wr.heap.size + 1:=by
        have:=(HMW2.out.r (N - 1) (by omega)).lt
        omega
      have hB26:=HB2.out.trans (HB6.out.mono HB2.out.size)
      have hrk6:=HRK.out.later hB26
      have hmw6:=HMW2.out.later hB26
      have hm6:=HM0.out.below HB6.out HM0.out.lt
      have hobl:=HRK.out.lt
      refine lb2_any w6 sb N (wr.heap.size + 1) S (fun _=>false) (fun _=>rfl) nx A4 c4 Ln HLn.out HN10.out hmw6 hm6 hmb HRD.out HNXT.out _ ?_
      intro z9 z10 z34 z35 z36 z37 z38 z39 z40 z41 z42 z43 z44 z45 z46 z47 z48 w7 T hm7 hk7 hb7 hT7
      have hrk7:=hrk6.kp hm6 hk7 (by omega)
      have hmw7:=hmw6.kp hk7 hmb
      have hTL:∀ x,T x=true↔Bh f.code k x:=fun x=>(hT7 x).trans ⟨fun ⟨n,h1,h2⟩=>(HBH.out x).2 ⟨n,h1,(HS.out _ (HNXT.out n h1).2 x).1 h2⟩,fun h=>by
        obtain ⟨n,h1,h2⟩:=(HBH.out x).1 h
        exact ⟨n,h1,(HS.out _ (HNXT.out n h1).2 x).2 h2⟩⟩
      have hso:=sorted_any (wr.heap.size + 1) T _ hRn w7 hm7 (fun x hx=>by
        obtain ⟨i',h1,n,h2,h3⟩:=(hTL x).1 hx
        exact HBD.out _ x h3)
      have hB7:=HBB.out.trans ((hB26.trans (hb7.mono (by omega))).mono hw5r)
      have HSO:=Lib.hid hso
      have HRK7:=Lib.hid hrk7
      have HMW7:=Lib.hid hmw7
      have HTL:=Lib.hid hTL
      have HB7:=Lib.hid hB7
      clear hB26 hrk6 hmw6 hm6 hm7 hk7 hb7 hT7 hrk7 hmw7 hTL hso hB7
      go_wp2_with (first
        | (refine HSO.out.mono ?_; rintro e w8 ⟨⟨A,l,c,rfl,hrd,hpw,hmem⟩,hb8⟩; have hrk8:=HRK7.out.later hb8; have ⟨⟨A0,n0,c0',hc8⟩,hf8⟩:=hrk8.cell hlt; have hl8:=hrk8.lt; have HRK8:=Lib.hid hrk8; have HV:=Lib.hid (show RowV w8 (.slice A l.length c) (Bh f.code k) from ⟨A,l,c,rfl,hrd,hpw,fun x=>(hmem x).trans (HTL.out x)⟩); have HB8:=Lib.hid hb8; clear hrk8 hrd hpw hmem hb8))
      exact ⟨⟨k + 1,by omega,by go_num,HRK8.out.set hlt HV.out,(HMW7.out.later HB8.out).other2 (by omega) _,(HB7.out.trans (HB8.out.mono HB7.out.size)).setCell (by simp only; omega) _⟩,by simp [intOf]; omega⟩
    · obtain rfl:k=N:=by omega
      have HR2:=Lib.hid (show RowsT k (Bh f.code) (.returned (.slice (some ⟨w5.heap.size,0,none⟩) k k)) wr∧Below w.heap.size w wr from ⟨⟨_,rfl,hrk⟩,HB.out.trans ((HW5.out.mono HB.out.size).trans (hb.mono hw5))⟩)
      clear hrk hmw hb
      go_wp2
      go_returns
      exact HR2.out
end Go.Proofs.Ythbcdckonaljiaa
namespace Go.Proofs.Ythbcdckonaljiaa
open Go.RowKit Go.BigFrame
theorem Contains_rd (A:Option Addr)(l:List Int)(cap:Nat)(x:Int)(w:World)(h:RdN w A l)(hl:l.length≤100000):Calls Try.prog 103 #[.slice A l.length cap,.int .i64 x] w fun e w'=>e = .returned (.bool (l.contains x))∧w=w':=by
  cases l with
  | nil=>exact (Try.slices_Contains_int_empty A cap x w).mono fun e w' ⟨h1,h2⟩=>⟨h1,h2.symm⟩
  | cons y l =>
    obtain ⟨b,o,rfl,_,_⟩:=h 0 y rfl
    refine (Try.slices_Contains_int b o (y::l).length cap (y::l) x w (Nat.le_refl _) (by omega) (fun j hj=>?_)).mono fun e w' ⟨h1,h2⟩=>⟨by rw [h1,List.take_length],h2.symm⟩
    obtain ⟨b',o',e1,_,e3⟩:=h j ((y::l)[j]) (List.getElem?_eq_getElem hj)
    injection e1 with e1
    injection e1 with e1 e2
    subst e1 e2
    rw [e3,List.getD_eq_getElem?_getD,List.getElem?_eq_getElem hj]
    rfl
end Go.Proofs.Ythbcdckonaljiaa
namespace Go.Proofs.Ythbcdckonaljiaa
open Go.RowKit Go.BigFrame
theorem OwnN.later {w w':World}{V:Value}{l:List Int}(h:OwnN w V l)(hb:Below w.heap.size w w'):OwnN w' V l:=by
  obtain ⟨h1,h2⟩:=h
  refine ⟨h1,?_⟩
  rcases h2 with h2 | ⟨g,cap,cur,e1,e2,e3,e4⟩
  · exact Or.inl h2
  · exact Or.inr ⟨g,cap,cur,e1,e2,(hb.block g (Array.getElem?_eq_some_iff.1 e3).1).trans e3,e4⟩
end Go.Proofs.Ythbcdckonaljiaa
namespace Go.Proofs.Ythbcdckonaljiaa
open Go.RowKit Go.BigFrame
theorem RdN.keepS {w w':World}{A:Option Addr}{l:List Int}(h:RdN w A l)(hs:w.heap.size≤w'.heap.size)(hk:∀ b o,A=some ⟨b,o,none⟩→b < w.heap.size→w'.heap[b]? = w.heap[b]?):RdN w' A l:=fun j n hn=>by
  obtain ⟨b,o,e1,e2,e3⟩:=h j n hn
  exact ⟨b,o,e1,by omega,by rw [← e3]; simp only [World.cell?,hk b o e1 e2]⟩
set_option maxRecDepth 1000000 in
theorem In_any (A:Option Addr) (l:List Int) (cap:Nat) (x:Int) (w:World) (h:RdN w A l) (hl:l.length≤100000):Calls Try.prog 63 #[.slice A l.length cap,.int .i64 x] w fun e w'=>e = .returned (.bool (l.contains x))∧w=w':=by
  obtain ⟨L,hL⟩:∃ L,l.length=L:=⟨_,rfl⟩
  rw [hL] at hl ⊢
  have HL:=Lib.hid hL
  have H:=Lib.hid h
  obtain ⟨z,hz⟩:∃ z,l.contains x=z:=⟨_,rfl⟩
  rw [hz]
  have HZ:=Lib.hid hz
  clear hL h hz
  go_enter Try.func63,Try.ntmps63
  go_wp2
  go_loop [5] (fun ix=>∃ k:Nat,k≤L∧ix = .int .i64 k∧x ∉ l.take k) (fun ix=>L - (intOf ix).toNat)
  case atStart=>exact ⟨0,by omega,rfl,by simp⟩
  case round =>
    obtain ⟨k,hk,rfl,hno⟩:=hrel
    have HNO:=Lib.hid hno
    clear hno
    by_cases hlt:k < L
    · obtain ⟨y,hy⟩:∃ y,l[k]? = some y:=⟨_,List.getElem?_eq_getElem (by rw [HL.out]; exact hlt)⟩
      obtain ⟨b,o,rfl,hbl,hc⟩:=H.out k y hy
      have HY:=Lib.hid hy
      clear hy
      by_cases hxy:y=x
      · have q1:(y == x)=true:=by simp [hxy]
        have HR:Hid (l.contains x=true):=Lib.hid (by rw [List.contains_iff_mem,← hxy]; exact List.mem_of_getElem? HY.out)
        clear hxy
        go_wp2
        go_returns
        exact ⟨by rw [← HZ.out,HR.out]; rfl,rfl⟩
      · have q1:(y == x)=false:=by simp [hxy]
        have HN:Hid (x ∉ l.take (k + 1)):=Lib.hid (by
          rw [List.take_add_one,HY.out,Option.toList_some]
          intro h
          rcases List.mem_append.1 h with h | h
          · exact HNO.out h
          · simp only [List.mem_singleton] at h; exact hxy h.symm)
        clear hxy
        go_wp2
        go_round
        case rel=>exact ⟨k + 1,by omega,by go_num,HN.out⟩
        case measure=>simp [intOf]; omega
    · obtain rfl:k=L:=by omega
      have HR:Hid (l.contains x=false):=Lib.hid (by
        rw [Bool.eq_false_iff]
        intro h
        rw [List.contains_iff_mem] at h
        exact HNO.out (by rw [List.take_of_length_le (by rw [HL.out]; omega)]; exact h))
      go_wp2
      go_returns
      exact ⟨by rw [← HZ.out,HR.out]; rfl,rfl⟩
noncomputable def ra1:Code:=((((Try.f43.body).map loopsOf).getD [])[0]?).getD .skip
noncomputable def ra2:Code:=((loopsOf (inLoop ra1))[0]?).getD .skip
structure Grow (N:Nat)(nx T0 T:List Int)(k:Nat):Prop where
  ext:∃ E,T=T0++E
  nd:T.Nodup
  bd:∀ x ∈ T,0≤x∧x < (N:Int)
  all:∀ (j:Nat) n,j < k→nx[j]? = some n→n ∈ T
  only:∀ x ∈ T,x ∈ T0∨x ∈ nx
set_option maxRecDepth 1000000 in
set_option maxHeartbeats 8000000 in
theorem ra2_any (w:World) (base N:Nat) (hN:N≤8192) (nx T0:List Int) (V0:Value) (A:Option Addr) (cap Ln:Nat) (hLn:nx.length=Ln) (hLn2:Ln≤100) (hown:OwnN w V0 T0) (hV:∀ b,V0.ownBlock=some b→base≤b) (hbase:base≤w.heap.size) (hR:RdN w A nx)
    (hA:∀ b o,A=some ⟨b,o,none⟩→V0.ownBlock≠some b) (hin:∀ n ∈ nx,0≤n∧n < (N:Int)) (hnd:T0.Nodup) (hbd:∀ x ∈ T0,0≤x∧x < (N:Int))
    {x0 x1 x2 x3 x4 x5 x6 x8 x9 x12 x13 x14 x15 x16 x17 x18 x19 x20 x21 x22 x23 x24 x25 x26 x27 x28 x29 x30 x31 x32 x33 x34 x35 x36 x37 x38 x39 x40 x41 x42 x43 x44 x45 x46 x47 x48 x49 x50 x51 x52 x53 x54 x55 x56 x57 x58 x59 x60 x61:Value} (Q:Exit→Act→World→Prop)
    (hexit:∀ (y7 y42 y43 y44 y45 y46 y47 y48 y49 y50 y51 y52 y53 y54 y55 y56 y57 y58 y59 y60 y61:Value) (w':World) (T:List Int),OwnN w' y7 T→(∀ b,y7.ownBlock=some b→base≤b)→Below base w w'→Grow N nx T0 T Ln→Q (.exit 2) ⟨(x0::x1::x2::x3::x4::x5::x6::y7::x8::x9::.slice A Ln cap::.int .i64 (Ln:Int)::x12::x13::x14::x15::x16::x17::x18::x19::x20::x21::x22::x23::x24::x25::x26::x27::x28::x29::x30::x31::x32::x33::x34::x35::x36::x37::x38::x39::x40::x41::y42::y43::y44::y45::y46::y47::y48::y49::y50::y51::y52::y53::y54::y55::y56::y57::y58::y59::y60::y61::[]).toArray,[]⟩ w') :
    Code.wp Try.prog ra2 Q ⟨(x0::x1::x2::x3::x4::x5::x6::V0::x8::x9::.slice A Ln cap::.int .i64 0::x12::x13::x14::x15::x16::x17::x18::x19::x20::x21::x22::x23::x24::x25::x26::x27::x28::x29::x30::x31::x32::x33::x34::x35::x36::x37::x38::x39::x40::x41::x42::x43::x44::x45::x46::x47::x48::x49::x50::x51::x52::x53::x54::x55::x56::x57::x58::x59::x60::x61::[]).toArray,[]⟩ w:=by
  conv=>arg 2; whnf
  have HE:=Lib.hid hexit
  have HLN:=Lib.hid hLn
  have HIN:=Lib.hid hin
  have H0:=Lib.hid (show OwnN w V0 T0∧(∀ b,V0.ownBlock=some b→base≤b)∧RdN w A nx∧(∀ b o,A=some ⟨b,o,none⟩→V0.ownBlock≠some b)∧Below base w w∧Grow N nx T0 T0 0 from ⟨hown,hV,hR,hA,Below.refl _ _,⟨[],by simp⟩,hnd,hbd,(fun j n hj=>by omega),fun x hx=>Or.inl hx⟩)
  clear hexit hLn hin hown hV hR hA hnd hbd
  go_loopw [7,11] (fun V ix wr=>∃ (k:Nat) (T:List Int),k≤Ln∧ix = .int .i64 k∧OwnN wr V T∧(∀ b,V.ownBlock=some b→base≤b)∧RdN wr A nx∧(∀ b o,A=some ⟨b,o,none⟩→V.ownBlock≠some b)∧Below base w wr∧Grow N nx T0 T k) (fun _ ix _=>Ln - (intOf ix).toNat)
  case atStart=>obtain ⟨a,b,c,d,e,f⟩:=H0.out; exact ⟨0,T0,by omega,rfl,a,b,c,d,e,f⟩
  case round =>
    obtain ⟨k,T,hk,rfl,hown,hV,hR,hA,hb,hg⟩:=hrel
    clear H0
    by_cases hlt:k < Ln
    · obtain ⟨n,hn⟩:∃ n,nx[k]? = some n:=⟨_,List.getElem?_eq_getElem (by rw [HLN.out]; exact hlt)⟩
      have hnb:=HIN.out n (List.mem_of_getElem? hn)
      obtain ⟨A1,c1,hVf,_,hrd⟩:=hown.form
      have hTl:T.length≤N:=nodup_le N T hg.nd hg.bd
      have hin:=fun W h=>In_any A1 T c1 n W h (by omega)
      obtain ⟨b,o,rfl,hbl,hc⟩:=hR k n hn
      have hsz:=hb.size
      have HOWN:=Lib.hid hown
      have HV:=Lib.hid hV
      have HR:=Lib.hid hR
      have HA:=Lib.hid hA
      have HB:=Lib.hid hb
      have HG:=Lib.hid hg
      have HN:=Lib.hid hn
      have HNB:=Lib.hid hnb
      have HRD:=Lib.hid hrd
      obtain ⟨y,hy⟩:∃ y,T.contains n=y:=⟨_,rfl⟩
      have hyb:y=true↔n ∈ T:=by rw [← hy,List.contains_iff_mem]
      rw [hy] at hin
      rw [← hVf] at hin
      have HINY:=Lib.hid hin
      have HYB:=Lib.hid hyb
      clear hown hV hR hA hb hg hn hnb hrd hin hy hyb hVf
      cases y with
      | true =>
        go_wp2_with (first
          | (refine (HINY.out _ HRD.out).mono ?_; rintro e w3 ⟨rfl,rfl⟩))
        exact ⟨⟨k + 1,T,by omega,by go_num,HOWN.out,HV.out,HR.out,HA.out,HB.out,HG.out.ext,HG.out.nd,HG.out.bd,fun j x hj hx=>by
          by_cases hjk:j=k
          · subst hjk
            rw [HN.out] at hx
            injection hx with hx
            subst hx
            exact HYB.out.1 (by simp)
          · exact HG.out.all j x (by omega) hx,HG.out.only⟩,by simp [intOf]; omega⟩
      | false =>
        have hno:Hid (n ∉ T):=Lib.hid (fun h=>by have:=HYB.out.2 h; cases this)
        have HTL:Hid (T.length≤90000):=Lib.hid (by omega)
        clear hTl
        go_wp2_with (first
          | (refine (HINY.out _ HRD.out).mono ?_; rintro e w3 ⟨rfl,rfl⟩)
          | (at_builtin; refine append_one rfl (.tmp 55) (.tmp 60) rfl u7 T rfl (HOWN.out.alloc _) wr.heap.size n rfl (heap_alloc_new _ _) HTL.out ?_; intro V' w8 ho8 hg8 hb8))
        refine ⟨⟨k + 1,T++[n],by omega,by go_num,ho8,fun x hx=>?_,?_,fun x oo hx=>?_,?_,?_⟩,by simp [intOf]; omega⟩
        · rcases hb8 with e | e
          · rw [e] at hx; exact HV.out x hx
          · rw [e] at hx; injection hx with hx; simp at hx; omega
        · exact (HR.out.below (Below.one _ _)).keepS hg8.size (fun x oo hx hl=>hg8.block x hl (fun e=>HA.out x oo hx e.symm))
        · intro e
          have hxb:b=x:=by injection hx with hx; injection hx
          rcases hb8 with e2 | e2
          · rw [e2] at e; exact HA.out x oo hx e
          · rw [e2] at e; injection e with e; simp at e; omega
        · exact Below.grown (HB.out.alloc (by omega) _) hg8 (by simp; omega) (fun x hx=>HV.out x hx)
        · obtain ⟨E,hE⟩:=HG.out.ext
          refine ⟨⟨E++[n],by rw [hE,List.append_assoc]⟩,?_,fun x hx=>?_,fun j x hj hx=>?_,fun x hx=>?_⟩
          · rw [List.nodup_append]
            exact ⟨HG.out.nd,by simp,fun a ha b' hb' e=>by
              simp only [List.mem_singleton] at hb'
              subst hb' e
              exact hno.out ha⟩
          · rcases List.mem_append.1 hx with h | h
            · exact HG.out.bd x h
            · simp only [List.mem_singleton] at h; subst h; exact HNB.out
          · by_cases hjk:j=k
            · subst hjk
              rw [HN.out] at hx
              injection hx with hx
              subst hx
              simp
            · exact List.mem_append_left _ (HG.out.all j x (by omega) hx)
          · rcases List.mem_append.1 hx with h | h
            · exact HG.out.only x h
            · simp only [List.mem_singleton] at h; subst h; exact Or.inr (List.mem_of_getElem? HN.out)
    · obtain rfl:k=Ln:=by omega
      have HX:=fun (y42 y43 y44 y45 y46 y47 y48 y49 y50 y51 y52 y53 y54 y55 y56 y57 y58 y59 y60 y61:Value)=>Lib.hid (HE.out u7 y42 y43 y44 y45 y46 y47 y48 y49 y50 y51 y52 y53 y54 y55 y56 y57 y58 y59 y60 y61 wr T hown hV hb hg)
      clear hown hV hR hA hb hg HE
      go_wp2
      exact (HX _ _ _ _ _ _ _ _ _ _ _ _ _ _ _ _ _ _ _ _).out
end Go.Proofs.Ythbcdckonaljiaa
namespace Go.Proofs.Ythbcdckonaljiaa
open Go.RowKit Go.BigFrame
structure Seen (f:Fn7)(a:Nat)(r:Int)(T:List Int)(k:Nat):Prop where
  hd:T[0]? = some (a:Int)
  nd:T.Nodup
  bd:∀ x ∈ T,0≤x∧x < (f.code.length:Int)
  kl:k≤T.length
  done:∀ (j:Nat) p i,j < k→T[j]? = some p→f.code[p.toNat]? = some i→r ∉ i.uses∧(i.sets=r∨∀ n ∈ i.next p.toNat,n ∈ T)
  way:∀ p ∈ T,Lv f.code p.toNat r→Lv f.code a r
theorem Seen.start {f:Fn7}{a:Nat}(ha:a < f.code.length)(r:Int):Seen f a r [(a:Int)] 0 :=
  ⟨rfl,by simp,fun x hx=>by simp only [List.mem_singleton] at hx; subst hx; omega,by simp,fun j p i hj=>by omega,fun p hp h=>by simp only [List.mem_singleton] at hp; subst hp; simpa using h⟩
theorem Seen.len {f:Fn7}{a:Nat}{r:Int}{T:List Int}{k:Nat}(h:Seen f a r T k):T.length≤f.code.length:=nodup_le _ T h.nd h.bd
theorem Seen.skip {f:Fn7}{a:Nat}{r:Int}{T:List Int}{k:Nat}(h:Seen f a r T k){p:Int}(hp:T[k]? = some p){i:Ins}(hi:f.code[p.toNat]? = some i)(hu:r ∉ i.uses)(hs:i.sets=r):Seen f a r T (k + 1) :=
  ⟨h.hd,h.nd,h.bd,by have:=(List.getElem?_eq_some_iff.1 hp).1; omega,fun j q x hj hq hx=>by
    by_cases hjk:j=k
    · subst hjk
      rw [hp] at hq
      injection hq with hq
      subst hq
      rw [hi] at hx
      injection hx with hx
      subst hx
      exact ⟨hu,Or.inl hs⟩
    · exact h.done j q x (by omega) hq hx,h.way⟩
theorem Seen.grow {f:Fn7}{a:Nat}{r:Int}{T T':List Int}{k Ln:Nat}(h:Seen f a r T k){p:Int}(hp:T[k]? = some p){i:Ins}(hi:f.code[p.toNat]? = some i)(hu:r ∉ i.uses)(hs:i.sets≠r)(hL:(i.next p.toNat).length=Ln)(hg:Grow f.code.length (i.next p.toNat) T T' Ln):Seen f a r T' (k + 1):=by
  obtain ⟨E,hE⟩:=hg.ext
  have hkl:=(List.getElem?_eq_some_iff.1 hp).1
  have hmem:∀ x,x ∈ T→x ∈ T':=fun x hx=>by rw [hE]; exact List.mem_append_left _ hx
  refine ⟨by rw [hE,List.getElem?_append_left (by omega)]; exact h.hd,hg.nd,hg.bd,by rw [hE,List.length_append]; omega,fun j q x hj hq hx=>?_,fun q hq hl=>?_⟩
  · rw [hE,List.getElem?_append_left (by omega)] at hq
    by_cases hjk:j=k
    · subst hjk
      rw [hp] at hq
      injection hq with hq
      subst hq
      rw [hi] at hx
      injection hx with hx
      subst hx
      refine ⟨hu,Or.inr fun n hn=>?_⟩
      obtain ⟨m,hm⟩:=List.mem_iff_getElem?.1 hn
      exact hg.all m n (by rw [← hL]; exact (List.getElem?_eq_some_iff.1 hm).1) hm
    · obtain ⟨h1,h2⟩:=h.done j q x (by omega) hq hx
      exact ⟨h1,h2.imp (fun h=>h) fun h n hn=>hmem _ (h n hn)⟩
  · rcases hg.only q hq with h1 | h1
    · exact h.way q h1 hl
    · exact h.way p (List.mem_of_getElem? hp) (Lv.step hi h1 hs hl)
theorem Seen.closed {f:Fn7} {a:Nat} {r:Int} {T:List Int} (h:Seen f a r T T.length):¬ Lv f.code a r:=by
  have:∀ p,Lv f.code p r→(p:Int) ∈ T→False:=fun p hl=>by
    induction hl with
    | use h' hu =>
      intro hm
      obtain ⟨j,hj⟩:=List.mem_iff_getElem?.1 hm
      exact (h.done j _ _ (List.getElem?_eq_some_iff.1 hj).1 hj (by simpa using h')).1 hu
    | @step p i n r h' hn hs hl ih =>
      intro hm
      obtain ⟨j,hj⟩:=List.mem_iff_getElem?.1 hm
      rcases (h.done j _ _ (List.getElem?_eq_some_iff.1 hj).1 hj (by simpa using h')).2 with h1 | h1
      · exact hs h1
      · have h2:=h1 n (by simpa using hn)
        have:=h.bd n h2
        exact ih h (by rw [Int.toNat_of_nonneg this.1]; exact h2)
  exact fun hl=>this a hl (List.mem_of_getElem? h.hd)
theorem OwnN.one (w:World)(x:Int):OwnN (w.alloc (.cells #[.int .i64 x] 3)) (.slice (some ⟨w.heap.size,0,none⟩) 1 1) [x] :=
  ⟨by simp,Or.inr ⟨w.heap.size,1,_,rfl,Nat.zero_le _,heap_alloc_new w _,Nat.le_refl _,by simp [maxLen],by simp,by simp⟩⟩
set_option maxRecDepth 1000000 in
set_option maxHeartbeats 16000000 in
theorem refAhead_any (f:Fn7) (hf:OkF f) (a:Nat) (ha:a < f.code.length) (r:Int) (C:Option Addr) (cap:Nat) (w:World) (hC:RdI w C f.code) :
    Calls Try.prog 43 #[funcAgg f.nm f.ps f.R f.Fr C f.code.length cap,.int .i64 a,.int .i64 r] w fun e w'=>e = .returned (.bool (tb (Lv f.code a r)))∧Below w.heap.size w w':=by
  obtain ⟨N,hN⟩:∃ N,f.code.length=N:=⟨_,rfl⟩
  have hN2:N≤8192:=by rw [← hN]; exact hf.len.2
  have hB:=Below.one w (funcObj f.nm f.ps f.R f.Fr C f.code.length cap)
  have bx:=heap_alloc_new w (funcObj f.nm f.ps f.R f.Fr C f.code.length cap)
  have hC1:=hC.below hB
  have H00:=Lib.hid (Seen.start ha r)
  rw [hN] at hB bx hC1 ha ⊢
  simp only [funcObj,funcAgg] at hB bx hC1 ⊢
  have HC1:=Lib.hid hC1
  have HB:=Lib.hid hB
  have HF:=Lib.hid hf
  have HN:=Lib.hid hN
  obtain ⟨z,hz⟩:∃ z,tb (Lv f.code a r)=z:=⟨_,rfl⟩
  rw [hz]
  have HZ:=Lib.hid hz
  obtain ⟨W,hW⟩:∃ W,w.alloc (.cells #[.string f.nm,.int .i64 f.ps,.int .i64 f.R,.int .i64 f.Fr,.slice C N cap] 26)=W:=⟨_,rfl⟩
  rw [hW] at bx HC1 HB
  have HBX:=Lib.hid bx
  have hBl:=(Array.getElem?_eq_some_iff.1 bx).1
  clear hf hN hC hB hC1 bx hz
  go_enter Try.func43,Try.ntmps43
  go_wp2
  have H0:=Lib.hid (show OwnN (W.alloc (.cells #[.int .i64 (a:Int)] 3)) (.slice (some ⟨W.heap.size,0,none⟩) 1 1) [(a:Int)]∧(∀ b,(Value.slice (some ⟨W.heap.size,0,none⟩) 1 1).ownBlock=some b→W.heap.size≤b)∧Below W.heap.size W (W.alloc (.cells #[.int .i64 (a:Int)] 3)) from ⟨OwnN.one W a,(fun b hb=>by simp [Value.ownBlock] at hb; omega),Below.one _ _⟩)
  clear hW
  go_loopg [7,8] N (fun g V ix wr=>∃ (k:Nat) (T:List Int),g=N - k∧ix = .int .i64 k∧OwnN wr V T∧(∀ b,V.ownBlock=some b→W.heap.size≤b)∧Below W.heap.size W wr∧Seen f a r T k)
  case atStart=>exact ⟨0,[(a:Int)],rfl,rfl,H0.out.1,H0.out.2.1,H0.out.2.2,H00.out⟩
  case round =>
    obtain ⟨k,T,hg,rfl,hown,hV,hb,hsn⟩:=hrel
    clear H0
    have HG:=Lib.hid hg
    have hTl:=hsn.len
    rw [HN.out] at hTl
    have hkl:=hsn.kl
    obtain ⟨A1,c1,hVf,hVl,hrd⟩:=hown.form
    obtain ⟨LT,hLT⟩:∃ LT,T.length=LT:=⟨_,rfl⟩
    rw [hLT] at hTl hkl hVf
    have HLT:=Lib.hid hLT
    have hsz:=hb.size
    subst hVf
    clear hg hLT
    have HOWN:=Lib.hid hown
    have HV:=Lib.hid hV
    have HB2:=Lib.hid hb
    have HSN:=Lib.hid hsn
    by_cases hlt:k < LT
    · obtain ⟨pp,hp⟩:∃ p,T[k]? = some p:=⟨_,List.getElem?_eq_getElem (by rw [HLT.out]; exact hlt)⟩
      have hpb:=hsn.bd pp (List.mem_of_getElem? hp)
      obtain ⟨p,rfl⟩:∃ p:Nat,pp=(p:Int):=⟨pp.toNat,by omega⟩
      have hpN:p < N:=by have:=hpb.2; rw [HN.out] at this; omega
      obtain ⟨b1,o1,rfl,hb1l,hct⟩:=hrd k _ hp
      obtain ⟨i,hi⟩:∃ i,f.code[p]? = some i:=⟨_,List.getElem?_eq_getElem (by rw [HN.out]; exact hpN)⟩
      obtain ⟨bb,oo,rfl,hbl,hcs⟩:=(HC1.out.below hb) p i hi
      obtain ⟨x0,x1,x2,x3,x4,x5,x6,x7,x8,x9,x10,x11,x12,x13,x14⟩:=RdI.load hcs
      have hx4:wr.heap[w.heap.size]? = _:=(hb.block _ hBl).trans HBX.out
      have g4:=cell_of_heap hx4 4 _ rfl
      have hll2:=(Array.getElem?_eq_some_iff.1 hx4).1
      obtain ⟨kk,op,dst,a',b',n,text,r0,r1,r2,r3,r4,r5,to_,els⟩:=i
      simp only at x0 x1 x2 x3 x4 x5 x6 x7 x8 x9 x10 x11 x12 x13 x14
      have HP:=Lib.hid hp
      have HI:=Lib.hid hi
      have HRD:=Lib.hid hrd
      have HVL:=Lib.hid hVl
      clear hown hV hb hsn hp hi hcs hpb hrd hx4 hVl
      go_wp2
      go_region
      have hkx:(wr.alloc (Ins.obj ⟨kk,op,dst,a',b',n,text,r0,r1,r2,r3,r4,r5,to_,els⟩)).drew.heap[wr.heap.size]? = some (Ins.obj ⟨kk,op,dst,a',b',n,text,r0,r1,r2,r3,r4,r5,to_,els⟩):=heap_alloc_new wr _
      have hwd:Below wr.heap.size wr (wr.alloc (Ins.obj ⟨kk,op,dst,a',b',n,text,r0,r1,r2,r3,r4,r5,to_,els⟩)).drew:=(Below.one wr _).drew
      simp only [Ins.obj] at hkx hwd
      have ⟨d0,d1,d2,d3,d4,d5,d6,d7,d8,d9,d10,d11,d12,d13,d14⟩:=Ins.cells (i:=⟨kk,op,dst,a',b',n,text,r0,r1,r2,r3,r4,r5,to_,els⟩) hkx
      simp only at d0 d1 d2 d3 d4 d5 d6 d7 d8 d9 d10 d11 d12 d13 d14
      have hua:=fun W=>refUses_any ⟨kk,op,dst,a',b',n,text,r0,r1,r2,r3,r4,r5,to_,els⟩ W
      have hsa:=fun W=>refSets_any ⟨kk,op,dst,a',b',n,text,r0,r1,r2,r3,r4,r5,to_,els⟩ W
      have hul:=Ins.uses_len ⟨kk,op,dst,a',b',n,text,r0,r1,r2,r3,r4,r5,to_,els⟩
      have HUS:Hid (∀ x,x ∈ Ins.uses ⟨kk,op,dst,a',b',n,text,r0,r1,r2,r3,r4,r5,to_,els⟩→Lv f.code p x):=Lib.hid fun x hx=>Lv.use HI.out hx
      obtain ⟨us,hus⟩:∃ us,Ins.uses ⟨kk,op,dst,a',b',n,text,r0,r1,r2,r3,r4,r5,to_,els⟩=us:=⟨_,rfl⟩
      obtain ⟨sr,hsr⟩:∃ sr,Ins.sets ⟨kk,op,dst,a',b',n,text,r0,r1,r2,r3,r4,r5,to_,els⟩=sr:=⟨_,rfl⟩
      have HU:=Lib.hid hus
      have HS:=Lib.hid hsr
      rw [hus] at hua hul HUS
      rw [hsr] at hsa
      obtain ⟨Lu,hLu⟩:∃ Lu,us.length=Lu:=⟨_,rfl⟩
      obtain ⟨y,hy⟩:∃ y,us.contains r=y:=⟨_,rfl⟩
      have hyb:y=true↔r ∈ us:=by rw [← hy,List.contains_iff_mem]
      have HUA:Hid (∀ W,Calls Try.prog 60 #[.agg #[.int .i64 kk,.int .i64 op,.int .i64 dst,.int .i64 a',.int .i64 b',.int .i64 n,.string text,.int .i64 r0,.int .i64 r1,.int .i64 r2,.int .i64 r3,.int .i64 r4,.int .i64 r5,.int .i64 to_,.int .i64 els]] W fun e w'=>(∃ A c,e = .returned (.slice A Lu c)∧RdN w' A us)∧Below W.heap.size W w'):=Lib.hid fun W=>(hua W).mono fun e w' ⟨⟨A,c,h1,h2⟩,h3⟩=>⟨⟨A,c,by rw [h1,hLu],h2⟩,h3⟩
      have HIN:Hid (∀ A c W,RdN W A us→Calls Try.prog 63 #[.slice A Lu c,.int .i64 r] W fun e w'=>e = .returned (.bool y)∧W=w'):=Lib.hid fun A c W h=>by
        have:=In_any A us c r W h (by omega)
        rw [hLu,hy] at this
        exact this
      have HSA:=Lib.hid hsa
      have HYB:=Lib.hid hyb
      have HKX:=Lib.hid hkx
      have HWD:=Lib.hid hwd
      simp only [Ins.agg] at HUA HSA
      clear hua hsa hul hus hsr hLu hy hyb hkx hwd
      cases y with
      | true =>
        have HZT:Hid (z=true):=Lib.hid (by
          rw [← HZ.out,tb_true]
          exact HSN.out.way p (List.mem_of_getElem? HP.out) (by rw [Int.toNat_natCast]; exact HUS.out r (HYB.out.1 rfl)))
        go_wp2_with (first
          | (refine (HUA.out _).mono ?_; rintro e w5 ⟨⟨A5,c5,rfl,hrd5⟩,hb5⟩; have HRD5:=Lib.hid hrd5; clear hrd5)
          | (refine (HIN.out _ _ _ HRD5.out).mono ?_; rintro e w6 ⟨rfl,rfl⟩))
        go_returns
        exact ⟨by rw [HZT.out]; rfl,HB.out.trans ((HB2.out.trans ((HWD.out.trans (hb5.mono HWD.out.size)).mono hsz)).mono HB.out.size)⟩
      | false =>
        by_cases hsr:sr=r
        · have q1:(sr == r)=true:=by simp [hsr]
          have HNX:Hid (Seen f a r T (k + 1)):=Lib.hid (HSN.out.skip HP.out (i:=⟨kk,op,dst,a',b',n,text,r0,r1,r2,r3,r4,r5,to_,els⟩) (by rw [Int.toNat_natCast]; exact HI.out) (by rw [HU.out]; exact fun h=>by have:=HYB.out.2 h; cases this) (by rw [HS.out]; exact hsr))
          clear hsr
          go_wp2_with (first
            | (refine (HUA.out _).mono ?_; rintro e w5 ⟨⟨A5,c5,rfl,hrd5⟩,hb5⟩; have HRD5:=Lib.hid hrd5; have hk5:=(hb5.block _ (Array.getElem?_eq_some_iff.1 HKX.out).1).trans HKX.out; have ⟨d0,d1,d2,d3,d4,d5,d6,d7,d8,d9,d10,d11,d12,d13,d14⟩:=Ins.cells (i:=⟨kk,op,dst,a',b',n,text,r0,r1,r2,r3,r4,r5,to_,els⟩) hk5; simp only at d0 d1 d2 d3 d4 d5 d6 d7 d8 d9 d10 d11 d12 d13 d14; clear hrd5 hk5)
            | (refine (HIN.out _ _ _ HRD5.out).mono ?_; rintro e w6 ⟨rfl,rfl⟩)
            | (refine (HSA.out _).mono ?_; rintro e w7 ⟨rfl,hb7⟩))
          have hbw:=(HWD.out.trans (hb5.mono HWD.out.size)).trans (hb7.mono (Nat.le_trans HWD.out.size hb5.size))
          go_roundg (N - (k + 1))
          case measure=>rw [HG.out]; omega
          case rel=>exact ⟨k + 1,T,rfl,by go_num,HOWN.out.later hbw,HV.out,HB2.out.trans (hbw.mono hsz),HNX.out⟩
        · have q1:(sr == r)=false:=by simp [hsr]
          have hna:=fun W=>refNext_fr ⟨kk,op,dst,a',b',n,text,r0,r1,r2,r3,r4,r5,to_,els⟩ p (by omega) W
          have hnl:=Ins.next_len ⟨kk,op,dst,a',b',n,text,r0,r1,r2,r3,r4,r5,to_,els⟩ p
          have hnxt:=HF.out.next HI.out
          have HNX:Hid (∀ T' Ln,(Ins.next ⟨kk,op,dst,a',b',n,text,r0,r1,r2,r3,r4,r5,to_,els⟩ p).length=Ln→Grow N (Ins.next ⟨kk,op,dst,a',b',n,text,r0,r1,r2,r3,r4,r5,to_,els⟩ p) T T' Ln→Seen f a r T' (k + 1)):=Lib.hid fun T' Ln hL hg=>HSN.out.grow (i:=⟨kk,op,dst,a',b',n,text,r0,r1,r2,r3,r4,r5,to_,els⟩) (Ln:=Ln) HP.out (by rw [Int.toNat_natCast]; exact HI.out) (by rw [HU.out]; exact fun h=>by have:=HYB.out.2 h; cases this) (by rw [HS.out]; exact hsr) (by rw [Int.toNat_natCast]; exact hL) (by rw [Int.toNat_natCast,HN.out]; exact hg)
          obtain ⟨nx,hnx⟩:∃ nx,Ins.next ⟨kk,op,dst,a',b',n,text,r0,r1,r2,r3,r4,r5,to_,els⟩ p=nx:=⟨_,rfl⟩
          rw [hnx] at hna hnl hnxt HNX
          obtain ⟨Ln,hLn⟩:∃ Ln,nx.length=Ln:=⟨_,rfl⟩
          have HNA:Hid (∀ W,Calls Try.prog 62 (#[.agg #[.int .i64 kk,.int .i64 op,.int .i64 dst,.int .i64 a',.int .i64 b',.int .i64 n,.string text,.int .i64 r0,.int .i64 r1,.int .i64 r2,.int .i64 r3,.int .i64 r4,.int .i64 r5,.int .i64 to_,.int .i64 els]].push (.int .i64 p)) W fun e w'=>(∃ A c,e = .returned (.slice A Ln c)∧RdN w' A nx∧∀ b o,A=some ⟨b,o,none⟩→W.heap.size≤b)∧Below W.heap.size W w'):=Lib.hid fun W=>(hna W).mono fun e w' ⟨⟨A,c,h1,h2,h3⟩,h4⟩=>⟨⟨A,c,by rw [h1,hLn],h2,h3⟩,h4⟩
          simp only [List.push_toArray,List.cons_append,List.nil_append] at HNA
          have HLn:=Lib.hid hLn
          have HNXT:Hid (∀ n ∈ nx,0≤n∧n < (N:Int)):=Lib.hid fun n hn=>by
            have:=hnxt n hn
            rw [HN.out] at this
            omega
          have HLn2:Hid (Ln≤100):=Lib.hid (by omega)
          clear hsr hna hnl hnxt hnx hLn
          go_wp2_with (first
            | (refine (HUA.out _).mono ?_; rintro e w5 ⟨⟨A5,c5,rfl,hrd5⟩,hb5⟩; have HRD5:=Lib.hid hrd5; have hk5:=(hb5.block _ (Array.getElem?_eq_some_iff.1 HKX.out).1).trans HKX.out; have ⟨d0,d1,d2,d3,d4,d5,d6,d7,d8,d9,d10,d11,d12,d13,d14⟩:=Ins.cells (i:=⟨kk,op,dst,a',b',n,text,r0,r1,r2,r3,r4,r5,to_,els⟩) hk5; simp only at d0 d1 d2 d3 d4 d5 d6 d7 d8 d9 d10 d11 d12 d13 d14; have HK5:=Lib.hid hk5; clear hrd5 hk5)
            | (refine (HIN.out _ _ _ HRD5.out).mono ?_; rintro e w6 ⟨rfl,rfl⟩)
            | (refine (HSA.out _).mono ?_; rintro e w7 ⟨rfl,hb7⟩; have hk7:=(hb7.block _ (Array.getElem?_eq_some_iff.1 HK5.out).1).trans HK5.out; have ⟨d0,d1,d2,d3,d4,d5,d6,d7,d8,d9,d10,d11,d12,d13,d14⟩:=Ins.cells (i:=⟨kk,op,dst,a',b',n,text,r0,r1,r2,r3,r4,r5,to_,els⟩) hk7; simp only at d0 d1 d2 d3 d4 d5 d6 d7 d8 d9 d10 d11 d12 d13 d14; clear hk7))
          have hbw:=(HWD.out.trans (hb5.mono HWD.out.size)).trans (hb7.mono (Nat.le_trans HWD.out.size hb5.size))
          obtain ⟨b2,o2,e2,_,ct7⟩:=(HRD.out.below hbw) k _ HP.out
          injection e2 with e2
          injection e2 with e2 e3
          subst e2 e3
          have HBW:=Lib.hid hbw
          clear hbw
          go_still_tail 5,(by kernel_rfl)
          go_wp2_with (first
            | (refine (HNA.out _).mono ?_; rintro e w8 ⟨⟨A8,c8,rfl,hrd8,hfr8⟩,hb8⟩))
          have hbw8:Below wr.heap.size wr w8:=HBW.out.trans ((((Below.refl w7.heap.size w7).drew).trans hb8).mono HBW.out.size)
          have hs7:wr.heap.size≤w7.heap.size:=HBW.out.size
          have hfre:∀ b o,A8=some ⟨b,o,none⟩→(Value.slice (some ⟨b1,o1,none⟩) LT c1).ownBlock≠some b:=fun b o h e=>by
            have h1:=hfr8 b o h
            have h2:=HVL.out b e
            have h3:w7.heap.size≤b:=h1
            omega
          refine ra2_any w8 W.heap.size N hN2 nx T (.slice (some ⟨b1,o1,none⟩) LT c1) A8 c8 Ln HLn.out HLn2.out (HOWN.out.later hbw8) HV.out (Nat.le_trans hsz hbw8.size) hrd8 hfre HNXT.out HSN.out.nd (fun x hx=>by have:=HSN.out.bd x hx; rw [HN.out] at this; exact this) _ ?_
          intro z7 z42 z43 z44 z45 z46 z47 z48 z49 z50 z51 z52 z53 z54 z55 z56 z57 z58 z59 z60 z61 w9 T' hown9 hV9 hb9 hg9
          have HSN9:=Lib.hid (HNX.out T' Ln HLn.out hg9)
          have HO9:=Lib.hid hown9
          have HV9:=Lib.hid hV9
          have HB9:=Lib.hid ((HB2.out.trans (hbw8.mono hsz)).trans hb9)
          clear hown9 hV9 hb9 hg9 hbw8 hb8 hrd8 hfr8
          go_wp2
          go_roundg (N - (k + 1))
          case measure=>rw [HG.out]; omega
          case rel=>exact ⟨k + 1,T',rfl,by go_num,HO9.out,HV9.out,HB9.out,HSN9.out⟩
    · obtain rfl:k=LT:=by omega
      have HZF:Hid (z=false):=Lib.hid (by
        rw [← HZ.out,tb_false]
        have h:=HSN.out
        rw [← HLT.out] at h
        exact h.closed)
      clear hown hV hb hsn hrd hVl
      go_wp2
      go_returns
      exact ⟨by rw [HZF.out]; rfl,HB.out.trans (HB2.out.mono HB.out.size)⟩
end Go.Proofs.Ythbcdckonaljiaa
namespace Go.Proofs.Ythbcdckonaljiaa
open Go.RowKit Go.BigFrame
set_option maxRecDepth 1000000 in
set_option maxHeartbeats 16000000 in
theorem refBehind_any (f:Fn7) (hf:OkF f) (a:Nat) (ha:a < f.code.length) (r:Int) (C:Option Addr) (cap:Nat) (w:World) (hC:RdI w C f.code) :
    Calls Try.prog 42 #[funcAgg f.nm f.ps f.R f.Fr C f.code.length cap,.int .i64 a,.int .i64 r] w fun e w'=>e = .returned (.bool (tb (Bh f.code a r)))∧Below w.heap.size w w':=by
  obtain ⟨N,hN⟩:∃ N,f.code.length=N:=⟨_,rfl⟩
  have hN2:N≤8192:=by rw [← hN]; exact hf.len.2
  have hB:=Below.one w (funcObj f.nm f.ps f.R f.Fr C f.code.length cap)
  have bx:=heap_alloc_new w (funcObj f.nm f.ps f.R f.Fr C f.code.length cap)
  have hC1:=hC.below hB
  obtain ⟨i,hi⟩:∃ i,f.code[a]? = some i:=⟨_,List.getElem?_eq_getElem ha⟩
  have hRA:=fun (m:Nat) (hm:m < f.code.length) W h=>refAhead_any f hf m hm r C cap W h
  have hnxt:=hf.next hi
  rw [hN] at hB bx hC1 ha hRA hnxt ⊢
  simp only [funcObj,funcAgg] at hB bx hC1 hRA ⊢
  obtain ⟨bb,oo,rfl,hbl,hcs⟩:=hC a i hi
  obtain ⟨x0,x1,x2,x3,x4,x5,x6,x7,x8,x9,x10,x11,x12,x13,x14⟩:=RdI.load hcs
  have hna:=fun W=>refNext_any i a (by omega) W
  have hnl:=Ins.next_len i a
  have hBH:(Bh f.code a r)↔∃ n ∈ i.next a,Lv f.code n.toNat r:=⟨fun ⟨i',h1,h2⟩=>by
    rw [hi] at h1
    injection h1 with h1
    subst h1
    exact h2,fun h=>⟨i,hi,h⟩⟩
  obtain ⟨nx,hnx⟩:∃ nx,i.next a=nx:=⟨_,rfl⟩
  rw [hnx] at hna hnl hnxt hBH
  obtain ⟨Ln,hLn⟩:∃ Ln,nx.length=Ln:=⟨_,rfl⟩
  have hLn3:Ln≤2:=by omega
  have hNA:∀ W,Calls Try.prog 62 #[i.agg,.int .i64 a] W fun e w'=>(∃ A c,e = .returned (.slice A Ln c)∧RdN w' A nx)∧Below W.heap.size W w':=fun W=>(hna W).mono fun e w' ⟨⟨A,c,h1,h2⟩,h3⟩=>⟨⟨A,c,by rw [h1,hLn],h2⟩,h3⟩
  obtain ⟨kk,op,dst,a',b',n,text,r0,r1,r2,r3,r4,r5,to_,els⟩:=i
  simp only [Ins.agg] at x0 x1 x2 x3 x4 x5 x6 x7 x8 x9 x10 x11 x12 x13 x14 hNA
  obtain ⟨z,hz⟩:∃ z,tb (Bh f.code a r)=z:=⟨_,rfl⟩
  rw [hz]
  have HZ:=Lib.hid hz
  have HNA:=Lib.hid hNA
  have HLN:=Lib.hid hLn
  have HNX:=Lib.hid hnxt
  have HBH:=Lib.hid hBH
  have HRA:=Lib.hid hRA
  have HC1:=Lib.hid hC1
  have HBX:=Lib.hid bx
  have HB:=Lib.hid hB
  have hBl:=(Array.getElem?_eq_some_iff.1 bx).1
  clear hf hN hC hB hC1 hRA bx hz hNA hLn hnxt hBH hna hnx hi hcs
  go_enter Try.func42,Try.ntmps42
  go_wp2_with (first
    | (refine (HNA.out _).mono ?_; rintro e w3 ⟨⟨A,c3,rfl,hrd⟩,hb3⟩; have HRD:=Lib.hid hrd; clear hrd))
  have HB3:=Lib.hid hb3
  clear hb3 x0 x1 x2 x3 x4 x5 x6 x7 x8 x9 x10 x11 x12 x13 x14
  go_loopw [8] (fun ix wr=>∃ k:Nat,k≤Ln∧ix = .int .i64 k∧Below w3.heap.size w3 wr∧∀ (j:Nat) m,j < k→nx[j]? = some m→¬ Lv f.code m.toNat r) (fun ix _=>Ln - (intOf ix).toNat)
  case atStart=>exact ⟨0,by omega,rfl,Below.refl _ _,fun j m hj=>by omega⟩
  case round =>
    obtain ⟨k,hk,rfl,hb,hno⟩:=hrel
    have HNO:=Lib.hid hno
    clear hno
    have hsz:w.heap.size≤w3.heap.size:=Nat.le_trans HB.out.size HB3.out.size
    by_cases hlt:k < Ln
    · obtain ⟨mm,hm⟩:∃ m,nx[k]? = some m:=⟨_,List.getElem?_eq_getElem (by rw [HLN.out]; exact hlt)⟩
      have hmb:=HNX.out mm (List.mem_of_getElem? hm)
      obtain ⟨m,rfl⟩:∃ m:Nat,mm=(m:Int):=⟨mm.toNat,by omega⟩
      have hmN:m < N:=by have:=hmb.2; rwa [Int.toNat_natCast] at this
      obtain ⟨b,o,rfl,hbl2,hc⟩:=(HRD.out.below hb) k _ hm
      have hx4:wr.heap[w.heap.size]? = _:=(hb.block _ (Nat.lt_of_lt_of_le hBl HB3.out.size)).trans ((HB3.out.block _ hBl).trans HBX.out)
      have g0:=cell_of_heap hx4 0 _ rfl
      have g1:=cell_of_heap hx4 1 _ rfl
      have g2:=cell_of_heap hx4 2 _ rfl
      have g3:=cell_of_heap hx4 3 _ rfl
      have g4:=cell_of_heap hx4 4 _ rfl
      have hra:=fun W h=>HRA.out m hmN W h
      obtain ⟨y,hy⟩:∃ y,tb (Lv f.code m r)=y:=⟨_,rfl⟩
      rw [hy] at hra
      have HRM:=Lib.hid hra
      have HY:=Lib.hid hy
      have HM:=Lib.hid hm
      have HBB:=Lib.hid hb
      have hcw:=HC1.out
      have hrdc:RdI wr (some ⟨bb,oo,none⟩) f.code:=(HC1.out.below HB3.out).below hb
      have HRC:=Lib.hid hrdc
      have l0:=fun s:Later wr=>Later.cell g0 s
      have l1:=fun s:Later wr=>Later.cell g1 s
      have l2:=fun s:Later wr=>Later.cell g2 s
      have l3:=fun s:Later wr=>Later.cell g3 s
      have l4:=fun s:Later wr=>Later.cell g4 s
      have lc:=fun s:Later wr=>Later.cell hc s
      clear hra hy hm hb hcw hrdc hx4 hmb
      go_wp2
      refine wp_region_later (by kernel_rfl) (by kernel_rfl) ?_
      repeat (go_big_quiet_step ((go_at_call 43; exact Calls.later (HRM.out _ (HRC.out.below (Later.h _))))))
      refine wpQuiet_nil ?_
      rintro w4 ⟨s',rfl⟩
      have hb4:=HBB.out.trans (s'.h.mono HBB.out.size)
      clear l0 l1 l2 l3 l4 lc g0 g1 g2 g3 g4 hc
      generalize s'.w=w4 at *
      cases y with
      | true =>
        have HZT:Hid (z=true):=Lib.hid (by
          rw [← HZ.out,tb_true]
          exact HBH.out.2 ⟨m,List.mem_of_getElem? HM.out,by rw [Int.toNat_natCast]; exact tb_true.1 HY.out⟩)
        go_wp2
        go_returns
        exact ⟨by rw [HZT.out]; rfl,HB.out.trans ((HB3.out.trans (hb4.mono HB3.out.size)).mono HB.out.size)⟩
      | false =>
        go_wp2
        exact ⟨⟨k + 1,by omega,by go_num,hb4,fun j m' hj hm'=>by
          by_cases hjk:j=k
          · subst hjk
            rw [HM.out] at hm'
            injection hm' with hm'
            subst hm'
            rw [Int.toNat_natCast]
            exact tb_false.1 HY.out
          · exact HNO.out j m' (by omega) hm'⟩,by simp [intOf]; omega⟩
    · obtain rfl:k=Ln:=by omega
      have HZF:Hid (z=false):=Lib.hid (by
        rw [← HZ.out,tb_false]
        intro h
        obtain ⟨n',h1,h2⟩:=HBH.out.1 h
        obtain ⟨j,hj⟩:=List.mem_iff_getElem?.1 h1
        exact HNO.out j n' (by have:=(List.getElem?_eq_some_iff.1 hj).1; rw [HLN.out] at this; exact this) hj h2)
      have HBB:=Lib.hid hb
      clear hb
      go_wp2
      go_returns
      exact ⟨by rw [HZF.out]; rfl,HB.out.trans ((HB3.out.trans (HBB.out.mono HB3.out.size)).mono HB.out.size)⟩
end Go.Proofs.Ythbcdckonaljiaa
namespace Go.Proofs.Ythbcdckonaljiaa
def kl (G:Nat→Bool)(k:Nat):List Nat:=(List.range k).filter fun p=>!G p
def toI (G:Nat→Bool)(p:Nat):Nat:=(kl G p).length
theorem kl_succ (G:Nat→Bool)(k:Nat):kl G (k + 1)=if G k=true then kl G k else kl G k++[k]:=by
  unfold kl
  rw [List.range_succ,List.filter_append]
  cases h:G k <;> simp [h]
theorem toI_succ (G:Nat→Bool)(k:Nat):toI G (k + 1)=if G k=true then toI G k else toI G k + 1:=by
  unfold toI
  rw [kl_succ]
  split <;> simp
theorem toI_le (G:Nat→Bool):∀ k,toI G k≤k
  | 0=>Nat.le_refl _
  | k + 1=>by
    have:=toI_le G k
    rw [toI_succ]
    split <;> omega
theorem kl_inv (G:Nat→Bool):∀ {N q p:Nat},(kl G N)[q]? = some p→p < N∧G p=false∧toI G p=q
  | 0,q,p,h=>by simp [kl] at h
  | N + 1,q,p,h=>by
    rw [kl_succ] at h
    split at h
    · obtain ⟨h1,h2,h3⟩:=kl_inv G h
      exact ⟨by omega,h2,h3⟩
    · rename_i hG
      by_cases hq:q < (kl G N).length
      · rw [List.getElem?_append_left hq] at h
        obtain ⟨h1,h2,h3⟩:=kl_inv G h
        exact ⟨by omega,h2,h3⟩
      · rw [List.getElem?_append_right (by omega)] at h
        have hq2:q - (kl G N).length=0:=by
          have:=(List.getElem?_eq_some_iff.1 h).1
          simp at this
          omega
        rw [hq2] at h
        injection h with h
        subst h
        exact ⟨by omega,by simpa using hG,by show (kl G N).length=q; omega⟩
def fixI (G:Nat→Bool)(i:Ins):Ins:={ i with to_:=if i.kind=11∨i.kind=12 then (toI G i.to_.toNat:Int) else i.to_,els:=if i.kind=12 then (toI G i.els.toNat:Int) else i.els }
def insD (l:List Ins)(p:Nat):Ins:=l.getD p ⟨0,0,0,0,0,0,⟨#[]⟩,0,0,0,0,0,0,0,0⟩
theorem insD_in {l:List Ins}{p:Nat}(h:p < l.length):l[p]? = some (insD l p):=by simp [insD,List.getD,h]
def wout (G:Nat→Bool)(l:List Ins):List Ins:=(kl G l.length).map fun p=>fixI G (insD l p)
theorem wout_len (G:Nat→Bool)(l:List Ins):(wout G l).length=toI G l.length:=by simp [wout,toI]
theorem wout_inv {G:Nat→Bool}{l:List Ins}{q:Nat}{j:Ins}(h:(wout G l)[q]? = some j):∃ p i,l[p]? = some i∧G p=false∧toI G p=q∧j=fixI G i:=by
  unfold wout at h
  rw [List.getElem?_map] at h
  cases hk:(kl G l.length)[q]? with
  | none=>rw [hk] at h; cases h
  | some p =>
    rw [hk] at h
    injection h with h
    obtain ⟨h1,h2,h3⟩:=kl_inv G hk
    exact ⟨p,insD l p,insD_in h1,h2,h3,h.symm⟩
theorem fixI_ok {G:Nat→Bool}{i:Ins}{R Fr:Int}{L L':Nat}(h:Ok i R Fr L)(hn:∀ n:Nat,(n:Int) ∈ i.next 0→i.kind=11∨i.kind=12→toI G n < L'):Ok (fixI G i) R Fr L':=by
  have hk:=h.kind
  have hm:=h.mask
  refine ⟨h.kind,h.uses,h.dst,h.word,h.fr,h.call,h.one,h.two,fun e=>?_,fun e=>?_,?_⟩
  · have e':i.kind=11∨i.kind=12:=e
    have h1:=h.to_ e'
    show (0:Int)≤(if i.kind=11∨i.kind=12 then (toI G i.to_.toNat:Int) else i.to_)∧(if i.kind=11∨i.kind=12 then (toI G i.to_.toNat:Int) else i.to_) < (L':Int)
    rw [if_pos e']
    have:=hn i.to_.toNat (by
      rw [Int.toNat_of_nonneg h1.1]
      unfold Ins.next
      rcases e' with e' | e'
      · rw [if_pos e']; simp
      · rw [if_neg (by omega),if_pos e']; simp) e'
    omega
  · have e':i.kind=12:=e
    have h1:=h.els e'
    show (0:Int)≤(if i.kind=12 then (toI G i.els.toNat:Int) else i.els)∧(if i.kind=12 then (toI G i.els.toNat:Int) else i.els) < (L':Int)
    rw [if_pos e']
    have:=hn i.els.toNat (by
      rw [Int.toNat_of_nonneg h1.1]
      unfold Ins.next
      rw [if_neg (by omega),if_pos e']; simp) (Or.inr e')
    omega
  · obtain ⟨k,op,dst,a,b,n,text,r0,r1,r2,r3,r4,r5,to_,els⟩:=i
    simp only [Ins.mask,fixI,Ins.mk.injEq] at hm ⊢
    obtain ⟨_,m1,m2,m3,m4,m5,m6,m7,m8,m9,m10,m11,m12,m13,m14⟩:=hm
    refine ⟨trivial,m1,m2,m3,m4,m5,m6,m7,m8,m9,m10,m11,m12,?_,?_⟩
    · by_cases e:k=11∨k=12
      · rw [if_pos e,if_pos e]
      · rw [if_neg e,if_neg e]; rw [if_neg e] at m13; exact m13
    · by_cases e:k=12
      · rw [if_pos e,if_pos e]
      · rw [if_neg e,if_neg e]; rw [if_neg e] at m14; exact m14
inductive Rch (l:List Ins):Nat→Prop
  | zero (h:0 < l.length):Rch l 0
  | step {p:Nat} {i:Ins} {n:Int} (hr:Rch l p) (h:l[p]? = some i) (hn:n ∈ i.next p):Rch l n.toNat
theorem Rch.lt {f:Fn7}(hf:OkF f){p:Nat}(h:Rch f.code p):p < f.code.length:=by
  cases h with
  | zero h=>exact h
  | step _ h hn=>exact (hf.next h _ hn).2
structure Fits (G:Nat→Bool)(f:Fn7):Prop where
  tgt:∀ (p:Nat) i,f.code[p]? = some i→G p=false→∀ n ∈ i.next p,toI G n.toNat < toI G f.code.length
  last:∀ (p:Nat) i,f.code[p]? = some i→G p=false→toI G p + 1=toI G f.code.length→11≤i.kind
  pos:0 < toI G f.code.length
def wF (G:Nat→Bool)(f:Fn7):Fn7:={ f with code:=wout G f.code }
theorem next0 {i:Ins}(h:i.kind=11∨i.kind=12)(p q:Int):i.next p=i.next q:=by
  unfold Ins.next
  rcases h with h | h
  · rw [if_pos h,if_pos h]
  · rw [if_neg (by omega),if_pos h,if_neg (by omega),if_pos h]
theorem Fits.ok {G:Nat→Bool}{f:Fn7}(hf:OkF f)(h:Fits G f):OkF (wF G f):=by
  have hlen:(wF G f).code.length=toI G f.code.length:=wout_len G f.code
  refine ⟨hf.nm,hf.ps,hf.R,hf.Fr,by rw [hlen]; have:=toI_le G f.code.length; have:=hf.len; have:=h.pos; omega,fun i hi=>?_,fun i hi=>?_⟩
  · obtain ⟨q,hq⟩:=List.mem_iff_getElem?.1 hi
    obtain ⟨p,j,h1,h2,h3,rfl⟩:=wout_inv (show (wout G f.code)[q]? = some i from hq)
    rw [hlen]
    exact fixI_ok (hf.ok j (List.mem_of_getElem? h1)) (fun n hn hk=>by
      have:=h.tgt p j h1 h2 n (by rw [next0 hk p 0]; exact hn)
      simpa using this)
  · rw [hlen] at hi
    obtain ⟨p,j,h1,h2,h3,rfl⟩:=wout_inv (show (wout G f.code)[toI G f.code.length - 1]? = some i from hi)
    have:=h.pos
    exact h.last p j h1 h2 (by omega)
end Go.Proofs.Ythbcdckonaljiaa
namespace Go.Proofs.Ythbcdckonaljiaa
open Go.RowKit Go.BigFrame
def bl (N:Nat)(m:Nat→Bool):List Bool:=(List.range N).map m
def setM (m:Nat→Bool)(p:Nat):Nat→Bool:=fun q=>decide (q=p) || m q
theorem bl_get {N:Nat}{m:Nat→Bool}{p:Nat}(h:p < N):(bl N m)[p]? = some (m p):=by simp [bl,h]
theorem bl_set {N:Nat}{m:Nat→Bool}{p:Nat}:(bl N m).set p true=bl N (setM m p):=by
  apply List.ext_getElem?
  intro j
  by_cases hj:j < N
  · rw [List.getElem?_set,bl_get hj,bl_get hj]
    by_cases h:p=j
    · subst h; simp [bl,hj,setM]
    · rw [if_neg h]; simp [setM,Ne.symm h]
  · rw [List.getElem?_eq_none (by simp [bl]; omega),List.getElem?_eq_none (by simp [bl]; omega)]
def cntF (N:Nat)(m:Nat→Bool):Nat:=(List.range N).countP fun p=>!m p
theorem cntF_lt {N:Nat}{m:Nat→Bool}{p:Nat}(hp:p < N)(h:m p=false):cntF N (setM m p) < cntF N m :=
  countP_lt (fun x _ hx=>by simp [setM] at hx ⊢; exact hx.2) ⟨p,List.mem_range.2 hp,by simp [h],by simp [setM]⟩
structure Mk (f:Fn7)(m:Nat→Bool)(T:List Int):Prop where
  lo:∀ p,m p=true→Rch f.code p
  td:∀ x ∈ T,0≤x∧Rch f.code x.toNat
  z:m 0=true∨(0:Int) ∈ T
  cl:∀ p i,m p=true→f.code[p]? = some i→∀ n ∈ i.next p,m n.toNat=true∨n ∈ T
  len:T.length + 2 * cntF f.code.length m≤2 * f.code.length + 1
theorem Mk.start {f:Fn7}(hf:OkF f):Mk f (fun _=>false) [0] :=
  ⟨(fun p h=>by cases h),fun x hx=>by
    simp only [List.mem_singleton] at hx
    subst hx
    exact ⟨Int.le_refl _,Rch.zero (by have:=hf.len; omega)⟩,Or.inr (by simp),(fun p i h=>by cases h),by
    have:cntF f.code.length (fun _=>false)≤f.code.length:=by
      unfold cntF
      have:=List.countP_le_length (p:=fun p=>!(fun _:Nat=>false) p) (l:=List.range f.code.length)
      rwa [List.length_range] at this
    simp; omega⟩
theorem Mk.skip {f:Fn7} {m:Nat→Bool} {T:List Int} {x:Int} (h:Mk f m (T++[x])) (hm:m x.toNat=true):Mk f m T:=by
  refine ⟨h.lo,fun y hy=>h.td y (by simp [hy]),?_,fun p i hp hi n hn=>?_,by have:=h.len; simp at this; omega⟩
  · rcases h.z with hz | hz
    · exact Or.inl hz
    · rcases List.mem_append.1 hz with hz | hz
      · exact Or.inr hz
      · simp only [List.mem_singleton] at hz
        subst hz
        exact Or.inl hm
  · rcases h.cl p i hp hi n hn with h1 | h1
    · exact Or.inl h1
    · rcases List.mem_append.1 h1 with h1 | h1
      · exact Or.inr h1
      · simp only [List.mem_singleton] at h1
        subst h1
        exact Or.inl hm
theorem Mk.add {f:Fn7} (hf:OkF f) {m:Nat→Bool} {T:List Int} {p:Nat} {i:Ins} (h:Mk f m (T++[(p:Int)])) (hm:m p=false) (hi:f.code[p]? = some i):Mk f (setM m p) (T++i.next p):=by
  have hr:Rch f.code p:=by have:=(h.td (p:Int) (by simp)).2; simpa using this
  have hp:=(List.getElem?_eq_some_iff.1 hi).1
  refine ⟨fun q hq=>?_,fun y hy=>?_,?_,fun q j hq hj n hn=>?_,?_⟩
  · unfold setM at hq
    rw [Bool.or_eq_true,decide_eq_true_eq] at hq
    rcases hq with rfl | hq
    · exact hr
    · exact h.lo q hq
  · rcases List.mem_append.1 hy with hy | hy
    · exact h.td y (by simp [hy])
    · exact ⟨(hf.next hi y hy).1,Rch.step hr hi hy⟩
  · rcases h.z with hz | hz
    · exact Or.inl (by simp [setM,hz])
    · rcases List.mem_append.1 hz with hz | hz
      · exact Or.inr (by simp [hz])
      · simp only [List.mem_singleton] at hz
        have:p=0:=by omega
        subst this
        exact Or.inl (by simp [setM])
  · unfold setM at hq
    rw [Bool.or_eq_true,decide_eq_true_eq] at hq
    rcases hq with rfl | hq
    · rw [hi] at hj
      injection hj with hj
      subst hj
      exact Or.inr (by simp [hn])
    · rcases h.cl q j hq hj n hn with h1 | h1
      · exact Or.inl (by simp [setM,h1])
      · rcases List.mem_append.1 h1 with h1 | h1
        · exact Or.inr (by simp [h1])
        · simp only [List.mem_singleton] at h1
          subst h1
          exact Or.inl (by simp [setM])
  · have h1:=cntF_lt hp hm
    have h2:=h.len
    have h3:=Ins.next_len i p
    rw [List.length_append] at h2 ⊢
    simp at h2
    omega
theorem Mk.done {f:Fn7}{m:Nat→Bool}(h:Mk f m [])(p:Nat):m p=tb (Rch f.code p):=by
  rw [Bool.eq_iff_iff,tb_true]
  refine ⟨h.lo p,fun hr=>?_⟩
  induction hr with
  | zero _ =>
    rcases h.z with hz | hz
    · exact hz
    · cases hz
  | step _ hi hn ih =>
    rcases h.cl _ _ ih hi _ hn with h1 | h1
    · exact h1
    · cases h1
end Go.Proofs.Ythbcdckonaljiaa

