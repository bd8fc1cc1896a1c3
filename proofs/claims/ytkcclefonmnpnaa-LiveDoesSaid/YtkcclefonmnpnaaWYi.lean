import Derived.Test.YtkcclefonmnpnaaVr
import Derived.Test.YtkcclefonmnpnaaWb
import Derived.Test.YtkcclefonmnpnaaWYc
import Derived.Test.YtkcclefonmnpnaaWYe
import Derived.Test.YtkcclefonmnpnaaWr
import Derived.Test.YtkcclefonmnpnaaWYd
import Derived.Test.YtkcclefonmnpnaaZkb
import Derived.Test.YtkcclefonmnpnaaZq
namespace Go.Proofs.Ytkcclefonmnpnaa
open Go.RowKit Go.BigFrame
set_option maxRecDepth 1000000 in
set_option maxHeartbeats 16000000 in
theorem liveDoes_no (u:Un7)(F G:Option Addr)(cF cG:Nat)(I:Option Addr)(Li icap:Nat)(n:Int)(w:World)(h:RdU w F G u)(hl0:u.funcs.length≤9223372036854775807)(hl1:u.globs.length≤9223372036854775807)(hlc:∀ f ∈ u.funcs,f.code.length≤9223372036854775807)(hLi:Li≤9223372036854775807)
    (hno:¬ (FewU u∧Li≤200∧n≤5000∧OkU u)) :
    Calls Try.prog 9 #[unAgg u F G cF cG,.slice I Li icap,.int .i64 n] w fun e w'=>e = .returned (.bool true)∧Below w.heap.size w w':=by
  have hB:=Below.one w (unObj u F G cF cG)
  have hx:=heap_alloc_new w (unObj u F G cF cG)
  have h1:=h.below hB
  have hfew:=Few7_any u F G cF cG _ h1 hl0 hl1 hlc
  have hri:=fun W h h6 h10=>Right_any u F G cF cG W h h6 h10
  have hawk:=fun W=>awake10_any W
  obtain ⟨W,hW⟩:∃ W,w.alloc (unObj u F G cF cG)=W:=⟨_,rfl⟩
  rw [hW] at hB hx h1 hfew
  obtain ⟨N,hN⟩:∃ N,u.funcs.length=N:=⟨_,rfl⟩
  obtain ⟨M,hM⟩:∃ M,u.globs.length=M:=⟨_,rfl⟩
  simp only [unObj,unAgg] at hx hW hfew hri ⊢
  simp only [hN,hM] at hx hW hfew hri ⊢
  have HN:=Lib.hid hN
  have HM:=Lib.hid hM
  have HB:=Lib.hid hB
  have HX:=Lib.hid hx
  have H1:=Lib.hid h1
  have HAWK:=Lib.hid hawk
  have HRI:=Lib.hid hri
  have g0:=cell_of_heap hx 0 (.slice F N cF) rfl
  have g1:=cell_of_heap hx 1 (.slice G M cG) rfl
  have g2:=cell_of_heap hx 2 (.int .i64 u.top) rfl
  clear h hB hx h1 hawk hri hN hM hl0 hl1 hlc
  by_cases c1:FewU u
  case neg =>
    have hf:=hfew.mono fun e w' h=>(⟨tru_no h.1 c1,h.2⟩:e = .returned (.bool false)∧Below W.heap.size W w')
    have HF:=Lib.hid hf
    clear hfew hf c1 hno
    go_enter Try.func9,Try.ntmps9
    go_wp2_with fail
    refine HF.out.mono ?_
    rintro e w1 ⟨rfl,hb1⟩
    go_wp2_with (first
      | (refine (HAWK.out _).mono ?_; rintro e w2 ⟨rfl,hb2⟩))
    go_returns
    exact ⟨rfl,HB.out.trans ((hb1.trans (hb2.mono hb1.size)).mono HB.out.size)⟩
  have hf:=hfew.mono fun e w' h=>(⟨tru_is h.1 c1,h.2⟩:e = .returned (.bool true)∧Below W.heap.size W w')
  have HF:=Lib.hid hf
  have C1:=Lib.hid c1
  clear hfew hf c1
  by_cases c2:Li≤200
  case neg =>
    have t1:decide ((Li:Int) > 200)=true:=by simp; omega
    have t2:decide ((200:Int) < Li)=true:=by simp; omega
    clear c2 hno
    go_enter Try.func9,Try.ntmps9
    go_wp2_with fail
    refine HF.out.mono ?_
    rintro e w1 ⟨rfl,hb1⟩
    go_wp2_with (first
      | (refine (HAWK.out _).mono ?_; rintro e w2 ⟨rfl,hb2⟩))
    go_returns
    exact ⟨rfl,HB.out.trans ((hb1.trans (hb2.mono hb1.size)).mono HB.out.size)⟩
  have t1:decide ((Li:Int) > 200)=false:=by simp; omega
  have t2:decide ((200:Int) < Li)=false:=by simp; omega
  have C2:=Lib.hid c2
  clear c2
  by_cases c3:n≤5000
  case neg =>
    have t3:decide (n > 5000)=true:=by simp; omega
    have t4:decide (5000 < n)=true:=by simp; omega
    clear c3 hno
    go_enter Try.func9,Try.ntmps9
    go_wp2_with fail
    refine HF.out.mono ?_
    rintro e w1 ⟨rfl,hb1⟩
    go_wp2_with (first
      | (refine (HAWK.out _).mono ?_; rintro e w2 ⟨rfl,hb2⟩))
    go_returns
    exact ⟨rfl,HB.out.trans ((hb1.trans (hb2.mono hb1.size)).mono HB.out.size)⟩
  have t3:decide (n > 5000)=false:=by simp; omega
  have t4:decide (5000 < n)=false:=by simp; omega
  have c4:¬ OkU u:=fun h=>hno ⟨C1.out,C2.out,c3,h⟩
  have hr:=fun W h=>(HRI.out W h (by rw [← HN.out]; have:=C1.out.1; omega) (by rw [← HM.out]; have:=C1.out.2.1; omega)).mono fun e w' h=>(⟨tru_no h.1 c4,h.2⟩:e = .returned (.bool false)∧Below W.heap.size W w')
  have HR:=Lib.hid hr
  clear c3 c4 hno hr
  go_enter Try.func9,Try.ntmps9
  go_wp2_with fail
  refine HF.out.mono ?_
  rintro e w1 ⟨rfl,hb1⟩
  have hx1:=(hb1.block _ (Array.getElem?_eq_some_iff.1 HX.out).1).trans HX.out
  have k0:=cell_of_heap hx1 0 (.slice F N cF) rfl
  have k1:=cell_of_heap hx1 1 (.slice G M cG) rfl
  have k2:=cell_of_heap hx1 2 (.int .i64 u.top) rfl
  have HB1:=Lib.hid hb1
  clear g0 g1 g2 hx1 hb1
  go_wp2_with fail
  refine (HR.out _ (H1.out.below HB1.out)).mono ?_
  rintro e w3 ⟨rfl,hb3⟩
  go_wp2_with (first
    | (refine (HAWK.out _).mono ?_; rintro e w2 ⟨rfl,hb2⟩))
  go_returns
  exact ⟨rfl,HB.out.trans ((HB1.out.trans ((hb3.trans (hb2.mono hb3.size)).mono HB1.out.size)).mono HB.out.size)⟩
set_option maxRecDepth 1000000 in
set_option maxHeartbeats 32000000 in
theorem liveDoes_yes (stay:Prop)(R:Fn7→List Ins→Prop)(u:Un7)(F G:Option Addr)(cF cG:Nat)(I:Option Addr)(inp:List Int)(icap:Nat)(n:Int)(w:World)(h:RdU w F G u)(hI:RdB w I inp)(hic:inp.length≤icap)(hby:∀ a ∈ inp,0≤a∧a≤255)
    (hlc:∀ f ∈ u.funcs,f.code.length≤9223372036854775807) (c1:FewU u) (c2:inp.length≤200) (c3:n≤5000) (c4:OkU u) (hTr:∀ f ∈ u.funcs,∀ l,R f l→TrS stay f (wcF f l))
    (hT:∀ f ∈ u.funcs,∀ C cap W,RdI W C f.code→Calls Try.prog 33 #[funcAgg f.nm f.ps f.R f.Fr C f.code.length cap] W fun e w'=>(∃ l nb cap',R f l∧e = .returned (funcAgg f.nm f.ps f.R f.Fr (some ⟨nb,0,none⟩) l.length cap')∧PreI w' nb l)∧Below W.heap.size W w') :
    Calls Try.prog 9 #[unAgg u F G cF cG,.slice I inp.length icap,.int .i64 n] w fun e w'=>e = .returned (.bool true)∧Below w.heap.size w w':=by
  have hB:=Below.one w (unObj u F G cF cG)
  have hx:=heap_alloc_new w (unObj u F G cF cG)
  have h1:=h.below hB
  have hI1:=hI.below hB
  have hlg:u.globs.length≤100000:=by have:=c1.2.1; omega
  have hfew:=(Few7_any u F G cF cG _ h1 (by have:=c1.1; omega) (by omega) hlc).mono fun e w' h=>(⟨tru_is h.1 c1,h.2⟩:e = .returned (.bool true)∧Below (w.alloc (unObj u F G cF cG)).heap.size (w.alloc (unObj u F G cF cG)) w')
  have hri:=fun W h=>(Right_any u F G cF cG W h (by have:=c1.1; omega) hlg).mono fun e w' h=>(⟨tru_is h.1 c4,h.2⟩:e = .returned (.bool true)∧Below W.heap.size W w')
  have hsw:=fun W h=>Swapped_any 33 R u F G cF cG c4.len (call_enter Try.func33 (by kernel_rfl) rfl) hT W h
  have hawk:=fun W=>awake10_any W
  have hrun:=fun W (h:RdU W F G u) hI=>Run_any u F G cF cG I icap inp n W h c4 hlg hI hic hby c3
  have hrunv:=fun (gs:List Fn7) (A:Option Addr) (cap:Nat) (hv:OkU { u with funcs:=gs }) W (h:RdU W A G { u with funcs:=gs }) hI=>Run_any { u with funcs:=gs } A G cap cG I icap inp n W h hv hlg hI hic hby c3
  have hriv:=fun (gs:List Fn7) (A:Option Addr) (cap:Nat) (hv:OkU { u with funcs:=gs }) W (h:RdU W A G { u with funcs:=gs })=>(Right_any { u with funcs:=gs } A G cap cG W h (by have:=hv.len; simp only at this ⊢; omega) hlg).mono fun e w' h=>(⟨tru_is h.1 hv,h.2⟩:e = .returned (.bool true)∧Below W.heap.size W w')
  obtain ⟨W,hW⟩:∃ W,w.alloc (unObj u F G cF cG)=W:=⟨_,rfl⟩
  rw [hW] at hB hx h1 hfew hI1
  have t1:decide ((inp.length:Int) > 200)=false:=by simp; omega
  have t2:decide ((200:Int) < inp.length)=false:=by simp; omega
  have t3:decide (n > 5000)=false:=by simp; omega
  have t4:decide (5000 < n)=false:=by simp; omega
  have hul:=c4.len
  obtain ⟨N,hN⟩:∃ N,u.funcs.length=N:=⟨_,rfl⟩
  obtain ⟨M,hM⟩:∃ M,u.globs.length=M:=⟨_,rfl⟩
  obtain ⟨Li,hLi⟩:∃ Li,inp.length=Li:=⟨_,rfl⟩
  simp only [unObj,unAgg] at hx hW hfew hri hsw hrun hrunv hriv ⊢
  simp only [hN,hM,hLi] at hx hW hfew hri hsw hrun hrunv hriv t1 t2 ⊢
  have HN:=Lib.hid hN
  have HM:=Lib.hid hM
  have HB:=Lib.hid hB
  have HX:=Lib.hid hx
  have H1:=Lib.hid h1
  have HI1:=Lib.hid hI1
  have HF:=Lib.hid hfew
  have HRI:=Lib.hid hri
  have HSW:=Lib.hid hsw
  have HAWK:=Lib.hid hawk
  have HRUN:=Lib.hid hrun
  have HRUNV:=Lib.hid hrunv
  have HRIV:=Lib.hid hriv
  have C3:=Lib.hid c3
  have C4:=Lib.hid c4
  have HTR:=Lib.hid hTr
  have g0:=cell_of_heap hx 0 (.slice F N cF) rfl
  have g1:=cell_of_heap hx 1 (.slice G M cG) rfl
  have g2:=cell_of_heap hx 2 (.int .i64 u.top) rfl
  have hblx:=(Array.getElem?_eq_some_iff.1 hx).1
  clear h hI hB hx h1 hI1 hfew hri hsw hrun hrunv hriv hawk hN hM hLi hlc c1 c2 c3 c4 hTr hT hlg hul
  go_enter Try.func9,Try.ntmps9
  go_wp2_with fail
  refine HF.out.mono ?_
  rintro e w1 ⟨rfl,hb1⟩
  dsimp only
  have hx1:=(hb1.block _ hblx).trans HX.out
  have k0:=cell_of_heap hx1 0 (.slice F N cF) rfl
  have k1:=cell_of_heap hx1 1 (.slice G M cG) rfl
  have k2:=cell_of_heap hx1 2 (.int .i64 u.top) rfl
  have HB1:=Lib.hid hb1
  clear g0 g1 g2 hx1 hb1
  go_wp2_with fail
  refine (HRI.out _ (H1.out.below HB1.out)).mono ?_
  rintro e w2 ⟨rfl,hb2⟩
  dsimp only
  have hb12:=HB1.out.trans (hb2.mono HB1.out.size)
  have hx2:=(hb12.block _ hblx).trans HX.out
  have m0:=cell_of_heap hx2 0 (.slice F N cF) rfl
  have m1:=cell_of_heap hx2 1 (.slice G M cG) rfl
  have m2:=cell_of_heap hx2 2 (.int .i64 u.top) rfl
  have HB2:=Lib.hid hb12
  clear k0 k1 k2 hx2 hb2 hb12
  go_wp2_with fail
  refine (HSW.out _ (H1.out.below HB2.out)).mono ?_
  rintro e w3 ⟨⟨gs,A,capA,rfl,hrF,hlen,hrel⟩,hb3⟩
  dsimp only
  obtain ⟨ngs,hngs⟩:∃ ngs,gs.length=ngs:=⟨_,rfl⟩
  rw [hngs,HM.out]
  have HNGS:=Lib.hid hngs
  clear hngs
  have hb13:=HB2.out.trans (hb3.mono HB2.out.size)
  have htr:∀ (k:Nat) f g,u.funcs[k]? = some f→gs[k]? = some g→TrS stay f g:=fun k f g hf hg=>by
    obtain ⟨l,rfl,hR⟩:=hrel k f g hf hg
    exact HTR.out f (List.mem_of_getElem? hf) l hR
  have hv:=C4.out.swap gs hlen htr
  have hres:=swap_all C4.out.okC gs hlen htr inp n.toNat
  have hb4:=hb13.alloc hb13.size (.cells #[.slice A ngs capA,.slice G M cG,.int .i64 u.top] 43)
  have hy4:=heap_alloc_new w3 (.cells #[.slice A ngs capA,.slice G M cG,.int .i64 u.top] 43)
  have hrU:RdU (w3.alloc (.cells #[.slice A ngs capA,.slice G M cG,.int .i64 u.top] 43)) A G { u with funcs:=gs }:=⟨hrF.below (Below.one _ _),(H1.out.gs.below hb4)⟩
  obtain ⟨w4,hw4⟩:∃ w4,w3.alloc (.cells #[.slice A ngs capA,.slice G M cG,.int .i64 u.top] 43)=w4:=⟨_,rfl⟩
  rw [hw4] at hb4 hy4 hrU
  have hx4:=(hb4.block _ hblx).trans HX.out
  have p0:=cell_of_heap hx4 0 (.slice F N cF) rfl
  have p1:=cell_of_heap hx4 1 (.slice G M cG) rfl
  have p2:=cell_of_heap hx4 2 (.int .i64 u.top) rfl
  have q0:=cell_of_heap hy4 0 (.slice A ngs capA) rfl
  have q1:=cell_of_heap hy4 1 (.slice G M cG) rfl
  have q2:=cell_of_heap hy4 2 (.int .i64 u.top) rfl
  have hlx:=(Array.getElem?_eq_some_iff.1 hx4).1
  have hly:=(Array.getElem?_eq_some_iff.1 hy4).1
  have HB4:=Lib.hid hb4
  have HV:=Lib.hid hv
  have HRES:=Lib.hid hres
  have HRU:=Lib.hid (H1.out.below hb4)
  have HRV:=Lib.hid hrU
  have HI4:=Lib.hid (HI1.out.below hb4)
  have HGL:Hid (ngs=N):=Lib.hid (by rw [← HNGS.out,hlen,HN.out])
  clear m0 m1 m2 hb3 hb13 htr hv hres hb4 hrU hrF hlen hrel
  have hrv:=HRIV.out gs A capA HV.out
  have hrnv:=HRUNV.out gs A capA HV.out
  simp only [HNGS.out] at hrv hrnv
  have ho1:=runU_out u inp n.toNat
  have ho2:=runU_out { u with funcs:=gs } inp n.toNat
  have hdo:=fun W' (hb:Below w4.heap.size w4 W')=>Does_any (runU u inp n.toNat) (runU { u with funcs:=gs } inp n.toNat) HRES.out.fast.does (by have:=C3.out; omega) (by have:=C3.out; omega) u { u with funcs:=gs } F G A G cF cG capA cG I Li icap n W'
    (fun W hW=>by
      have h:=HRUN.out W (HRU.out.below (hb.trans (hW.mono hb.size))) (HI4.out.below (hb.trans (hW.mono hb.size)))
      simp only [unAgg,HN.out,HM.out]
      exact h) (fun W hW=>by
      have h:=hrnv W (HRV.out.below (hb.trans (hW.mono hb.size))) (HI4.out.below (hb.trans (hW.mono hb.size)))
      simp only [unAgg,HNGS.out,HM.out]
      exact h)
  simp only [unAgg,HN.out,HM.out,HNGS.out] at hdo
  have HRRV:=Lib.hid hrv
  have HDO:=Lib.hid hdo
  have HY4:=Lib.hid hy4
  have HX4:=Lib.hid hx4
  clear hrv hrnv ho1 ho2 hdo hy4 hx4
  go_wp2_with fail
  refine (HRRV.out _ HRV.out).mono ?_
  rintro e w5 ⟨rfl,hb5⟩
  dsimp only
  have hx5:=(hb5.block _ hlx).trans HX4.out
  have hy5:=(hb5.block _ hly).trans HY4.out
  have r0:=cell_of_heap hx5 0 (.slice F N cF) rfl
  have r1:=cell_of_heap hx5 1 (.slice G M cG) rfl
  have r2:=cell_of_heap hx5 2 (.int .i64 u.top) rfl
  have s0:=cell_of_heap hy5 0 (.slice A ngs capA) rfl
  have s1:=cell_of_heap hy5 1 (.slice G M cG) rfl
  have s2:=cell_of_heap hy5 2 (.int .i64 u.top) rfl
  have HB5:=Lib.hid hb5
  clear hx5 hy5 hb5 p0 p1 p2 q0 q1 q2 hw4
  go_wp2_with fail
  refine (HDO.out _ HB5.out).mono ?_
  rintro e w6 ⟨rfl,hb6⟩
  dsimp only
  go_wp2_with (first
    | (refine (HAWK.out _).mono ?_; rintro e w7 ⟨rfl,hb7⟩))
  go_returns
  have hbb:=HB5.out.trans ((hb6.trans (hb7.mono hb6.size)).mono HB5.out.size)
  exact ⟨rfl,HB.out.trans ((HB4.out.trans (hbb.mono HB4.out.size)).mono HB.out.size)⟩
theorem LiveDoes_any (u:Un7) (F G:Option Addr) (cF cG:Nat) (I:Option Addr) (inp:List Int) (icap:Nat) (n:Int) (w:World) (h:RdU w F G u) (hI:RdB w I inp) (hic:inp.length≤icap) (hby:∀ a ∈ inp,0≤a∧a≤255)
    (hl0:u.funcs.length≤9223372036854775807) (hl1:u.globs.length≤9223372036854775807) (hlc:∀ f ∈ u.funcs,f.code.length≤9223372036854775807) (hLi:inp.length≤9223372036854775807) :
    Calls Try.prog 9 #[unAgg u F G cF cG,.slice I inp.length icap,.int .i64 n] w fun e w'=>e = .returned (.bool true)∧Below w.heap.size w w':=by
  by_cases hc:FewU u∧inp.length≤200∧n≤5000∧OkU u
  · refine liveDoes_yes True (fun f l=>∃ g,Swp f g∧l=g.code) u F G cF cG I inp icap n w h hI hic hby hlc hc.1 hc.2.1 hc.2.2.1 hc.2.2.2 (fun f hf l hl=>?_) (fun f hf C cap W hC=>?_)
    · obtain ⟨g,hS,rfl⟩:=hl
      have ht:=hS.tr (hc.2.2.2.ok f hf)
      obtain ⟨e1,e2,e3,e4⟩:=ht.nm
      have e:wcF f g.code=g:=by
        cases g
        simp only at e1 e2 e3 e4
        simp only [wcF,e1,e2,e3,e4]
      rw [e]
      exact ht
    · exact LiveDoes1_any (fun l=>∃ g,Swp f g∧l=g.code) f C cap W hC (fun W h=>(Sweep_yes f (hc.2.2.2.ok f hf) C cap W h).mono fun e w' ⟨⟨g,gb,cp,hS,h1,_,h3⟩,hb⟩=>⟨⟨g.code,gb,cp,((f.code.length:Int) - g.code.length),⟨g,hS,rfl⟩,h1,h3⟩,hb⟩)
  · exact liveDoes_no u F G cF cG I inp.length icap n w h hl0 hl1 hlc hLi hc
end Go.Proofs.Ytkcclefonmnpnaa

