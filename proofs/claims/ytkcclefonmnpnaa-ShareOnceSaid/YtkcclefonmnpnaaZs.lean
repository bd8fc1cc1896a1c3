import Derived.Test.YtkcclefonmnpnaaZr
namespace Go.Proofs.Ytkcclefonmnpnaa
open Go.RowKit Go.BigFrame
set_option maxRecDepth 1000000 in
set_option maxHeartbeats 8000000 in
theorem so_few (f:Fn7)(hf:¬ Few f)(C:Option Addr)(cap:Nat)(hl9:f.code.length≤9223372036854775807)(w:World)(hC:RdI w C f.code) :
    Calls Try.prog 5 #[funcAgg f.nm f.ps f.R f.Fr C f.code.length cap] w fun e w'=>e = .returned (.bool true)∧Below w.heap.size w w':=by
  have hB:=Below.one w (funcObj f.nm f.ps f.R f.Fr C f.code.length cap)
  have hF:=few12_no f hf C cap hl9 _ (hC.below hB)
  have ha:=fun W=>awake12_any W
  simp only [funcObj,funcAgg] at hB hF ⊢
  have HF:=Lib.hid hF
  have HA:=Lib.hid ha
  clear hf hC hF ha hl9
  go_enter Try.func5,Try.ntmps5
  go_wp2_with (first
    | (refine HF.out.mono ?_; rintro e w3 ⟨rfl,hb3⟩)
    | (refine (HA.out _).mono ?_; rintro e w4 ⟨rfl,hb4⟩))
  go_returns
  exact ⟨rfl,hB.trans ((hb3.trans (hb4.mono hb3.size)).mono hB.size)⟩
set_option maxRecDepth 1000000 in
set_option maxHeartbeats 16000000 in
theorem so_walk (f:Fn7)(hf:Few f)(C:Option Addr)(cap:Nat)(hl9:f.code.length≤9223372036854775807)(w:World)(hC:RdI w C f.code)(gl l0:List Ins)(n0:Int)(hgl:gl.length≤9223372036854775807)(hl0:l0.length≤9223372036854775807)
    (hO:∀ A c W,RdI W A f.code→Calls Try.prog 20 #[funcAgg f.nm f.ps f.R f.Fr A f.code.length c] W fun e w'=>(∃ A' c',e = .returned (.tuple #[funcAgg f.nm f.ps f.R f.Fr A' gl.length c',.int .i64 n0])∧RdI w' A' gl)∧Below W.heap.size W w')
    (hAll:∀ A c W,RdI W A f.code→Calls Try.prog 24 #[funcAgg f.nm f.ps f.R f.Fr A f.code.length c] W fun e w'=>(∃ A' c',e = .returned (funcAgg f.nm f.ps f.R f.Fr A' l0.length c')∧RdI w' A' l0)∧Below W.heap.size W w') :
    Calls Try.prog 5 #[funcAgg f.nm f.ps f.R f.Fr C f.code.length cap] w fun e w'=>e = .returned (.bool true)∧Below w.heap.size w w':=by
  have hB:=Below.one w (funcObj f.nm f.ps f.R f.Fr C f.code.length cap)
  have bx:=heap_alloc_new w (funcObj f.nm f.ps f.R f.Fr C f.code.length cap)
  have hC1:=hC.below hB
  have hF:=few12_yes f hf C cap hl9 _ hC1
  have hcl:=fun W h=>clone_all f (by have:=hf.2; omega) C cap W h
  have ha:=fun W=>awake12_any W
  have hS:∀ l (_:l.length≤9223372036854775807) A A' c c' W,RdI W A l→RdI W A' l→Calls Try.prog 21 #[funcAgg f.nm f.ps f.R f.Fr A l.length c,funcAgg f.nm f.ps f.R f.Fr A' l.length c'] W fun e w'=>e = .returned (.bool true)∧Below W.heap.size W w':=fun l h9 A A' c c' W h h'=>by
    have h1:=Same_any (wc f l) (wc f l) A A' c c' h9 h9 W h h'
    exact h1.mono fun e w' ⟨⟨b,h1,h2⟩,hb⟩=>⟨by rw [h1,h2.2 rfl],hb⟩
  have hSG:=hS gl hgl
  have hSL:=hS l0 hl0
  have hSF:=hS f.code hl9
  obtain ⟨W,hW⟩:∃ W,w.alloc (funcObj f.nm f.ps f.R f.Fr C f.code.length cap)=W:=⟨_,rfl⟩
  rw [hW] at hB bx hC1 hF
  obtain ⟨N,hN⟩:∃ N,f.code.length=N:=⟨_,rfl⟩
  rw [hN] at bx hF hcl hW hO hAll hSF ⊢
  simp only [funcObj,funcAgg] at bx hF hcl hW hO hAll hSG hSL hSF ⊢
  have HF:=Lib.hid hF
  have HCL:=Lib.hid hcl
  have HA:=Lib.hid ha
  have HO:=Lib.hid hO
  have HALL:=Lib.hid hAll
  have HSG:=Lib.hid hSG
  have HSL:=Lib.hid hSL
  have HSF:=Lib.hid hSF
  have HB:=Lib.hid hB
  have HC1:=Lib.hid hC1
  have HN:=Lib.hid hN
  clear hf hC hF hcl ha hS hSG hSL hSF hO hAll hB hC1 hN hgl hl0 hl9
  have g0:=cell_of_heap bx 0 (.string f.nm) rfl
  have g1:=cell_of_heap bx 1 (.int .i64 f.ps) rfl
  have g2:=cell_of_heap bx 2 (.int .i64 f.R) rfl
  have g3:=cell_of_heap bx 3 (.int .i64 f.Fr) rfl
  have g4:=cell_of_heap bx 4 (.slice C N cap) rfl
  have hbl:=(Array.getElem?_eq_some_iff.1 bx).1
  have HBX:=Lib.hid bx
  clear bx
  go_enter Try.func5,Try.ntmps5
  go_wp2_with fail
  refine HF.out.mono ?_
  rintro e w1 ⟨rfl,hb1⟩
  have hx1:=(hb1.block _ hbl).trans HBX.out
  have h0:=cell_of_heap hx1 0 (.string f.nm) rfl
  have h1:=cell_of_heap hx1 1 (.int .i64 f.ps) rfl
  have h2:=cell_of_heap hx1 2 (.int .i64 f.R) rfl
  have h3:=cell_of_heap hx1 3 (.int .i64 f.Fr) rfl
  have h4:=cell_of_heap hx1 4 (.slice C N cap) rfl
  have HX1:=Lib.hid hx1
  have HB1:=Lib.hid hb1
  clear g0 g1 g2 g3 g4 hx1 hb1 hW
  go_wp2_with fail
  refine (HCL.out _ (HC1.out.below HB1.out)).mono ?_
  rintro e w2 ⟨⟨cb,rfl,hcb,hP2⟩,hb2⟩
  rw [HN.out]
  simp only [funcAgg]
  obtain ⟨w3,hw3⟩:∃ w3,w2.alloc (.cells #[.string f.nm,.int .i64 f.ps,.int .i64 f.R,.int .i64 f.Fr,.slice (some ⟨cb,0,none⟩) N N] 24)=w3:=⟨_,rfl⟩
  have hb3:Below w2.heap.size w2 w3:=by rw [← hw3]; exact Below.one _ _
  have hg3:w3.heap[w2.heap.size]? = some (.cells #[.string f.nm,.int .i64 f.ps,.int .i64 f.R,.int .i64 f.Fr,.slice (some ⟨cb,0,none⟩) N N] 24):=by rw [← hw3]; exact heap_alloc_new _ _
  have hl3:=(Array.getElem?_eq_some_iff.1 hg3).1
  have k0:=cell_of_heap hg3 0 (.string f.nm) rfl
  have k1:=cell_of_heap hg3 1 (.int .i64 f.ps) rfl
  have k2:=cell_of_heap hg3 2 (.int .i64 f.R) rfl
  have k3:=cell_of_heap hg3 3 (.int .i64 f.Fr) rfl
  have k4:=cell_of_heap hg3 4 (.slice (some ⟨cb,0,none⟩) N N) rfl
  have HP3:=Lib.hid (PreI.read (Pre.later hP2 hb3))
  have HG3:=Lib.hid hg3
  have HB3:=Lib.hid (HB1.out.trans ((hb2.trans (hb3.mono hb2.size)).mono HB1.out.size))
  clear h0 h1 h2 h3 h4 hb2 hb3 hP2 hg3 hcb
  go_wp2_with fail
  refine (HO.out (some ⟨cb,0,none⟩) N _ HP3.out).mono ?_
  rintro e w4 ⟨⟨A1,c1,rfl,hr4⟩,hb4⟩
  obtain ⟨w5,hw5⟩:∃ w5,w4.alloc (.cells #[.string f.nm,.int .i64 f.ps,.int .i64 f.R,.int .i64 f.Fr,.slice A1 gl.length c1] 24)=w5:=⟨_,rfl⟩
  have hb5:Below w4.heap.size w4 w5:=by rw [← hw5]; exact Below.one _ _
  have hg5:w5.heap[w4.heap.size]? = some (.cells #[.string f.nm,.int .i64 f.ps,.int .i64 f.R,.int .i64 f.Fr,.slice A1 gl.length c1] 24):=by rw [← hw5]; exact heap_alloc_new _ _
  have hl5:=(Array.getElem?_eq_some_iff.1 hg5).1
  have HR5:=Lib.hid (hr4.below hb5)
  have HG5:=Lib.hid hg5
  have hb35:=hb4.trans (hb5.mono hb4.size)
  have HP5:=Lib.hid (HP3.out.below hb35)
  have HG3:=Lib.hid ((hb35.block _ hl3).trans HG3.out)
  have HB5:=Lib.hid (HB3.out.trans (hb35.mono HB3.out.size))
  have hx5:=(HB5.out.block _ hbl).trans HBX.out
  have m0:=cell_of_heap hx5 0 (.string f.nm) rfl
  have m1:=cell_of_heap hx5 1 (.int .i64 f.ps) rfl
  have m2:=cell_of_heap hx5 2 (.int .i64 f.R) rfl
  have m3:=cell_of_heap hx5 3 (.int .i64 f.Fr) rfl
  have m4:=cell_of_heap hx5 4 (.slice C N cap) rfl
  clear k0 k1 k2 k3 k4 hb4 hb5 hr4 hg5 hx5 hw3
  go_wp2_with fail
  refine (HCL.out _ (HC1.out.below HB5.out)).mono ?_
  rintro e w6 ⟨⟨cc,rfl,hcc,hP6⟩,hb6⟩
  rw [HN.out]
  simp only [funcAgg]
  have HR6:=Lib.hid (PreI.read hP6)
  have HB6:=Lib.hid (HB5.out.trans (hb6.mono HB5.out.size))
  have HB56:=Lib.hid hb6
  clear m0 m1 m2 m3 m4 hb6 hP6 hcc hw5
  go_wp2_with fail
  refine (HO.out (some ⟨cc,0,none⟩) N _ HR6.out).mono ?_
  rintro e w7 ⟨⟨A2,c2,rfl,hr7⟩,hb7⟩
  obtain ⟨w8,hw8⟩:∃ w8,w7.alloc (.cells #[.string f.nm,.int .i64 f.ps,.int .i64 f.R,.int .i64 f.Fr,.slice A2 gl.length c2] 24)=w8:=⟨_,rfl⟩
  have hb8:Below w7.heap.size w7 w8:=by rw [← hw8]; exact Below.one _ _
  have hg8:w8.heap[w7.heap.size]? = some (.cells #[.string f.nm,.int .i64 f.ps,.int .i64 f.R,.int .i64 f.Fr,.slice A2 gl.length c2] 24):=by rw [← hw8]; exact heap_alloc_new _ _
  have hl8:=(Array.getElem?_eq_some_iff.1 hg8).1
  have hb58:=(HB56.out.trans (hb7.mono HB56.out.size)).trans (hb8.mono (Nat.le_trans HB56.out.size hb7.size))
  have hb38:=hb35.trans (hb58.mono hb35.size)
  have HB8:=Lib.hid (HB3.out.trans (hb38.mono HB3.out.size))
  have hx8:=(HB8.out.block _ hbl).trans HBX.out
  have hg8b:=(hb58.block _ hl5).trans HG5.out
  have hy8:=(hb58.block _ (Array.getElem?_eq_some_iff.1 HG3.out).1).trans HG3.out
  have p0:=cell_of_heap hx8 0 (.string f.nm) rfl
  have p1:=cell_of_heap hx8 1 (.int .i64 f.ps) rfl
  have p2:=cell_of_heap hx8 2 (.int .i64 f.R) rfl
  have p3:=cell_of_heap hx8 3 (.int .i64 f.Fr) rfl
  have p4:=cell_of_heap hx8 4 (.slice C N cap) rfl
  have q0:=cell_of_heap hy8 0 (.string f.nm) rfl
  have q1:=cell_of_heap hy8 1 (.int .i64 f.ps) rfl
  have q2:=cell_of_heap hy8 2 (.int .i64 f.R) rfl
  have q3:=cell_of_heap hy8 3 (.int .i64 f.Fr) rfl
  have q4:=cell_of_heap hy8 4 (.slice (some ⟨cb,0,none⟩) N N) rfl
  have r0:=cell_of_heap hg8b 0 (.string f.nm) rfl
  have r1:=cell_of_heap hg8b 1 (.int .i64 f.ps) rfl
  have r2:=cell_of_heap hg8b 2 (.int .i64 f.R) rfl
  have r3:=cell_of_heap hg8b 3 (.int .i64 f.Fr) rfl
  have r4:=cell_of_heap hg8b 4 (.slice A1 gl.length c1) rfl
  have s0:=cell_of_heap hg8 0 (.string f.nm) rfl
  have s1:=cell_of_heap hg8 1 (.int .i64 f.ps) rfl
  have s2:=cell_of_heap hg8 2 (.int .i64 f.R) rfl
  have s3:=cell_of_heap hg8 3 (.int .i64 f.Fr) rfl
  have s4:=cell_of_heap hg8 4 (.slice A2 gl.length c2) rfl
  have HR8:=Lib.hid (hr7.below hb8)
  have HR58:=Lib.hid (HR5.out.below hb58)
  have HP8:=Lib.hid (HP3.out.below hb38)
  have HC8:=Lib.hid (HC1.out.below HB8.out)
  have hlx:=(Array.getElem?_eq_some_iff.1 hx8).1
  have hly:=(Array.getElem?_eq_some_iff.1 hy8).1
  have hlg:=(Array.getElem?_eq_some_iff.1 hg8b).1
  have hlh:=(Array.getElem?_eq_some_iff.1 hg8).1
  have hd0:Below w8.heap.size w8 w8.drew:=(Below.refl _ _).drew
  have HD0:=Lib.hid hd0
  clear hb7 hb8 hr7 hb58 hb38 hb35 hx8 hy8 hg8 hg8b hd0
  go_upto_region 6 with fail
  go_cut [2] from 25 to 47 (fun s wx=>s = .bool true∧Below w8.heap.size w8 wx)
  case first =>
    clear hw8
    go_region_held3 (fun w'=>∀ (q o:Nat),q < w8.heap.size→w'.cell? ⟨q,o,none⟩=w8.cell? ⟨q,o,none⟩)
      (first
      | with_reducible exact fun q o h=>rfl
      | with_reducible exact fun q o h=>(by assumption:Below w8.heap.size w8 _).cell (p:=⟨q,o,none⟩) h
      | exact fun q o h=>rfl)
      (first
      | (go_at_call_of 21 (#[Value.agg #[.string f.nm,.int .i64 f.ps,.int .i64 f.R,.int .i64 f.Fr,.slice A1 gl.length c1],.agg #[.string f.nm,.int .i64 f.ps,.int .i64 f.R,.int .i64 f.Fr,.slice A2 gl.length c2]]); refine (HSG.out A1 A2 c1 c2 _ (HR58.out.below HD0.out) (HR8.out.below HD0.out)).mono ?_; rintro e wA ⟨rfl,hbA'⟩; have hbA:Below w8.heap.size w8 wA:=HD0.out.trans hbA')
      | (go_at_call_of 21 (#[Value.agg #[.string f.nm,.int .i64 f.ps,.int .i64 f.R,.int .i64 f.Fr,.slice A1 gl.length c1],.agg #[.string f.nm,.int .i64 f.ps,.int .i64 f.R,.int .i64 f.Fr,.slice A2 gl.length c2]]); refine (HSG.out A1 A2 c1 c2 _ HR58.out HR8.out).mono ?_; rintro e wA ⟨rfl,hbA'⟩; have hbA:Below w8.heap.size w8 wA:=hbA')
      | (go_at_call_of 21 (#[Value.agg #[.string f.nm,.int .i64 f.ps,.int .i64 f.R,.int .i64 f.Fr,.slice (some ⟨cb,0,none⟩) N N],.agg #[.string f.nm,.int .i64 f.ps,.int .i64 f.R,.int .i64 f.Fr,.slice C N cap]]); refine (HSF.out (some ⟨cb,0,none⟩) C N cap _ (HP8.out.below hbA) (HC8.out.below hbA)).mono ?_; rintro e wB ⟨rfl,hbB'⟩; have hbB:Below w8.heap.size w8 wB:=hbA.trans (hbB'.mono hbA.size))
      | (go_at_call_of 24 (#[Value.agg #[.string f.nm,.int .i64 f.ps,.int .i64 f.R,.int .i64 f.Fr,.slice (some ⟨cb,0,none⟩) N N]]); refine (HALL.out (some ⟨cb,0,none⟩) N _ (HP8.out.below hbB)).mono ?_; rintro e wC ⟨⟨A3,c3,rfl,hr3⟩,hbC'⟩; have hbC:Below w8.heap.size w8 wC:=hbB.trans (hbC'.mono hbB.size))
      | (go_at_call_of 24 (#[Value.agg #[.string f.nm,.int .i64 f.ps,.int .i64 f.R,.int .i64 f.Fr,.slice C N cap]]); refine (HALL.out C cap _ (HC8.out.below hbC)).mono ?_; rintro e wD ⟨⟨A4,c4,rfl,hr4⟩,hbD'⟩; have hbD:Below w8.heap.size w8 wD:=hbC.trans (hbD'.mono hbC.size))
      | (go_at_call 21; refine (HSL.out A3 A4 c3 c4 _ (hr3.below hbD') hr4).mono ?_; rintro e wE ⟨rfl,hbE'⟩; have hbE:Below w8.heap.size w8 wE:=hbD.trans (hbE'.mono hbD.size))
      | (go_at_call 16; refine (HA.out _).mono ?_; rintro e wF ⟨rfl,hbF'⟩; have hbF:Below w8.heap.size w8 wF:=hbE.trans (hbF'.mono hbE.size)))
    all_goals (go_wp2_with fail; go_meet)
    all_goals exact ⟨rfl,hbF⟩
  case rest =>
    obtain ⟨rfl,hbc⟩:=hcut
    go_wp2
    go_returns
    exact ⟨rfl,HB.out.trans ((HB8.out.trans (hbc.mono HB8.out.size)).mono HB.out.size)⟩
theorem sm_size {f:Fn7}(h:Sm f)(ho:OkF f):f.code.length * (f.R.toNat + 1)≤65536:=by
  obtain ⟨_,h1,h2,_⟩:=h
  have h3:=ho.R
  have h4:=ho.ps
  have h5:f.R.toNat + 1≤41:=by omega
  have:=Nat.mul_le_mul h1 h5
  omega
theorem ShareOnce_any (f:Fn7) (C:Option Addr) (cap:Nat) (hl9:f.code.length≤9223372036854775807) (w:World) (hC:RdI w C f.code) :
    Calls Try.prog 5 #[funcAgg f.nm f.ps f.R f.Fr C f.code.length cap] w fun e w'=>e = .returned (.bool true)∧Below w.heap.size w w':=by
  by_cases hf:Few f
  · by_cases hok:OkF f
    · have hsz:=sm_size hf.1 hok
      obtain ⟨l0,hl0,hu⟩:∃ l0:List Ins,l0.length≤f.code.length∧∀ l,ShR 20 f (wc f l)→l=l0:=by
        by_cases h:∃ l,ShR 20 f (wc f l)
        · obtain ⟨l0,h0⟩:=h
          exact ⟨l0,h0.len hok,fun l hl=>by have:=ShR.unique hl h0; injection this⟩
        · exact ⟨[],Nat.zero_le _,fun l hl=>absurd ⟨l,hl⟩ h⟩
      refine so_walk f hf C cap hl9 w hC (shL f.code) l0 (shN f.code f.code.length:Int) (by rw [shL_len]; exact hl9) (Nat.le_trans hl0 hl9) (fun A c W h=>?_) (fun A c W h=>?_)
      · refine (Of_yes f hok A c W h).mono fun e w' ⟨⟨cb,h1,h2,h3⟩,hb⟩=>⟨⟨some ⟨cb,0,none⟩,f.code.length,?_,PreI.read h3⟩,hb⟩
        rw [shL_len]
        exact h1
      · refine (All_yes f hok hsz A c W h).mono fun e w' ⟨⟨l,A',c',h1,h2,h3,h4,_⟩,hb⟩=>⟨?_,hb⟩
        obtain rfl:=hu l h1
        exact ⟨A',c',h3,h4⟩
    · refine so_walk f hf C cap hl9 w hC f.code f.code 0 hl9 hl9 (fun A c W h=>?_) (fun A c W h=>?_)
      · exact (Of_no f hok A c W h).mono fun e w' ⟨h1,hb⟩=>⟨⟨A,c,h1,h.below hb⟩,hb⟩
      · exact (All_no f hok A c W h).mono fun e w' ⟨h1,hb⟩=>⟨⟨A,c,h1,h.below hb⟩,hb⟩
  · exact so_few f hf C cap hl9 w hC
end Go.Proofs.Ytkcclefonmnpnaa

