import Derived.Test.YtaofdbboalcceaaUf
/- live.Sweep. -/
namespace Go.Proofs.Ytaofdbboalcceaa
open Go.RowKit Go.BigFrame

set_option maxRecDepth 1000000 in
theorem Sweep_no (f : Fn7) (hf : ¬ OkF f) (C : Option Addr) (cap : Nat) (w : World) (hC : RdI w C f.code) :
    Calls Try.prog 44 #[funcAgg f.nm f.ps f.R f.Fr C f.code.length cap] w fun e w' => e = .returned (.tuple #[funcAgg f.nm f.ps f.R f.Fr C f.code.length cap, .int .i64 0]) ∧ Below w.heap.size w w' := by
  obtain ⟨N, hN⟩ : ∃ N, f.code.length = N := ⟨_, rfl⟩
  have b0 := heap_alloc_new w (.cells #[.string f.nm, .int .i64 f.ps, .int .i64 f.R, .int .i64 f.Fr, .slice C N cap] 24)
  have b1 := heap_alloc_new (w.alloc (.cells #[.string f.nm, .int .i64 f.ps, .int .i64 f.R, .int .i64 f.Fr, .slice C N cap] 24)) (.cells #[.string ⟨#[]⟩, .int .i64 0, .int .i64 0, .int .i64 0, .slice none 0 0] 24)
  rw [show (w.alloc (.cells #[.string f.nm, .int .i64 f.ps, .int .i64 f.R, .int .i64 f.Fr, .slice C N cap] 24)).heap.size = w.heap.size + 1 by simp] at b1
  have b0 := alloc_keeps b0 (.cells #[.string ⟨#[]⟩, .int .i64 0, .int .i64 0, .int .i64 0, .slice none 0 0] 24)
  have hB := (Below.one w (.cells #[.string f.nm, .int .i64 f.ps, .int .i64 f.R, .int .i64 f.Fr, .slice C N cap] 24)).alloc (by simp) (.cells #[.string ⟨#[]⟩, .int .i64 0, .int .i64 0, .int .i64 0, .slice none 0 0] 24)
  obtain ⟨W, hW⟩ : ∃ W, (w.alloc (.cells #[.string f.nm, .int .i64 f.ps, .int .i64 f.R, .int .i64 f.Fr, .slice C N cap] 24)).alloc (.cells #[.string ⟨#[]⟩, .int .i64 0, .int .i64 0, .int .i64 0, .slice none 0 0] 24) = W := ⟨_, rfl⟩
  have hsW : w.heap.size + 2 = W.heap.size := by rw [← hW]; simp
  rw [hW] at b0 b1 hB
  have hl0 : w.heap.size < W.heap.size := by omega
  have hl1 : w.heap.size + 1 < W.heap.size := by omega
  have HB0 := Lib.hid b0
  have HB1 := Lib.hid b1
  have HB := Lib.hid hB
  have HSZ := Lib.hid hsW
  have y0 := cell_of_heap b0 0 (.string f.nm) rfl
  have y1 := cell_of_heap b0 1 (.int .i64 f.ps) rfl
  have y2 := cell_of_heap b0 2 (.int .i64 f.R) rfl
  have y3 := cell_of_heap b0 3 (.int .i64 f.Fr) rfl
  have y4 := cell_of_heap b0 4 (.slice C N cap) rfl
  have hR0 := RightFunc_no f hf C cap W (hC.below hB)
  rw [hN] at hR0 ⊢
  have HR := Lib.hid hR0
  clear hf hC hN hR0 b0 b1 hB hsW
  go_enter Try.func44, Try.ntmps44
  go_wp2_with fail
  refine HR.out.mono ?_
  rintro e w1 ⟨rfl, hb1⟩
  have c0 := (hb1.block _ hl0).trans HB0.out
  have c1 := (hb1.block _ hl1).trans HB1.out
  have z0 := cell_of_heap c0 0 (.string f.nm) rfl
  have z1 := cell_of_heap c0 1 (.int .i64 f.ps) rfl
  have z2 := cell_of_heap c0 2 (.int .i64 f.R) rfl
  have z3 := cell_of_heap c0 3 (.int .i64 f.Fr) rfl
  have z4 := cell_of_heap c0 4 (.slice C N cap) rfl
  have hR := setRow_heap _ _ _ #[.string f.nm, .int .i64 f.ps, .int .i64 f.R, .int .i64 f.Fr, .slice C N cap] _ _ c1
  have r0 := cell_of_heap hR 0 (.string f.nm) rfl
  have r1 := cell_of_heap hR 1 (.int .i64 f.ps) rfl
  have r2 := cell_of_heap hR 2 (.int .i64 f.R) rfl
  have r3 := cell_of_heap hR 3 (.int .i64 f.Fr) rfl
  have r4 := cell_of_heap hR 4 (.slice C N cap) rfl
  have HBF : Hid (Below w.heap.size w (w1.setRow (w.heap.size + 1) #[.string f.nm, .int .i64 f.ps, .int .i64 f.R, .int .i64 f.Fr, .slice C N cap])) := Lib.hid (below_setRow (HB.out.trans (hb1.mono HB.out.size)) (by omega) _)
  clear hR c0 hb1
  go_wp2_with (first
    | (show wpList Try.prog _ _ (⟨none, .store _ (.tmp 2) _, _, _, _, _⟩ :: _) _ _; refine wpList_store_row rfl 24 (.tmp 2) (.tmp 10) rfl (w.heap.size + 1) #[.string f.nm, .int .i64 f.ps, .int .i64 f.R, .int .i64 f.Fr, .slice C N cap] rfl rfl 24 _ c1 sF rfl (func_one _ _ _ _ _ _ _) ?_))
  (try simp only [Exit.inBlock, Exit.then])
  refine bodyPost_ret (by simp [results, Try.results44, go_sem, r0, r1, r2, r3, r4]; try rfl) rfl ?_
  exact ⟨rfl, HBF.out⟩
structure SwI (f c : Fn7) (w wr : World) : Prop where
  ok : OkF c
  nm : c.nm = f.nm ∧ c.ps = f.ps ∧ c.R = f.R ∧ c.Fr = f.Fr
  le : c.code.length ≤ f.code.length
  box : ∃ gb cap, wr.heap[w.heap.size]? = some (.cells #[.string f.nm, .int .i64 f.ps, .int .i64 f.R, .int .i64 f.Fr, .slice (some ⟨gb, 0, none⟩) c.code.length cap] 24) ∧ PreI wr gb c.code ∧ w.heap.size + 2 ≤ gb
  res : wr.heap[w.heap.size + 1]? = some (.cells #[.string ⟨#[]⟩, .int .i64 0, .int .i64 0, .int .i64 0, .slice none 0 0] 24)
  b : Below w.heap.size w wr
  s : w.heap.size + 2 ≤ wr.heap.size
theorem SwI.put {f c : Fn7} {w wr w5 : World} {G : Nat → Bool} {g cap : Nat} (h : SwI f c w wr) (hfit : Fits G c) (hb : Below wr.heap.size wr w5) (hg : wr.heap.size ≤ g) (hP : PreI w5 g (wout G c.code)) :
    SwI f (wF G c) w (w5.setRow w.heap.size #[.string f.nm, .int .i64 f.ps, .int .i64 f.R, .int .i64 f.Fr, .slice (some ⟨g, 0, none⟩) (wout G c.code).length cap]) := by
  have hs := h.s
  obtain ⟨gb, cp, hbx, _, _⟩ := h.box
  refine ⟨hfit.ok h.ok, h.nm, ?_, ⟨g, cap, setRow_heap _ _ _ _ _ _ ((hb.block _ (by omega)).trans hbx), Pre.of_heap hP (setRow_other _ _ _ _ (by omega)), by omega⟩,
    (setRow_other _ _ _ _ (by omega)).trans ((hb.block _ (by omega)).trans h.res), below_setRow (h.b.trans (hb.mono (by omega))) (Nat.le_refl _) _, by have := hb.size; simp; omega⟩
  have h1 : (wF G c).code.length ≤ c.code.length := by show (wout _ _).length ≤ _; rw [wout_len]; exact toI_le _ _
  have := h.le
  omega
theorem dead_le (l : List Ins) : (deadL l).length ≤ l.length := by
  unfold deadL deadK
  rw [List.length_map]
  exact Nat.le_trans (List.length_filter_le _ _) (by simp)
def SweptF (base : Nat) (f : Fn7) (e : Ending) (w : World) : Prop := ∃ g gb cap, Swp f g ∧ e = .returned (.tuple #[funcAgg f.nm f.ps f.R f.Fr (some ⟨gb, 0, none⟩) g.code.length cap, .int .i64 ((f.code.length : Int) - g.code.length)]) ∧ base ≤ gb ∧ PreI w gb g.code
set_option maxRecDepth 1000000 in
set_option maxHeartbeats 16000000 in
theorem Sweep_yes (f : Fn7) (hf : OkF f) (C : Option Addr) (cap : Nat) (w : World) (hC : RdI w C f.code) :
    Calls Try.prog 44 #[funcAgg f.nm f.ps f.R f.Fr C f.code.length cap] w fun e w' => SweptF w.heap.size f e w' ∧ Below w.heap.size w w' := by
  obtain ⟨N, hN⟩ : ∃ N, f.code.length = N := ⟨_, rfl⟩
  have b0 := heap_alloc_new w (.cells #[.string f.nm, .int .i64 f.ps, .int .i64 f.R, .int .i64 f.Fr, .slice C N cap] 24)
  have b1 := heap_alloc_new (w.alloc (.cells #[.string f.nm, .int .i64 f.ps, .int .i64 f.R, .int .i64 f.Fr, .slice C N cap] 24)) (.cells #[.string ⟨#[]⟩, .int .i64 0, .int .i64 0, .int .i64 0, .slice none 0 0] 24)
  rw [show (w.alloc (.cells #[.string f.nm, .int .i64 f.ps, .int .i64 f.R, .int .i64 f.Fr, .slice C N cap] 24)).heap.size = w.heap.size + 1 by simp] at b1
  have b0 := alloc_keeps b0 (.cells #[.string ⟨#[]⟩, .int .i64 0, .int .i64 0, .int .i64 0, .slice none 0 0] 24)
  have hB := (Below.one w (.cells #[.string f.nm, .int .i64 f.ps, .int .i64 f.R, .int .i64 f.Fr, .slice C N cap] 24)).alloc (by simp) (.cells #[.string ⟨#[]⟩, .int .i64 0, .int .i64 0, .int .i64 0, .slice none 0 0] 24)
  obtain ⟨W, hW⟩ : ∃ W, (w.alloc (.cells #[.string f.nm, .int .i64 f.ps, .int .i64 f.R, .int .i64 f.Fr, .slice C N cap] 24)).alloc (.cells #[.string ⟨#[]⟩, .int .i64 0, .int .i64 0, .int .i64 0, .slice none 0 0] 24) = W := ⟨_, rfl⟩
  have hsW : w.heap.size + 2 = W.heap.size := by rw [← hW]; simp
  rw [hW] at b0 b1 hB
  have hl0 : w.heap.size < W.heap.size := by omega
  have hl1 : w.heap.size + 1 < W.heap.size := by omega
  have HB0 := Lib.hid b0
  have HB1 := Lib.hid b1
  have HB := Lib.hid hB
  have HSZ := Lib.hid hsW
  have y0 := cell_of_heap b0 0 (.string f.nm) rfl
  have y1 := cell_of_heap b0 1 (.int .i64 f.ps) rfl
  have y2 := cell_of_heap b0 2 (.int .i64 f.R) rfl
  have y3 := cell_of_heap b0 3 (.int .i64 f.Fr) rfl
  have y4 := cell_of_heap b0 4 (.slice C N cap) rfl
  have hR0 := RightFunc_yes f hf C cap W (hC.below hB)
  have hcl := fun W' (hb : Below W.heap.size W W') => clone_code f hf.len C cap W' ((hC.below hB).below hb)
  rw [hN] at hR0 hcl ⊢
  have HR := Lib.hid hR0
  have HCL := Lib.hid hcl
  have HF := Lib.hid hf
  have HN := Lib.hid hN
  clear hf hC hN hR0 hcl b0 b1 hB hsW
  go_enter Try.func44, Try.ntmps44
  go_wp2_with fail
  refine HR.out.mono ?_
  rintro e w1 ⟨rfl, hb1⟩
  have c0 := (hb1.block _ hl0).trans HB0.out
  have c1 := (hb1.block _ hl1).trans HB1.out
  have z0 := cell_of_heap c0 0 (.string f.nm) rfl
  have z1 := cell_of_heap c0 1 (.int .i64 f.ps) rfl
  have z2 := cell_of_heap c0 2 (.int .i64 f.R) rfl
  have z3 := cell_of_heap c0 3 (.int .i64 f.Fr) rfl
  have z4 := cell_of_heap c0 4 (.slice C N cap) rfl
  have HC0 := Lib.hid c0
  have HC1 := Lib.hid c1
  have HBB := Lib.hid hb1
  clear c0 c1 hb1 hW
  go_wp2_with fail
  refine (HCL.out _ HBB.out).mono ?_
  rintro e w2 ⟨⟨nb, rfl, hnb, hP⟩, hb2⟩
  have hs1 := HBB.out.size
  have c0 := (hb2.block _ (by omega)).trans HC0.out
  have c1 := (hb2.block _ (by omega)).trans HC1.out
  have hbb := HB.out.trans ((HBB.out.trans (hb2.mono hs1)).mono HB.out.size)
  have H0 := Lib.hid (show SwI f f w (w2.setRow w.heap.size #[.string f.nm, .int .i64 f.ps, .int .i64 f.R, .int .i64 f.Fr, .slice (some ⟨nb, 0, none⟩) f.code.length f.code.length]) from
    ⟨HF.out, ⟨rfl, rfl, rfl, rfl⟩, Nat.le_refl _, ⟨nb, f.code.length, setRow_heap _ _ _ _ _ _ c0, Pre.of_heap hP (setRow_other _ _ _ _ (by omega)), by have := HSZ.out; omega⟩,
      (setRow_other _ _ _ _ (by omega)).trans c1, below_setRow hbb (Nat.le_refl _) _, by have := hb2.size; have := HSZ.out; simp; omega⟩)
  rw [HN.out] at H0
  simp only [HN.out, funcAgg]
  clear hP hb2 hbb c1
  go_wp2_with (first
    | (show wpList Try.prog _ _ (⟨none, .store _ (.tmp 1) _, _, _, _, _⟩ :: _) _ _; refine wpList_store_row rfl 24 (.tmp 1) (.tmp 15) rfl w.heap.size #[.string f.nm, .int .i64 f.ps, .int .i64 f.R, .int .i64 f.Fr, .slice (some ⟨nb, 0, none⟩) N N] rfl rfl 24 _ c0 sF rfl (func_one _ _ _ _ _ _ _) ?_))
  dsimp only [Act.put]
  go_loopg [5] N (fun n V wr => ∃ c : Fn7, n = c.code.length ∧ SwI f c w wr ∧ ∀ g, Swp c g → Swp f g)
  case atStart => exact ⟨f, HN.out.symm, H0.out, fun _ h => h⟩
  case round =>
    obtain ⟨c, hn, hs, hfin⟩ := hrel
    obtain ⟨gb, cp, hbx, hP, hgb⟩ := hs.box
    have hss := hs.s
    have e0 := cell_of_heap hbx 0 (.string f.nm) rfl
    have e1 := cell_of_heap hbx 1 (.int .i64 f.ps) rfl
    have e2 := cell_of_heap hbx 2 (.int .i64 f.R) rfl
    have e3 := cell_of_heap hbx 3 (.int .i64 f.Fr) rfl
    have e4 := cell_of_heap hbx 4 _ rfl
    have hr := reached_any c hs.ok (some ⟨gb, 0, none⟩) cp wr hP.read
    obtain ⟨n1, n2, n3, n4⟩ := hs.nm
    rw [n1, n2, n3, n4] at hr
    obtain ⟨n, hcn⟩ : ∃ n, c.code.length = n := ⟨_, rfl⟩
    rw [hcn] at hr e4 hbx
    have HR2 := Lib.hid hr
    have HS := Lib.hid hs
    have HFIN := Lib.hid hfin
    have HP := Lib.hid hP
    have HBX := Lib.hid hbx
    have HCN := Lib.hid hcn
    have HNM := Lib.hid hs.nm
    clear hr hs hfin hP hbx hcn n1 n2 n3 n4
    simp only [funcAgg] at HR2
    go_wp2_with fail
    refine HR2.out.mono ?_
    rintro e w3 ⟨⟨ob, rfl, hob, hPB⟩, hb3⟩
    obtain ⟨w4, hw4⟩ : ∃ w4, w3.alloc (.cells #[.slice (some ⟨ob, 0, none⟩) n n] 69) = w4 := ⟨_, rfl⟩
    have hb4 : Below w3.heap.size w3 w4 := by rw [← hw4]; exact Below.one _ _
    have hc4 : w4.heap[w3.heap.size]? = some (.cells #[.slice (some ⟨ob, 0, none⟩) n n] 69) := by rw [← hw4]; exact heap_alloc_new _ _
    have hb34 := hb3.trans (hb4.mono hb3.size)
    have hx4 := (hb34.block _ (by omega)).trans HBX.out
    have f0 := cell_of_heap hx4 0 (.string f.nm) rfl
    have f1 := cell_of_heap hx4 1 (.int .i64 f.ps) rfl
    have f2 := cell_of_heap hx4 2 (.int .i64 f.R) rfl
    have f3 := cell_of_heap hx4 3 (.int .i64 f.Fr) rfl
    have f4 := cell_of_heap hx4 4 (.slice (some ⟨gb, 0, none⟩) n cp) rfl
    have hl4 : w3.heap.size < w4.heap.size := (Array.getElem?_eq_some_iff.1 hc4).1
    have hob4 : ob < w4.heap.size := Nat.lt_trans (Pre.lt hPB) hl4
    have hwo := without_any1 c HS.out.ok (GU c) (GU_fits HS.out.ok).pos (some ⟨gb, 0, none⟩) cp w4 (HP.out.read.below hb34) w3.heap.size (fun W' hb' p hp => by
      have h1 := Sweep1_any (cb := w3.heap.size) (ob := ob) (N := n) (m := fun p => tb (Rch c.code p)) (cell_of_heap ((hb'.block _ hl4).trans hc4) 0 _ rfl) (Pre.later (Pre.later hPB hb4) hb') p (by rw [← HCN.out]; exact hp)
      exact h1)
    rw [HNM.out.1, HNM.out.2.1, HNM.out.2.2.1, HNM.out.2.2.2, HCN.out] at hwo
    simp only [funcAgg] at hwo
    have HWO := Lib.hid hwo
    have HB34 := Lib.hid hb34
    have HX4 := Lib.hid hx4
    clear hwo hPB hb3 hb4 hc4 hx4 hb34
    go_wp2_with fail
    refine HWO.out.mono ?_
    rintro e w5 ⟨⟨g2, cp2, rfl, hg2, hP2⟩, hb5⟩
    clear hw4 e0 e1 e2 e3 e4 f0 f1 f2 f3 f4
    have hb5' := HB34.out.trans (hb5.mono HB34.out.size)
    have hg2' : wr.heap.size ≤ g2 := by have := HB34.out.size; omega
    have hI6 := HS.out.put (cap := cp2) (GU_fits HS.out.ok) hb5' hg2' hP2
    have c5 := (hb5.block _ (by have := HB34.out.size; omega)).trans HX4.out
    have hx6 := setRow_heap _ _ _ #[.string f.nm, .int .i64 f.ps, .int .i64 f.R, .int .i64 f.Fr, .slice (some ⟨g2, 0, none⟩) (wout (GU c) c.code).length cp2] _ _ c5
    obtain ⟨u, hu⟩ : ∃ u, uF c = u := ⟨_, rfl⟩
    rw [show wF (GU c) c = u from hu, show wout (GU c) c.code = u.code by rw [← hu]; rfl] at *
    obtain ⟨n6, hn6⟩ : ∃ n6, u.code.length = n6 := ⟨_, rfl⟩
    rw [hn6] at hI6 hx6
    simp only [HNM.out.1, HNM.out.2.1, HNM.out.2.2.1, HNM.out.2.2.2, hn6, funcAgg]
    have HU := Lib.hid hu
    have HN6 := Lib.hid hn6
    have HI6 := Lib.hid hI6
    have hPr : PreI (w5.setRow w.heap.size #[.string f.nm, .int .i64 f.ps, .int .i64 f.R, .int .i64 f.Fr, .slice (some ⟨g2, 0, none⟩) n6 cp2]) g2 u.code := Pre.of_heap hP2 (setRow_other _ _ _ _ (by omega))
    have HPR := Lib.hid hPr
    have hUO : OkF u := by rw [← HU.out]; exact uF_ok HS.out.ok
    have HUO := Lib.hid hUO
    have hD := Dead_yes u hUO (some ⟨g2, 0, none⟩) cp2 (w5.setRow w.heap.size #[.string f.nm, .int .i64 f.ps, .int .i64 f.R, .int .i64 f.Fr, .slice (some ⟨g2, 0, none⟩) n6 cp2]) (PreI.read hPr)
    rw [show u.nm = f.nm by rw [← HU.out]; exact HNM.out.1, show u.ps = f.ps by rw [← HU.out]; exact HNM.out.2.1, show u.R = f.R by rw [← HU.out]; exact HNM.out.2.2.1, show u.Fr = f.Fr by rw [← HU.out]; exact HNM.out.2.2.2, hn6] at hD
    simp only [funcAgg] at hD
    have HD := Lib.hid hD
    have h0 := cell_of_heap hx6 0 (.string f.nm) rfl
    have h1 := cell_of_heap hx6 1 (.int .i64 f.ps) rfl
    have h2 := cell_of_heap hx6 2 (.int .i64 f.R) rfl
    have h3 := cell_of_heap hx6 3 (.int .i64 f.Fr) rfl
    have h4 := cell_of_heap hx6 4 (.slice (some ⟨g2, 0, none⟩) n6 cp2) rfl
    have HX6 := Lib.hid hx6
    have HG2 := Lib.hid hg2'
    have HP2 := Lib.hid hP2
    clear hb5 hb5' hI6 hu hn6 hP2 hD hx6 hPr hUO
    go_wp2_with (first
      | (show wpList Try.prog _ _ (⟨none, .store _ (.tmp 1) _, _, _, _, _⟩ :: _) _ _; refine wpList_store_row rfl 24 (.tmp 1) (.tmp 20) rfl w.heap.size #[.string f.nm, .int .i64 f.ps, .int .i64 f.R, .int .i64 f.Fr, .slice (some ⟨g2, 0, none⟩) n6 cp2] rfl rfl 24 _ c5 sF rfl (func_one _ _ _ _ _ _ _) ?_))
    refine HD.out.mono ?_
    rintro e w7 ⟨⟨A, capd, rfl, hRd⟩, hb7⟩
    have hs6 := HI6.out.s
    obtain ⟨nd, hnd⟩ : ∃ nd, (deadL u.code).length = nd := ⟨_, rfl⟩
    rw [hnd]
    obtain ⟨w8, hw8⟩ : ∃ w8, w7.alloc (.cells #[.slice A nd capd] 42) = w8 := ⟨_, rfl⟩
    have hb8 : Below w7.heap.size w7 w8 := by rw [← hw8]; exact Below.one _ _
    have hc8 : w8.heap[w7.heap.size]? = some (.cells #[.slice A nd capd] 42) := by rw [← hw8]; exact heap_alloc_new _ _
    have hb78 := hb7.trans (hb8.mono hb7.size)
    have hx8 := (hb78.block _ (by omega)).trans HX6.out
    have k0 := cell_of_heap hx8 0 (.string f.nm) rfl
    have k1 := cell_of_heap hx8 1 (.int .i64 f.ps) rfl
    have k2 := cell_of_heap hx8 2 (.int .i64 f.R) rfl
    have k3 := cell_of_heap hx8 3 (.int .i64 f.Fr) rfl
    have k4 := cell_of_heap hx8 4 (.slice (some ⟨g2, 0, none⟩) n6 cp2) rfl
    have kd := cell_of_heap hc8 0 (.slice A nd capd) rfl
    have hl8 : w7.heap.size < w8.heap.size := (Array.getElem?_eq_some_iff.1 hc8).1
    have HB78 := Lib.hid hb78
    have HX8 := Lib.hid hx8
    have HC8 := Lib.hid hc8
    have HRD := Lib.hid hRd
    have HND := Lib.hid hnd
    have HB8 := Lib.hid hb8
    clear hb7 hb8 hc8 hb78 hx8 hRd hnd h0 h1 h2 h3 h4
    by_cases hz : nd = 0
    · subst hz
      have hr8 := (HB78.out.block _ (by have := HI6.out.s; omega)).trans HI6.out.res
      have t0 := cell_of_heap hr8 0 (.string ⟨#[]⟩) rfl
      have t1 := cell_of_heap hr8 1 (.int .i64 0) rfl
      have t2 := cell_of_heap hr8 2 (.int .i64 0) rfl
      have t3 := cell_of_heap hr8 3 (.int .i64 0) rfl
      have t4 := cell_of_heap hr8 4 (.slice none 0 0) rfl
      have tf := free_of_heap hr8
      have hlr := (Array.getElem?_eq_some_iff.1 hr8).1
      have HR8 := Lib.hid hr8
      clear hr8
      have hg2 := HG2.out
      have hne2 : (w.heap.size + 1 : Nat) ≠ g2 := by omega
      have HPZ : Hid (PreI (((((w8.setCell ⟨w.heap.size + 1, 0, none⟩ (.string f.nm)).setCell ⟨w.heap.size + 1, 1, none⟩ (.int .i64 f.ps)).setCell ⟨w.heap.size + 1, 2, none⟩ (.int .i64 f.R)).setCell ⟨w.heap.size + 1, 3, none⟩ (.int .i64 f.Fr)).setCell ⟨w.heap.size + 1, 4, none⟩ (.slice (some ⟨g2, 0, none⟩) n6 cp2)) g2 u.code) := Lib.hid (Pre.other (Pre.other (Pre.other (Pre.other (Pre.other (Pre.later HPR.out HB78.out) hne2 _) hne2 _) hne2 _) hne2 _) hne2 _)
      have HBZ : Hid (Below w.heap.size w (((((w8.setCell ⟨w.heap.size + 1, 0, none⟩ (.string f.nm)).setCell ⟨w.heap.size + 1, 1, none⟩ (.int .i64 f.ps)).setCell ⟨w.heap.size + 1, 2, none⟩ (.int .i64 f.R)).setCell ⟨w.heap.size + 1, 3, none⟩ (.int .i64 f.Fr)).setCell ⟨w.heap.size + 1, 4, none⟩ (.slice (some ⟨g2, 0, none⟩) n6 cp2))) := Lib.hid ((((((HI6.out.b.trans (HB78.out.mono HI6.out.b.size)).setCell (by simp) _).setCell (by simp) _).setCell (by simp) _).setCell (by simp) _).setCell (by simp) _)
      have hN2 : N ≤ 8192 := by have := HF.out.len; rw [HN.out] at this; omega
      have hn6N : n6 ≤ N := by have := HI6.out.le; rw [HN6.out, HN.out] at this; exact this
      have HSW : Hid (Swp f u) := Lib.hid (HFIN.out u (by rw [← HU.out]; exact Swp.done (by rw [HU.out]; exact List.eq_nil_of_length_eq_zero HND.out)))
      have hq0 := heap_setCell_same _ _ 0 _ _ (.string f.nm) HR8.out
      have hq1 := heap_setCell_same _ _ 1 _ _ (.int .i64 f.ps) hq0
      have hq2 := heap_setCell_same _ _ 2 _ _ (.int .i64 f.R) hq1
      have hq3 := heap_setCell_same _ _ 3 _ _ (.int .i64 f.Fr) hq2
      have hq4 := heap_setCell_same _ _ 4 _ _ (.slice (some ⟨g2, 0, none⟩) n6 cp2) hq3
      have q0 : (((((w8.setCell ⟨w.heap.size + 1, 0, none⟩ (.string f.nm)).setCell ⟨w.heap.size + 1, 1, none⟩ (.int .i64 f.ps)).setCell ⟨w.heap.size + 1, 2, none⟩ (.int .i64 f.R)).setCell ⟨w.heap.size + 1, 3, none⟩ (.int .i64 f.Fr)).setCell ⟨w.heap.size + 1, 4, none⟩ (.slice (some ⟨g2, 0, none⟩) n6 cp2)).drew.cell? ⟨w.heap.size + 1, 0, none⟩ = some (.string f.nm) := cell_of_heap (w := (((((w8.setCell ⟨w.heap.size + 1, 0, none⟩ (.string f.nm)).setCell ⟨w.heap.size + 1, 1, none⟩ (.int .i64 f.ps)).setCell ⟨w.heap.size + 1, 2, none⟩ (.int .i64 f.R)).setCell ⟨w.heap.size + 1, 3, none⟩ (.int .i64 f.Fr)).setCell ⟨w.heap.size + 1, 4, none⟩ (.slice (some ⟨g2, 0, none⟩) n6 cp2)).drew) hq4 0 _ rfl
      have q1 : (((((w8.setCell ⟨w.heap.size + 1, 0, none⟩ (.string f.nm)).setCell ⟨w.heap.size + 1, 1, none⟩ (.int .i64 f.ps)).setCell ⟨w.heap.size + 1, 2, none⟩ (.int .i64 f.R)).setCell ⟨w.heap.size + 1, 3, none⟩ (.int .i64 f.Fr)).setCell ⟨w.heap.size + 1, 4, none⟩ (.slice (some ⟨g2, 0, none⟩) n6 cp2)).drew.cell? ⟨w.heap.size + 1, 1, none⟩ = some (.int .i64 f.ps) := cell_of_heap (w := (((((w8.setCell ⟨w.heap.size + 1, 0, none⟩ (.string f.nm)).setCell ⟨w.heap.size + 1, 1, none⟩ (.int .i64 f.ps)).setCell ⟨w.heap.size + 1, 2, none⟩ (.int .i64 f.R)).setCell ⟨w.heap.size + 1, 3, none⟩ (.int .i64 f.Fr)).setCell ⟨w.heap.size + 1, 4, none⟩ (.slice (some ⟨g2, 0, none⟩) n6 cp2)).drew) hq4 1 _ rfl
      have q2 : (((((w8.setCell ⟨w.heap.size + 1, 0, none⟩ (.string f.nm)).setCell ⟨w.heap.size + 1, 1, none⟩ (.int .i64 f.ps)).setCell ⟨w.heap.size + 1, 2, none⟩ (.int .i64 f.R)).setCell ⟨w.heap.size + 1, 3, none⟩ (.int .i64 f.Fr)).setCell ⟨w.heap.size + 1, 4, none⟩ (.slice (some ⟨g2, 0, none⟩) n6 cp2)).drew.cell? ⟨w.heap.size + 1, 2, none⟩ = some (.int .i64 f.R) := cell_of_heap (w := (((((w8.setCell ⟨w.heap.size + 1, 0, none⟩ (.string f.nm)).setCell ⟨w.heap.size + 1, 1, none⟩ (.int .i64 f.ps)).setCell ⟨w.heap.size + 1, 2, none⟩ (.int .i64 f.R)).setCell ⟨w.heap.size + 1, 3, none⟩ (.int .i64 f.Fr)).setCell ⟨w.heap.size + 1, 4, none⟩ (.slice (some ⟨g2, 0, none⟩) n6 cp2)).drew) hq4 2 _ rfl
      have q3 : (((((w8.setCell ⟨w.heap.size + 1, 0, none⟩ (.string f.nm)).setCell ⟨w.heap.size + 1, 1, none⟩ (.int .i64 f.ps)).setCell ⟨w.heap.size + 1, 2, none⟩ (.int .i64 f.R)).setCell ⟨w.heap.size + 1, 3, none⟩ (.int .i64 f.Fr)).setCell ⟨w.heap.size + 1, 4, none⟩ (.slice (some ⟨g2, 0, none⟩) n6 cp2)).drew.cell? ⟨w.heap.size + 1, 3, none⟩ = some (.int .i64 f.Fr) := cell_of_heap (w := (((((w8.setCell ⟨w.heap.size + 1, 0, none⟩ (.string f.nm)).setCell ⟨w.heap.size + 1, 1, none⟩ (.int .i64 f.ps)).setCell ⟨w.heap.size + 1, 2, none⟩ (.int .i64 f.R)).setCell ⟨w.heap.size + 1, 3, none⟩ (.int .i64 f.Fr)).setCell ⟨w.heap.size + 1, 4, none⟩ (.slice (some ⟨g2, 0, none⟩) n6 cp2)).drew) hq4 3 _ rfl
      have q4 : (((((w8.setCell ⟨w.heap.size + 1, 0, none⟩ (.string f.nm)).setCell ⟨w.heap.size + 1, 1, none⟩ (.int .i64 f.ps)).setCell ⟨w.heap.size + 1, 2, none⟩ (.int .i64 f.R)).setCell ⟨w.heap.size + 1, 3, none⟩ (.int .i64 f.Fr)).setCell ⟨w.heap.size + 1, 4, none⟩ (.slice (some ⟨g2, 0, none⟩) n6 cp2)).drew.cell? ⟨w.heap.size + 1, 4, none⟩ = some (.slice (some ⟨g2, 0, none⟩) n6 cp2) := cell_of_heap (w := (((((w8.setCell ⟨w.heap.size + 1, 0, none⟩ (.string f.nm)).setCell ⟨w.heap.size + 1, 1, none⟩ (.int .i64 f.ps)).setCell ⟨w.heap.size + 1, 2, none⟩ (.int .i64 f.R)).setCell ⟨w.heap.size + 1, 3, none⟩ (.int .i64 f.Fr)).setCell ⟨w.heap.size + 1, 4, none⟩ (.slice (some ⟨g2, 0, none⟩) n6 cp2)).drew) hq4 4 _ rfl
      clear hq0 hq1 hq2 hq3 hq4
      have HQ := Lib.hid (And.intro q0 (And.intro q1 (And.intro q2 (And.intro q3 q4))))
      clear q0 q1 q2 q3 q4
      clear hg2 hne2
      go_wp2_with fail
      go_region
      go_wp2
      (try simp only [Exit.inBlock, Exit.then])
      obtain ⟨q0, q1, q2, q3, q4⟩ := HQ.out
      refine bodyPost_ret (by simp [results, Try.results44, go_sem, q0, q1, q2, q3, q4]; try rfl) rfl ?_
      exact ⟨⟨u, g2, cp2, HSW.out, by rw [HN6.out, HN.out], by have := HG2.out; omega, HPZ.out⟩, HBZ.out.drew⟩
    · have hz1 : ((nd : Int) == 0) = false := by simp [hz]
      have hwo := without_any2 u HUO.out (deadB u.code) (GD_fits HUO.out).pos (some ⟨g2, 0, none⟩) cp2 w8 ((PreI.read HPR.out).below HB78.out) w7.heap.size (fun W' hb' p hp => by
        have h1 := Sweep2_any (cb := w7.heap.size) (l := deadL u.code) (A := A) (cap := capd) (by rw [HND.out]; exact cell_of_heap ((hb'.block _ hl8).trans HC8.out) 0 _ rfl) ((HRD.out.below HB8.out).below hb') (by rw [HND.out]; have := dead_le u.code; rw [HND.out, HN6.out] at this; have := HUO.out.len; rw [HN6.out] at this; omega) p
        rw [deadL_mem hp] at h1
        exact h1)
      rw [show u.nm = f.nm by rw [← HU.out]; exact HNM.out.1, show u.ps = f.ps by rw [← HU.out]; exact HNM.out.2.1, show u.R = f.R by rw [← HU.out]; exact HNM.out.2.2.1, show u.Fr = f.Fr by rw [← HU.out]; exact HNM.out.2.2.2, HN6.out] at hwo
      simp only [funcAgg] at hwo
      have HWO2 := Lib.hid hwo
      clear hwo
      go_wp2_with fail
      refine HWO2.out.mono ?_
      rintro e w9 ⟨⟨g3, cp3, rfl, hg3, hP3⟩, hb9⟩
      have hb9' := HB78.out.trans (hb9.mono HB78.out.size)
      have hI9 := HI6.out.put (cap := cp3) (GD_fits HUO.out) hb9' (by have := HB78.out.size; omega) hP3
      have c9 := (hb9.block _ (by have := HB78.out.size; have := HI6.out.s; omega)).trans HX8.out
      obtain ⟨v, hv⟩ : ∃ v, dF u = v := ⟨_, rfl⟩
      rw [show wF (deadB u.code) u = v from hv, show wout (deadB u.code) u.code = v.code by rw [← hv]; rfl] at hI9
      rw [show wout (deadB u.code) u.code = v.code by rw [← hv]; rfl]
      obtain ⟨n9, hn9⟩ : ∃ n9, v.code.length = n9 := ⟨_, rfl⟩
      rw [hn9] at hI9
      simp only [show u.nm = f.nm by rw [← HU.out]; exact HNM.out.1, show u.ps = f.ps by rw [← HU.out]; exact HNM.out.2.1, show u.R = f.R by rw [← HU.out]; exact HNM.out.2.2.1, show u.Fr = f.Fr by rw [← HU.out]; exact HNM.out.2.2.2, hn9, funcAgg]
      have hne : deadL u.code ≠ [] := fun h => hz (by rw [← HND.out, h]; rfl)
      have hlt : n9 < n := by
        have h1 := dF_less hne
        rw [hv, hn9, HN6.out] at h1
        have h2 : (uF c).code.length ≤ c.code.length := by show (wout _ _).length ≤ _; rw [wout_len]; exact toI_le _ _
        rw [HU.out, HN6.out, HCN.out] at h2
        omega
      have HFV : Hid (∀ g, Swp v g → Swp f g) := Lib.hid fun g hg => HFIN.out g (Swp.more (by rw [HU.out]; exact hne) (by rw [HU.out, hv]; exact hg))
      have HV := Lib.hid hn9
      have HI9 := Lib.hid hI9
      clear hI9 hP3 hb9 hb9' hne hv hn9
      go_wp2_with (first
        | (show wpList Try.prog _ _ (⟨none, .store _ (.tmp 1) _, _, _, _, _⟩ :: _) _ _; refine wpList_store_row rfl 24 (.tmp 1) (.tmp 34) rfl w.heap.size #[.string f.nm, .int .i64 f.ps, .int .i64 f.R, .int .i64 f.Fr, .slice (some ⟨g3, 0, none⟩) n9 cp3] rfl rfl 24 _ c9 sF rfl (func_one _ _ _ _ _ _ _) ?_))
      go_roundg n9
      case measure => have h1 := HCN.out; omega
      case rel => exact ⟨v, HV.out.symm, HI9.out, HFV.out⟩
end Go.Proofs.Ytaofdbboalcceaa
