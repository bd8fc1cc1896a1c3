import Derived.Test.YtaofdbboalcceaaUl
import Derived.Test.YtaofdbboalcceaaUg
import Derived.Test.YtaofdbboalcceaaVr
import Derived.Test.YtaofdbboalcceaaLd
/- LiveSweeps: the walk, of a function that is not gone through, or may not be. -/
namespace Go.Proofs.Ytaofdbboalcceaa
open Go.RowKit Go.BigFrame

set_option maxRecDepth 1000000 in
set_option maxHeartbeats 8000000 in
theorem sw_few (f : Fn7) (hf : ¬ Few f) (C : Option Addr) (cap : Nat) (hl9 : f.code.length ≤ 9223372036854775807) (w : World) (hC : RdI w C f.code) :
    Calls Try.prog 13 #[funcAgg f.nm f.ps f.R f.Fr C f.code.length cap] w fun e w' => e = .returned (.bool true) ∧ Below w.heap.size w w' := by
  have hB := Below.one w (funcObj f.nm f.ps f.R f.Fr C f.code.length cap)
  have hF := few10_no f hf C cap hl9 _ (hC.below hB)
  have ha := fun W => awake10_any W
  simp only [funcObj, funcAgg] at hB hF ⊢
  have HF := Lib.hid hF
  have HA := Lib.hid ha
  clear hf hC hF ha hl9
  go_enter Try.func13, Try.ntmps13
  go_wp2_with (first
    | (refine HF.out.mono ?_; rintro e w3 ⟨rfl, hb3⟩)
    | (refine (HA.out _).mono ?_; rintro e w4 ⟨rfl, hb4⟩))
  go_returns
  exact ⟨rfl, hB.trans ((hb3.trans (hb4.mono hb3.size)).mono hB.size)⟩
set_option maxRecDepth 1000000 in
set_option maxHeartbeats 8000000 in
theorem sw_bad (f : Fn7) (hf : Few f) (hno : ¬ OkF f) (C : Option Addr) (cap : Nat) (hl9 : f.code.length ≤ 9223372036854775807) (w : World) (hC : RdI w C f.code) :
    Calls Try.prog 13 #[funcAgg f.nm f.ps f.R f.Fr C f.code.length cap] w fun e w' => e = .returned (.bool true) ∧ Below w.heap.size w w' := by
  have hB := Below.one w (funcObj f.nm f.ps f.R f.Fr C f.code.length cap)
  have bx := heap_alloc_new w (funcObj f.nm f.ps f.R f.Fr C f.code.length cap)
  have hC1 := hC.below hB
  have hF := few10_yes f hf C cap hl9 _ hC1
  have hD := fun W h => Sweep_no f hno C cap W h
  have hR := fun W h => refRight_no f hno C cap W h
  have hS := fun W h => Same_any f f C C cap cap hl9 hl9 W h h
  have ha := fun W => awake10_any W
  obtain ⟨W, hW⟩ : ∃ W, w.alloc (funcObj f.nm f.ps f.R f.Fr C f.code.length cap) = W := ⟨_, rfl⟩
  rw [hW] at hB bx hC1 hF
  obtain ⟨N, hN⟩ : ∃ N, f.code.length = N := ⟨_, rfl⟩
  rw [hN] at hF hD hR hS bx hW ⊢
  have g0 := cell_of_heap bx 0 (.string f.nm) rfl
  have g1 := cell_of_heap bx 1 (.int .i64 f.ps) rfl
  have g2 := cell_of_heap bx 2 (.int .i64 f.R) rfl
  have g3 := cell_of_heap bx 3 (.int .i64 f.Fr) rfl
  have g4 := cell_of_heap bx 4 (.slice C N cap) rfl
  have hbl := (Array.getElem?_eq_some_iff.1 bx).1
  simp only [funcObj, funcAgg] at hF hD hR hS hW ⊢
  have HF := Lib.hid hF
  have HD := Lib.hid hD
  have HR := Lib.hid hR
  have HS := Lib.hid hS
  have HA := Lib.hid ha
  have HB := Lib.hid hB
  have HBX := Lib.hid bx
  have HC1 := Lib.hid hC1
  have HSM : Hid (SameF f f) := Lib.hid rfl
  clear hf hno hC hF hD hR hS ha hl9 hB bx hC1 hN
  go_enter Try.func13, Try.ntmps13
  go_wp2_with fail

  refine HF.out.mono ?_
  rintro e w3 ⟨rfl, hb3⟩
  have c3 := (hb3.block _ hbl).trans HBX.out
  have h0 := cell_of_heap c3 0 (.string f.nm) rfl
  have h1 := cell_of_heap c3 1 (.int .i64 f.ps) rfl
  have h2 := cell_of_heap c3 2 (.int .i64 f.R) rfl
  have h3 := cell_of_heap c3 3 (.int .i64 f.Fr) rfl
  have h4 := cell_of_heap c3 4 (.slice C N cap) rfl
  have HB3 := Lib.hid hb3
  clear c3 hb3 hW g0 g1 g2 g3 g4
  go_wp2_with fail
  refine (HD.out _ (HC1.out.below HB3.out)).mono ?_
  rintro e w4 ⟨rfl, hb4⟩
  have hb34 := HB3.out.trans (hb4.mono HB3.out.size)
  have c4 := (hb34.block _ hbl).trans HBX.out
  have i0 := cell_of_heap c4 0 (.string f.nm) rfl
  have i1 := cell_of_heap c4 1 (.int .i64 f.ps) rfl
  have i2 := cell_of_heap c4 2 (.int .i64 f.R) rfl
  have i3 := cell_of_heap c4 3 (.int .i64 f.Fr) rfl
  have i4 := cell_of_heap c4 4 (.slice C N cap) rfl
  have HB4 := Lib.hid hb34
  clear hb4 hb34 h0 h1 h2 h3 h4
  have hs4 := HB4.out.size
  obtain ⟨w5, hw5⟩ : ∃ w5, w4.alloc (.cells #[.string f.nm, .int .i64 f.ps, .int .i64 f.R, .int .i64 f.Fr, .slice C N cap] 24) = w5 := ⟨_, rfl⟩
  have hb5 : Below w4.heap.size w4 w5 := by rw [← hw5]; exact Below.one _ _
  have hg5 : w5.heap[w4.heap.size]? = some (.cells #[.string f.nm, .int .i64 f.ps, .int .i64 f.R, .int .i64 f.Fr, .slice C N cap] 24) := by rw [← hw5]; exact heap_alloc_new _ _
  have c5 := (hb5.block _ (by omega)).trans c4
  have j0 := cell_of_heap c5 0 (.string f.nm) rfl
  have j1 := cell_of_heap c5 1 (.int .i64 f.ps) rfl
  have j2 := cell_of_heap c5 2 (.int .i64 f.R) rfl
  have j3 := cell_of_heap c5 3 (.int .i64 f.Fr) rfl
  have j4 := cell_of_heap c5 4 (.slice C N cap) rfl
  have cg5 := hg5
  have k0 := cell_of_heap cg5 0 (.string f.nm) rfl
  have k1 := cell_of_heap cg5 1 (.int .i64 f.ps) rfl
  have k2 := cell_of_heap cg5 2 (.int .i64 f.R) rfl
  have k3 := cell_of_heap cg5 3 (.int .i64 f.Fr) rfl
  have k4 := cell_of_heap cg5 4 (.slice C N cap) rfl
  have HB5 := Lib.hid (HB4.out.trans (hb5.mono hs4))
  have HX5 := Lib.hid c5
  have HG5 := Lib.hid hg5
  have hl5 := (Array.getElem?_eq_some_iff.1 hg5).1
  clear c4 c5 cg5 hg5 hb5 i0 i1 i2 i3 i4
  go_wp2_with fail
  refine (HR.out _ (HC1.out.below HB5.out)).mono ?_
  rintro e w6 ⟨rfl, hb6⟩
  have hb56 := HB5.out.trans (hb6.mono HB5.out.size)
  have c6 := (hb6.block _ (by omega)).trans HX5.out
  have l0 := cell_of_heap c6 0 (.string f.nm) rfl
  have l1 := cell_of_heap c6 1 (.int .i64 f.ps) rfl
  have l2 := cell_of_heap c6 2 (.int .i64 f.R) rfl
  have l3 := cell_of_heap c6 3 (.int .i64 f.Fr) rfl
  have l4 := cell_of_heap c6 4 (.slice C N cap) rfl
  have cg6 := (hb6.block _ hl5).trans HG5.out
  have m0 := cell_of_heap cg6 0 (.string f.nm) rfl
  have m1 := cell_of_heap cg6 1 (.int .i64 f.ps) rfl
  have m2 := cell_of_heap cg6 2 (.int .i64 f.R) rfl
  have m3 := cell_of_heap cg6 3 (.int .i64 f.Fr) rfl
  have m4 := cell_of_heap cg6 4 (.slice C N cap) rfl
  have HB6 := Lib.hid hb56
  clear c6 cg6 hb6 hb56 j0 j1 j2 j3 j4 k0 k1 k2 k3 k4 hw5
  go_wp2_with fail
  refine (HS.out _ (HC1.out.below HB6.out)).mono ?_
  rintro e w7 ⟨⟨b, rfl, hbb⟩, hb7⟩
  obtain rfl : b = true := hbb.2 HSM.out
  have HB7 := Lib.hid (HB6.out.trans (hb7.mono HB6.out.size))
  clear hb7 hbb l0 l1 l2 l3 l4 m0 m1 m2 m3 m4
  go_wp2_with fail
  refine (HA.out _).mono ?_
  rintro e w8 ⟨rfl, hb8⟩
  go_wp2
  go_returns
  exact ⟨rfl, HB.out.trans ((HB7.out.trans (hb8.mono HB7.out.size)).mono HB.out.size)⟩
end Go.Proofs.Ytaofdbboalcceaa

/- LiveSweeps: the walk, of a function that may be. -/
namespace Go.Proofs.Ytaofdbboalcceaa
open Go.RowKit Go.BigFrame

set_option maxRecDepth 1000000 in
set_option maxHeartbeats 16000000 in
theorem sw_good (f : Fn7) (hf : Few f) (hok : OkF f) (C : Option Addr) (cap : Nat) (hl9 : f.code.length ≤ 9223372036854775807) (w : World) (hC : RdI w C f.code) :
    Calls Try.prog 13 #[funcAgg f.nm f.ps f.R f.Fr C f.code.length cap] w fun e w' => e = .returned (.bool true) ∧ Below w.heap.size w w' := by
  have hB := Below.one w (funcObj f.nm f.ps f.R f.Fr C f.code.length cap)
  have bx := heap_alloc_new w (funcObj f.nm f.ps f.R f.Fr C f.code.length cap)
  have hC1 := hC.below hB
  have hF := few10_yes f hf C cap hl9 _ hC1
  have hD := fun W h => Sweep_yes f hok C cap W h
  have hR := fun W h => refRight_yes f hok C cap W h
  have ha := fun W => awake10_any W
  obtain ⟨W, hW⟩ : ∃ W, w.alloc (funcObj f.nm f.ps f.R f.Fr C f.code.length cap) = W := ⟨_, rfl⟩
  rw [hW] at hB bx hC1 hF
  obtain ⟨N, hN⟩ : ∃ N, f.code.length = N := ⟨_, rfl⟩
  rw [hN] at hF hD hR bx hW ⊢
  have g0 := cell_of_heap bx 0 (.string f.nm) rfl
  have g1 := cell_of_heap bx 1 (.int .i64 f.ps) rfl
  have g2 := cell_of_heap bx 2 (.int .i64 f.R) rfl
  have g3 := cell_of_heap bx 3 (.int .i64 f.Fr) rfl
  have g4 := cell_of_heap bx 4 (.slice C N cap) rfl
  have hbl := (Array.getElem?_eq_some_iff.1 bx).1
  have hN2 : N ≤ 8192 := by rw [← hN]; exact hok.len.2
  simp only [funcObj, funcAgg] at hF hD hR hW ⊢
  have HF := Lib.hid hF
  have HD := Lib.hid hD
  have HR := Lib.hid hR
  have HA := Lib.hid ha
  have HB := Lib.hid hB
  have HBX := Lib.hid bx
  have HC1 := Lib.hid hC1
  have HOK := Lib.hid hok
  have HN := Lib.hid hN
  clear hf hok hC hF hD hR ha hl9 hB bx hC1 hN
  go_enter Try.func13, Try.ntmps13
  go_wp2_with fail
  refine HF.out.mono ?_
  rintro e w3 ⟨rfl, hb3⟩
  have c3 := (hb3.block _ hbl).trans HBX.out
  have h0 := cell_of_heap c3 0 (.string f.nm) rfl
  have h1 := cell_of_heap c3 1 (.int .i64 f.ps) rfl
  have h2 := cell_of_heap c3 2 (.int .i64 f.R) rfl
  have h3 := cell_of_heap c3 3 (.int .i64 f.Fr) rfl
  have h4 := cell_of_heap c3 4 (.slice C N cap) rfl
  have HB3 := Lib.hid hb3
  clear c3 hb3 hW g0 g1 g2 g3 g4
  go_wp2_with fail
  refine (HD.out _ (HC1.out.below HB3.out)).mono ?_
  rintro e w4 ⟨⟨G, gb, cg, hsw, rfl, hgb, hPG⟩, hb4⟩
  obtain ⟨hGok, hGd, hGa, hGn, hGp, hGR, hGF, hGl⟩ := hsw.end_ HOK.out
  obtain ⟨M, hM⟩ : ∃ M, G.code.length = M := ⟨_, rfl⟩
  rw [HN.out, hM] at hGl
  simp only [hM, HN.out, funcAgg]
  have hR2 := fun W h => refRight_yes G hGok (some ⟨gb, 0, none⟩) cg W h
  have hD2 := fun W h => Dead_yes G hGok (some ⟨gb, 0, none⟩) cg W h
  have hS2 := fun W h => Sweep_yes G hGok (some ⟨gb, 0, none⟩) cg W h
  have hRe := fun n W h => Reached_any G hGok n (some ⟨gb, 0, none⟩) cg W h
  rw [hGn, hGp, hGR, hGF, hM] at hR2 hD2 hS2 hRe
  simp only [funcAgg] at hR2 hD2 hS2 hRe
  have HR2 := Lib.hid hR2
  have HD2 := Lib.hid hD2
  have HS2 := Lib.hid hS2
  have HRE := Lib.hid hRe
  have HGA := Lib.hid hGa
  have HGN := Lib.hid (And.intro hGn (And.intro hGp (And.intro hGR hGF)))
  have hSA := fun C' c' W h h' => Same_any G G (some ⟨gb, 0, none⟩) C' cg c' (by rw [hM]; omega) (by rw [hM]; omega) W h h'
  rw [hGn, hGp, hGR, hGF, hM] at hSA
  simp only [funcAgg] at hSA
  have HSA := Lib.hid hSA
  clear hSA
  have HGD := Lib.hid hGd
  have HGOK := Lib.hid hGok
  have HM := Lib.hid hM
  have HPG := Lib.hid (PreI.read hPG)
  have hb34 := HB3.out.trans (hb4.mono HB3.out.size)
  have c4 := (hb34.block _ hbl).trans HBX.out
  have HB4 := Lib.hid hb34
  have hs4 := HB4.out.size
  obtain ⟨w5, hw5⟩ : ∃ w5, w4.alloc (.cells #[.string f.nm, .int .i64 f.ps, .int .i64 f.R, .int .i64 f.Fr, .slice (some ⟨gb, 0, none⟩) M cg] 24) = w5 := ⟨_, rfl⟩
  have hb5 : Below w4.heap.size w4 w5 := by rw [← hw5]; exact Below.one _ _
  have hg5 : w5.heap[w4.heap.size]? = some (.cells #[.string f.nm, .int .i64 f.ps, .int .i64 f.R, .int .i64 f.Fr, .slice (some ⟨gb, 0, none⟩) M cg] 24) := by rw [← hw5]; exact heap_alloc_new _ _
  have c5 := (hb5.block _ (by omega)).trans c4
  have j0 := cell_of_heap c5 0 (.string f.nm) rfl
  have j1 := cell_of_heap c5 1 (.int .i64 f.ps) rfl
  have j2 := cell_of_heap c5 2 (.int .i64 f.R) rfl
  have j3 := cell_of_heap c5 3 (.int .i64 f.Fr) rfl
  have j4 := cell_of_heap c5 4 (.slice C N cap) rfl
  have HB5 := Lib.hid (HB4.out.trans (hb5.mono hs4))
  have HX5 := Lib.hid c5
  have HG5 := Lib.hid hg5
  have HPG5 := Lib.hid (HPG.out.below hb5)
  have hl5 := (Array.getElem?_eq_some_iff.1 hg5).1
  clear c4 c5 hg5 hb5 h0 h1 h2 h3 h4 hb4 hb34 hsw hGok hGd hGa hGn hGp hGR hGF hM hPG hR2 hD2 hS2 hRe
  go_wp2_with fail
  refine (HR.out _ (HC1.out.below HB5.out)).mono ?_
  rintro e w6 ⟨rfl, hb6⟩
  have c6 := (hb6.block _ (by omega)).trans HX5.out
  have l0 := cell_of_heap c6 0 (.string f.nm) rfl
  have l1 := cell_of_heap c6 1 (.int .i64 f.ps) rfl
  have l2 := cell_of_heap c6 2 (.int .i64 f.R) rfl
  have l3 := cell_of_heap c6 3 (.int .i64 f.Fr) rfl
  have l4 := cell_of_heap c6 4 (.slice C N cap) rfl
  have cg6 := (hb6.block _ hl5).trans HG5.out
  have m0 := cell_of_heap cg6 0 (.string f.nm) rfl
  have m1 := cell_of_heap cg6 1 (.int .i64 f.ps) rfl
  have m2 := cell_of_heap cg6 2 (.int .i64 f.R) rfl
  have m3 := cell_of_heap cg6 3 (.int .i64 f.Fr) rfl
  have m4 := cell_of_heap cg6 4 (.slice (some ⟨gb, 0, none⟩) M cg) rfl
  have HX6 := Lib.hid c6
  have HG6 := Lib.hid cg6
  have HB6 := Lib.hid (HB5.out.trans (hb6.mono HB5.out.size))
  have HPG6 := Lib.hid (HPG5.out.below hb6)
  clear c6 cg6 hb6 j0 j1 j2 j3 j4 hw5
  go_wp2_with fail
  refine (HR2.out _ HPG6.out).mono ?_
  rintro e w7 ⟨rfl, hb7⟩
  have c7 := (hb7.block _ (by have := HB6.out.size; omega)).trans HX6.out
  have o0 := cell_of_heap c7 0 (.string f.nm) rfl
  have o1 := cell_of_heap c7 1 (.int .i64 f.ps) rfl
  have o2 := cell_of_heap c7 2 (.int .i64 f.R) rfl
  have o3 := cell_of_heap c7 3 (.int .i64 f.Fr) rfl
  have o4 := cell_of_heap c7 4 (.slice C N cap) rfl
  have cg7 := (hb7.block _ (Array.getElem?_eq_some_iff.1 HG6.out).1).trans HG6.out
  have q0 := cell_of_heap cg7 0 (.string f.nm) rfl
  have q1 := cell_of_heap cg7 1 (.int .i64 f.ps) rfl
  have q2 := cell_of_heap cg7 2 (.int .i64 f.R) rfl
  have q3 := cell_of_heap cg7 3 (.int .i64 f.Fr) rfl
  have q4 := cell_of_heap cg7 4 (.slice (some ⟨gb, 0, none⟩) M cg) rfl
  have HX7 := Lib.hid c7
  have HG7 := Lib.hid cg7
  have HPG7 := Lib.hid (HPG6.out.below hb7)
  have HB7 := Lib.hid (HB6.out.trans (hb7.mono HB6.out.size))
  clear c7 cg7 hb7 l0 l1 l2 l3 l4 m0 m1 m2 m3 m4
  go_wp2_with fail
  refine (HD2.out _ HPG7.out).mono ?_
  rintro e w8 ⟨⟨A8, c8, rfl, hrd8⟩, hb8⟩
  rw [HGD.out, List.length_nil]
  have c8 := (hb8.block _ (by have := HB7.out.size; omega)).trans HX7.out
  have s0 := cell_of_heap c8 0 (.string f.nm) rfl
  have s1 := cell_of_heap c8 1 (.int .i64 f.ps) rfl
  have s2 := cell_of_heap c8 2 (.int .i64 f.R) rfl
  have s3 := cell_of_heap c8 3 (.int .i64 f.Fr) rfl
  have s4 := cell_of_heap c8 4 (.slice C N cap) rfl
  have cg8 := (hb8.block _ (Array.getElem?_eq_some_iff.1 HG7.out).1).trans HG7.out
  have t0 := cell_of_heap cg8 0 (.string f.nm) rfl
  have t1 := cell_of_heap cg8 1 (.int .i64 f.ps) rfl
  have t2 := cell_of_heap cg8 2 (.int .i64 f.R) rfl
  have t3 := cell_of_heap cg8 3 (.int .i64 f.Fr) rfl
  have t4 := cell_of_heap cg8 4 (.slice (some ⟨gb, 0, none⟩) M cg) rfl
  have HX8 := Lib.hid c8
  have HG8 := Lib.hid cg8
  have HPG8 := Lib.hid (HPG7.out.below hb8)
  have HB8 := Lib.hid (HB7.out.trans (hb8.mono HB7.out.size))
  clear c8 cg8 hb8 hrd8 o0 o1 o2 o3 o4 q0 q1 q2 q3 q4
  go_wp2_with fail
  clear s0 s1 s2 s3 s4 t0 t1 t2 t3 t4
  go_loopw [81] (fun ix wr => ∃ k : Nat, k ≤ M ∧ ix = .int .i64 k ∧ Below w8.heap.size w8 wr) (fun ix _ => M - (intOf ix).toNat)
  case atStart => exact ⟨0, by omega, rfl, Below.refl _ _⟩
  case round =>
    obtain ⟨k, hk, rfl, hbr⟩ := hrel
    have hs8 := hbr.size
    have cgr := (hbr.block _ (Array.getElem?_eq_some_iff.1 HG8.out).1).trans HG8.out
    have m0 := cell_of_heap cgr 0 (.string f.nm) rfl
    have m1 := cell_of_heap cgr 1 (.int .i64 f.ps) rfl
    have m2 := cell_of_heap cgr 2 (.int .i64 f.R) rfl
    have m3 := cell_of_heap cgr 3 (.int .i64 f.Fr) rfl
    have m4 := cell_of_heap cgr 4 (.slice (some ⟨gb, 0, none⟩) M cg) rfl
    have HCGR := Lib.hid cgr
    have HBR := Lib.hid hbr
    have HPR := Lib.hid (HPG8.out.below hbr)
    clear cgr hbr
    by_cases hlt : k < M
    · have hre := HRE.out k wr HPR.out
      rw [tb_true.2 (HGA.out k (by rw [HM.out]; exact hlt))] at hre
      have HRE2 := Lib.hid hre
      clear hre
      go_wp2_with fail
      refine HRE2.out.mono ?_
      rintro e w9 ⟨rfl, hb9⟩
      go_wp2
      exact ⟨⟨k + 1, by omega, by go_num, HBR.out.trans (hb9.mono hs8)⟩, by simp [intOf]; omega⟩
    · obtain rfl : k = M := by omega
      go_wp2_with fail
      refine (HS2.out _ HPR.out).mono ?_
      rintro e w9 ⟨⟨H, hb, ch, hsw2, rfl, hhb, hPH⟩, hb9⟩
      obtain rfl : H = G := Swp.again hsw2 HGOK.out HGD.out HGA.out
      simp only [HGN.out.1, HGN.out.2.1, HGN.out.2.2.1, HGN.out.2.2.2, HM.out, funcAgg]
      have hB9 := HBR.out.trans (hb9.mono hs8)
      obtain ⟨w10, hw10⟩ : ∃ w10, w9.alloc (.cells #[.string f.nm, .int .i64 f.ps, .int .i64 f.R, .int .i64 f.Fr, .slice (some ⟨hb, 0, none⟩) k ch] 24) = w10 := ⟨_, rfl⟩
      have hb10 : Below w9.heap.size w9 w10 := by rw [← hw10]; exact Below.one _ _
      have hg10 : w10.heap[w9.heap.size]? = some (.cells #[.string f.nm, .int .i64 f.ps, .int .i64 f.R, .int .i64 f.Fr, .slice (some ⟨hb, 0, none⟩) k ch] 24) := by rw [← hw10]; exact heap_alloc_new _ _
      have hB10 := hb9.trans (hb10.mono hb9.size)
      have cg10 := (hB10.block _ (Array.getElem?_eq_some_iff.1 HCGR.out).1).trans HCGR.out
      have n0 := cell_of_heap cg10 0 (.string f.nm) rfl
      have n1 := cell_of_heap cg10 1 (.int .i64 f.ps) rfl
      have n2 := cell_of_heap cg10 2 (.int .i64 f.R) rfl
      have n3 := cell_of_heap cg10 3 (.int .i64 f.Fr) rfl
      have n4 := cell_of_heap cg10 4 (.slice (some ⟨gb, 0, none⟩) k cg) rfl
      have p0 := cell_of_heap hg10 0 (.string f.nm) rfl
      have p1 := cell_of_heap hg10 1 (.int .i64 f.ps) rfl
      have p2 := cell_of_heap hg10 2 (.int .i64 f.R) rfl
      have p3 := cell_of_heap hg10 3 (.int .i64 f.Fr) rfl
      have p4 := cell_of_heap hg10 4 (.slice (some ⟨hb, 0, none⟩) k ch) rfl
      have HSA2 := Lib.hid (HSA.out (some ⟨hb, 0, none⟩) ch w10 (HPR.out.below hB10) ((PreI.read hPH).below hb10))
      have HB10 := Lib.hid (HB8.out.trans ((HBR.out.trans (hB10.mono hs8)).mono HB8.out.size))
      have HSM : Hid (SameF H H) := Lib.hid rfl
      clear hb9 hB9 hb10 hg10 hB10 cg10 m0 m1 m2 m3 m4 hPH hsw2
      go_wp2_with fail
      refine HSA2.out.mono ?_
      rintro e w11 ⟨⟨b, rfl, hbb⟩, hb11⟩
      obtain rfl : b = true := hbb.2 HSM.out
      have HB11 := Lib.hid (HB10.out.trans (hb11.mono HB10.out.size))
      clear hb11 hbb n0 n1 n2 n3 n4 p0 p1 p2 p3 p4 hw10
      go_wp2_with fail
      refine (HA.out _).mono ?_
      rintro e w12 ⟨rfl, hb12⟩
      go_wp2
      go_returns
      exact ⟨rfl, HB.out.trans ((HB11.out.trans (hb12.mono HB11.out.size)).mono HB.out.size)⟩
theorem LiveSweeps_any (f : Fn7) (C : Option Addr) (cap : Nat) (hl9 : f.code.length ≤ 9223372036854775807) (w : World) (hC : RdI w C f.code) :
    Calls Try.prog 13 #[funcAgg f.nm f.ps f.R f.Fr C f.code.length cap] w fun e w' => e = .returned (.bool true) ∧ Below w.heap.size w w' := by
  by_cases hf : Few f
  · by_cases hok : OkF f
    · exact sw_good f hf hok C cap hl9 w hC
    · exact sw_bad f hf hok C cap hl9 w hC
  · exact sw_few f hf C cap hl9 w hC
end Go.Proofs.Ytaofdbboalcceaa
