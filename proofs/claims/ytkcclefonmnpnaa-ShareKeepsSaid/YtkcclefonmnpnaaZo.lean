import Derived.Test.YtkcclefonmnpnaaZm
import Derived.Test.YtkcclefonmnpnaaZk
import Derived.Deep.CutRange
import Derived.Deep.RegionHeld3
/- ShareKeeps: the walk, of a function that is not gone through, or may not be. -/
namespace Go.Proofs.Ytkcclefonmnpnaa
open Go.RowKit Go.BigFrame

set_option maxRecDepth 1000000 in
set_option maxHeartbeats 8000000 in
theorem sk_few (f : Fn7) (hf : ¬ Few f) (C : Option Addr) (cap : Nat) (hl9 : f.code.length ≤ 9223372036854775807) (w : World) (hC : RdI w C f.code) :
    Calls Try.prog 4 #[funcAgg f.nm f.ps f.R f.Fr C f.code.length cap] w fun e w' => e = .returned (.bool true) ∧ Below w.heap.size w w' := by
  have hB := Below.one w (funcObj f.nm f.ps f.R f.Fr C f.code.length cap)
  have hF := few12_no f hf C cap hl9 _ (hC.below hB)
  have ha := fun W => awake12_any W
  simp only [funcObj, funcAgg] at hB hF ⊢
  have HF := Lib.hid hF
  have HA := Lib.hid ha
  clear hf hC hF ha hl9
  go_enter Try.func4, Try.ntmps4
  go_wp2_with (first
    | (refine HF.out.mono ?_; rintro e w3 ⟨rfl, hb3⟩)
    | (refine (HA.out _).mono ?_; rintro e w4 ⟨rfl, hb4⟩))
  go_returns
  exact ⟨rfl, hB.trans ((hb3.trans (hb4.mono hb3.size)).mono hB.size)⟩
set_option maxRecDepth 1000000 in
set_option maxHeartbeats 8000000 in
theorem sk_bad (f : Fn7) (hf : Few f) (hno : ¬ OkF f) (C : Option Addr) (cap : Nat) (hl9 : f.code.length ≤ 9223372036854775807) (w : World) (hC : RdI w C f.code) :
    Calls Try.prog 4 #[funcAgg f.nm f.ps f.R f.Fr C f.code.length cap] w fun e w' => e = .returned (.bool true) ∧ Below w.heap.size w w' := by
  have hB := Below.one w (funcObj f.nm f.ps f.R f.Fr C f.code.length cap)
  have bx := heap_alloc_new w (funcObj f.nm f.ps f.R f.Fr C f.code.length cap)
  have hC1 := hC.below hB
  have hF := few12_yes f hf C cap hl9 _ hC1
  have hD := fun W h => Of_no f hno C cap W h
  have hR := fun W h => refRight12_no f hno C cap W h
  have hS := fun W h => Same_any f f C C cap cap hl9 hl9 W h h
  have ha := fun W => awake12_any W
  obtain ⟨W, hW⟩ : ∃ W, w.alloc (funcObj f.nm f.ps f.R f.Fr C f.code.length cap) = W := ⟨_, rfl⟩
  rw [hW] at hB bx hC1 hF
  obtain ⟨N, hN⟩ : ∃ N, f.code.length = N := ⟨_, rfl⟩
  rw [hN] at hF hD hR hS bx hW ⊢
  have g0 := cell_of_heap bx 0 (.string f.nm) rfl
  have g1 := cell_of_heap bx 1 (.int .i64 f.ps) rfl
  have g2 := cell_of_heap bx 2 (.int .i64 f.R) rfl
  have g3 := cell_of_heap bx 3 (.int .i64 f.Fr) rfl
  have g4 := cell_of_heap bx 4 (.slice C N cap) rfl
  have hbl := (Array.getElem?_eq_some_iff.1 bx).1
  simp only [funcObj, funcAgg] at hF hD hR hS hW ⊢
  have HF := Lib.hid hF
  have HD := Lib.hid hD
  have HR := Lib.hid hR
  have HS := Lib.hid hS
  have HA := Lib.hid ha
  have HB := Lib.hid hB
  have HBX := Lib.hid bx
  have HC1 := Lib.hid hC1
  have HSM : Hid (SameF f f) := Lib.hid rfl
  clear hf hno hC hF hD hR hS ha hl9 hB bx hC1 hN
  go_enter Try.func4, Try.ntmps4
  go_wp2_with fail

  refine HF.out.mono ?_
  rintro e w3 ⟨rfl, hb3⟩
  have c3 := (hb3.block _ hbl).trans HBX.out
  have h0 := cell_of_heap c3 0 (.string f.nm) rfl
  have h1 := cell_of_heap c3 1 (.int .i64 f.ps) rfl
  have h2 := cell_of_heap c3 2 (.int .i64 f.R) rfl
  have h3 := cell_of_heap c3 3 (.int .i64 f.Fr) rfl
  have h4 := cell_of_heap c3 4 (.slice C N cap) rfl
  have HB3 := Lib.hid hb3
  clear c3 hb3 hW g0 g1 g2 g3 g4
  go_wp2_with fail
  refine (HD.out _ (HC1.out.below HB3.out)).mono ?_
  rintro e w4 ⟨rfl, hb4⟩
  have hb34 := HB3.out.trans (hb4.mono HB3.out.size)
  have c4 := (hb34.block _ hbl).trans HBX.out
  have i0 := cell_of_heap c4 0 (.string f.nm) rfl
  have i1 := cell_of_heap c4 1 (.int .i64 f.ps) rfl
  have i2 := cell_of_heap c4 2 (.int .i64 f.R) rfl
  have i3 := cell_of_heap c4 3 (.int .i64 f.Fr) rfl
  have i4 := cell_of_heap c4 4 (.slice C N cap) rfl
  have HB4 := Lib.hid hb34
  clear hb4 hb34 h0 h1 h2 h3 h4
  have hs4 := HB4.out.size
  obtain ⟨w5, hw5⟩ : ∃ w5, w4.alloc (.cells #[.string f.nm, .int .i64 f.ps, .int .i64 f.R, .int .i64 f.Fr, .slice C N cap] 24) = w5 := ⟨_, rfl⟩
  have hb5 : Below w4.heap.size w4 w5 := by rw [← hw5]; exact Below.one _ _
  have hg5 : w5.heap[w4.heap.size]? = some (.cells #[.string f.nm, .int .i64 f.ps, .int .i64 f.R, .int .i64 f.Fr, .slice C N cap] 24) := by rw [← hw5]; exact heap_alloc_new _ _
  have c5 := (hb5.block _ (by omega)).trans c4
  have j0 := cell_of_heap c5 0 (.string f.nm) rfl
  have j1 := cell_of_heap c5 1 (.int .i64 f.ps) rfl
  have j2 := cell_of_heap c5 2 (.int .i64 f.R) rfl
  have j3 := cell_of_heap c5 3 (.int .i64 f.Fr) rfl
  have j4 := cell_of_heap c5 4 (.slice C N cap) rfl
  have cg5 := hg5
  have k0 := cell_of_heap cg5 0 (.string f.nm) rfl
  have k1 := cell_of_heap cg5 1 (.int .i64 f.ps) rfl
  have k2 := cell_of_heap cg5 2 (.int .i64 f.R) rfl
  have k3 := cell_of_heap cg5 3 (.int .i64 f.Fr) rfl
  have k4 := cell_of_heap cg5 4 (.slice C N cap) rfl
  have HB5 := Lib.hid (HB4.out.trans (hb5.mono hs4))
  have HX5 := Lib.hid c5
  have HG5 := Lib.hid hg5
  have hl5 := (Array.getElem?_eq_some_iff.1 hg5).1
  clear c4 c5 cg5 hg5 hb5 i0 i1 i2 i3 i4
  go_wp2_with fail
  refine (HR.out _ (HC1.out.below HB5.out)).mono ?_
  rintro e w6 ⟨rfl, hb6⟩
  have hb56 := HB5.out.trans (hb6.mono HB5.out.size)
  have c6 := (hb6.block _ (by omega)).trans HX5.out
  have l0 := cell_of_heap c6 0 (.string f.nm) rfl
  have l1 := cell_of_heap c6 1 (.int .i64 f.ps) rfl
  have l2 := cell_of_heap c6 2 (.int .i64 f.R) rfl
  have l3 := cell_of_heap c6 3 (.int .i64 f.Fr) rfl
  have l4 := cell_of_heap c6 4 (.slice C N cap) rfl
  have cg6 := (hb6.block _ hl5).trans HG5.out
  have m0 := cell_of_heap cg6 0 (.string f.nm) rfl
  have m1 := cell_of_heap cg6 1 (.int .i64 f.ps) rfl
  have m2 := cell_of_heap cg6 2 (.int .i64 f.R) rfl
  have m3 := cell_of_heap cg6 3 (.int .i64 f.Fr) rfl
  have m4 := cell_of_heap cg6 4 (.slice C N cap) rfl
  have HB6 := Lib.hid hb56
  clear c6 cg6 hb6 hb56 j0 j1 j2 j3 j4 k0 k1 k2 k3 k4 hw5
  go_wp2_with fail
  refine (HS.out _ (HC1.out.below HB6.out)).mono ?_
  rintro e w7 ⟨⟨b, rfl, hbb⟩, hb7⟩
  obtain rfl : b = true := hbb.2 HSM.out
  have HB7 := Lib.hid (HB6.out.trans (hb7.mono HB6.out.size))
  clear hb7 hbb l0 l1 l2 l3 l4 m0 m1 m2 m3 m4
  go_wp2_with fail
  refine (HA.out _).mono ?_
  rintro e w8 ⟨rfl, hb8⟩
  go_wp2
  go_returns
  exact ⟨rfl, HB.out.trans ((HB7.out.trans (hb8.mono HB7.out.size)).mono HB.out.size)⟩
end Go.Proofs.Ytkcclefonmnpnaa

/- ShareKeeps: the walk, of a function that may be. -/
namespace Go.Proofs.Ytkcclefonmnpnaa
open Go.RowKit Go.BigFrame

/-- two instructions in boxes of their own -/
def TwoI (wr wx : World) (i j : Ins) (s7 s8 : Value) : Prop := ∃ p q, s7 = .pointer (some ⟨p, 0, none⟩) ∧ s8 = .pointer (some ⟨q, 0, none⟩) ∧ wx.heap[p]? = some i.obj ∧ wx.heap[q]? = some j.obj ∧ Below wr.heap.size wr wx
theorem two_drew (w : World) (a b : Obj) : ((w.alloc a).alloc b).drew.heap[w.heap.size]? = some a ∧ ((w.alloc a).alloc b).drew.heap[w.heap.size + 1]? = some b ∧ Below w.heap.size w ((w.alloc a).alloc b).drew := by
  obtain ⟨h1, h2, h3⟩ := two_made w a b
  exact ⟨h1, h2, ⟨h3.os, h3.tape, h3.output, h3.size, h3.block⟩⟩
set_option maxRecDepth 1000000 in
set_option maxHeartbeats 16000000 in
theorem sk_good (f : Fn7) (hf : Few f) (hok : OkF f) (C : Option Addr) (cap : Nat) (hl9 : f.code.length ≤ 9223372036854775807) (w : World) (hC : RdI w C f.code) :
    Calls Try.prog 4 #[funcAgg f.nm f.ps f.R f.Fr C f.code.length cap] w fun e w' => e = .returned (.bool true) ∧ Below w.heap.size w w' := by
  have hB := Below.one w (funcObj f.nm f.ps f.R f.Fr C f.code.length cap)
  have bx := heap_alloc_new w (funcObj f.nm f.ps f.R f.Fr C f.code.length cap)
  have hC1 := hC.below hB
  have hF := few12_yes f hf C cap hl9 _ hC1
  have hD := fun W h => Of_yes f hok C cap W h
  have hR := fun W h => refRight12_yes f hok C cap W h
  have ha := fun W => awake12_any W
  obtain ⟨W, hW⟩ : ∃ W, w.alloc (funcObj f.nm f.ps f.R f.Fr C f.code.length cap) = W := ⟨_, rfl⟩
  rw [hW] at hB bx hC1 hF
  obtain ⟨N, hN⟩ : ∃ N, f.code.length = N := ⟨_, rfl⟩
  have hR2 : ∀ gb W (_ : RdI W (some ⟨gb, 0, none⟩) (shL f.code)), Calls Try.prog 18 #[funcAgg f.nm f.ps f.R f.Fr (some ⟨gb, 0, none⟩) N N] W fun e w' => e = .returned (.bool true) ∧ Below W.heap.size W w' := fun gb W h => by
    have h2 := refRight12_yes (shF f) (shF_ok hok) (some ⟨gb, 0, none⟩) N W h
    rw [show (shF f).code.length = N from by rw [← hN]; exact shL_len f.code] at h2
    exact h2
  rw [hN] at hF hD hR bx hW ⊢
  have g0 := cell_of_heap bx 0 (.string f.nm) rfl
  have g1 := cell_of_heap bx 1 (.int .i64 f.ps) rfl
  have g2 := cell_of_heap bx 2 (.int .i64 f.R) rfl
  have g3 := cell_of_heap bx 3 (.int .i64 f.Fr) rfl
  have g4 := cell_of_heap bx 4 (.slice C N cap) rfl
  have hbl := (Array.getElem?_eq_some_iff.1 bx).1
  have hN2 : N ≤ 8192 := by rw [← hN]; exact hok.len.2
  simp only [funcObj, funcAgg] at hF hD hR hR2 hW ⊢
  have HF := Lib.hid hF
  have HD := Lib.hid hD
  have HR := Lib.hid hR
  have HR2 := Lib.hid hR2
  have HA := Lib.hid ha
  have HB := Lib.hid hB
  have HBX := Lib.hid bx
  have HC1 := Lib.hid hC1
  have HOK := Lib.hid hok
  have HN := Lib.hid hN
  clear hf hok hC hF hD hR hR2 ha hl9 hB bx hC1 hN
  go_enter Try.func4, Try.ntmps4
  go_wp2_with fail
  refine HF.out.mono ?_
  rintro e w3 ⟨rfl, hb3⟩
  have c3 := (hb3.block _ hbl).trans HBX.out
  have h0 := cell_of_heap c3 0 (.string f.nm) rfl
  have h1 := cell_of_heap c3 1 (.int .i64 f.ps) rfl
  have h2 := cell_of_heap c3 2 (.int .i64 f.R) rfl
  have h3 := cell_of_heap c3 3 (.int .i64 f.Fr) rfl
  have h4 := cell_of_heap c3 4 (.slice C N cap) rfl
  have HB3 := Lib.hid hb3
  clear c3 hb3 hW g0 g1 g2 g3 g4
  go_wp2_with fail
  refine (HD.out _ (HC1.out.below HB3.out)).mono ?_
  rintro e w4 ⟨⟨gb, rfl, hgb, hPG⟩, hb4⟩
  rw [HN.out]
  simp only [funcAgg]
  have HPG := Lib.hid hPG
  have hb34 := HB3.out.trans (hb4.mono HB3.out.size)
  have c4 := (hb34.block _ hbl).trans HBX.out
  have HB4 := Lib.hid hb34
  have hs4 := HB4.out.size
  obtain ⟨w5, hw5⟩ : ∃ w5, w4.alloc (.cells #[.string f.nm, .int .i64 f.ps, .int .i64 f.R, .int .i64 f.Fr, .slice (some ⟨gb, 0, none⟩) N N] 24) = w5 := ⟨_, rfl⟩
  have hb5 : Below w4.heap.size w4 w5 := by rw [← hw5]; exact Below.one _ _
  have hg5 : w5.heap[w4.heap.size]? = some (.cells #[.string f.nm, .int .i64 f.ps, .int .i64 f.R, .int .i64 f.Fr, .slice (some ⟨gb, 0, none⟩) N N] 24) := by rw [← hw5]; exact heap_alloc_new _ _
  have c5 := (hb5.block _ (by omega)).trans c4
  have j0 := cell_of_heap c5 0 (.string f.nm) rfl
  have j1 := cell_of_heap c5 1 (.int .i64 f.ps) rfl
  have j2 := cell_of_heap c5 2 (.int .i64 f.R) rfl
  have j3 := cell_of_heap c5 3 (.int .i64 f.Fr) rfl
  have j4 := cell_of_heap c5 4 (.slice C N cap) rfl
  have HB5 := Lib.hid (HB4.out.trans (hb5.mono hs4))
  have HX5 := Lib.hid c5
  have HG5 := Lib.hid hg5
  have HPG5 := Lib.hid (Pre.later hPG hb5)
  have hl5 := (Array.getElem?_eq_some_iff.1 hg5).1
  clear c4 c5 hg5 hb5 h0 h1 h2 h3 h4 hb4 hb34 hPG HPG hgb
  go_wp2_with fail
  refine (HR.out _ (HC1.out.below HB5.out)).mono ?_
  rintro e w6 ⟨rfl, hb6⟩
  have c6 := (hb6.block _ (by omega)).trans HX5.out
  have cg6 := (hb6.block _ hl5).trans HG5.out
  have m0 := cell_of_heap cg6 0 (.string f.nm) rfl
  have m1 := cell_of_heap cg6 1 (.int .i64 f.ps) rfl
  have m2 := cell_of_heap cg6 2 (.int .i64 f.R) rfl
  have m3 := cell_of_heap cg6 3 (.int .i64 f.Fr) rfl
  have m4 := cell_of_heap cg6 4 (.slice (some ⟨gb, 0, none⟩) N N) rfl
  have HX6 := Lib.hid c6
  have HG6 := Lib.hid cg6
  have HB6 := Lib.hid (HB5.out.trans (hb6.mono HB5.out.size))
  have HPG6 := Lib.hid (Pre.later HPG5.out hb6)
  clear c6 cg6 hb6 j0 j1 j2 j3 j4 hw5
  go_wp2_with fail
  refine (HR2.out gb _ (PreI.read HPG6.out)).mono ?_
  rintro e w7 ⟨rfl, hb7⟩
  have c7 := (hb7.block _ (by have := HB6.out.size; omega)).trans HX6.out
  have o0 := cell_of_heap c7 0 (.string f.nm) rfl
  have o1 := cell_of_heap c7 1 (.int .i64 f.ps) rfl
  have o2 := cell_of_heap c7 2 (.int .i64 f.R) rfl
  have o3 := cell_of_heap c7 3 (.int .i64 f.Fr) rfl
  have o4 := cell_of_heap c7 4 (.slice C N cap) rfl
  have cg7 := (hb7.block _ (Array.getElem?_eq_some_iff.1 HG6.out).1).trans HG6.out
  have q0 := cell_of_heap cg7 0 (.string f.nm) rfl
  have q1 := cell_of_heap cg7 1 (.int .i64 f.ps) rfl
  have q2 := cell_of_heap cg7 2 (.int .i64 f.R) rfl
  have q3 := cell_of_heap cg7 3 (.int .i64 f.Fr) rfl
  have q4 := cell_of_heap cg7 4 (.slice (some ⟨gb, 0, none⟩) N N) rfl
  have HX7 := Lib.hid c7
  have HG7 := Lib.hid cg7
  have HPG7 := Lib.hid (Pre.later HPG6.out hb7)
  have HB7 := Lib.hid (HB6.out.trans (hb7.mono HB6.out.size))
  have HC7 := Lib.hid (HC1.out.below HB7.out)
  have hl7 := (Array.getElem?_eq_some_iff.1 c7).1
  have hl7g := (Array.getElem?_eq_some_iff.1 cg7).1
  clear c7 cg7 hb7 m0 m1 m2 m3 m4
  go_wp2_with fail
  clear o0 o1 o2 o3 o4 q0 q1 q2 q3 q4
  go_loopw [5, 74] (fun ct ix wr => ∃ k : Nat, k ≤ N ∧ ix = .int .i64 k ∧ ct = .int .i64 (shN f.code k : Int) ∧ Below w7.heap.size w7 wr) (fun ct ix _ => N - (intOf ix).toNat)
  case atStart => exact ⟨0, by omega, rfl, rfl, Below.refl _ _⟩
  case round =>
    obtain ⟨k, hk, rfl, rfl, hbr⟩ := hrel
    have hsr := hbr.size
    have cr := (hbr.block _ hl7).trans HX7.out
    have cgr := (hbr.block _ hl7g).trans HG7.out
    have o4 := cell_of_heap cr 4 (.slice C N cap) rfl
    have q4 := cell_of_heap cgr 4 (.slice (some ⟨gb, 0, none⟩) N N) rfl
    have HBR := Lib.hid hbr
    have HCR := Lib.hid (HC7.out.below hbr)
    have HPR := Lib.hid (Pre.later HPG7.out hbr)
    clear cr cgr hbr
    by_cases hlt : k < N
    · have hi := insD_in (show k < f.code.length by rw [HN.out]; exact hlt)
      have hj := shL_at hi
      have hokI := HOK.out.ok _ (List.mem_of_getElem? hi)
      obtain ⟨e1, e2, e3, e4⟩ := new_keeps (x := shIn f.code k) hokI
      have hcnt := shN_succ f.code k
      have hcl8 : shN f.code k ≤ 8192 := by
        have : shN f.code k ≤ (List.range k).length := List.length_filter_le _ _
        simp at this
        omega
      obtain ⟨j, hje⟩ : ∃ j, (shIn f.code k).new (insD f.code k) = j := ⟨_, rfl⟩
      rw [hje] at hj e1 e2 e3 e4 hcnt
      obtain ⟨i, hie⟩ : ∃ i, insD f.code k = i := ⟨_, rfl⟩
      rw [hie] at hi e1 e2 e3 e4 hcnt
      have HCT := Lib.hid hcnt
      obtain ⟨bb, oo, rfl, hbl2, hcs⟩ := HCR.out k _ hi
      obtain ⟨x0, x1, x2, x3, x4, x5, x6, x7, x8, x9, x10, x11, x12, x13, x14⟩ := RdI.load hcs
      obtain ⟨y0, y1, y2, y3, y4, y5, y6, y7, y8, y9, y10, y11, y12, y13, y14⟩ := PreI.cells HPR.out hj
      have hA1 : w.heap.size < wr.heap.size := by omega
      have hA2 : w4.heap.size < wr.heap.size := by omega
      have hgbl := Pre.lt HPR.out
      clear hi hj hokI hcnt hje hie hcs
      go_upto_region 12 with fail
      go_cut [7, 8] from 77 to 86 (fun s7 s8 wx => TwoI wr wx i j s7 s8)
      case first =>
        go_region_held3 (fun w' => ∀ (q o : Nat), q < wr.heap.size → w'.cell? ⟨q, o, none⟩ = wr.cell? ⟨q, o, none⟩)
          (first
          | with_reducible exact fun q o h => rfl
          | exact fun q o h => (Below.one wr _).cell (p := ⟨q, o, none⟩) h
          | exact fun q o h => ((Below.one wr _).alloc (by simp) _).cell (p := ⟨q, o, none⟩) h
          | exact fun q o h => rfl)
          (fail)
        all_goals (go_wp2_with fail; go_meet)
        · exact ⟨_, _, rfl, rfl, (two_drew wr _ _).1, (by simp only [Ins.obj, e2, e3]; exact (two_drew wr _ _).2.1), (two_drew wr _ _).2.2⟩
        · exact ⟨_, _, rfl, rfl, (two_drew wr _ _).2.1, (by simp only [Ins.obj, e2, e3]; exact (two_drew wr _ _).1), (two_drew wr _ _).2.2⟩
      case rest =>
        obtain ⟨p, q, rfl, rfl, hp, hq, hbx⟩ := hcut
        obtain ⟨wx, hwx⟩ : ∃ wx, wx = wc := ⟨_, rfl⟩
        subst hwx
        have ⟨d0, d1, d2, d3, d4, d5, d6, d7, d8, d9, d10, d11, d12, d13, d14⟩ := Ins.cells hp
        have ⟨t0, t1, t2, t3, t4, t5, t6, t7, t8, t9, t10, t11, t12, t13, t14⟩ := Ins.cells hq
        have HBX := Lib.hid hbx
        have hne := fun W => neq_ins i j W
        have hs1 := fun W => refSets_any i W
        have hs2 := fun W => refSets_any j W
        rw [e1] at hs2
        simp only [Ins.agg] at hne hs1 hs2
        rw [e2] at t13 hne hs2
        rw [e3] at t14 hne hs2
        have HS1 := Lib.hid hs1
        clear x0 x1 x2 x3 x4 x5 x6 x7 x8 x9 x10 x11 x12 x13 x14 y0 y1 y2 y3 y4 y5 y6 y7 y8 y9 y10 y11 y12 y13 y14 hp hq hbx hs1 o4 q4 e1 e2 e3
        by_cases hch : i = j
        · as_aux_lemma =>
            have qq : decide (i = j) = true := decide_eq_true hch
            have HS2 := Lib.hid hs2
            subst hch
            clear hs2 e4
            go_wp2_with fail
            have dl0 := fun s : Later wx => Later.cell d0 s
            have dl1 := fun s : Later wx => Later.cell d1 s
            have dl2 := fun s : Later wx => Later.cell d2 s
            have dl3 := fun s : Later wx => Later.cell d3 s
            have dl4 := fun s : Later wx => Later.cell d4 s
            have dl5 := fun s : Later wx => Later.cell d5 s
            have dl6 := fun s : Later wx => Later.cell d6 s
            have dl7 := fun s : Later wx => Later.cell d7 s
            have dl8 := fun s : Later wx => Later.cell d8 s
            have dl9 := fun s : Later wx => Later.cell d9 s
            have dl10 := fun s : Later wx => Later.cell d10 s
            have dl11 := fun s : Later wx => Later.cell d11 s
            have dl12 := fun s : Later wx => Later.cell d12 s
            have dl13 := fun s : Later wx => Later.cell d13 s
            have dl14 := fun s : Later wx => Later.cell d14 s
            have tl0 := fun s : Later wx => Later.cell t0 s
            have tl1 := fun s : Later wx => Later.cell t1 s
            have tl2 := fun s : Later wx => Later.cell t2 s
            have tl3 := fun s : Later wx => Later.cell t3 s
            have tl4 := fun s : Later wx => Later.cell t4 s
            have tl5 := fun s : Later wx => Later.cell t5 s
            have tl6 := fun s : Later wx => Later.cell t6 s
            have tl7 := fun s : Later wx => Later.cell t7 s
            have tl8 := fun s : Later wx => Later.cell t8 s
            have tl9 := fun s : Later wx => Later.cell t9 s
            have tl10 := fun s : Later wx => Later.cell t10 s
            have tl11 := fun s : Later wx => Later.cell t11 s
            have tl12 := fun s : Later wx => Later.cell t12 s
            have tl13 := fun s : Later wx => Later.cell t13 s
            have tl14 := fun s : Later wx => Later.cell t14 s
            refine wp_region_later (by kernel_rfl) (by kernel_rfl) ?_
            repeat (go_big_quiet_step (first | (go_at_call_of 22 (#[Value.agg #[.int .i64 i.kind, .int .i64 i.op, .int .i64 i.dst, .int .i64 i.a, .int .i64 i.b, .int .i64 i.n, .string i.text, .int .i64 i.r0, .int .i64 i.r1, .int .i64 i.r2, .int .i64 i.r3, .int .i64 i.r4, .int .i64 i.r5, .int .i64 i.to_, .int .i64 i.els]]); exact Calls.later (HS1.out _)) | (go_at_call_of 22 (#[Value.agg #[.int .i64 i.kind, .int .i64 i.op, .int .i64 i.dst, .int .i64 i.a, .int .i64 i.b, .int .i64 i.n, .string i.text, .int .i64 i.r0, .int .i64 i.r1, .int .i64 i.r2, .int .i64 i.r3, .int .i64 i.r4, .int .i64 i.r5, .int .i64 i.to_, .int .i64 i.els]]); exact Calls.later (HS2.out _))))
            refine wpQuiet_nil ?_
            rintro w9 ⟨s', rfl⟩
            have HB9 := Lib.hid (HBR.out.trans ((HBX.out.trans (s'.h.mono HBX.out.size)).mono hsr))
            clear d0 d1 d2 d3 d4 d5 d6 d7 d8 d9 d10 d11 d12 d13 d14 t0 t1 t2 t3 t4 t5 t6 t7 t8 t9 t10 t11 t12 t13 t14 dl0 dl1 dl2 dl3 dl4 dl5 dl6 dl7 dl8 dl9 dl10 dl11 dl12 dl13 dl14 tl0 tl1 tl2 tl3 tl4 tl5 tl6 tl7 tl8 tl9 tl10 tl11 tl12 tl13 tl14
            go_wp2
            exact ⟨⟨k + 1, by omega, by go_num, by rw [HCT.out]; simp, HB9.out⟩, by simp [intOf]; omega⟩
        · have qq : decide (i = j) = false := decide_eq_false hch
          have HNE := Lib.hid hch
          clear hch
          by_cases hkk : j.kind = i.kind
          · as_aux_lemma =>
              rw [hkk] at t0 hne hs2
              have HS2 := Lib.hid hs2
              clear hs2 e4 hkk
              go_wp2_with fail
              have dl0 := fun s : Later wx => Later.cell d0 s
              have dl1 := fun s : Later wx => Later.cell d1 s
              have dl2 := fun s : Later wx => Later.cell d2 s
              have dl3 := fun s : Later wx => Later.cell d3 s
              have dl4 := fun s : Later wx => Later.cell d4 s
              have dl5 := fun s : Later wx => Later.cell d5 s
              have dl6 := fun s : Later wx => Later.cell d6 s
              have dl7 := fun s : Later wx => Later.cell d7 s
              have dl8 := fun s : Later wx => Later.cell d8 s
              have dl9 := fun s : Later wx => Later.cell d9 s
              have dl10 := fun s : Later wx => Later.cell d10 s
              have dl11 := fun s : Later wx => Later.cell d11 s
              have dl12 := fun s : Later wx => Later.cell d12 s
              have dl13 := fun s : Later wx => Later.cell d13 s
              have dl14 := fun s : Later wx => Later.cell d14 s
              have tl0 := fun s : Later wx => Later.cell t0 s
              have tl1 := fun s : Later wx => Later.cell t1 s
              have tl2 := fun s : Later wx => Later.cell t2 s
              have tl3 := fun s : Later wx => Later.cell t3 s
              have tl4 := fun s : Later wx => Later.cell t4 s
              have tl5 := fun s : Later wx => Later.cell t5 s
              have tl6 := fun s : Later wx => Later.cell t6 s
              have tl7 := fun s : Later wx => Later.cell t7 s
              have tl8 := fun s : Later wx => Later.cell t8 s
              have tl9 := fun s : Later wx => Later.cell t9 s
              have tl10 := fun s : Later wx => Later.cell t10 s
              have tl11 := fun s : Later wx => Later.cell t11 s
              have tl12 := fun s : Later wx => Later.cell t12 s
              have tl13 := fun s : Later wx => Later.cell t13 s
              have tl14 := fun s : Later wx => Later.cell t14 s
              refine wp_region_later (by kernel_rfl) (by kernel_rfl) ?_
              repeat (go_big_quiet_step (first | (go_at_call_of 22 (#[Value.agg #[.int .i64 i.kind, .int .i64 i.op, .int .i64 i.dst, .int .i64 i.a, .int .i64 i.b, .int .i64 i.n, .string i.text, .int .i64 i.r0, .int .i64 i.r1, .int .i64 i.r2, .int .i64 i.r3, .int .i64 i.r4, .int .i64 i.r5, .int .i64 i.to_, .int .i64 i.els]]); exact Calls.later (HS1.out _)) | (go_at_call_of 22 (#[Value.agg #[.int .i64 i.kind, .int .i64 j.op, .int .i64 j.dst, .int .i64 j.a, .int .i64 j.b, .int .i64 j.n, .string j.text, .int .i64 j.r0, .int .i64 j.r1, .int .i64 j.r2, .int .i64 j.r3, .int .i64 j.r4, .int .i64 j.r5, .int .i64 i.to_, .int .i64 i.els]]); exact Calls.later (HS2.out _))))
              refine wpQuiet_nil ?_
              rintro w9 ⟨s', rfl⟩
              have HB9 := Lib.hid (HBR.out.trans ((HBX.out.trans (s'.h.mono HBX.out.size)).mono hsr))
              clear d0 d1 d2 d3 d4 d5 d6 d7 d8 d9 d10 d11 d12 d13 d14 t0 t1 t2 t3 t4 t5 t6 t7 t8 t9 t10 t11 t12 t13 t14 dl0 dl1 dl2 dl3 dl4 dl5 dl6 dl7 dl8 dl9 dl10 dl11 dl12 dl13 dl14 tl0 tl1 tl2 tl3 tl4 tl5 tl6 tl7 tl8 tl9 tl10 tl11 tl12 tl13 tl14
              go_wp2
              exact ⟨⟨k + 1, by omega, by go_num, by rw [HCT.out, if_neg (fun h => HNE.out h.symm)]; go_num, HB9.out⟩, by simp [intOf]; omega⟩
          · as_aux_lemma =>
              have hk4 := e4.resolve_left hkk
              rw [hk4] at t0 hne hs2 hkk
              have HS2 := Lib.hid hs2
              have kk1 : decide ((4 : Int) = i.kind) = false := decide_eq_false hkk
              have kk2 : ((4 : Int) == i.kind) = false := by simpa using hkk
              have kk3 : ((4 : Int) != i.kind) = true := by simpa using hkk
              clear hs2 e4 hk4 hkk
              go_wp2_with fail
              have dl0 := fun s : Later wx => Later.cell d0 s
              have dl1 := fun s : Later wx => Later.cell d1 s
              have dl2 := fun s : Later wx => Later.cell d2 s
              have dl3 := fun s : Later wx => Later.cell d3 s
              have dl4 := fun s : Later wx => Later.cell d4 s
              have dl5 := fun s : Later wx => Later.cell d5 s
              have dl6 := fun s : Later wx => Later.cell d6 s
              have dl7 := fun s : Later wx => Later.cell d7 s
              have dl8 := fun s : Later wx => Later.cell d8 s
              have dl9 := fun s : Later wx => Later.cell d9 s
              have dl10 := fun s : Later wx => Later.cell d10 s
              have dl11 := fun s : Later wx => Later.cell d11 s
              have dl12 := fun s : Later wx => Later.cell d12 s
              have dl13 := fun s : Later wx => Later.cell d13 s
              have dl14 := fun s : Later wx => Later.cell d14 s
              have tl0 := fun s : Later wx => Later.cell t0 s
              have tl1 := fun s : Later wx => Later.cell t1 s
              have tl2 := fun s : Later wx => Later.cell t2 s
              have tl3 := fun s : Later wx => Later.cell t3 s
              have tl4 := fun s : Later wx => Later.cell t4 s
              have tl5 := fun s : Later wx => Later.cell t5 s
              have tl6 := fun s : Later wx => Later.cell t6 s
              have tl7 := fun s : Later wx => Later.cell t7 s
              have tl8 := fun s : Later wx => Later.cell t8 s
              have tl9 := fun s : Later wx => Later.cell t9 s
              have tl10 := fun s : Later wx => Later.cell t10 s
              have tl11 := fun s : Later wx => Later.cell t11 s
              have tl12 := fun s : Later wx => Later.cell t12 s
              have tl13 := fun s : Later wx => Later.cell t13 s
              have tl14 := fun s : Later wx => Later.cell t14 s
              refine wp_region_later (by kernel_rfl) (by kernel_rfl) ?_
              repeat (go_big_quiet_step (first | (go_at_call_of 22 (#[Value.agg #[.int .i64 i.kind, .int .i64 i.op, .int .i64 i.dst, .int .i64 i.a, .int .i64 i.b, .int .i64 i.n, .string i.text, .int .i64 i.r0, .int .i64 i.r1, .int .i64 i.r2, .int .i64 i.r3, .int .i64 i.r4, .int .i64 i.r5, .int .i64 i.to_, .int .i64 i.els]]); exact Calls.later (HS1.out _)) | (go_at_call_of 22 (#[Value.agg #[.int .i64 4, .int .i64 j.op, .int .i64 j.dst, .int .i64 j.a, .int .i64 j.b, .int .i64 j.n, .string j.text, .int .i64 j.r0, .int .i64 j.r1, .int .i64 j.r2, .int .i64 j.r3, .int .i64 j.r4, .int .i64 j.r5, .int .i64 i.to_, .int .i64 i.els]]); exact Calls.later (HS2.out _))))
              refine wpQuiet_nil ?_
              rintro w9 ⟨s', rfl⟩
              have HB9 := Lib.hid (HBR.out.trans ((HBX.out.trans (s'.h.mono HBX.out.size)).mono hsr))
              clear d0 d1 d2 d3 d4 d5 d6 d7 d8 d9 d10 d11 d12 d13 d14 t0 t1 t2 t3 t4 t5 t6 t7 t8 t9 t10 t11 t12 t13 t14 dl0 dl1 dl2 dl3 dl4 dl5 dl6 dl7 dl8 dl9 dl10 dl11 dl12 dl13 dl14 tl0 tl1 tl2 tl3 tl4 tl5 tl6 tl7 tl8 tl9 tl10 tl11 tl12 tl13 tl14
              go_wp2
              exact ⟨⟨k + 1, by omega, by go_num, by rw [HCT.out, if_neg (fun h => HNE.out h.symm)]; go_num, HB9.out⟩, by simp [intOf]; omega⟩
    · obtain rfl : k = N := by omega
      go_wp2_with fail
      refine (HA.out _).mono ?_
      rintro e w8 ⟨rfl, hb8⟩
      go_wp2
      go_returns
      exact ⟨rfl, HB.out.trans ((HB7.out.trans ((HBR.out.trans (hb8.mono hsr)).mono HB7.out.size)).mono HB.out.size)⟩
theorem ShareKeeps_any (f : Fn7) (C : Option Addr) (cap : Nat) (hl9 : f.code.length ≤ 9223372036854775807) (w : World) (hC : RdI w C f.code) :
    Calls Try.prog 4 #[funcAgg f.nm f.ps f.R f.Fr C f.code.length cap] w fun e w' => e = .returned (.bool true) ∧ Below w.heap.size w w' := by
  by_cases hf : Few f
  · by_cases hok : OkF f
    · exact sk_good f hf hok C cap hl9 w hC
    · exact sk_bad f hf hok C cap hl9 w hC
  · exact sk_few f hf C cap hl9 w hC
end Go.Proofs.Ytkcclefonmnpnaa
