import Derived.Test.YtgdbkoncaojmoaaEh
import Derived.Test.YtgdbkoncaojmoaaDk
import Derived.Test.YtgdbkoncaojmoaaZl
/- The document's Dominates. -/
namespace Go.Proofs.Ytgdbkoncaojmoaa
open Go.RowKit Go.BigFrame

set_option maxRecDepth 1000000 in
set_option maxHeartbeats 16000000 in
theorem Without_zero (f : Fn7) (C : Option Addr) (cap : Nat) (w : World) :
    Calls Try.prog 36 #[funcAgg f.nm f.ps f.R f.Fr C f.code.length cap, .int .i64 0, .int .i64 0] w fun e w' => e = .returned (.slice none 0 0) ∧ Below w.heap.size w w' := by
  have hB := Below.one w (funcObj f.nm f.ps f.R f.Fr C f.code.length cap)
  simp only [funcObj, funcAgg] at hB ⊢
  go_enter Try.func36, Try.ntmps36
  go_wp2
  go_returns
  exact ⟨rfl, hB⟩
set_option maxRecDepth 1000000 in
set_option maxHeartbeats 16000000 in
theorem rDominates_nat (f : Fn7) (hf : OkF f) (a b : Nat) (ha : a < f.code.length) (hb : b < f.code.length) (C : Option Addr) (cap : Nat) (w : World) (hC : RdI w C f.code) :
    Calls Try.prog 21 #[funcAgg f.nm f.ps f.R f.Fr C f.code.length cap, .int .i64 (a : Int), .int .i64 (b : Int)] w fun e w' => e = .returned (.bool (dmB f a b)) ∧ Below w.heap.size w w' := by
  have hB := Below.one w (funcObj f.nm f.ps f.R f.Fr C f.code.length cap)
  have bx := heap_alloc_new w (funcObj f.nm f.ps f.R f.Fr C f.code.length cap)
  have hC1 := hC.below hB
  have hll := hf.len
  obtain ⟨za, hza⟩ : ∃ z, tb (Rch f.code a) = z := ⟨_, rfl⟩
  obtain ⟨zb, hzb⟩ : ∃ z, tb (Rch f.code b) = z := ⟨_, rfl⟩
  obtain ⟨N, hN⟩ : ∃ N, f.code.length = N := ⟨_, rfl⟩
  obtain ⟨W, hW⟩ : ∃ W, w.alloc (funcObj f.nm f.ps f.R f.Fr C f.code.length cap) = W := ⟨_, rfl⟩
  rw [hW] at bx hC1 hB
  have HRA : Hid (∀ X, Below W.heap.size W X → Calls Try.prog 18 #[.agg #[.string f.nm, .int .i64 f.ps, .int .i64 f.R, .int .i64 f.Fr, .slice C N cap], .int .i64 (a : Int)] X fun e w' => e = .returned (.bool za) ∧ Below X.heap.size X w') := Lib.hid fun X hX => by
    have := Reached_any f hf a C cap X (hC1.below hX)
    rw [hza, hN] at this
    exact this
  have HRB : Hid (∀ X, Below W.heap.size W X → Calls Try.prog 18 #[.agg #[.string f.nm, .int .i64 f.ps, .int .i64 f.R, .int .i64 f.Fr, .slice C N cap], .int .i64 (b : Int)] X fun e w' => e = .returned (.bool zb) ∧ Below X.heap.size X w') := Lib.hid fun X hX => by
    have := Reached_any f hf b C cap X (hC1.below hX)
    rw [hzb, hN] at this
    exact this
  have HZA : Hid (za = true ↔ R0 (Eg f.code) a) := Lib.hid (by rw [← hza, tb_true]; exact Rch_r0 hf)
  have HZB : Hid (zb = true ↔ R0 (Eg f.code) b) := Lib.hid (by rw [← hzb, tb_true]; exact Rch_r0 hf)
  have HW0 : Hid (∀ X, Below W.heap.size W X → a ≠ b → Calls Try.prog 36 #[.agg #[.string f.nm, .int .i64 f.ps, .int .i64 f.R, .int .i64 f.Fr, .slice C N cap], .int .i64 0, .int .i64 (a : Int)] X fun e w' => (∃ A L c T, L = T.length ∧ L ≤ N ∧ e = .returned (.slice A L c) ∧ RdN w' A T ∧ (R0 (Eg f.code) b → ((b : Int) ∈ T ↔ Av (Eg f.code) a b))) ∧ Below X.heap.size X w') := Lib.hid fun X hX hab => by
    by_cases h0 : a = 0
    · subst h0
      refine (hN ▸ Without_zero f C cap X).mono fun e w' ⟨h1, h2⟩ => ⟨⟨none, 0, 0, [], rfl, Nat.zero_le _, h1, (fun j x hx => by simp at hx), fun hr => ⟨(fun h => by cases h), fun h => absurd h (Dom.zero hr).2⟩⟩, h2⟩
    · have := Without_any f hf 0 hll.1 (a : Int) (by rw [beq_eq_false_iff_ne]; omega) C cap X (hC1.below hX)
      rw [hN] at this
      exact this.mono fun e w' ⟨⟨T, A, c, h1, h2, h3, h4⟩, h5⟩ => ⟨⟨A, T.length, c, T, rfl, by rw [← hN]; exact h3, h1, h2, fun _ => (h4 b).trans (WR_av hf h0)⟩, h5⟩
  rw [hN] at ha hb hll bx ⊢
  have bx' : W.heap[w.heap.size]? = some (.cells #[.string f.nm, .int .i64 f.ps, .int .i64 f.R, .int .i64 f.Fr, .slice C N cap] 24 (0, 0)) := bx
  have hW' : w.alloc (.cells #[.string f.nm, .int .i64 f.ps, .int .i64 f.R, .int .i64 f.Fr, .slice C N cap] 24) = W := by rw [← hW, hN]
  have HBX := Lib.hid bx'
  have HB := Lib.hid hB
  have hBl := (Array.getElem?_eq_some_iff.1 bx').1
  have g0 := cell_of_heap bx' 0 _ rfl
  have g1 := cell_of_heap bx' 1 _ rfl
  have g2 := cell_of_heap bx' 2 _ rfl
  have g3 := cell_of_heap bx' 3 _ rfl
  have g4 := cell_of_heap bx' 4 _ rfl
  have haN : (a : Int) < N := by omega
  have hbN : (b : Int) < N := by omega
  have hN2 := hll.2
  have HD : Hid (dmB f a b = tb (Dom (Eg f.code) a b)) := Lib.hid (dmB_nat f a b)
  obtain ⟨d, hd⟩ : ∃ d, dmB f (a : Int) (b : Int) = d := ⟨_, rfl⟩
  rw [hd] at HD ⊢
  have HDD := Lib.hid hd
  simp only [funcAgg]
  clear hf hC hC1 hza hzb hN bx bx' hB hll hd
  go_enter Try.func21, Try.ntmps21
  clear hW
  cases za with
  | false =>
    have hd : d = false := by
      rw [HD.out, tb_false]
      intro h
      have := HZA.out.2 h.left
      cases this
    subst hd
    go_wp2_with (first
      | (refine (HRA.out _ (by exact Below.refl _ _)).mono ?_; rintro e w3 ⟨rfl, hb3⟩))
    go_returns
    exact ⟨rfl, HB.out.trans (hb3.mono HB.out.size)⟩
  | true =>
    cases zb with
    | false =>
      have hd : d = false := by
        rw [HD.out, tb_false]
        intro h
        have := HZB.out.2 h.1
        cases this
      subst hd
      go_wp2_with (first
        | (refine (HRA.out _ (Below.refl _ _)).mono ?_; rintro e w3 ⟨rfl, hb3⟩; have HB3 := Lib.hid hb3; have hx3 := ((hb3).block _ hBl).trans HBX.out; have k30 := cell_of_heap hx3 0 _ rfl; have k31 := cell_of_heap hx3 1 _ rfl; have k32 := cell_of_heap hx3 2 _ rfl; have k33 := cell_of_heap hx3 3 _ rfl; have k34 := cell_of_heap hx3 4 _ rfl; have hl3 := (Array.getElem?_eq_some_iff.1 hx3).1; clear hx3; clear hb3 g0 g1 g2 g3 g4)
        | (refine (HRB.out _ HB3.out).mono ?_; rintro e w4 ⟨rfl, hb4⟩; have HB4 := Lib.hid (HB3.out.trans (hb4.mono HB3.out.size)); have hx4 := ((HB4.out).block _ hBl).trans HBX.out; have k40 := cell_of_heap hx4 0 _ rfl; have k41 := cell_of_heap hx4 1 _ rfl; have k42 := cell_of_heap hx4 2 _ rfl; have k43 := cell_of_heap hx4 3 _ rfl; have k44 := cell_of_heap hx4 4 _ rfl; have hl4 := (Array.getElem?_eq_some_iff.1 hx4).1; clear hx4; clear hb4 k30 k31 k32 k33 k34))
      go_returns
      exact ⟨rfl, HB.out.trans (HB4.out.mono HB.out.size)⟩
    | true =>
      by_cases hne : a = b
      · subst hne
        have hd : d = true := by
          rw [HD.out, tb_true]
          exact Dom.refl (HZA.out.1 rfl)
        subst hd
        go_wp2_with (first
          | (refine (HRA.out _ (Below.refl _ _)).mono ?_; rintro e w3 ⟨rfl, hb3⟩; have HB3 := Lib.hid hb3; have hx3 := ((hb3).block _ hBl).trans HBX.out; have k30 := cell_of_heap hx3 0 _ rfl; have k31 := cell_of_heap hx3 1 _ rfl; have k32 := cell_of_heap hx3 2 _ rfl; have k33 := cell_of_heap hx3 3 _ rfl; have k34 := cell_of_heap hx3 4 _ rfl; have hl3 := (Array.getElem?_eq_some_iff.1 hx3).1; clear hx3; clear hb3 g0 g1 g2 g3 g4)
          | (refine (HRB.out _ HB3.out).mono ?_; rintro e w4 ⟨rfl, hb4⟩; have HB4 := Lib.hid (HB3.out.trans (hb4.mono HB3.out.size)); have hx4 := ((HB4.out).block _ hBl).trans HBX.out; have k40 := cell_of_heap hx4 0 _ rfl; have k41 := cell_of_heap hx4 1 _ rfl; have k42 := cell_of_heap hx4 2 _ rfl; have k43 := cell_of_heap hx4 3 _ rfl; have k44 := cell_of_heap hx4 4 _ rfl; have hl4 := (Array.getElem?_eq_some_iff.1 hx4).1; clear hx4; clear hb4 k30 k31 k32 k33 k34))
        go_returns
        exact ⟨rfl, HB.out.trans (HB4.out.mono HB.out.size)⟩
      · have hnei : ¬ (a : Int) = (b : Int) := by omega
        go_wp2_with (first
          | (refine (HRA.out _ (Below.refl _ _)).mono ?_; rintro e w3 ⟨rfl, hb3⟩; have HB3 := Lib.hid hb3; have hx3 := ((hb3).block _ hBl).trans HBX.out; have k30 := cell_of_heap hx3 0 _ rfl; have k31 := cell_of_heap hx3 1 _ rfl; have k32 := cell_of_heap hx3 2 _ rfl; have k33 := cell_of_heap hx3 3 _ rfl; have k34 := cell_of_heap hx3 4 _ rfl; have hl3 := (Array.getElem?_eq_some_iff.1 hx3).1; clear hx3; clear hb3 g0 g1 g2 g3 g4)
          | (refine (HRB.out _ HB3.out).mono ?_; rintro e w4 ⟨rfl, hb4⟩; have HB4 := Lib.hid (HB3.out.trans (hb4.mono HB3.out.size)); have hx4 := ((HB4.out).block _ hBl).trans HBX.out; have k40 := cell_of_heap hx4 0 _ rfl; have k41 := cell_of_heap hx4 1 _ rfl; have k42 := cell_of_heap hx4 2 _ rfl; have k43 := cell_of_heap hx4 3 _ rfl; have k44 := cell_of_heap hx4 4 _ rfl; have hl4 := (Array.getElem?_eq_some_iff.1 hx4).1; clear hx4; clear hb4 k30 k31 k32 k33 k34)
          | (refine (HW0.out _ HB4.out hne).mono ?_; rintro e w5 ⟨⟨A5, L5, c5, T5, rfl, hL5, rfl, hr5, hi5⟩, hb5⟩; have HB5 := Lib.hid (HB4.out.trans (hb5.mono HB4.out.size)); have HR5 := Lib.hid hr5; have HI5 := Lib.hid hi5; obtain ⟨y, hy⟩ : ∃ y, T5.contains (b : Int) = y := ⟨_, rfl⟩; have HY := Lib.hid hy; clear hy; have HIN : Hid (∀ X, RdN X A5 T5 → Calls Try.prog 26 #[.slice A5 T5.length c5, .int .i64 (b : Int)] X fun e w' => e = .returned (.bool y) ∧ X = w') := (Lib.hid fun X hX => (by have h6 := In_any A5 T5 c5 (b : Int) X hX (by omega); rw [HY.out] at h6; exact h6)); clear hb5 hr5 hi5)
          | (refine (HIN.out _ HR5.out).mono ?_; rintro e w6 ⟨rfl, rfl⟩))
        have hd : (!y) = d := by
          have hR := HZB.out.1 (by simp)
          rw [HD.out, ← HY.out, Bool.eq_iff_iff, tb_true, Bool.not_eq_true', ← Bool.not_eq_true, List.contains_iff_mem, HI5.out hR]
          exact ⟨fun h => ⟨hR, h⟩, fun h => h.2⟩
        have hab : ((a : Int) == (b : Int)) = false := by rw [beq_eq_false_iff_ne]; exact hnei
        subst hd
        go_returns
        exact ⟨by show Ending.returned (.bool ((a : Int) == (b : Int) || !y)) = .returned (.bool (!y)); rw [hab, Bool.false_or], HB.out.trans (HB5.out.mono HB.out.size)⟩
end Go.Proofs.Ytgdbkoncaojmoaa
