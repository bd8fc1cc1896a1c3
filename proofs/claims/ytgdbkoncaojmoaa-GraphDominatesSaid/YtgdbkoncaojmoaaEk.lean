import Derived.Test.YtgdbkoncaojmoaaEj
/- The document's Above. -/
namespace Go.Proofs.Ytgdbkoncaojmoaa
open Go.RowKit Go.BigFrame

def PA (f : Fn7) (n : Int) (a : Nat) : Prop := (a : Int) ≠ n ∧ dmB f a n = true ∧ ∀ b : Nat, b < f.code.length → (b : Int) ≠ n → dmB f b n = true → dmB f b a = true
def AbR (f : Fn7) (n r : Int) : Prop := (∃ a : Nat, a < f.code.length ∧ r = a ∧ PA f n a) ∨ (r = -1 ∧ ∀ a, a < f.code.length → ¬ PA f n a)
set_option maxRecDepth 1000000 in
set_option maxHeartbeats 16000000 in
theorem rAbove_any (f : Fn7) (hf : OkF f) (n : Int) (C : Option Addr) (cap : Nat) (w : World) (hC : RdI w C f.code) :
    Calls Try.prog 22 #[funcAgg f.nm f.ps f.R f.Fr C f.code.length cap, .int .i64 n] w fun e w' => (∃ r, AbR f n r ∧ e = .returned (.int .i64 r)) ∧ Below w.heap.size w w' := by
  have hB := Below.one w (funcObj f.nm f.ps f.R f.Fr C f.code.length cap)
  have bx := heap_alloc_new w (funcObj f.nm f.ps f.R f.Fr C f.code.length cap)
  have hC1 := hC.below hB
  obtain ⟨N, hN⟩ : ∃ N, f.code.length = N := ⟨_, rfl⟩
  have hN2 : N ≤ 8192 := by rw [← hN]; exact hf.len.2
  have HD : Hid (∀ (a b : Int) X, RdI X C f.code → Calls Try.prog 21 #[.agg #[.string f.nm, .int .i64 f.ps, .int .i64 f.R, .int .i64 f.Fr, .slice C N cap], .int .i64 a, .int .i64 b] X fun e w' => e = .returned (.bool (dmB f a b)) ∧ Below X.heap.size X w') := Lib.hid fun a b X hX => by
    have := rDominates_any f hf a b C cap X hX
    rw [hN] at this
    exact this
  rw [hN] at hB bx hC1 ⊢
  simp only [funcObj, funcAgg] at hB bx hC1 ⊢
  obtain ⟨W, hW⟩ : ∃ W, w.alloc (.cells #[.string f.nm, .int .i64 f.ps, .int .i64 f.R, .int .i64 f.Fr, .slice C N cap] 24) = W := ⟨_, rfl⟩
  rw [hW] at bx hC1 hB
  have HC1 := Lib.hid hC1
  have HN := Lib.hid hN
  have HB := Lib.hid hB
  have HBX := Lib.hid bx
  have hBl := (Array.getElem?_eq_some_iff.1 bx).1
  clear hf hN hC hC1 bx hB
  go_enter Try.func22, Try.ntmps22
  go_wp2
  clear hW
  go_loopw [5] (fun ix wr => ∃ k : Nat, k ≤ N ∧ ix = .int .i64 k ∧ (∀ a, a < k → ¬ PA f n a) ∧ Below W.heap.size W wr) (fun ix _ => N - (intOf ix).toNat)
  case atStart => exact ⟨0, by omega, rfl, (fun a ha => by omega), Below.refl _ _⟩
  case round =>
    obtain ⟨k, hk, rfl, hno, hb⟩ := hrel
    have hx4 : wr.heap[w.heap.size]? = _ := (hb.block _ hBl).trans HBX.out
    have g0 := cell_of_heap hx4 0 _ rfl
    have g1 := cell_of_heap hx4 1 _ rfl
    have g2 := cell_of_heap hx4 2 _ rfl
    have g3 := cell_of_heap hx4 3 _ rfl
    have g4 := cell_of_heap hx4 4 _ rfl
    have hll := (Array.getElem?_eq_some_iff.1 hx4).1
    have HNO := Lib.hid hno
    have HBB := Lib.hid hb
    have hC2 := Lib.hid (HC1.out.below hb)
    clear hno hb hx4
    by_cases hlt : k < N
    · have hki : (k : Int) < N := by omega
      obtain ⟨y, hy⟩ : ∃ y, dmB f (k : Int) n = y := ⟨_, rfl⟩
      have HDK := HD.out (k : Int) n wr hC2.out
      rw [hy] at HDK
      have HDK2 := Lib.hid HDK
      have HY := Lib.hid hy
      clear HDK hy
      by_cases hkn : (k : Int) = n
      · go_wp2
        exact ⟨⟨k + 1, by omega, by go_num, fun a ha => (by
          by_cases e : a = k
          · subst e; exact fun h => h.1 hkn
          · exact HNO.out a (by omega)), HBB.out⟩, by simp [intOf]; omega⟩
      · cases y with
        | false =>
          go_wp2_with (first
            | (refine HDK2.out.mono ?_; rintro e w3 ⟨rfl, hb3⟩))
          exact ⟨⟨k + 1, by omega, by go_num, fun a ha => (by
            by_cases e : a = k
            · subst e; exact fun h => by have := h.2.1; rw [HY.out] at this; cases this
            · exact HNO.out a (by omega)), HBB.out.trans (hb3.mono HBB.out.size)⟩, by simp [intOf]; omega⟩
        | true =>
          go_wp2_with (first
            | (refine HDK2.out.mono ?_; rintro e w3 ⟨rfl, hb3⟩; have HB3 := Lib.hid (HBB.out.trans (hb3.mono HBB.out.size)); clear hb3))
          clear g0 g1 g2 g3 g4 hll
          have hkb : ((k : Int) == n) = false := by rw [beq_eq_false_iff_ne]; exact hkn
          simp only [hkb]
          clear hkb
          go_loopw [6, 7] (fun V ix wr => ∃ (j : Nat) (z : Bool), j ≤ N ∧ ix = .int .i64 j ∧ V = .bool z ∧ (z = true ↔ ∀ b : Nat, b < j → (b : Int) ≠ n → dmB f b n = true → dmB f b k = true) ∧ Below W.heap.size W wr) (fun _ ix _ => N - (intOf ix).toNat)
          case atStart => exact ⟨0, true, by omega, rfl, rfl, ⟨fun _ b hb => by omega, fun _ => rfl⟩, HB3.out⟩
          case round =>
            obtain ⟨j, z, hj, rfl, rfl, hz, hb⟩ := hrel
            have hx5 : wr.heap[w.heap.size]? = _ := (hb.block _ hBl).trans HBX.out
            have g0 := cell_of_heap hx5 0 _ rfl
            have g1 := cell_of_heap hx5 1 _ rfl
            have g2 := cell_of_heap hx5 2 _ rfl
            have g3 := cell_of_heap hx5 3 _ rfl
            have g4 := cell_of_heap hx5 4 _ rfl
            have hll := (Array.getElem?_eq_some_iff.1 hx5).1
            have HZ := Lib.hid hz
            have HBC := Lib.hid hb
            have hC3 := Lib.hid (HC1.out.below hb)
            clear hz hb hx5
            by_cases hlt2 : j < N
            · have hji : (j : Int) < N := by omega
              obtain ⟨y1, hy1⟩ : ∃ y, dmB f (j : Int) n = y := ⟨_, rfl⟩
              obtain ⟨y2, hy2⟩ : ∃ y, dmB f (j : Int) (k : Int) = y := ⟨_, rfl⟩
              have HD1 : Hid (∀ X, RdI X C f.code → Calls Try.prog 21 #[.agg #[.string f.nm, .int .i64 f.ps, .int .i64 f.R, .int .i64 f.Fr, .slice C N cap], .int .i64 (j : Int), .int .i64 n] X fun e w' => e = .returned (.bool y1) ∧ Below X.heap.size X w') := Lib.hid fun X hX => by
                have := HD.out (j : Int) n X hX
                rw [hy1] at this
                exact this
              have HD2 : Hid (∀ X, RdI X C f.code → Calls Try.prog 21 #[.agg #[.string f.nm, .int .i64 f.ps, .int .i64 f.R, .int .i64 f.Fr, .slice C N cap], .int .i64 (j : Int), .int .i64 (k : Int)] X fun e w' => e = .returned (.bool y2) ∧ Below X.heap.size X w') := Lib.hid fun X hX => by
                have := HD.out (j : Int) (k : Int) X hX
                rw [hy2] at this
                exact this
              have HY1 := Lib.hid hy1
              have HY2 := Lib.hid hy2
              have HSAME : Hid (((j : Int) ≠ n → y1 = true → y2 = true) → (z = true ↔ ∀ b : Nat, b < j + 1 → (b : Int) ≠ n → dmB f b n = true → dmB f b k = true)) := Lib.hid fun h => HZ.out.trans ⟨fun g b hb => by
                by_cases e : b = j
                · subst e; intro h1 h2; rw [HY1.out] at h2; rw [HY2.out]; exact h h1 h2
                · exact g b (by omega), fun g b hb => g b (by omega)⟩
              clear hy1 hy2
              by_cases hjn : (j : Int) = n
              · go_wp2
                exact ⟨⟨j + 1, z, by omega, by go_num, rfl, HSAME.out (fun h => absurd hjn h), HBC.out⟩, by simp [intOf]; omega⟩
              · cases y1 with
                | false =>
                  go_wp2_with (first
                    | (refine (HD1.out _ hC3.out).mono ?_; rintro e w4 ⟨rfl, hb4⟩; have HB4 := Lib.hid (HBC.out.trans (hb4.mono HBC.out.size)); clear hb4))
                  exact ⟨⟨j + 1, z, by omega, by go_num, rfl, HSAME.out (fun _ h => by cases h), HB4.out⟩, by simp [intOf]; omega⟩
                | true =>
                  cases y2 with
                  | true =>
                    go_wp2_with (first
                      | (refine (HD2.out _ (HC1.out.below HB4.out)).mono ?_; rintro e w5 ⟨rfl, hb5⟩; have HB5 := Lib.hid (HB4.out.trans (hb5.mono HB4.out.size)); clear hb5)
                      | (refine (HD1.out _ hC3.out).mono ?_; rintro e w4 ⟨rfl, hb4⟩; have HB4 := Lib.hid (HBC.out.trans (hb4.mono HBC.out.size)); clear hb4; have hx6 := (HB4.out.block _ hBl).trans HBX.out; have k0 := cell_of_heap hx6 0 _ rfl; have k1 := cell_of_heap hx6 1 _ rfl; have k2 := cell_of_heap hx6 2 _ rfl; have k3 := cell_of_heap hx6 3 _ rfl; have k4 := cell_of_heap hx6 4 _ rfl; have hl6 := (Array.getElem?_eq_some_iff.1 hx6).1; clear hx6))
                    exact ⟨⟨j + 1, z, by omega, by go_num, rfl, HSAME.out (fun _ _ => by trivial), HB5.out⟩, by simp [intOf]; omega⟩
                  | false =>
                    go_wp2_with (first
                      | (refine (HD2.out _ (HC1.out.below HB4.out)).mono ?_; rintro e w5 ⟨rfl, hb5⟩; have HB5 := Lib.hid (HB4.out.trans (hb5.mono HB4.out.size)); clear hb5)
                      | (refine (HD1.out _ hC3.out).mono ?_; rintro e w4 ⟨rfl, hb4⟩; have HB4 := Lib.hid (HBC.out.trans (hb4.mono HBC.out.size)); clear hb4; have hx6 := (HB4.out.block _ hBl).trans HBX.out; have k0 := cell_of_heap hx6 0 _ rfl; have k1 := cell_of_heap hx6 1 _ rfl; have k2 := cell_of_heap hx6 2 _ rfl; have k3 := cell_of_heap hx6 3 _ rfl; have k4 := cell_of_heap hx6 4 _ rfl; have hl6 := (Array.getElem?_eq_some_iff.1 hx6).1; clear hx6))
                    exact ⟨⟨j + 1, false, by omega, by go_num, rfl, ⟨(fun h => by cases h), fun h => by have := h j (by omega) hjn HY1.out; rw [HY2.out] at this; cases this⟩, HB5.out⟩, by simp [intOf]; omega⟩
            · obtain rfl : j = N := by omega
              cases z with
              | true =>
                have HQ : Hid ((∃ r, AbR f n r ∧ Ending.returned (.int .i64 (k : Int)) = .returned (.int .i64 r)) ∧ Below w.heap.size w wr) := Lib.hid ⟨⟨k, Or.inl ⟨k, by rw [HN.out]; exact hlt, rfl, hkn, HY.out, fun b hb => HZ.out.1 rfl b (by rw [← HN.out]; exact hb)⟩, rfl⟩, HB.out.trans (HBC.out.mono HB.out.size)⟩
                go_wp2
                go_returns
                exact HQ.out
              | false =>
                go_wp2
                exact ⟨⟨k + 1, by omega, by go_num, fun a ha => (by
                  by_cases e : a = k
                  · subst e; exact fun h => by have := HZ.out.2 (fun b hb => h.2.2 b (by rw [HN.out]; exact hb)); cases this
                  · exact HNO.out a (by omega)), HBC.out⟩, by simp [intOf]; omega⟩
    · obtain rfl : k = N := by omega
      have HQ : Hid ((∃ r, AbR f n r ∧ Ending.returned (.int .i64 (-1)) = .returned (.int .i64 r)) ∧ Below w.heap.size w wr) := Lib.hid ⟨⟨-1, Or.inr ⟨rfl, fun a ha => HNO.out a (by rw [← HN.out]; exact ha)⟩, rfl⟩, HB.out.trans (HBB.out.mono HB.out.size)⟩
      go_wp2
      go_returns
      exact HQ.out
end Go.Proofs.Ytgdbkoncaojmoaa
