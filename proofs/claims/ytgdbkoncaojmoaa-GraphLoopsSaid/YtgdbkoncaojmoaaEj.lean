import Derived.Test.YtgdbkoncaojmoaaEi
/- The document's Dominates at any numbers. -/
namespace Go.Proofs.Ytgdbkoncaojmoaa
open Go.RowKit Go.BigFrame

theorem dmB_out {f : Fn7} (hf : OkF f) {a b : Int} (h : a < 0 ∨ b < 0 ∨ (f.code.length : Int) ≤ a ∨ (f.code.length : Int) ≤ b) : dmB f a b = false := by
  unfold dmB
  rw [tb_false]
  rintro ⟨h1, h2, h3⟩
  have e1 := R0.ltN hf h3.left
  have e2 := R0.ltN hf h3.1
  omega
set_option maxRecDepth 1000000 in
set_option maxHeartbeats 16000000 in
theorem rDominates_out (f : Fn7) (hf : OkF f) (a b : Int) (h : a < 0 ∨ b < 0 ∨ (f.code.length : Int) ≤ a ∨ (f.code.length : Int) ≤ b) (C : Option Addr) (cap : Nat) (w : World) :
    Calls Try.prog 21 #[funcAgg f.nm f.ps f.R f.Fr C f.code.length cap, .int .i64 a, .int .i64 b] w fun e w' => e = .returned (.bool (dmB f a b)) ∧ Below w.heap.size w w' := by
  have hB := Below.one w (funcObj f.nm f.ps f.R f.Fr C f.code.length cap)
  have bx := heap_alloc_new w (funcObj f.nm f.ps f.R f.Fr C f.code.length cap)
  rw [dmB_out hf h]
  have hll := hf.len
  obtain ⟨N, hN⟩ : ∃ N, f.code.length = N := ⟨_, rfl⟩
  rw [hN] at hB bx h hll ⊢
  simp only [funcObj, funcAgg] at hB bx ⊢
  obtain ⟨W, hW⟩ : ∃ W, w.alloc (.cells #[.string f.nm, .int .i64 f.ps, .int .i64 f.R, .int .i64 f.Fr, .slice C N cap] 24) = W := ⟨_, rfl⟩
  rw [hW] at bx hB
  have g4 := cell_of_heap bx 4 _ rfl
  have HB := Lib.hid hB
  have hN2 := hll.2
  have hBl := (Array.getElem?_eq_some_iff.1 bx).1
  clear hf hN bx hB hll
  go_enter Try.func21, Try.ntmps21
  by_cases ha : a < 0
  · have da : decide (a < 0) = true := by simp [ha]
    clear h
    go_wp2
    go_returns
    exact ⟨rfl, HB.out⟩
  · by_cases hb : b < 0
    · clear h
      go_wp2
      go_returns
      exact ⟨rfl, HB.out⟩
    · by_cases hc : (N : Int) ≤ a
      · clear h
        have hc2 : ¬ a < N := by omega
        go_wp2
        go_returns
        exact ⟨rfl, HB.out⟩
      · have hd : (N : Int) ≤ b := by omega
        have hc2 : a < N := by omega
        have hd2 : ¬ b < N := by omega
        clear h
        go_wp2
        go_returns
        exact ⟨rfl, HB.out⟩
theorem rDominates_any (f : Fn7) (hf : OkF f) (a b : Int) (C : Option Addr) (cap : Nat) (w : World) (hC : RdI w C f.code) :
    Calls Try.prog 21 #[funcAgg f.nm f.ps f.R f.Fr C f.code.length cap, .int .i64 a, .int .i64 b] w fun e w' => e = .returned (.bool (dmB f a b)) ∧ Below w.heap.size w w' := by
  by_cases h : a < 0 ∨ b < 0 ∨ (f.code.length : Int) ≤ a ∨ (f.code.length : Int) ≤ b
  · exact rDominates_out f hf a b h C cap w
  · obtain ⟨x, rfl⟩ : ∃ x : Nat, a = x := ⟨a.toNat, by omega⟩
    obtain ⟨y, rfl⟩ : ∃ y : Nat, b = y := ⟨b.toNat, by omega⟩
    exact rDominates_nat f hf x y (by omega) (by omega) C cap w hC
end Go.Proofs.Ytgdbkoncaojmoaa
