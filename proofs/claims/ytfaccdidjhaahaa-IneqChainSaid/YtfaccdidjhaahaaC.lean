import Derived.Test.YtfaccdidjhaahaaB
import Derived.Deep.QuietTactic
import Derived.BigQuiet
namespace Go.Proofs.Ytfaccdidjhaahaa
open Go.RowKit

set_option maxHeartbeats 400000 in
theorem lholds_any (r x : Row) (w : World) : Calls Try.prog 13 #[r.enc, x.arr] w fun e w' => e = .returned (.bool (r.holds x)) ∧ Below w.heap.size w w' := by
  go_enter Try.func13, Try.ntmps13
  go_wp2
  have hB : Below w.heap.size w ((w.alloc r.o).alloc x.oa) := ((Below.refl _ _).alloc (Nat.le_refl _) _).alloc (by simp) _
  have hR : HasR ((w.alloc r.o).alloc x.oa) w.heap.size r := (HasR.new w r).alloc _
  have hA : HasA ((w.alloc r.o).alloc x.oa) (w.heap.size + 1) x := by simpa using HasA.new (w.alloc r.o) x
  have hs : w.heap.size + 2 ≤ ((w.alloc r.o).alloc x.oa).heap.size := by simp
  generalize (w.alloc r.o).alloc x.oa = W at hB hR hA hs ⊢
  go_loop [11] (fun i => ∃ k : Nat, k ≤ 8 ∧ i = .int .i64 k ∧ Hid (∀ j, j < k → far (x.at j) = true)) (fun i => 8 - (intOf i).toNat)
  case atStart => exact ⟨0, by omega, rfl, fun j hj => by omega⟩
  case round =>
    obtain ⟨k, hk, rfl, hf⟩ := hrel
    by_cases hlt : k < 8
    · have hc := hA.cell k hlt
      by_cases h1 : x.at k < -1048576
      · go_wp2
        go_returns
        exact ⟨ret_b (holds_no_far r x k hlt (by simp [far]; omega)).symm, hB⟩
      · by_cases h2 : 1048576 < x.at k
        · go_wp2
          go_returns
          exact ⟨ret_b (holds_no_far r x k hlt (by simp [far]; omega)).symm, hB⟩
        · go_wp2
          go_round
          case rel => exact ⟨k + 1, by omega, by go_num, fun j hj => by rcases Nat.lt_succ_iff_lt_or_eq.1 hj with h | rfl; exact hf j h; simp [far]; omega⟩
          case measure => simp [intOf]; omega
    · have hk8 : k = 8 := by omega
      subst hk8
      obtain ⟨c0, c1, c2, c3, c4, c5, c6, c7, c8⟩ := hR.cells
      cases hr : r.right
      · have hfin := holds_no_right r x hr
        have HF := Lib.hid hfin; clear hfin
        go_wp2_with (go_at_call 11; refine (lright_any r _).mono ?_; rintro e w1 ⟨rfl, hb1⟩)
        go_returns
        exact ⟨ret_b HF.out.symm, hB.trans (hb1.mono (by omega))⟩
      · have hfin := holds_of r x hr hf
        have HF := Lib.hid hfin; clear hfin
        go_wp2_with (go_at_call 11; refine (lright_any r _).mono ?_; rintro e w1 ⟨rfl, hb1⟩; clear c0 c1 c2 c3 c4 c5 c6 c7 c8; obtain ⟨c0, c1, c2, c3, c4, c5, c6, c7, c8⟩ := (hR.below hb1 (by omega)).cells)
        have hB1 := hB.trans (hb1.mono (B' := w.heap.size) (by omega))
        have hA1 := hA.below hb1 (by omega)
        clear c0 c1 c2 c3 c4 c5 c6 c7 c8 hR hA hB hb1
        go_loop [5, 30] (fun n i => ∃ k : Nat, k ≤ 8 ∧ i = .int .i64 k ∧ n = .int .i64 (r.sum x k)) (fun _ i => 8 - (intOf i).toNat)
        case atStart => exact ⟨0, by omega, rfl, by rw [sum_zero]⟩
        case round =>
          obtain ⟨k, hk, rfl, rfl⟩ := hrel
          by_cases hlt : k < 8
          · have hix := index_arr r k hlt
            have hc := hA1.cell k hlt
            obtain ⟨hw1, hw2⟩ := wrap64_far hr k hlt (fun j hj => hf j (by omega)) (hf k (by omega))
            have hss := sum_succ r x k
            have HS := Lib.hid hss; clear hss
            go_wp2
            go_round
            case rel => exact ⟨k + 1, by omega, by go_num, by rw [HS.out, hw2]⟩
            case measure => simp [intOf]; omega
          · have hk8 : k = 8 := by omega
            subst hk8
            go_wp2
            go_returns
            exact ⟨ret_b HF.out.symm, hB1⟩
end Go.Proofs.Ytfaccdidjhaahaa
