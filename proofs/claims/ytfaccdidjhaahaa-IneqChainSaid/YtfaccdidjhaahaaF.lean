import Derived.Test.YtfaccdidjhaahaaE
namespace Go.Proofs.Ytfaccdidjhaahaa
open Go.RowKit

def Row.tight (r : Row) : Row := if r.right = false then r else if gcdK r 8 = 0 then r else r.div (gcdK r 8 : Nat)
theorem far_big {n : Int} (h : far n = true) : big n := by rw [far_iff] at h; unfold big; omega
theorem right_big {r : Row} (h : r.right = true) : (∀ j, big (r.at j)) ∧ big r.c := ⟨fun j => far_big (far_at h j), far_big (by simp [Row.right] at h; exact h.2)⟩
abbrev row0 : Row := Row.mk 0 0 0 0 0 0 0 0 0

set_option maxHeartbeats 400000 in
theorem tight_not (r : Row) (w : World) (hr : r.right = false) : Calls Try.prog 15 #[r.enc] w fun e w' => e = .returned r.tight.enc ∧ Below w.heap.size w w' := by
  have ht : r.tight = r := by simp [Row.tight, hr]
  have HT := Lib.hid ht; clear ht
  go_enter Try.func15, Try.ntmps15
  go_wp2_with fail
  have hB : Below w.heap.size w ((w.alloc r.o).alloc row0.o) := ((Below.refl _ _).alloc (Nat.le_refl _) _).alloc (by simp) _
  have hR : HasR ((w.alloc r.o).alloc row0.o) w.heap.size r := (HasR.new w r).alloc _
  have hZ : HasR ((w.alloc r.o).alloc row0.o) (w.heap.size + 1) row0 := by simpa using HasR.new (w.alloc r.o) row0
  generalize (w.alloc r.o).alloc row0.o = W at hB hR hZ ⊢
  refine (right_any r _).mono ?_; rintro e w1 ⟨rfl, hb1⟩
  replace hR := hR.below hb1 hR.lt
  replace hZ := hZ.below hb1 hZ.lt
  replace hB := hB.trans (hb1.mono hB.size)
  clear hb1
  obtain ⟨c0, c1, c2, c3, c4, c5, c6, c7, c8⟩ := hR.cells
  obtain ⟨d0, d1, d2, d3, d4, d5, d6, d7, d8⟩ := hZ.cells
  have hfz := hZ.frozen
  go_wp2_with fail
  have hR9 := hZ.set9 r
  have hB9 := below_set9 hB (b := w.heap.size + 1) (by omega) r
  exact bodyPost_ret (results_row (p := 2) rfl _ _ (w.heap.size + 1) r rfl hR9) rfl ⟨ret_r HT.out.symm, hB9⟩

set_option maxHeartbeats 400000 in
theorem tight_yes (r : Row) (w : World) (hr : r.right = true) : Calls Try.prog 15 #[r.enc] w fun e w' => e = .returned r.tight.enc ∧ Below w.heap.size w w' := by
  have ht : r.tight = if gcdK r 8 = 0 then r else r.div (gcdK r 8 : Nat) := by simp [Row.tight, hr]
  have HT := Lib.hid ht; clear ht
  obtain ⟨hb, hc⟩ := right_big hr
  have HB := Lib.hid hb; clear hb
  go_enter Try.func15, Try.ntmps15
  go_wp2_with fail
  have hB : Below w.heap.size w ((w.alloc r.o).alloc row0.o) := ((Below.refl _ _).alloc (Nat.le_refl _) _).alloc (by simp) _
  have hR : HasR ((w.alloc r.o).alloc row0.o) w.heap.size r := (HasR.new w r).alloc _
  have hZ : HasR ((w.alloc r.o).alloc row0.o) (w.heap.size + 1) row0 := by simpa using HasR.new (w.alloc r.o) row0
  generalize (w.alloc r.o).alloc row0.o = W at hB hR hZ ⊢
  refine (right_any r _).mono ?_; rintro e w1 ⟨rfl, hb1⟩
  replace hR := hR.below hb1 hR.lt
  replace hZ := hZ.below hb1 hZ.lt
  replace hB := hB.trans (hb1.mono hB.size)
  clear hb1
  obtain ⟨c0, c1, c2, c3, c4, c5, c6, c7, c8⟩ := hR.cells
  go_wp2_with fail
  clear c0 c1 c2 c3 c4 c5 c6 c7 c8
  refine (divisor_any r _ HB.out).mono ?_; rintro e w2 ⟨rfl, hb1⟩
  replace hR := hR.below hb1 hR.lt
  replace hZ := hZ.below hb1 hZ.lt
  replace hB := hB.trans (hb1.mono hB.size)
  clear hb1
  by_cases hlt : gcdK r 8 = 0
  · have hg : (((gcdK r 8 : Nat) : Int) == 0) = true := by simp [hlt]
    obtain ⟨c0, c1, c2, c3, c4, c5, c6, c7, c8⟩ := hR.cells
    obtain ⟨d0, d1, d2, d3, d4, d5, d6, d7, d8⟩ := hZ.cells
    have hfz := hZ.frozen
    have HL := Lib.hid hlt; clear hlt
    go_wp2_with fail
    have hR9 := hZ.set9 r
    have hB9 := below_set9 hB (b := w.heap.size + 1) (by omega) r
    exact bodyPost_ret (results_row (p := 2) rfl _ _ (w.heap.size + 1) r rfl hR9) rfl ⟨ret_r (by rw [HT.out, if_pos HL.out]), hB9⟩
  · have hg : (((gcdK r 8 : Nat) : Int) == 0) = false := by simp; exact hlt
    have hg0 : ((gcdK r 8 : Nat) : Int) ≠ 0 := by omega
    go_wp2_with fail
    go_loopw [15] (fun i wr => ∃ k : Nat, k ≤ 8 ∧ i = .int .i64 k ∧ HasR wr w.heap.size (r.divK (gcdK r 8 : Nat) k) ∧ HasR wr (w.heap.size + 1) (Row.mk 0 0 0 0 0 0 0 0 0) ∧ Below w.heap.size w wr) (fun i _ => 8 - (intOf i).toNat)
    case atStart => exact ⟨0, by omega, rfl, hR, hZ, hB⟩
    case round =>
      obtain ⟨k, hk, rfl, hR2, hZ2, hB2⟩ := hrel
      by_cases hlt8 : k < 8
      · have hcl := hR2.cell k hlt8
        rw [divK_at r _ k hlt8] at hcl
        have hfz := hR2.frozen
        have hq : (r.at k).tdiv (gcdK r 8 : Nat) = r.at k / (gcdK r 8 : Nat) := tdiv_of_dvd (gcdK_dvd r k hlt8)
        have hbg := ediv_big (d := gcdK r 8) (HB.out k)
        have hw : wrap64 (r.at k / (gcdK r 8 : Nat)) = r.at k / (gcdK r 8 : Nat) := by unfold big at hbg; unfold wrap64; omega
        have hR3 := hR2.setk k (by omega) (r.at k / (gcdK r 8 : Nat))
        have hZ3 := hZ2.far (p := ⟨w.heap.size, k, none⟩) (by simp) (.int .i64 (r.at k / (gcdK r 8 : Nat)))
        go_wp2
        exact ⟨⟨k + 1, by omega, by go_num, hR3, hZ3, hB2.setCell (by simp) _⟩, by simp [intOf]; omega⟩
      · have hk8 : k = 8 := by omega
        subst hk8
        obtain ⟨c0, c1, c2, c3, c4, c5, c6, c7, c8⟩ := hR2.cells
        rw [divK_c r _ 8 (by omega)] at c8
        have hfz := hR2.frozen
        obtain ⟨d0, d1, d2, d3, d4, d5, d6, d7, d8⟩ := hZ2.cells
        have hfz2 := hZ2.frozen
        have hpos : 0 < gcdK r 8 := by omega
        obtain ⟨hw1, hw2, hw3⟩ := wraps_div (d := gcdK r 8) hc
        have hfl := floor_div r.c (gcdK r 8) hpos
        by_cases hcase : r.c < r.c.tdiv (gcdK r 8 : Nat) * (gcdK r 8 : Nat)
        · rw [if_pos hcase] at hfl
          have HF := Lib.hid hfl; clear hfl
          go_wp2
          have hZ3 := (hZ2.far (p := ⟨w.heap.size, 8, none⟩) (by simp) (.int .i64 (r.c.tdiv (gcdK r 8 : Nat) - 1))).set9 (mkC (r.divK (gcdK r 8 : Nat) 8) (r.c.tdiv (gcdK r 8 : Nat) - 1))
          have hB3 := below_set9 (hB2.setCell (p := ⟨w.heap.size, 8, none⟩) (by simp) (.int .i64 (r.c.tdiv (gcdK r 8 : Nat) - 1))) (b := w.heap.size + 1) (by omega) (mkC (r.divK (gcdK r 8 : Nat) 8) (r.c.tdiv (gcdK r 8 : Nat) - 1))
          exact bodyPost_ret (results_row (p := 2) rfl _ _ (w.heap.size + 1) _ rfl hZ3) rfl ⟨ret_r (by rw [HT.out, if_neg (by omega), HF.out, mkC_div]), hB3⟩
        · rw [if_neg hcase] at hfl
          have HF := Lib.hid hfl; clear hfl
          go_wp2
          have hZ3 := (hZ2.far (p := ⟨w.heap.size, 8, none⟩) (by simp) (.int .i64 (r.c.tdiv (gcdK r 8 : Nat)))).set9 (mkC (r.divK (gcdK r 8 : Nat) 8) (r.c.tdiv (gcdK r 8 : Nat)))
          have hB3 := below_set9 (hB2.setCell (p := ⟨w.heap.size, 8, none⟩) (by simp) (.int .i64 (r.c.tdiv (gcdK r 8 : Nat)))) (b := w.heap.size + 1) (by omega) (mkC (r.divK (gcdK r 8 : Nat) 8) (r.c.tdiv (gcdK r 8 : Nat)))
          exact bodyPost_ret (results_row (p := 2) rfl _ _ (w.heap.size + 1) _ rfl hZ3) rfl ⟨ret_r (by rw [HT.out, if_neg (by omega), HF.out, mkC_div]), hB3⟩

theorem tight_any (r : Row) (w : World) : Calls Try.prog 15 #[r.enc] w fun e w' => e = .returned r.tight.enc ∧ Below w.heap.size w w' := by
  cases hr : r.right
  · exact tight_not r w hr
  · exact tight_yes r w hr
end Go.Proofs.Ytfaccdidjhaahaa
