import Derived.Test.YtfaccdidjhaahaaW
import Derived.Test.YtfaccdidjhaahaaY
namespace Go.Proofs.Ytfaccdidjhaahaa
open Go.RowKit Go.BigFrame

abbrev rP (low : Int) : Row := ⟨0, 0, 0, 0, 0, 1, 0, 0, -low⟩
abbrev rQ (high : Int) : Row := ⟨0, 0, 0, 0, 0, -1, 0, 0, high⟩
abbrev rS (n : Nat) (low : Int) : Row := ⟨0, 0, n, 0, 0, 0, 0, 0, -low⟩
abbrev rU (n : Nat) (high : Int) : Row := ⟨0, 0, -n, 0, 0, 0, 0, 0, high⟩
set_option maxRecDepth 100000 in
set_option maxHeartbeats 1000000 in
theorem bounds_in (low high f : Int) (w : World) (hl : -524288 ≤ low ∧ low ≤ 524288) (hh : -524288 ≤ high ∧ high ≤ 524288) (hf : 1 ≤ f ∧ f ≤ 1000) :
    Calls Try.prog 7 #[.int .i64 low, .int .i64 high, .int .i64 f] w fun e w' => e = .returned (.bool true) ∧ Below w.heap.size w w' := by
  have hb1 := bound_one low high hl hh
  have hb2 := bound_two low high f hl hh hf
  have HB1 := Lib.hid hb1
  have HB2 := Lib.hid hb2
  clear hb1 hb2
  obtain ⟨hl1, hl2⟩ := hl
  obtain ⟨hh1, hh2⟩ := hh
  obtain ⟨hf1, hf2⟩ := hf
  have hf0 : f ≠ 0 := by omega
  obtain ⟨n, rfl⟩ : ∃ n : Nat, f = n := ⟨f.toNat, by omega⟩
  have hbig : big low := by unfold big; omega
  obtain ⟨hw1, hw2, _⟩ := wraps_div (d := n) hbig
  have hq : (low.tdiv n).natAbs ≤ 524288 := by rw [Int.natAbs_tdiv]; exact Nat.le_trans (Nat.div_le_self _ _) (by omega)
  have hw3 : wrap64 (low.tdiv n + 1) = low.tdiv n + 1 := by unfold wrap64; omega
  have hw4 : wrap64 ((low.tdiv n + 1) * n) = (low.tdiv n + 1) * n := by
    have h1 : ((low.tdiv n + 1) * n).natAbs ≤ 524289 * 1000 := by rw [Int.natAbs_mul]; exact Nat.mul_le_mul (by omega) (by omega)
    unfold wrap64; omega
  have hup : upOfDiv low n = if low.tdiv n * n < low then low.tdiv n + 1 else low.tdiv n := rfl
  by_cases hc : low.tdiv n * n < low
  · rw [if_pos hc] at hup
    have HUP := Lib.hid hup
    clear hup hbig hq
    go_enter Try.func7, Try.ntmps7
    go_wp2_with fail
    have hsz : ∀ (o1 o2 o3 o4 : Obj), ((((w.alloc o1).alloc o2).alloc o3).alloc o4).heap.size = w.heap.size + 1 + 1 + 1 + 1 := by intros; simp
    have hsz2 : ∀ (o1 o2 : Obj), ((w.alloc o1).alloc o2).heap.size = w.heap.size + 1 + 1 := by intros; simp
    have hsz3 : ∀ (o1 o2 o3 : Obj), (((w.alloc o1).alloc o2).alloc o3).heap.size = w.heap.size + 1 + 1 + 1 := by intros; simp
    have hC : HasR (((((w.alloc (rP low).o).alloc (rQ high).o).alloc (rS n low).o).alloc (rU n high).o).alloc (.cells ((rP low).l ++ (rQ high).l).toArray 24)) (w.heap.size + 1 + 1) (rS n low) := by
      have := (((HasR.new ((w.alloc (rP low).o).alloc (rQ high).o) (rS n low)).alloc (rU n high).o).alloc (.cells ((rP low).l ++ (rQ high).l).toArray 24))
      rw [hsz2] at this; exact this
    have hD : HasR (((((w.alloc (rP low).o).alloc (rQ high).o).alloc (rS n low).o).alloc (rU n high).o).alloc (.cells ((rP low).l ++ (rQ high).l).toArray 24)) (w.heap.size + 1 + 1 + 1) (rU n high) := by
      have := ((HasR.new (((w.alloc (rP low).o).alloc (rQ high).o).alloc (rS n low).o) (rU n high)).alloc (.cells ((rP low).l ++ (rQ high).l).toArray 24))
      rw [hsz3] at this; exact this
    have hL : (((((w.alloc (rP low).o).alloc (rQ high).o).alloc (rS n low).o).alloc (rU n high).o).alloc (.cells ((rP low).l ++ (rQ high).l).toArray 24)).heap[w.heap.size + 1 + 1 + 1 + 1]? = some (.cells ((rP low).l ++ (rQ high).l).toArray 24) := by
      have := heap_alloc_new ((((w.alloc (rP low).o).alloc (rQ high).o).alloc (rS n low).o).alloc (rU n high).o) (.cells ((rP low).l ++ (rQ high).l).toArray 24)
      rw [hsz] at this; exact this
    have hB : Below w.heap.size w (((((w.alloc (rP low).o).alloc (rQ high).o).alloc (rS n low).o).alloc (rU n high).o).alloc (.cells ((rP low).l ++ (rQ high).l).toArray 24)) :=
      (((((Below.refl _ _).alloc (Nat.le_refl _) _).alloc (by simp) _).alloc (by simp; omega) _).alloc (by simp; omega) _).alloc (by simp; omega) _
    clear hsz hsz2 hsz3
    refine (never_any [rP low, rQ high] (some ⟨w.heap.size + 1 + 1 + 1 + 1, 0, none⟩) 2 _ (by simp) (Rd.lit hL rfl)).mono ?_
    rintro e w1 ⟨rfl, hb1⟩
    rw [HB1.out]
    replace hC := hC.below hb1 hC.lt
    replace hD := hD.below hb1 hD.lt
    replace hB := hB.trans (hb1.mono hB.size)
    clear hb1 hL
    have e1 : (decide (high < low) == decide (high < low)) = true := by simp
    obtain ⟨c0, c1, c2, c3, c4, c5, c6, c7, c8⟩ := hC.cells
    obtain ⟨d0, d1, d2, d3, d4, d5, d6, d7, d8⟩ := hD.cells
    go_wp2_with fail
    clear c0 c1 c2 c3 c4 c5 c6 c7 c8 d0 d1 d2 d3 d4 d5 d6 d7 d8 hC hD
    have hb1 : Below w1.heap.size w1 (w1.alloc (.cells ((rS n low).l ++ (rU n high).l).toArray 24)) := (Below.refl _ _).alloc (Nat.le_refl _) _
    have hL : (w1.alloc (.cells ((rS n low).l ++ (rU n high).l).toArray 24)).heap[w1.heap.size]? = some (.cells ((rS n low).l ++ (rU n high).l).toArray 24) := heap_alloc_new _ _
    replace hB := hB.trans (hb1.mono hB.size)
    clear hb1
    refine (never_any [rS n low, rU n high] (some ⟨w1.heap.size, 0, none⟩) 2 _ (by simp) (Rd.lit hL rfl)).mono ?_
    rintro e w2 ⟨rfl, hb1⟩
    rw [HB2.out, HUP.out]
    replace hB := hB.trans (hb1.mono hB.size)
    clear hb1 hL
    have e2 : ∀ x : Int, (decide (high < x) == decide (high < x)) = true := by simp
    go_wp2_with fail
    refine (awake_any _).mono ?_; rintro e w3 ⟨rfl, hb1⟩
    go_wp2_with fail
    go_returns
    exact ⟨rfl, hB.trans (hb1.mono hB.size)⟩
  · rw [if_neg hc] at hup
    have HUP := Lib.hid hup
    clear hup hbig hq
    go_enter Try.func7, Try.ntmps7
    go_wp2_with fail
    have hsz : ∀ (o1 o2 o3 o4 : Obj), ((((w.alloc o1).alloc o2).alloc o3).alloc o4).heap.size = w.heap.size + 1 + 1 + 1 + 1 := by intros; simp
    have hsz2 : ∀ (o1 o2 : Obj), ((w.alloc o1).alloc o2).heap.size = w.heap.size + 1 + 1 := by intros; simp
    have hsz3 : ∀ (o1 o2 o3 : Obj), (((w.alloc o1).alloc o2).alloc o3).heap.size = w.heap.size + 1 + 1 + 1 := by intros; simp
    have hC : HasR (((((w.alloc (rP low).o).alloc (rQ high).o).alloc (rS n low).o).alloc (rU n high).o).alloc (.cells ((rP low).l ++ (rQ high).l).toArray 24)) (w.heap.size + 1 + 1) (rS n low) := by
      have := (((HasR.new ((w.alloc (rP low).o).alloc (rQ high).o) (rS n low)).alloc (rU n high).o).alloc (.cells ((rP low).l ++ (rQ high).l).toArray 24))
      rw [hsz2] at this; exact this
    have hD : HasR (((((w.alloc (rP low).o).alloc (rQ high).o).alloc (rS n low).o).alloc (rU n high).o).alloc (.cells ((rP low).l ++ (rQ high).l).toArray 24)) (w.heap.size + 1 + 1 + 1) (rU n high) := by
      have := ((HasR.new (((w.alloc (rP low).o).alloc (rQ high).o).alloc (rS n low).o) (rU n high)).alloc (.cells ((rP low).l ++ (rQ high).l).toArray 24))
      rw [hsz3] at this; exact this
    have hL : (((((w.alloc (rP low).o).alloc (rQ high).o).alloc (rS n low).o).alloc (rU n high).o).alloc (.cells ((rP low).l ++ (rQ high).l).toArray 24)).heap[w.heap.size + 1 + 1 + 1 + 1]? = some (.cells ((rP low).l ++ (rQ high).l).toArray 24) := by
      have := heap_alloc_new ((((w.alloc (rP low).o).alloc (rQ high).o).alloc (rS n low).o).alloc (rU n high).o) (.cells ((rP low).l ++ (rQ high).l).toArray 24)
      rw [hsz] at this; exact this
    have hB : Below w.heap.size w (((((w.alloc (rP low).o).alloc (rQ high).o).alloc (rS n low).o).alloc (rU n high).o).alloc (.cells ((rP low).l ++ (rQ high).l).toArray 24)) :=
      (((((Below.refl _ _).alloc (Nat.le_refl _) _).alloc (by simp) _).alloc (by simp; omega) _).alloc (by simp; omega) _).alloc (by simp; omega) _
    clear hsz hsz2 hsz3
    refine (never_any [rP low, rQ high] (some ⟨w.heap.size + 1 + 1 + 1 + 1, 0, none⟩) 2 _ (by simp) (Rd.lit hL rfl)).mono ?_
    rintro e w1 ⟨rfl, hb1⟩
    rw [HB1.out]
    replace hC := hC.below hb1 hC.lt
    replace hD := hD.below hb1 hD.lt
    replace hB := hB.trans (hb1.mono hB.size)
    clear hb1 hL
    have e1 : (decide (high < low) == decide (high < low)) = true := by simp
    obtain ⟨c0, c1, c2, c3, c4, c5, c6, c7, c8⟩ := hC.cells
    obtain ⟨d0, d1, d2, d3, d4, d5, d6, d7, d8⟩ := hD.cells
    go_wp2_with fail
    clear c0 c1 c2 c3 c4 c5 c6 c7 c8 d0 d1 d2 d3 d4 d5 d6 d7 d8 hC hD
    have hb1 : Below w1.heap.size w1 (w1.alloc (.cells ((rS n low).l ++ (rU n high).l).toArray 24)) := (Below.refl _ _).alloc (Nat.le_refl _) _
    have hL : (w1.alloc (.cells ((rS n low).l ++ (rU n high).l).toArray 24)).heap[w1.heap.size]? = some (.cells ((rS n low).l ++ (rU n high).l).toArray 24) := heap_alloc_new _ _
    replace hB := hB.trans (hb1.mono hB.size)
    clear hb1
    refine (never_any [rS n low, rU n high] (some ⟨w1.heap.size, 0, none⟩) 2 _ (by simp) (Rd.lit hL rfl)).mono ?_
    rintro e w2 ⟨rfl, hb1⟩
    rw [HB2.out, HUP.out]
    replace hB := hB.trans (hb1.mono hB.size)
    clear hb1 hL
    have e2 : ∀ x : Int, (decide (high < x) == decide (high < x)) = true := by simp
    go_wp2_with fail
    refine (awake_any _).mono ?_; rintro e w3 ⟨rfl, hb1⟩
    go_wp2_with fail
    go_returns
    exact ⟨rfl, hB.trans (hb1.mono hB.size)⟩

set_option maxRecDepth 100000 in
set_option maxHeartbeats 1000000 in
theorem bounds_any (low high f : Int) (w : World) : Calls Try.prog 7 #[.int .i64 low, .int .i64 high, .int .i64 f] w fun e w' => e = .returned (.bool true) ∧ Below w.heap.size w w' := by
  by_cases h1 : low < -524288
  · go_enter Try.func7, Try.ntmps7
    go_wp2_with (go_at_call 14; refine (awake_any _).mono ?_; rintro e w3 ⟨rfl, hb1⟩)
    go_returns
    exact ⟨rfl, hb1⟩
  by_cases h2 : 524288 < low
  · go_enter Try.func7, Try.ntmps7
    go_wp2_with (go_at_call 14; refine (awake_any _).mono ?_; rintro e w3 ⟨rfl, hb1⟩)
    go_returns
    exact ⟨rfl, hb1⟩
  by_cases h3 : high < -524288
  · go_enter Try.func7, Try.ntmps7
    go_wp2_with (go_at_call 14; refine (awake_any _).mono ?_; rintro e w3 ⟨rfl, hb1⟩)
    go_returns
    exact ⟨rfl, hb1⟩
  by_cases h4 : 524288 < high
  · go_enter Try.func7, Try.ntmps7
    go_wp2_with (go_at_call 14; refine (awake_any _).mono ?_; rintro e w3 ⟨rfl, hb1⟩)
    go_returns
    exact ⟨rfl, hb1⟩
  by_cases h5 : f < 1
  · go_enter Try.func7, Try.ntmps7
    go_wp2_with (go_at_call 14; refine (awake_any _).mono ?_; rintro e w3 ⟨rfl, hb1⟩)
    go_returns
    exact ⟨rfl, hb1⟩
  by_cases h6 : 1000 < f
  · go_enter Try.func7, Try.ntmps7
    go_wp2_with (go_at_call 14; refine (awake_any _).mono ?_; rintro e w3 ⟨rfl, hb1⟩)
    go_returns
    exact ⟨rfl, hb1⟩
  exact bounds_in low high f w ⟨by omega, by omega⟩ ⟨by omega, by omega⟩ ⟨by omega, by omega⟩
end Go.Proofs.Ytfaccdidjhaahaa
