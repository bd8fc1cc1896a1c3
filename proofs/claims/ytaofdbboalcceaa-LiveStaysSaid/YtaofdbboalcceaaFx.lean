import Derived.Test.YtaofdbboalcceaaFw
/- THE FLOW's next. -/
namespace Go.Proofs.Ytaofdbboalcceaa
open Go.RowKit Go.BigFrame

def Two12 (base : Nat) (x y : Int) (e : Ending) (w : World) : Prop := ∃ b, e = .returned (.slice (some ⟨b, 0, none⟩) 2 2) ∧ base ≤ b ∧ b < w.heap.size ∧ w.cell? ⟨b, 0, none⟩ = some (.int .i64 x) ∧ w.cell? ⟨b, 1, none⟩ = some (.int .i64 y)
set_option maxRecDepth 1000000 in
theorem Next12 (op dst a b n : Int) (text : ByteArray) (r0 r1 r2 r3 r4 r5 to_ els : Int) (p : Int) (w : World) : Calls Try.prog 48 #[Ins.agg ⟨12, op, dst, a, b, n, text, r0, r1, r2, r3, r4, r5, to_, els⟩, .int .i64 p] w fun e w' => Two12 w.heap.size to_ els e w' ∧ Below w.heap.size w w' := by
  have hb0 := Below.one w (Ins.obj ⟨12, op, dst, a, b, n, text, r0, r1, r2, r3, r4, r5, to_, els⟩)
  have hn := heap_alloc_new (w.alloc (Ins.obj ⟨12, op, dst, a, b, n, text, r0, r1, r2, r3, r4, r5, to_, els⟩)) (.cells #[.int .i64 to_, .int .i64 els] 3)
  have hT : Two12 w.heap.size to_ els (.returned (.slice (some ⟨w.heap.size + 1, 0, none⟩) 2 2)) ((w.alloc (Ins.obj ⟨12, op, dst, a, b, n, text, r0, r1, r2, r3, r4, r5, to_, els⟩)).alloc (.cells #[.int .i64 to_, .int .i64 els] 3)) :=
    ⟨w.heap.size + 1, rfl, by omega, by simp, by rw [show (w.alloc (Ins.obj ⟨12, op, dst, a, b, n, text, r0, r1, r2, r3, r4, r5, to_, els⟩)).heap.size = w.heap.size + 1 by simp] at hn; exact cell_of_heap hn 0 _ rfl, by rw [show (w.alloc (Ins.obj ⟨12, op, dst, a, b, n, text, r0, r1, r2, r3, r4, r5, to_, els⟩)).heap.size = w.heap.size + 1 by simp] at hn; exact cell_of_heap hn 1 _ rfl⟩
  simp only [Ins.obj, Ins.agg] at hb0 hT ⊢
  have HT := Lib.hid hT
  clear hT hn
  go_enter Try.func48, Try.ntmps48
  go_wp2
  go_returns
  exact ⟨HT.out, hb0.alloc hb0.size _⟩
/-- a slice of numbers is told, that reads so, in memory from base on -/
def SlF (base : Nat) (l : List Int) (e : Ending) (w : World) : Prop := ∃ A cap, e = .returned (.slice A l.length cap) ∧ RdN w A l ∧ ∀ b o, A = some ⟨b, o, none⟩ → base ≤ b
set_option maxRecDepth 1000000 in
set_option maxHeartbeats 4000000 in
theorem Next_fr (i : Ins) (p : Int) (hp : 0 ≤ p ∧ p ≤ 100000) (w : World) : Calls Try.prog 48 #[i.agg, .int .i64 p] w fun e w' => SlF w.heap.size (i.next p) e w' ∧ Below w.heap.size w w' := by
  obtain ⟨k, op, dst, a, b, n, text, r0, r1, r2, r3, r4, r5, to_, els⟩ := i
  have hb0 := Below.one w (Ins.obj ⟨k, op, dst, a, b, n, text, r0, r1, r2, r3, r4, r5, to_, els⟩)
  have bx := heap_alloc_new w (Ins.obj ⟨k, op, dst, a, b, n, text, r0, r1, r2, r3, r4, r5, to_, els⟩)
  simp only [Ins.obj, Ins.agg, Ins.next] at hb0 bx ⊢
  have hwr : wrap64 (p + 1) = p + 1 := by unfold wrap64; omega
  have hone : ∀ (W : World) (x : Int), RdN (W.alloc (.cells #[.int .i64 x] 3)) (some ⟨W.heap.size, 0, none⟩) [x] := fun W x j y hj => by
    cases j with
    | succ j => simp at hj
    | zero =>
      simp at hj
      subst hj
      exact ⟨W.heap.size, 0, rfl, by simp, cell_of_heap (heap_alloc_new W (.cells #[.int .i64 x] 3)) 0 _ rfl⟩
  have htwo : ∀ (W : World) (x y : Int), RdN (W.alloc (.cells #[.int .i64 x, .int .i64 y] 3)) (some ⟨W.heap.size, 0, none⟩) [x, y] := fun W x y j z hj => by
    have hn := heap_alloc_new W (.cells #[.int .i64 x, .int .i64 y] 3)
    match j with
    | 0 => simp at hj; subst hj; exact ⟨W.heap.size, 0, rfl, by simp, cell_of_heap hn 0 _ rfl⟩
    | 1 => simp at hj; subst hj; exact ⟨W.heap.size, 0, rfl, by simp, cell_of_heap hn 1 _ rfl⟩
    | j + 2 => simp at hj
  have h1 := hone (w.alloc (Ins.obj ⟨k, op, dst, a, b, n, text, r0, r1, r2, r3, r4, r5, to_, els⟩))
  have h2 := htwo (w.alloc (Ins.obj ⟨k, op, dst, a, b, n, text, r0, r1, r2, r3, r4, r5, to_, els⟩))
  simp only [Ins.obj] at h1 h2
  rw [show (w.alloc (Ins.obj ⟨k, op, dst, a, b, n, text, r0, r1, r2, r3, r4, r5, to_, els⟩)).heap.size = w.heap.size + 1 by simp] at h1 h2
  by_cases e11 : k = 11
  · subst e11
    go_enter Try.func48, Try.ntmps48
    go_wp2
    go_returns
    exact ⟨⟨_, 1, rfl, h1 _, fun b o h => by injection h with h; injection h with h; omega⟩, hb0.alloc hb0.size _⟩
  · rw [if_neg e11]
    have q1 : (k == 11) = false := by simpa using e11
    by_cases e12 : k = 12
    · subst e12
      go_enter Try.func48, Try.ntmps48
      go_wp2
      go_returns
      exact ⟨⟨_, 2, rfl, h2 _ _, fun b o h => by injection h with h; injection h with h; omega⟩, hb0.alloc hb0.size _⟩
    · rw [if_neg e12]
      have q2 : (k == 12) = false := by simpa using e12
      by_cases e13 : k = 13
      · subst e13
        go_enter Try.func48, Try.ntmps48
        go_wp2
        go_returns
        exact ⟨⟨none, 0, rfl, fun j y hj => by simp at hj, fun b o h => by cases h⟩, hb0⟩
      · rw [if_neg e13]
        have q3 : (k == 13) = false := by simpa using e13
        clear e11 e12 e13
        go_enter Try.func48, Try.ntmps48
        go_wp2
        go_returns
        exact ⟨⟨_, 1, rfl, h1 _, fun b o h => by injection h with h; injection h with h; omega⟩, hb0.alloc hb0.size _⟩
theorem SlF.one {w : World} {base b o cap : Nat} {x : Int} (hB : base ≤ b) (hb : b < w.heap.size) (h : w.cell? ⟨b, o, none⟩ = some (.int .i64 x)) : SlF base [x] (.returned (.slice (some ⟨b, o, none⟩) 1 cap)) w :=
  ⟨_, cap, rfl, fun j y hj => by
    cases j with
    | succ j => simp at hj
    | zero =>
      simp at hj
      subst hj
      exact ⟨b, o, rfl, hb, h⟩, fun b' o' h' => by injection h' with h'; injection h' with h'; omega⟩
theorem SlF.two {w : World} {base b cap : Nat} {x y : Int} (hB : base ≤ b) (hb : b < w.heap.size) (h : w.cell? ⟨b, 0, none⟩ = some (.int .i64 x)) (h' : w.cell? ⟨b, 1, none⟩ = some (.int .i64 y)) : SlF base [x, y] (.returned (.slice (some ⟨b, 0, none⟩) 2 cap)) w :=
  ⟨_, cap, rfl, fun j z hj => by
    match j with
    | 0 => simp at hj; subst hj; exact ⟨b, 0, rfl, hb, h⟩
    | 1 => simp at hj; subst hj; exact ⟨b, 0, rfl, hb, h'⟩
    | j + 2 => simp at hj, fun b' o' h' => by injection h' with h'; injection h' with h'; omega⟩
set_option maxRecDepth 1000000 in
set_option maxHeartbeats 4000000 in
/-- flow.next -/
theorem next_any (i : Ins) (v : List Vl) {R : Nat} {Fr : Int} {L : Nat} (hi : Ok i R Fr L) (hl : v.length = R) (A : Option Addr) (cap : Nat) (p : Nat) (hp : p ≤ 100000) (w : World) (hA : RdV w A v) : Calls Try.prog 52 #[i.agg, .int .i64 p, .slice A R cap] w fun e w' => SlF w.heap.size (nextV i p v) e w' ∧ Below w.heap.size w w' := by
  have hB := Below.one w i.obj
  have bx := heap_alloc_new w i.obj
  have ha := hi.a_in
  have hnx := fun w => Next_fr i p (by omega) w
  have hat : ∀ r : Nat, r < R → ∃ b o x, at_ v r = x ∧ A = some ⟨b, o, none⟩ ∧ b < w.heap.size ∧ w.cell? ⟨b, o + r * 2, none⟩ = some (.int .i64 x.k) ∧ w.cell? ⟨b, o + r * 2 + 1, none⟩ = some (.int .i64 x.n) := fun r hr => by
    obtain ⟨b, o, h1, h2, h3, h4⟩ := hA r (at_ v r) (by rw [at_in (by omega)]; simp)
    exact ⟨b, o, _, rfl, h1, h2, h3, h4⟩
  obtain ⟨W, hW⟩ : ∃ W, w.alloc i.obj = W := ⟨_, rfl⟩
  rw [hW] at hB bx
  obtain ⟨x0, x1, x2, x3, x4, x5, x6, x7, x8, x9, x10, x11, x12, x13, x14⟩ := Ins.cells bx
  obtain ⟨k, op, dst, a, b, n, text, r0, r1, r2, r3, r4, r5, to_, els⟩ := i
  by_cases h12 : k = 12
  · subst h12
    simp only [Ins.agg, Ins.obj, nextV] at hW bx hB ha hnx x0 x1 x2 x3 x4 x5 x6 x7 x8 x9 x10 x11 x12 x13 x14 ⊢
    obtain ⟨ha0, ha1⟩ := ha rfl
    obtain ⟨m, rfl⟩ : ∃ m : Nat, a = m := ⟨a.toNat, by omega⟩
    obtain ⟨bb, o, x, hx, rfl, hlt, c0, c1⟩ := hat m (by omega)
    simp only [Int.toNat_natCast, if_pos, hx]
    obtain ⟨xk, xn⟩ := x
    simp only at c0 c1 ⊢
    have q1 : m < R := by omega
    have c0 := (hB.cell (p := ⟨bb, _, none⟩) hlt).trans c0
    have c1 := (hB.cell (p := ⟨bb, _, none⟩) hlt).trans c1
    have hlt := Nat.lt_of_lt_of_le hlt hB.size
    have hn12 := fun w => Next12 op dst (m : Int) b n text r0 r1 r2 r3 r4 r5 to_ els (p : Int) w
    simp only [Ins.agg] at hn12
    have hbs := (Array.getElem?_eq_some_iff.1 bx).1
    clear hat hi hA hnx hx ha ha0 ha1
    have hc : ((xk == 1) = false ∧ ¬ xk = 1) ∨ ((xk == 1) = true ∧ xk = 1 ∧ (xn != 0) = true ∧ ¬ xn = 0) ∨ ((xk == 1) = true ∧ xk = 1 ∧ (xn != 0) = false ∧ xn = 0) := by simp; omega
    rcases hc with ⟨q3, q4⟩ | ⟨q3, q4, q5, q6⟩ | ⟨q3, q4, q5, q6⟩
    · rw [if_neg q4]
      clear q4
      go_enter Try.func52, Try.ntmps52
      go_wp2_with (first
        | (go_at_call 48; refine (hn12 _).mono ?_; rintro e w1 ⟨⟨nb, rfl, hnB, hnb, n0, n1⟩, hb1⟩; have hBB := hB.trans (hb1.mono hB.size); have y0 := (hb1.cell (p := ⟨w.heap.size, 0, none⟩) hbs).trans x0; have y3 := (hb1.cell (p := ⟨w.heap.size, 3, none⟩) hbs).trans x3; have d0 := (hb1.cell (p := ⟨bb, _, none⟩) hlt).trans c0; have d1 := (hb1.cell (p := ⟨bb, _, none⟩) hlt).trans c1; have HS := Lib.hid (SlF.two (base := w.heap.size) (cap := 2) (Nat.le_trans hB.size hnB) hnb n0 n1)))
      go_returns
      exact ⟨HS.out, hBB⟩
    · rw [if_pos q4, if_neg q6]
      clear q4 q6
      go_enter Try.func52, Try.ntmps52
      go_wp2_with (first
        | (go_at_call 48; refine (hn12 _).mono ?_; rintro e w1 ⟨⟨nb, rfl, hnB, hnb, n0, n1⟩, hb1⟩; have hBB := hB.trans (hb1.mono hB.size); have y0 := (hb1.cell (p := ⟨w.heap.size, 0, none⟩) hbs).trans x0; have y3 := (hb1.cell (p := ⟨w.heap.size, 3, none⟩) hbs).trans x3; have d0 := (hb1.cell (p := ⟨bb, _, none⟩) hlt).trans c0; have d1 := (hb1.cell (p := ⟨bb, _, none⟩) hlt).trans c1; have HS := Lib.hid (SlF.one (base := w.heap.size) (o := 0) (cap := 2) (Nat.le_trans hB.size hnB) hnb n0)))
      go_returns
      exact ⟨HS.out, hBB⟩
    · rw [if_pos q4, if_pos q6]
      clear q4 q6
      go_enter Try.func52, Try.ntmps52
      go_wp2_with (first
        | (go_at_call 48; refine (hn12 _).mono ?_; rintro e w1 ⟨⟨nb, rfl, hnB, hnb, n0, n1⟩, hb1⟩; have hBB := hB.trans (hb1.mono hB.size); have y0 := (hb1.cell (p := ⟨w.heap.size, 0, none⟩) hbs).trans x0; have y3 := (hb1.cell (p := ⟨w.heap.size, 3, none⟩) hbs).trans x3; have d0 := (hb1.cell (p := ⟨bb, _, none⟩) hlt).trans c0; have d1 := (hb1.cell (p := ⟨bb, _, none⟩) hlt).trans c1; have HS := Lib.hid (SlF.one (base := w.heap.size) (o := 1) (cap := 1) (Nat.le_trans hB.size hnB) hnb n1)))
      go_returns
      exact ⟨HS.out, hBB⟩
  · simp only [Ins.agg, Ins.obj, nextV] at hW bx hB hnx x0 x1 x2 x3 x4 x5 x6 x7 x8 x9 x10 x11 x12 x13 x14 ⊢
    rw [if_neg h12]
    have q3 : (k == 12) = false := by simpa using h12
    have hbs := (Array.getElem?_eq_some_iff.1 bx).1
    clear hat hi hA ha h12
    generalize Ins.next ⟨k, op, dst, a, b, n, text, r0, r1, r2, r3, r4, r5, to_, els⟩ (p : Int) = nl at *
    go_enter Try.func52, Try.ntmps52
    go_wp2_with (first
      | (go_at_call 48; refine (hnx _).mono ?_; rintro e w1 ⟨⟨NA, ncap, rfl, hNR, hNF⟩, hb1⟩; have hBB := hB.trans (hb1.mono hB.size); have y0 := (hb1.cell (p := ⟨w.heap.size, 0, none⟩) hbs).trans x0))
    go_returns
    exact ⟨⟨NA, ncap, rfl, hNR, fun b o h => Nat.le_trans hB.size (hNF b o h)⟩, hBB⟩
end Go.Proofs.Ytaofdbboalcceaa
