import Derived.Test.YtfaccdidjhaahaaS
/- PLAIN LAWS: bounds; chains; more rows. -/
namespace Go.Proofs.Ytfaccdidjhaahaa

theorem step_skip (v : Nat) (rows : List Row) (hr : ∀ r ∈ rows, r.right = true) (hz : ∀ r ∈ rows, r.at v = 0) (hk : ∀ r ∈ rows, r.keep = true) (hl : rows.length ≤ 64) : stepS v rows = some rows := by
  have h1 : rows.all Row.right = true := List.all_eq_true.2 hr
  have h2 : upOf v rows = [] := List.filter_eq_nil_iff.2 (fun r hm => by simp [hz r hm])
  have h3 : restOf v rows = rows := List.filter_eq_self.2 (fun r hm => by simp [hz r hm, hk r hm])
  unfold stepS
  rw [if_pos h1, h2, h3]
  simp [hl]
theorem nev_skip {n v : Nat} {rows : List Row} (h1 : rows.any Row.never = false) (h2 : stepS v rows = some rows) : nevAux (n + 1) v rows = nevAux n (v + 1) rows := by
  show (rows.any Row.never || match stepS v rows with
    | none => false
    | some out => nevAux n (v + 1) out) = _
  rw [h1, h2]; rfl
theorem nev_skips (rows : List Row) (hr : ∀ r ∈ rows, r.right = true) (hk : ∀ r ∈ rows, r.keep = true) (hl : rows.length ≤ 64) (hn : rows.any Row.never = false) :
    ∀ (k n v : Nat), (∀ j, v ≤ j → j < v + k → ∀ r ∈ rows, r.at j = 0) → nevAux (n + k) v rows = nevAux n (v + k) rows
  | 0, n, v, _ => rfl
  | k + 1, n, v, hz => by
    rw [show n + (k + 1) = (n + k) + 1 by omega, nev_skip hn (step_skip v rows hr (hz v (by omega) (by omega)) hk hl),
      nev_skips rows hr hk hl hn k n (v + 1) (fun j h1 h2 => hz j (by omega) (by omega)), show v + 1 + k = v + (k + 1) by omega]
/-- one factor s at place k, and a number -/
def unit (k : Nat) (s c : Int) : Row := row0.set k s |>.set 8 c
theorem unit_at (k : Nat) (hk : k < 8) (s c : Int) (j : Nat) (hj : j < 8) : (unit k s c).at j = if j = k then s else 0 := by
  have h1 : k = 0 ∨ k = 1 ∨ k = 2 ∨ k = 3 ∨ k = 4 ∨ k = 5 ∨ k = 6 ∨ k = 7 := by omega
  have h2 : j = 0 ∨ j = 1 ∨ j = 2 ∨ j = 3 ∨ j = 4 ∨ j = 5 ∨ j = 6 ∨ j = 7 := by omega
  rcases h1 with rfl | rfl | rfl | rfl | rfl | rfl | rfl | rfl <;> rcases h2 with rfl | rfl | rfl | rfl | rfl | rfl | rfl | rfl <;> simp [unit, Row.set, Row.at, Row.F]
theorem unit_c (k : Nat) (hk : k < 8) (s c : Int) : (unit k s c).c = c := by
  have h1 : k = 0 ∨ k = 1 ∨ k = 2 ∨ k = 3 ∨ k = 4 ∨ k = 5 ∨ k = 6 ∨ k = 7 := by omega
  rcases h1 with rfl | rfl | rfl | rfl | rfl | rfl | rfl | rfl <;> simp [unit, Row.set]
theorem row_ext {a b : Row} (h : ∀ j, j < 8 → a.at j = b.at j) (hc : a.c = b.c) : a = b := by
  have h0 := h 0 (by omega); have h1 := h 1 (by omega); have h2 := h 2 (by omega); have h3 := h 3 (by omega)
  have h4 := h 4 (by omega); have h5 := h 5 (by omega); have h6 := h 6 (by omega); have h7 := h 7 (by omega)
  cases a; cases b
  simp [Row.at, Row.F] at *
  simp [*]
theorem unit_right (k : Nat) (hk : k < 8) (s c : Int) (hs : far s = true) (hc : far c = true) : (unit k s c).right = true :=
  right_of _ (fun j hj => by rw [unit_at k hk s c j hj]; split <;> first | exact hs | rfl) (by rw [unit_c k hk]; exact hc)
theorem gcdK_unit (k : Nat) (hk : k < 8) (s c : Int) : ∀ j, j ≤ 8 → gcdK (unit k s c) j = if k < j then s.natAbs else 0
  | 0, _ => rfl
  | j + 1, hj => by
    show Nat.gcd (gcdK (unit k s c) j) ((unit k s c).at j).natAbs = _
    rw [gcdK_unit k hk s c j (by omega), unit_at k hk s c j (by omega)]
    by_cases h1 : j = k
    · subst h1; simp
    · by_cases h2 : k < j
      · simp [h1, h2, show k < j + 1 by omega]
      · simp [h1, h2, show ¬ k < j + 1 by omega]
theorem unit_div (k : Nat) (hk : k < 8) (s c d : Int) : (unit k s c).div d = unit k (s / d) (c / d) := by
  refine row_ext (fun j hj => ?_) ?_
  · rw [div_at _ d j hj, unit_at k hk _ _ j hj, unit_at k hk _ _ j hj]
    split <;> simp
  · rw [unit_c k hk]; show (unit k s c).c / d = _; rw [unit_c k hk]
theorem unit_tight (k : Nat) (hk : k < 8) (s c : Int) (hs : s ≠ 0) (hr : (unit k s c).right = true) : (unit k s c).tight = unit k (s / s.natAbs) (c / s.natAbs) := by
  have hg : gcdK (unit k s c) 8 = s.natAbs := by rw [gcdK_unit k hk s c 8 (by omega), if_pos hk]
  unfold Row.tight
  rw [if_neg (by rw [hr]; decide), hg, if_neg (by omega), unit_div k hk]
theorem unit_keep (k : Nat) (hk : k < 8) (s c : Int) (hs : s ≠ 0) : (unit k s c).keep = true ∧ (unit k s c).never = false := by
  have hb : (unit k s c).bare = false := by
    cases h : (unit k s c).bare with
    | false => rfl
    | true =>
      exfalso
      have h1 : (unit k s c).F = [0, 0, 0, 0, 0, 0, 0, 0] := by simpa [Row.bare] using h
      have h2 := gcdK_of_zero _ h1 8
      rw [gcdK_unit k hk s c 8 (by omega), if_pos hk] at h2
      omega
  exact ⟨by simp [Row.keep, hb], by simp [Row.never, hb]⟩
theorem zero_row (c : Int) : (⟨0, 0, 0, 0, 0, 0, 0, 0, c⟩ : Row).bare = true := rfl
/-- two rows of one variable against each other -/
theorem never_pair (k : Nat) (hk : k < 8) (a b : Int) (ha : far a = true) (hb : far b = true) (hs : -1048576 ≤ a + b ∧ a + b ≤ 1048576) :
    nevAux 8 0 [unit k 1 a, unit k (-1) b] = decide (a + b < 0) := by
  have r1 := unit_right k hk 1 a (by decide) ha
  have r2 := unit_right k hk (-1) b (by decide) hb
  have k1 := unit_keep k hk 1 a (by decide)
  have k2 := unit_keep k hk (-1) b (by decide)
  have hr : ∀ r ∈ [unit k 1 a, unit k (-1) b], r.right = true := by intro r hr; simp at hr; rcases hr with rfl | rfl <;> assumption
  have hkp : ∀ r ∈ [unit k 1 a, unit k (-1) b], r.keep = true := by intro r hr; simp at hr; rcases hr with rfl | rfl; exact k1.1; exact k2.1
  have hn : [unit k 1 a, unit k (-1) b].any Row.never = false := by simp [k1.2, k2.2]
  have e1 := nev_skips _ hr hkp (by simp) hn k (8 - k) 0 (fun j _ hj r hr => by
    simp at hr
    rcases hr with rfl | rfl <;> (rw [unit_at k hk _ _ j (by omega), if_neg (by omega)]))
  rw [show 8 - k + k = 8 by omega, Nat.zero_add] at e1
  rw [e1]
  have p1 : (unit k 1 a).at k = 1 := by rw [unit_at k hk _ _ k hk, if_pos rfl]
  have p2 : (unit k (-1) b).at k = -1 := by rw [unit_at k hk _ _ k hk, if_pos rfl]
  have hcombo : combo (unit k 1 a) (unit k (-1) b) k = ⟨0, 0, 0, 0, 0, 0, 0, 0, a + b⟩ := by
    refine row_ext (fun j hj => ?_) ?_
    · rw [combo_at _ _ k j hj, p1, p2, unit_at k hk _ _ j hj, unit_at k hk _ _ j hj]
      have : (⟨0, 0, 0, 0, 0, 0, 0, 0, a + b⟩ : Row).at j = 0 := by
        have : j = 0 ∨ j = 1 ∨ j = 2 ∨ j = 3 ∨ j = 4 ∨ j = 5 ∨ j = 6 ∨ j = 7 := by omega
        rcases this with rfl | rfl | rfl | rfl | rfl | rfl | rfl | rfl <;> rfl
      rw [this]
      split <;> omega
    · show -(unit k (-1) b).at k * (unit k 1 a).c + (unit k 1 a).at k * (unit k (-1) b).c = a + b
      rw [p1, p2, unit_c k hk, unit_c k hk]; omega
  have hshr : (⟨0, 0, 0, 0, 0, 0, 0, 0, a + b⟩ : Row).shrink = ⟨0, 0, 0, 0, 0, 0, 0, 0, a + b⟩ := shrink_small _ (by rw [gcdK_of_zero _ rfl]; omega)
  have hrt : (⟨0, 0, 0, 0, 0, 0, 0, 0, a + b⟩ : Row).right = true := right_of _ (fun j hj => by
    have : j = 0 ∨ j = 1 ∨ j = 2 ∨ j = 3 ∨ j = 4 ∨ j = 5 ∨ j = 6 ∨ j = 7 := by omega
    rcases this with rfl | rfl | rfl | rfl | rfl | rfl | rfl | rfl <;> rfl) ((far_iff _).2 hs)
  have hone : one k (unit k 1 a) [] (unit k (-1) b) = some (if decide (a + b < 0) then [⟨0, 0, 0, 0, 0, 0, 0, 0, a + b⟩] else []) := by
    unfold one
    rw [hcombo, hshr, if_pos hrt]
    have : (⟨0, 0, 0, 0, 0, 0, 0, 0, a + b⟩ : Row).keep = decide (a + b < 0) := by simp [Row.keep, zero_row]
    rw [this]; rfl
  have hstep : stepS k [unit k 1 a, unit k (-1) b] = some (if decide (a + b < 0) then [⟨0, 0, 0, 0, 0, 0, 0, 0, a + b⟩] else []) := by
    have hall : [unit k 1 a, unit k (-1) b].all Row.right = true := List.all_eq_true.2 hr
    have hu : upOf k [unit k 1 a, unit k (-1) b] = [unit k 1 a] := by simp [upOf, p1, p2]
    have hd : downOf k [unit k 1 a, unit k (-1) b] = [unit k (-1) b] := by simp [downOf, p1, p2]
    have hrr : restOf k [unit k 1 a, unit k (-1) b] = [] := by simp [restOf, p1, p2]
    unfold stepS
    rw [if_pos hall, hu, hd, hrr]
    simp only [List.foldlM_cons, List.foldlM_nil, inner, hone]
    by_cases h : a + b < 0 <;> simp [h]
  obtain ⟨m, hm⟩ : ∃ m, 8 - k = m + 1 := ⟨7 - k, by omega⟩
  rw [hm]
  show ([unit k 1 a, unit k (-1) b].any Row.never || match stepS k [unit k 1 a, unit k (-1) b] with
    | none => false
    | some out => nevAux m (k + 1) out) = _
  rw [hn, hstep, Bool.false_or]
  by_cases h : a + b < 0
  · simp only [h, decide_true, if_true]
    have : [(⟨0, 0, 0, 0, 0, 0, 0, 0, a + b⟩ : Row)].any Row.never = true := by simp [Row.never, zero_row, h]
    cases m with
    | zero => exact this
    | succ m =>
      show (_ || _) = true
      rw [this]; rfl
  · simp only [h, decide_false, Bool.false_eq_true, if_false]
    have hnil : ∀ (m v : Nat), nevAux m v [] = false := fun m => by
      induction m with
      | zero => intro v; rfl
      | succ m ih =>
        intro v
        have : stepS v [] = some [] := step_skip v [] (by simp) (by simp) (by simp) (by simp)
        show (_ || match stepS v [] with
          | none => false
          | some out => nevAux m (v + 1) out) = false
        rw [this]; exact ih _
    exact hnil _ _
theorem never_units (k : Nat) (hk : k < 8) (s a b : Int) (hs : 0 < s) (hs2 : far s = true) (ha : far a = true) (hb : far b = true) (h : -1048576 ≤ a / s + b / s ∧ a / s + b / s ≤ 1048576) :
    neverS [unit k s a, unit k (-s) b] = decide (a / s + b / s < 0) := by
  have r1 := unit_right k hk s a hs2 ha
  have r2 := unit_right k hk (-s) b (by rw [far_iff] at *; omega) hb
  have e1 : (unit k s a).tight = unit k 1 (a / s) := by
    rw [unit_tight k hk s a (by omega) r1, show ((s.natAbs : Nat) : Int) = s by omega, Int.ediv_self (by omega)]
  have e2 : (unit k (-s) b).tight = unit k (-1) (b / s) := by
    rw [unit_tight k hk (-s) b (by omega) r2, show (((-s).natAbs : Nat) : Int) = s by omega, Int.neg_ediv_self s (by omega)]
  have hall : [unit k s a, unit k (-s) b].all Row.right = true := by simp [r1, r2]
  unfold neverS
  rw [if_pos hall]
  simp only [List.map_cons, List.map_nil, e1, e2]
  obtain ⟨n, rfl⟩ : ∃ n : Nat, s = n := ⟨s.toNat, by omega⟩
  exact never_pair k hk _ _ (far_div (by omega) ha) (far_div (by omega) hb) h
theorem bound_one (low high : Int) (hl : -524288 ≤ low ∧ low ≤ 524288) (hh : -524288 ≤ high ∧ high ≤ 524288) : neverS [⟨0, 0, 0, 0, 0, 1, 0, 0, -low⟩, ⟨0, 0, 0, 0, 0, -1, 0, 0, high⟩] = decide (high < low) := by
  have h := never_units 5 (by omega) 1 (-low) high (by omega) (by decide) (by rw [far_iff]; omega) (by rw [far_iff]; omega) (by simp; omega)
  rw [Int.ediv_one, Int.ediv_one] at h
  have e : decide (-low + high < 0) = decide (high < low) := by rw [Bool.eq_iff_iff]; simp; omega
  rw [e] at h
  exact h
def upOfDiv (low f : Int) : Int := if low.tdiv f * f < low then low.tdiv f + 1 else low.tdiv f
theorem up_eq (low : Int) (f : Nat) (hf : 0 < f) : upOfDiv low f = -((-low) / f) := by
  have h := floor_div (-low) f hf
  rw [Int.neg_tdiv] at h
  unfold upOfDiv
  rw [Int.neg_mul] at h
  by_cases hc : low.tdiv f * f < low
  · rw [if_pos hc]; rw [if_pos (by omega)] at h; omega
  · rw [if_neg hc]; rw [if_neg (by omega)] at h; omega
theorem bound_two (low high f : Int) (hl : -524288 ≤ low ∧ low ≤ 524288) (hh : -524288 ≤ high ∧ high ≤ 524288) (hf : 1 ≤ f ∧ f ≤ 1000) : neverS [⟨0, 0, f, 0, 0, 0, 0, 0, -low⟩, ⟨0, 0, -f, 0, 0, 0, 0, 0, high⟩] = decide (high < upOfDiv low f * f) := by
  obtain ⟨n, rfl⟩ : ∃ n : Nat, f = n := ⟨f.toNat, by omega⟩
  have b1 : ∀ x : Int, (-524288 ≤ x ∧ x ≤ 524288) → -524288 ≤ x / n ∧ x / n ≤ 524288 := fun x hx => by
    constructor
    · refine (Int.le_ediv_iff_mul_le (by omega)).2 ?_
      have : (-524288 : Int) * n ≤ -524288 * 1 := Int.mul_le_mul_of_nonpos_left (by omega) (by omega)
      omega
    · refine Int.ediv_le_of_le_mul (by omega) ?_
      have : (524288 : Int) * 1 ≤ 524288 * n := Int.mul_le_mul_of_nonneg_left (by omega) (by omega)
      omega
  have h1 := b1 (-low) (by omega)
  have h2 := b1 high hh
  have h := never_units 2 (by omega) n (-low) high (by omega) (by rw [far_iff]; omega) (by rw [far_iff]; omega) (by rw [far_iff]; omega) (by omega)
  have e : decide ((-low) / (n : Int) + high / (n : Int) < 0) = decide (high < upOfDiv low n * n) := by
    rw [Bool.eq_iff_iff, decide_eq_true_eq, decide_eq_true_eq, up_eq low n (by omega), ← Int.ediv_lt_iff_lt_mul (by omega)]
    omega
  rw [e] at h
  exact h
end Go.Proofs.Ytfaccdidjhaahaa
