import Derived.Test.YtihbgppcacaekaaDoorQc
import Derived.Lib.DecodeN
/- named: a name is not empty, and has no byte below 33. -/
namespace Go.Proofs.YtihbgppcacaekaaDoor
open Go.RowKit Go.BigFrame

theorem dn_small (n b0 b1 b2 b3 : Nat) (h : b0 < 128) : Lib.decodeN n b0 b1 b2 b3 = (b0, 1) := by simp [Lib.decodeN, h]
theorem dn_big (n b0 b1 b2 b3 : Nat) (h : 128 ≤ b0) : 128 ≤ (Lib.decodeN n b0 b1 b2 b3).1 ∧ (Lib.decodeN n b0 b1 b2 b3).2 ≤ 4 ∧ (2 ≤ (Lib.decodeN n b0 b1 b2 b3).2 → 128 ≤ b1) ∧ (3 ≤ (Lib.decodeN n b0 b1 b2 b3).2 → 128 ≤ b2) ∧ (4 ≤ (Lib.decodeN n b0 b1 b2 b3).2 → 128 ≤ b3) := by
  unfold Lib.decodeN
  repeat' split
  all_goals (refine ⟨?_, ?_, ?_, ?_, ?_⟩ <;> (simp only; omega))
def pLow (c : Nat) : Bool := decide (c < 33)
theorem idx_low (s : ByteArray) : ∀ (f pos : Nat), s.size ≤ pos + f → (0 ≤ Lib.idxFuncFrom pLow true s f pos ↔ ∃ j, pos ≤ j ∧ j < s.size ∧ (s.get! j).toNat < 33)
  | 0, pos, h => by
    unfold Lib.idxFuncFrom
    constructor
    · intro h0
      omega
    · rintro ⟨j, h1, h2, _⟩
      omega
  | f + 1, pos, h => by
    unfold Lib.idxFuncFrom
    by_cases hp : pos < s.size
    · rw [if_pos hp]
      have hw := Lib.width_pos s pos
      by_cases hs : (s.get! pos).toNat < 128
      · have e : Utf8.decode s pos = ((s.get! pos).toNat, 1) := by rw [Lib.decode_at]; exact dn_small _ _ _ _ _ hs
        rw [e]
        by_cases hl : (s.get! pos).toNat < 33
        · rw [if_pos (by simp [pLow, hl])]
          exact ⟨fun _ => ⟨pos, Nat.le_refl _, hp, hl⟩, fun _ => by omega⟩
        · rw [if_neg (by simp [pLow, hl]), idx_low s f (pos + 1) (by omega)]
          constructor
          · rintro ⟨j, h1, h2, h3⟩
            exact ⟨j, by omega, h2, h3⟩
          · rintro ⟨j, h1, h2, h3⟩
            refine ⟨j, ?_, h2, h3⟩
            by_cases hj : j = pos
            · subst hj; omega
            · omega
      · have hb := dn_big (s.size - pos) (s.get! pos).toNat (s.get! (pos + 1)).toNat (s.get! (pos + 2)).toNat (s.get! (pos + 3)).toNat (by omega)
        rw [← Lib.decode_at] at hb
        obtain ⟨b1, b2, b3, b4, b5⟩ := hb
        rw [if_neg (by simp [pLow]; omega), idx_low s f _ (by omega)]
        constructor
        · rintro ⟨j, h1, h2, h3⟩
          exact ⟨j, by omega, h2, h3⟩
        · rintro ⟨j, h1, h2, h3⟩
          refine ⟨j, ?_, h2, h3⟩
          rcases Nat.lt_or_ge j (pos + (Utf8.decode s pos).2) with hlt | hge
          · exfalso
            have hc : j = pos ∨ j = pos + 1 ∨ j = pos + 2 ∨ j = pos + 3 := by omega
            rcases hc with rfl | rfl | rfl | rfl
            · omega
            · have := b3 (by omega); omega
            · have := b4 (by omega); omega
            · have := b5 (by omega); omega
          · exact hge
    · rw [if_neg hp]
      constructor
      · intro h0
        omega
      · rintro ⟨j, h1, h2, _⟩
        omega
theorem get_list (s : ByteArray) (j : Nat) (h : j < s.size) : s.data.toList[j]? = some (s.get! j) := by
  have hs : j < s.data.size := h
  show s.data.toList[j]? = some (s.data[j]!)
  rw [Array.getElem?_toList, Array.getElem!_eq_getD, Array.getD_eq_getD_getElem?, Array.getElem?_eq_getElem hs]
  rfl
theorem contains_low (s : ByteArray) : decide (0 ≤ Lib.idxFunc pLow true s) = !(s.data.toList.all fun c => decide (33 ≤ c.toNat)) := by
  rw [Bool.eq_iff_iff, decide_eq_true_eq]
  unfold Lib.idxFunc
  rw [idx_low s s.size 0 (by omega), Bool.not_eq_true', ← Bool.not_eq_true, List.all_eq_true]
  constructor
  · rintro ⟨j, _, h2, h3⟩ hall
    have := hall _ (List.mem_of_getElem? (get_list s j h2))
    simp at this
    omega
  · intro hn
    apply Classical.byContradiction
    intro hno
    refine hn fun c hc => ?_
    obtain ⟨j, hj⟩ := List.mem_iff_getElem?.1 hc
    have hlt : j < s.size := by
      have := (List.getElem?_eq_some_iff.1 hj).1
      simpa using this
    rw [get_list s j hlt] at hj
    injection hj with hj
    subst hj
    simp only [decide_eq_true_eq]
    apply Classical.byContradiction
    intro hb
    exact hno ⟨j, Nat.zero_le _, hlt, by omega⟩
theorem low_any (x : Nat) (w : World) : Calls Tryd.prog 47 #[.int .i32 x] w fun e w' => e = .returned (.bool (pLow x)) ∧ Below w.heap.size w w' := by
  have e : pLow x = decide ((x : Int) < 33) := by unfold pLow; simp; omega
  rw [e]
  go_enter Tryd.func47, Tryd.ntmps47
  go_wp2
  go_returns
  exact ⟨rfl, Below.refl _ _⟩
theorem low_contains (s : ByteArray) (w : World) : Calls Tryd.prog 46 #[.string s, .func (.func 47) #[] #[]] w fun e w' => e = .returned (.bool (!(s.data.toList.all fun c => decide (33 ≤ c.toNat)))) ∧ Below w.heap.size w w' := by
  rw [← contains_low]
  exact Tryd.strings_ContainsFunc_grows 47 #[] (enters_of Tryd.func47 (by kernel_rfl) rfl) pLow s w (fun W x _ _ => low_any x W)
theorem empty_beq (s : ByteArray) : (s.toList == []) = s.data.toList.isEmpty := by
  rw [Go.ByteArray.toList_eq]
  cases s.data.toList <;> rfl
theorem named_any (s : ByteArray) (w : World) : Calls Tryd.prog 31 #[.string s] w fun e w' => e = .returned (.bool (namedL s.data.toList)) ∧ Below w.heap.size w w' := by
  have hc := low_contains s w
  unfold namedL
  obtain ⟨A, hA⟩ : ∃ A, (s.data.toList.all fun c => decide (33 ≤ c.toNat)) = A := ⟨_, rfl⟩
  rw [hA] at hc ⊢
  have e0 := empty_beq s
  obtain ⟨B, hB⟩ : ∃ B, s.data.toList.isEmpty = B := ⟨_, rfl⟩
  rw [hB] at e0 ⊢
  clear hA hB
  cases B
  · go_enter Tryd.func31, Tryd.ntmps31
    go_wp2_with (first
      | (go_at_call 46; refine hc.mono ?_; rintro e w' ⟨rfl, hb⟩))
    go_returns
    exact ⟨by cases A <;> rfl, hb⟩
  · go_enter Tryd.func31, Tryd.ntmps31
    go_wp2_with (first
      | (go_at_call 46; refine hc.mono ?_; rintro e w' ⟨rfl, hb⟩))
    go_returns
    exact ⟨rfl, Below.refl _ _⟩
end Go.Proofs.YtihbgppcacaekaaDoor
