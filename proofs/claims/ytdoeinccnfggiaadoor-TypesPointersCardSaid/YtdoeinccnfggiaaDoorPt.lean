import Derived.Test.YtdoeinccnfggiaaDoorSz
namespace Go.Proofs.YtdoeinccnfggiaaDoor
open Go.RowKit Go.BigFrame

def ptx (b : Nat) (j : Nat) : Nat := if j = 0 then b else 3 + j
def ptT (b : Nat) (j : Nat) : List Ty := tys 4 ++ (List.range j).map (fun i => ⟨4, (ptx b i : Int), 0, ⟨#[]⟩⟩)
theorem ptT_len (b j : Nat) : (ptT b j).length = 4 + j := by simp [ptT, tys_len]
theorem ptT_succ (b j : Nat) : ptT b (j + 1) = ptT b j ++ [⟨4, (ptx b j : Int), 0, ⟨#[]⟩⟩] := by simp [ptT, List.range_succ, List.append_assoc]
theorem ptT_at (b j i : Nat) (hi : i < j) : (ptT b j)[4 + i]? = some ⟨4, (ptx b i : Int), 0, ⟨#[]⟩⟩ := by
  unfold ptT
  rw [List.getElem?_append_right (by rw [tys_len]; omega), tys_len]
  simp [hi]
theorem ptT_low (b j : Nat) (hb : b ≤ 3) : (ptT b j)[b]? = some (tyN b) := by
  unfold ptT
  rw [List.getElem?_append_left (by rw [tys_len]; omega)]
  have : b = 0 ∨ b = 1 ∨ b = 2 ∨ b = 3 := by omega
  rcases this with rfl | rfl | rfl | rfl <;> rfl
theorem ptx_inj (b i j : Nat) (hb : b ≤ 3) (h : ptx b i = ptx b j) : i = j := by
  unfold ptx at h
  split at h <;> split at h <;> omega
theorem pt_step (b j : Nat) (hb : b ≤ 3) (hj : j < 30) : ptrL (ptT b j) (ptx b j) = (ptT b (j + 1), 4 + (j : Int), 0) := by
  have ha : (atT (ptT b j) (ptx b j : Int)).isSome = true := by
    unfold ptx
    split
    · rw [atT_lt (ptT_low b j hb)]; rfl
    · rw [show (3 + j) = 4 + (j - 1) by omega, atT_lt (ptT_at b j (j - 1) (by omega))]; rfl
  unfold ptrL
  rw [if_pos ha, put_new _ (by rw [ptT_len]; omega), ptT_succ, ptT_len]
  · simp
  · refine find1_none _ _ _ fun i y hy e => ?_
    by_cases hi : i < 4
    · unfold ptT at hy
      rw [List.getElem?_append_left (by rw [tys_len]; exact hi)] at hy
      have := tys4_lt i y hy
      rw [e] at this
      simp only at this
      omega
    · have hl := (List.getElem?_eq_some_iff.1 hy).1
      rw [ptT_len] at hl
      have h2 := ptT_at b j (i - 4) (by omega)
      rw [show 4 + (i - 4) = i by omega, hy] at h2
      injection h2 with h2
      rw [e] at h2
      injection h2 with _ h3 _ _
      have := ptx_inj b _ _ hb (Int.ofNat.inj h3).symm
      omega
def stars (k : Nat) : ByteArray := ⟨(List.replicate k 42).toArray⟩
theorem app_bytes (x y : List UInt8) : (ByteArray.mk x.toArray ++ ByteArray.mk y.toArray) = ByteArray.mk (x ++ y).toArray := ByteArray.mk_append_mk x y
theorem stars_succ (k : Nat) : stars (k + 1) = stars k ++ ⟨#[42]⟩ := by
  unfold stars
  rw [show (⟨#[42]⟩ : ByteArray) = ⟨[42].toArray⟩ from rfl, app_bytes]
  congr 1
  congr 1
  rw [List.replicate_succ']
theorem app_assoc (a b c : ByteArray) : (a ++ b) ++ c = a ++ (b ++ c) := ByteArray.append_assoc
theorem base_size (b : Int) : (baseTx b).size ≤ 8 := by
  unfold baseTx
  split
  · decide
  · split
    · decide
    · split <;> decide
theorem stars_size (k : Nat) : (stars k).size = k := by simp [stars, ByteArray.size]
theorem pt_text (b k : Nat) (hb : b ≤ 3) : ∀ i, i ≤ k → tx (ptT b k) (i + 1) (ptx b i) = baseTx b ++ stars i
  | 0, _ => by
    rw [tx, show ptx b 0 = b from rfl, atT_lt (ptT_low b k hb)]
    simp only
    rw [if_neg (by omega), if_neg (by omega), if_neg (by omega)]
    show baseTx b = baseTx b ++ ⟨#[]⟩
    apply ByteArray.ext
    simp
  | i + 1, h => by
    have ih := pt_text b k hb i (by omega)
    rw [tx, show ptx b (i + 1) = 4 + i by simp only [ptx]; rw [if_neg (by omega)]; omega, atT_lt (ptT_at b k i (by omega))]
    simp only
    rw [if_pos trivial, ih, stars_succ, app_assoc]
theorem pt_deep (b k : Nat) (hb : b ≤ 3) (hk : k ≤ 30) : ∀ i, i ≤ k → tdeep (ptT b k) (i + 1) (ptx b i)
  | 0, _ => by
    rw [tdeep, show ptx b 0 = b from rfl, atT_lt (ptT_low b k hb)]
    intro x hx
    injection hx with hx
    subst hx
    exact ⟨fun h => by simp only at h; omega, fun h => by simp only at h; omega, fun h => by simp only at h; omega, fun _ _ _ => by simp only; omega⟩
  | i + 1, h => by
    have ih := pt_deep b k hb hk i (by omega)
    rw [tdeep, show ptx b (i + 1) = 4 + i by simp only [ptx]; rw [if_neg (by omega)]; omega, atT_lt (ptT_at b k i (by omega))]
    intro x hx
    injection hx with hx
    subst hx
    refine ⟨fun _ => ⟨ih, ?_⟩, fun h => absurd h (by show ¬ (4 : Int) = 5; decide), fun h => absurd h (by show ¬ (4 : Int) = 6; decide), fun h => absurd rfl h⟩
    simp only
    rw [pt_text b k hb i (by omega), ByteArray.size_append, stars_size]
    have := base_size (b : Int)
    omega
end Go.Proofs.YtdoeinccnfggiaaDoor
