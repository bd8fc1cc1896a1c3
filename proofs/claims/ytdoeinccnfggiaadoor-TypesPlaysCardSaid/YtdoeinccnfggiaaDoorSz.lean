import Derived.Test.YtdoeinccnfggiaaDoorX
namespace Go.Proofs.YtdoeinccnfggiaaDoor
open Go.RowKit Go.BigFrame

theorem u8_nat {n : Int} (h : (Lit.int .u8 n).wf = true) : ∃ m : Nat, n = (m : Int) ∧ m ≤ 255 := by
  have h1 : IntKind.u8.min ≤ n ∧ n ≤ IntKind.u8.max := by simpa [Lit.wf] using h
  have e0 : IntKind.u8.min = 0 := by decide
  have e1 : IntKind.u8.max = 255 := by decide
  rw [e0, e1] at h1
  exact ⟨n.toNat, by omega, by omega⟩
theorem find1_app (x : Ty) : ∀ (l m : List Ty) (k : Nat), find1 x l k = none → find1 x (l ++ m) k = find1 x m (k + l.length)
  | [], _, k, _ => by simp
  | y :: l, m, k, h => by
    by_cases hy : y = x
    · simp [find1, hy] at h
    · simp only [find1, if_neg hy] at h
      simp only [List.cons_append, find1, if_neg hy]
      rw [find1_app x l m (k + 1) h]
      simp [Nat.add_assoc, Nat.add_comm 1]
theorem tys4_lt (i : Nat) (y : Ty) (h : (tys 4)[i]? = some y) : y.kind ≤ 3 := by
  have e : tys 4 = [tyN 0, tyN 1, tyN 2, tyN 3] := rfl
  rw [e] at h
  match i, h with
  | 0, h => injection h with h; subst h; decide
  | 1, h => injection h with h; subst h; decide
  | 2, h => injection h with h; subst h; decide
  | 3, h => injection h with h; subst h; decide
theorem find_big (x : Ty) (h : 3 < x.kind) (k : Nat) : find1 x (tys 4) k = none := find1_none x _ _ fun i y hy e => by
  have := tys4_lt i y hy
  subst e
  omega
theorem find_one {x y : Ty} (h : y ≠ x) (k : Nat) : find1 x [y] k = none := by simp [find1, h]
theorem find_hit (x : Ty) (k : Nat) : find1 x [x] k = some k := by simp [find1]
theorem put_new {T : List Ty} {x : Ty} (h : find1 x T 0 = none) (hl : T.length < 256) : putL T x = (T ++ [x], (T.length : Int), 0) := by
  unfold putL
  rw [h]
  simp only
  rw [if_neg (by omega)]
theorem atT_lt {T : List Ty} {k : Nat} {x : Ty} (h : T[k]? = some x) : atT T (k : Int) = some x := by
  have hk := (List.getElem?_eq_some_iff.1 h).1
  unfold atT
  rw [if_pos (by omega)]
  simpa using h
section
variable (k m n : Nat)
def szT5 : List Ty := tys 4 ++ [⟨5, k, m, ⟨#[]⟩⟩]
def szT6 : List Ty := szT5 k m ++ [⟨5, 4, n, ⟨#[]⟩⟩]
def szT7 : List Ty := szT6 k m n ++ [⟨4, 5, 0, ⟨#[]⟩⟩]
theorem sz_low (T : List Ty) (D) (j : Nat) (hk : k = 1 ∨ k = 2 ∨ k = 3) : sz (tys 4 ++ T) D (j + 1) (k : Int) = (1, true) ∧ deep (tys 4 ++ T) D (j + 1) (k : Int) ∧ (atT (tys 4 ++ T) (k : Int)) = some (tyN k) := by
  have h : (tys 4 ++ T)[k]? = some (tyN k) := by
    rcases hk with rfl | rfl | rfl <;> rfl
  have ha := atT_lt h
  refine ⟨?_, ?_, ha⟩
  · unfold sz
    rw [ha]
    simp only
    rw [if_neg (by omega), if_neg (by omega), if_neg (by omega)]
  · unfold deep
    rw [ha]
    intro x hx
    injection hx with hx
    subst hx
    exact ⟨fun h => by simp only at h; omega, fun h => by simp only at h; omega⟩
variable (hk : k = 1 ∨ k = 2 ∨ k = 3) (hm : 1 ≤ m ∧ m ≤ 60) (hn : 1 ≤ n ∧ n ≤ 60)
include hk hm in
theorem sz_four (T : List Ty) (D) (j : Nat) : sz (szT5 k m ++ T) D (j + 2) 4 = ((m : Int), true) ∧ deep (szT5 k m ++ T) D (j + 2) 4 ∧ atT (szT5 k m ++ T) 4 = some ⟨5, k, m, ⟨#[]⟩⟩ := by
  have h : (szT5 k m ++ T)[4]? = some ⟨5, k, m, ⟨#[]⟩⟩ := rfl
  have ha : atT (szT5 k m ++ T) 4 = some ⟨5, k, m, ⟨#[]⟩⟩ := atT_lt (k := 4) h
  have hs : szT5 k m ++ T = tys 4 ++ ([⟨5, k, m, ⟨#[]⟩⟩] ++ T) := by simp [szT5]
  obtain ⟨s1, s2, _⟩ := sz_low k ([⟨5, k, m, ⟨#[]⟩⟩] ++ T) D j hk
  rw [← hs] at s1 s2
  refine ⟨?_, ?_, ha⟩
  · rw [sz, ha]
    simp only
    rw [if_neg (by omega), if_pos trivial, s1]
    simp
  · rw [deep, ha]
    intro x hx
    injection hx with hx
    subst hx
    refine ⟨fun _ => ⟨s2, ?_⟩, fun h => by simp only at h; omega⟩
    rw [s1]
    simp only
    omega
include hk hm hn in
theorem sz_five (T : List Ty) (D) (j : Nat) : sz (szT6 k m n ++ T) D (j + 3) 5 = ((m : Int) * n, true) ∧ deep (szT6 k m n ++ T) D (j + 3) 5 := by
  have h : (szT6 k m n ++ T)[5]? = some ⟨5, 4, n, ⟨#[]⟩⟩ := rfl
  have ha : atT (szT6 k m n ++ T) 5 = some ⟨5, 4, n, ⟨#[]⟩⟩ := atT_lt (k := 5) h
  have hs : szT6 k m n ++ T = szT5 k m ++ ([⟨5, 4, n, ⟨#[]⟩⟩] ++ T) := by simp [szT6]
  obtain ⟨s1, s2, _⟩ := sz_four k m hk hm ([⟨5, 4, n, ⟨#[]⟩⟩] ++ T) D j
  rw [← hs] at s1 s2
  refine ⟨?_, ?_⟩
  · rw [sz, ha]
    simp only
    rw [if_neg (by omega), if_pos trivial, s1]
  · rw [deep, ha]
    intro x hx
    injection hx with hx
    subst hx
    refine ⟨fun _ => ⟨s2, ?_⟩, fun h => by simp only at h; omega⟩
    rw [s1]
    simp only
    have h1 : (m : Int) * n ≤ 60 * 60 := Int.mul_le_mul (by omega) (by omega) (by omega) (by omega)
    have h2 : 0 ≤ (m : Int) * n := Int.mul_nonneg (by omega) (by omega)
    omega
include hk hm in
theorem sz_arr1 : arrL (tys 4) noF 3 k m = (szT5 k m, 4, 0) := by
  obtain ⟨s1, s2, s3⟩ := sz_low k [] noF 2 hk
  simp only [List.append_nil] at s1 s2 s3
  unfold arrL
  rw [s3, s1, if_neg (by simp), if_neg (by simp), if_neg (by simp only; omega), put_new (find_big _ (by show (3 : Int) < 5; decide) 0) (by rw [tys_len]; omega), tys_len]
  rfl
include hk hm hn in
theorem sz_arr2 : arrL (szT5 k m) noF 3 4 n = (szT6 k m n, 5, 0) := by
  obtain ⟨s1, s2, s3⟩ := sz_four k m hk hm [] noF 1
  simp only [List.append_nil] at s1 s2 s3
  unfold arrL
  have h1 : (m : Int) * n ≤ 60 * 60 := Int.mul_le_mul (by omega) (by omega) (by omega) (by omega)
  rw [s3, s1, if_neg (by simp), if_neg (by simp), if_neg (by simp only; omega), put_new _ (show (szT5 k m).length < 256 by show 5 < 256; decide)]
  · rfl
  · unfold szT5
    rw [find1_app _ _ _ _ (find_big _ (by show (3 : Int) < 5; decide) 0)]
    exact find_one (fun e => by simp only [Ty.mk.injEq] at e; omega) _
theorem sz_ptr1 : ptrL (szT6 k m n) 5 = (szT7 k m n, 6, 0) := by
  unfold ptrL
  have ha : atT (szT6 k m n) 5 = some ⟨5, 4, n, ⟨#[]⟩⟩ := atT_lt (k := 5) rfl
  rw [ha, if_pos (show (some _).isSome = true from rfl), put_new _ (show (szT6 k m n).length < 256 by show 6 < 256; decide)]
  · rfl
  · unfold szT6 szT5
    rw [List.append_assoc, find1_app _ _ _ _ (find_big _ (by show (3 : Int) < 4; decide) 0), List.singleton_append, find1, if_neg (fun e => by simp at e)]
    exact find_one (fun e => by simp at e) _
theorem sz_ptr2 : ptrL (szT7 k m n) 5 = (szT7 k m n, 6, 0) := by
  unfold ptrL
  have ha : atT (szT7 k m n) 5 = some ⟨5, 4, n, ⟨#[]⟩⟩ := atT_lt (k := 5) rfl
  rw [ha, if_pos (show (some _).isSome = true from rfl)]
  unfold putL
  have hf : find1 ⟨4, 5, 0, ⟨#[]⟩⟩ (szT7 k m n) 0 = some 6 := by
    unfold szT7 szT6 szT5
    rw [List.append_assoc, List.append_assoc, find1_app _ _ _ _ (find_big _ (by show (3 : Int) < 4; decide) 0), List.singleton_append, find1, if_neg (fun e => by simp at e), List.singleton_append, find1, if_neg (fun e => by simp at e)]
    exact find_hit _ _
  rw [hf]
  rfl
theorem sz_at6 : atT (szT7 k m n) 6 = some ⟨4, 5, 0, ⟨#[]⟩⟩ := atT_lt (k := 6) rfl
theorem sz_at4 : atT (szT7 k m n) 4 = some ⟨5, k, m, ⟨#[]⟩⟩ := atT_lt (k := 4) rfl
theorem sz_six (D) (j : Nat) : sz (szT7 k m n) D (j + 1) 6 = (1, true) ∧ deep (szT7 k m n) D (j + 1) 6 := by
  refine ⟨by rw [sz, sz_at6]; rfl, ?_⟩
  rw [deep, sz_at6]
  intro x hx
  injection hx with hx
  subst hx
  exact ⟨fun h => absurd h (by decide), fun h => absurd h (by decide)⟩
theorem sz_sc6 : scalarT (szT7 k m n) 6 = true := by unfold scalarT; rw [sz_at6]; rfl
theorem sz_sc4 : scalarT (szT7 k m n) 4 = false := by unfold scalarT; rw [sz_at4]; rfl
theorem sz_len : (szT7 k m n).length = 7 := rfl
end
end Go.Proofs.YtdoeinccnfggiaaDoor
