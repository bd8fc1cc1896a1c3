import Derived.Test.YtdoeinccnfggiaaDoorSz
namespace Go.Proofs.YtdoeinccnfggiaaDoor
open Go.RowKit Go.BigFrame

theorem find1_spec (x : Ty) : ∀ (l : List Ty) (k i : Nat), find1 x l k = some i → ∃ j, i = k + j ∧ l[j]? = some x
  | [], _, _, h => by simp [find1] at h
  | y :: l, k, i, h => by
    by_cases hy : y = x
    · simp [find1, hy] at h
      exact ⟨0, by omega, by simp [hy]⟩
    · simp only [find1, if_neg hy] at h
      obtain ⟨j, h1, h2⟩ := find1_spec x l (k + 1) i h
      exact ⟨j + 1, by omega, by simpa using h2⟩
theorem putL_spec (T : List Ty) (x : Ty) (h : T.length < 256) : ∃ i : Nat, (putL T x).2 = ((i : Int), 0) ∧ (putL T x).1[i]? = some x ∧ ∃ E, (putL T x).1 = T ++ E ∧ (E = [] ∨ E = [x]) := by
  unfold putL
  cases hf : find1 x T 0 with
  | some i =>
    obtain ⟨j, h1, h2⟩ := find1_spec x T 0 i hf
    exact ⟨i, rfl, by simp only; rw [h1, Nat.zero_add]; exact h2, [], by simp, .inl rfl⟩
  | none =>
    simp only
    rw [if_neg (by omega)]
    exact ⟨T.length, rfl, by simp, [x], rfl, .inr rfl⟩
section
variable (cs : List Nat)
def fdN (i : Nat) : Nat := 1 + cs.getD i 0 % 20
def fdX (i : Nat) : Ty := ⟨5, ((1 + i % 3 : Nat) : Int), (fdN cs i : Nat), ⟨#[]⟩⟩
def fdT : Nat → List Ty
  | 0 => tys 4
  | i + 1 => (putL (fdT i) (fdX cs i)).1
def fdI (i : Nat) : Int := (putL (fdT cs i) (fdX cs i)).2.1
def fdS : Nat → Nat
  | 0 => 0
  | i + 1 => fdS i + fdN cs i
def nameB (q : Nat) : ByteArray := ⟨#[UInt8.ofNat (97 + q)]⟩
def fdL (i : Nat) : List Fld := (List.range i).map (fun q => ⟨nameB q, fdI cs q⟩)
theorem fdN_le (i : Nat) : 1 ≤ fdN cs i ∧ fdN cs i ≤ 20 := by unfold fdN; omega
theorem fdT_form : ∀ i, i ≤ 10 → ∃ E, fdT cs i = tys 4 ++ E ∧ E.length ≤ i ∧ ∀ y ∈ E, y.kind = 5
  | 0, _ => ⟨[], by simp [fdT], by simp, by simp⟩
  | i + 1, h => by
    obtain ⟨E, h1, h2, h3⟩ := fdT_form i (by omega)
    obtain ⟨_, _, _, E', h4, h5⟩ := putL_spec (fdT cs i) (fdX cs i) (by rw [h1, List.length_append, tys_len]; omega)
    rw [fdT, h4]
    rcases h5 with rfl | rfl
    · exact ⟨E, by simpa using h1, by omega, h3⟩
    · refine ⟨E ++ [fdX cs i], by rw [h1, List.append_assoc], by simp; omega, fun y hy => ?_⟩
      rcases List.mem_append.1 hy with hy | hy
      · exact h3 y hy
      · simp at hy
        subst hy
        rfl
theorem fdT_len (i : Nat) (h : i ≤ 10) : 4 ≤ (fdT cs i).length ∧ (fdT cs i).length ≤ 4 + i := by
  obtain ⟨E, h1, h2, _⟩ := fdT_form cs i h
  rw [h1, List.length_append, tys_len]
  omega
theorem fd_put (i : Nat) (h : i < 10) : ∃ q : Nat, putL (fdT cs i) (fdX cs i) = (fdT cs (i + 1), (q : Int), 0) ∧ fdI cs i = q ∧ (fdT cs (i + 1))[q]? = some (fdX cs i) := by
  obtain ⟨q, h1, h2, _⟩ := putL_spec (fdT cs i) (fdX cs i) (by have := fdT_len cs i (by omega); omega)
  refine ⟨q, ?_, ?_, by rw [fdT]; exact h2⟩
  · rw [fdT, ← h1]
  · unfold fdI
    rw [h1]
theorem fd_grow (i : Nat) (h : i < 10) (q : Nat) (y : Ty) (hy : (fdT cs i)[q]? = some y) : (fdT cs (i + 1))[q]? = some y := by
  obtain ⟨_, _, _, E, h4, _⟩ := putL_spec (fdT cs i) (fdX cs i) (by have := fdT_len cs i (by omega); omega)
  rw [fdT, h4, List.getElem?_append_left (List.getElem?_eq_some_iff.1 hy).1]
  exact hy
theorem fd_later (i j : Nat) (hij : i ≤ j) (hj : j ≤ 10) (q : Nat) (y : Ty) (hy : (fdT cs i)[q]? = some y) : (fdT cs j)[q]? = some y := by
  induction j with
  | zero =>
    have h0 : i = 0 := by omega
    rw [h0] at hy
    exact hy
  | succ j ih =>
    by_cases h : i = j + 1
    · subst h; exact hy
    · exact fd_grow cs j (by omega) q y (ih (by omega) (by omega))
theorem fd_arr (i : Nat) (h : i < 10) (K : Nat) : arrL (fdT cs i) noF (K + 1) ((1 + i % 3 : Nat) : Int) (fdN cs i : Nat) = putL (fdT cs i) (fdX cs i) ∧ deep (fdT cs i) noF (K + 1) ((1 + i % 3 : Nat) : Int) := by
  obtain ⟨E, h1, _, _⟩ := fdT_form cs i (by omega)
  obtain ⟨s1, s2, s3⟩ := sz_low (1 + i % 3) E noF K (by omega)
  rw [← h1] at s1 s2 s3
  refine ⟨?_, s2⟩
  have := fdN_le cs i
  unfold arrL
  rw [s3, s1, if_neg (by simp), if_neg (by simp), if_neg (by simp only; omega)]
  rfl
/-- a field's type has as many words as it was asked for, in every later table -/
theorem fd_sz (i L : Nat) (hi : i < L) (hL : L ≤ 10) (E : List Ty) (D : ByteArray → Option (List Fld)) (K : Nat) : sz (fdT cs L ++ E) D (K + 2) (fdI cs i) = (((fdN cs i : Nat) : Int), true) ∧ deep (fdT cs L ++ E) D (K + 2) (fdI cs i) := by
  obtain ⟨q, _, h2, h3⟩ := fd_put cs i (by omega)
  have h4 := fd_later cs (i + 1) L (by omega) hL q _ h3
  have h5 : (fdT cs L ++ E)[q]? = some (fdX cs i) := by rw [List.getElem?_append_left (List.getElem?_eq_some_iff.1 h4).1]; exact h4
  have ha := atT_lt h5
  obtain ⟨E0, h6, _, _⟩ := fdT_form cs L hL
  obtain ⟨s1, s2, _⟩ := sz_low (1 + i % 3) (E0 ++ E) D K (by omega)
  rw [← List.append_assoc, ← h6] at s1 s2
  have hn := fdN_le cs i
  rw [h2]
  refine ⟨?_, ?_⟩
  · rw [sz, ha]
    simp only [fdX]
    rw [if_neg (by omega), if_pos trivial, s1]
    simp
  · rw [deep, ha]
    intro x hx
    injection hx with hx
    subst hx
    refine ⟨fun _ => ⟨s2, ?_⟩, fun h => absurd h (by show ¬ (5 : Int) = 6; decide)⟩
    simp only [fdX]
    rw [s1]
    simp only
    omega
theorem fdL_len (i : Nat) : (fdL cs i).length = i := by simp [fdL]
theorem fdL_at (i q : Nat) (h : q < i) : (fdL cs i)[q]? = some ⟨nameB q, fdI cs q⟩ := by simp [fdL, h]
theorem fdL_succ (i : Nat) : fdL cs (i + 1) = fdL cs i ++ [⟨nameB i, fdI cs i⟩] := by simp [fdL, List.range_succ]
theorem fdL_take (i q : Nat) (h : q ≤ i) : (fdL cs i).take q = fdL cs q := by
  unfold fdL
  rw [← List.map_take, List.take_range, Nat.min_eq_left h]
theorem nameB_inj {p q : Nat} (hp : p < 10) (hq : q < 10) (h : nameB p = nameB q) : p = q := by
  have hall : ((List.range 10).all fun a => (List.range 10).all fun b => !decide (nameB a = nameB b) || decide (a = b)) = true := by decide +kernel
  have h1 := List.all_eq_true.mp (List.all_eq_true.mp hall p (List.mem_range.mpr hp)) q (List.mem_range.mpr hq)
  simpa [h] using h1
theorem nameB_full (q : Nat) : (nameB q).toList.isEmpty = false := by
  rw [Go.ByteArray.toList_eq]
  rfl
theorem fdS_sum (L i : Nat) (hi : i ≤ L) (hL : L ≤ 10) (E : List Ty) (D : ByteArray → Option (List Fld)) (K : Nat) : sumF (fdT cs L ++ E) D (K + 2) (fdL cs i) = (fdS cs i : Nat) := by
  induction i with
  | zero => simp [fdL, sumF, fdS]
  | succ i ih =>
    rw [fdL_succ]
    have := ih (by omega)
    unfold sumF at this ⊢
    rw [List.foldl_append, this]
    simp only [List.foldl_cons, List.foldl_nil]
    rw [(fd_sz cs i L (by omega) hL E D K).1, fdS]
    simp
theorem fdS_le (i : Nat) : fdS cs i ≤ 20 * i := by
  induction i with
  | zero => simp [fdS]
  | succ i ih => rw [fdS]; have := fdN_le cs i; omega
theorem fdS_pos (i : Nat) (h : 0 < i) : 0 < fdS cs i := by
  cases i with
  | zero => omega
  | succ i => rw [fdS]; have := fdN_le cs i; omega
theorem fd_tw (L j : Nat) (hL : L ≤ 10) (hj : j ≤ L) : tw false (fdL cs L) j = false := by
  induction j with
  | zero => rfl
  | succ j ih =>
    rw [tw, ih (by omega), Bool.false_or]
    unfold badAt
    rw [fdL_at cs L j (by omega)]
    simp only
    rw [nameB_full j, Bool.false_or, fdL_take cs L j (by omega)]
    have hc : cnt (fdL cs j) (nameB j) = 0 := by
      unfold cnt
      rw [List.length_eq_zero_iff, List.filter_eq_nil_iff]
      intro f hf
      obtain ⟨q, hq⟩ := List.mem_iff_getElem?.1 hf
      have hql : q < j := by have := (List.getElem?_eq_some_iff.1 hq).1; rwa [fdL_len] at this
      rw [fdL_at cs j q hql] at hq
      injection hq with hq
      subst hq
      simp only [decide_eq_true_eq]
      intro e
      have := nameB_inj (by omega) (by omega) e
      omega
    rw [hc]
    rfl
theorem fd_field (Z : Fld → Int) (L j q : Nat) (hL : L ≤ 10) (hj : j < L) (hq : q ≤ j) (hZ : ∀ i, i < L → Z ⟨nameB i, fdI cs i⟩ = (fdN cs i : Nat)) : fieldL Z (nameB j) (fdL cs L) 0 = fieldL Z (nameB j) ((fdL cs L).drop q) (fdS cs q : Nat) := by
  induction q with
  | zero => simp [fdS]
  | succ q ih =>
    rw [ih (by omega), drop_cons (fdL_at cs L q (by omega)), fieldL]
    rw [if_neg (fun e => by have := nameB_inj (by omega) (by omega) e; omega), hZ q (by omega), fdS]
    simp
theorem fd_field_hit (Z : Fld → Int) (L j : Nat) (hL : L ≤ 10) (hj : j < L) (hZ : ∀ i, i < L → Z ⟨nameB i, fdI cs i⟩ = (fdN cs i : Nat)) : fieldL Z (nameB j) (fdL cs L) 0 = (((fdS cs j : Nat) : Int), fdI cs j, true) := by
  rw [fd_field cs Z L j j hL hj (Nat.le_refl _) hZ, drop_cons (fdL_at cs L j hj), fieldL, if_pos rfl]
end
end Go.Proofs.YtdoeinccnfggiaaDoor
