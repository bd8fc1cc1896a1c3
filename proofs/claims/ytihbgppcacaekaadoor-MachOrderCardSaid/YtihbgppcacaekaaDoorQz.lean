import Derived.Test.YtihbgppcacaekaaDoorQy
import Derived.Lib.Split
/- strings.Split at one byte. -/
namespace Go.Proofs.YtihbgppcacaekaaDoor
open Go.RowKit Go.BigFrame

/-- s, cut at every c -/
def splt (c : UInt8) : List UInt8 → List (List UInt8)
  | [] => [[]]
  | x :: xs => if x = c then [] :: splt c xs else
    match splt c xs with
    | h :: t => (x :: h) :: t
    | [] => [[x]]
theorem splt_ne (c : UInt8) : ∀ s, splt c s ≠ []
  | [] => by simp [splt]
  | x :: xs => by
    unfold splt
    split
    · simp
    · split <;> simp
theorem index_nil (c : UInt8) : Lib.index [] [c] = -1 := by rfl
theorem index_cons (c x : UInt8) (xs : List UInt8) : Lib.index (x :: xs) [c] = if x = c then 0 else if Lib.index xs [c] = -1 then -1 else Lib.index xs [c] + 1 := by
  rw [Lib.index]
  by_cases h : x = c
  · subst h; simp
  · simp [h]
    intro e
    exact absurd e.symm h
theorem splitK_splt (c : UInt8) : ∀ s, Lib.splitK [c] 0 (Lib.count s [c]) s = splt c s
  | [] => by
    rw [Lib.count_miss (index_nil c)]
    rfl
  | x :: xs => by
    have ih := splitK_splt c xs
    have hix := index_cons c x xs
    by_cases h : x = c
    · subst h
      rw [if_pos rfl] at hix
      have hc := Lib.count_hit (s := x :: xs) (sub := [x]) (i := 0) (by simp) hix
      simp only [List.length_cons, List.length_nil, List.drop_succ_cons, List.drop_zero, Nat.zero_add] at hc
      rw [hc, Nat.add_comm 1, Lib.splitK, hix]
      simp only [show ((0 : Int) == -1) = false by decide, Bool.false_eq_true, if_false]
      simp [splt, ih]
    · rw [if_neg h] at hix
      rcases Lib.index_spec xs [c] with ⟨hm, _⟩ | ⟨i, hi, _, _, _⟩
      · rw [if_pos hm] at hix
        rw [Lib.count_miss hix]
        rw [Lib.count_miss hm] at ih
        unfold splt
        rw [if_neg h, ← ih]
        rfl
      · rw [hi, if_neg (by omega)] at hix
        have hix' : Lib.index (x :: xs) [c] = ((i + 1 : Nat) : Int) := by rw [hix]; omega
        have h1 := Lib.count_hit (s := x :: xs) (sub := [c]) (i := i + 1) (by simp) hix'
        have h2 := Lib.count_hit (s := xs) (sub := [c]) (i := i) (by simp) hi
        simp only [List.length_cons, List.length_nil, List.drop_succ_cons, Nat.zero_add] at h1 h2
        rw [h1, Nat.add_comm 1, Lib.splitK, hix']
        rw [h2, Nat.add_comm 1, Lib.splitK, hi] at ih
        rw [if_neg (by simp)] at ih
        rw [if_neg (by simp; omega)]
        unfold splt
        rw [if_neg h, ← ih]
        simp
/-- the same, as strings -/
def spB (c : UInt8) (s : ByteArray) : List ByteArray := (splt c s.data.toList).map fun l => ⟨l.toArray⟩
theorem spB_is (c : UInt8) (s : ByteArray) : Lib.splitB ⟨#[c]⟩ 0 (Lib.countB s ⟨#[c]⟩) s = spB c s := by
  have h := Lib.splitB_data ⟨#[c]⟩ 0 (Lib.countB s ⟨#[c]⟩) s
  have h2 : Lib.splitK [c] 0 (Lib.countB s ⟨#[c]⟩) s.data.toList = splt c s.data.toList := splitK_splt c s.data.toList
  unfold spB
  rw [← h2, ← show _ = Lib.splitK [c] 0 (Lib.countB s ⟨#[c]⟩) s.data.toList from h, List.map_map]
  conv => lhs; rw [← List.map_id (Lib.splitB ⟨#[c]⟩ 0 (Lib.countB s ⟨#[c]⟩) s)]
  apply List.map_congr_left
  intro a _
  simp
theorem countB_len (c : UInt8) (s : ByteArray) : Lib.countB s ⟨#[c]⟩ + 1 = (spB c s).length := by
  have h : ∀ l : List UInt8, Lib.count l [c] + 1 = (splt c l).length := by
    intro l
    rw [← splitK_splt]
    have hk : ∀ (n : Nat) (l : List UInt8), l.length ≤ n → (Lib.splitK [c] 0 (Lib.count l [c]) l).length = Lib.count l [c] + 1 := by
      intro n
      induction n with
      | zero =>
        intro l hl
        have : l = [] := List.eq_nil_of_length_eq_zero (by omega)
        subst this
        rw [Lib.count_miss (index_nil c)]
        rfl
      | succ n ih =>
        intro l hl
        rcases Lib.index_spec l [c] with ⟨hm, _⟩ | ⟨i, hi, hil, hocc, _⟩
        · rw [Lib.count_miss hm]; rfl
        · have h1 := Lib.count_hit (s := l) (sub := [c]) (i := i) (by simp) hi
          have hr := Lib.index_room l [c] (by rw [hi]; omega)
          rw [hi] at hr
          simp only [List.length_cons, List.length_nil, Nat.zero_add] at h1 hr
          rw [h1, Nat.add_comm 1, Lib.splitK, hi, if_neg (by simp)]
          simp only [List.length_cons, List.length_nil, Int.toNat_natCast, Nat.zero_add]
          rw [ih _ (by simp; omega)]
    exact (hk _ l (Nat.le_refl _)).symm
  unfold spB
  rw [List.length_map, ← h]
abbrev spO (l : List ByteArray) : Obj := .cells (l.map Value.string).toArray 9 (0, 0)
theorem Split_any (c : UInt8) (s : ByteArray) (hs : s.size < 4294967281) (w : World) (hT : Tabs w) :
    Calls Tryd.prog 33 #[.string s, .string ⟨#[c]⟩] w fun e w' => e = .returned (.slice (some ⟨w.heap.size, 0, none⟩) (spB c s).length (spB c s).length) ∧ w' = w.alloc (spO (spB c s)) := by
  obtain ⟨m, hm⟩ := hT.mx
  have := Tryd.strings_Split s ⟨#[c]⟩ m w hs hm (Nat.le_refl 1)
  rw [spB_is, countB_len] at this
  exact this
end Go.Proofs.YtihbgppcacaekaaDoor
