import Derived.Test.YtdoeinccnfggiaaDoorE
namespace Go.Proofs.YtdoeinccnfggiaaDoor
open Go.RowKit Go.BigFrame

theorem Turn.after {w w1 w2 : World} {p : Nat} {F : Nat → Prop} {T : List Ty} {D : ByteArray → Option (List Fld)} (hb : Below w.heap.size w w1) (h : Turn w1 w2 p F T D) : Turn w w2 p F T D := by
  obtain ⟨F', h1, h2, h3⟩ := h
  refine ⟨F', h1, (Chg.of_below hb F).trans h2 (fun i hi => .inl hi), fun k hk => ?_⟩
  rcases h3 k hk with h | h
  · exact .inl h
  · have := hb.size
    exact .inr (by omega)
theorem Turn.more {w w1 w2 : World} {p : Nat} {F : Nat → Prop} {T : List Ty} {D : ByteArray → Option (List Fld)} (h : Turn w w1 p F T D) (hb : Below w1.heap.size w1 w2) : Turn w w2 p F T D := by
  obtain ⟨F', h1, h2, h3⟩ := h
  exact ⟨F', h1.below hb, h2.trans (Chg.of_below hb F) (fun i hi => .inl hi), h3⟩
theorem bytes_empty {s : ByteArray} (h : s.toList.isEmpty = true) : s = ⟨#[]⟩ := by
  refine bytes_same ?_
  rw [List.isEmpty_iff.1 h, Go.ByteArray.toList_eq]
  rfl
theorem bytes_full {s : ByteArray} (h : s.toList.isEmpty = false) : s ≠ ⟨#[]⟩ := by
  rintro rfl
  rw [Go.ByteArray.toList_eq] at h
  cases h
def ptrL (T : List Ty) (n : Int) : List Ty × Int × Int := if (atT T n).isSome then putL T ⟨4, n, 0, ⟨#[]⟩⟩ else (T, 0, 1)
def strL (T : List Ty) (s : ByteArray) : List Ty × Int × Int := if s = ⟨#[]⟩ then (T, 0, 1) else putL T ⟨6, 0, 0, s⟩
set_option maxRecDepth 1000000 in
set_option maxHeartbeats 1000000 in
theorem pointer_any {w : World} {p : Nat} {F : Nat → Prop} {T : List Ty} {D} (h : Tb w p F T D) (n : Int) : Calls Tryd.prog 21 #[.pointer (some ⟨p, 0, none⟩), .int .i64 n] w fun e w' =>
    e = .returned (.tuple #[.int .i64 (ptrL T n).2.1, .int .i64 (ptrL T n).2.2]) ∧ Turn w w' p F (ptrL T n).1 D := by
  have ha := at_any h n
  unfold ptrL
  generalize (atT T n).getD ty0 = x at ha
  cases hi : (atT T n).isSome
  · rw [hi] at ha
    rw [if_neg (by simp)]
    clear hi
    go_enter Tryd.func21, Tryd.ntmps21
    go_wp2_with (first
      | (go_at_call 19; refine ha.mono ?_; rintro e w1 ⟨rfl, hb1⟩))
    go_returns
    exact ⟨rfl, Turn.of_below h (hb1.alloc hb1.size _)⟩
  · rw [hi] at ha
    rw [if_pos rfl]
    clear hi
    go_enter Tryd.func21, Tryd.ntmps21
    go_wp2_with (first
      | (go_at_call 19; refine ha.mono ?_; rintro e w1 ⟨rfl, hb1⟩)
      | (go_at_call 25; refine (put_any ((h.below hb1).below (Below.one _ _)) ⟨4, n, 0, ⟨#[]⟩⟩).mono ?_; rintro e w2 ⟨rfl, ht⟩))
    go_returns
    exact ⟨rfl, Turn.after (hb1.alloc hb1.size _) ht⟩
set_option maxRecDepth 1000000 in
theorem pointer_nil (n : Int) (w : World) : Calls Tryd.prog 21 #[.pointer none, .int .i64 n] w fun e w' => e = .returned (.tuple #[.int .i64 0, .int .i64 1]) ∧ Below w.heap.size w w' := by
  go_enter Tryd.func21, Tryd.ntmps21
  go_wp2_with (first
    | (go_at_call 19; refine (at_nil n _).mono ?_; rintro e w1 ⟨rfl, hb1⟩))
  go_returns
  exact ⟨rfl, hb1.alloc hb1.size _⟩
set_option maxRecDepth 1000000 in
set_option maxHeartbeats 1000000 in
theorem struct_any {w : World} {p : Nat} {F : Nat → Prop} {T : List Ty} {D} (h : Tb w p F T D) (s : ByteArray) : Calls Tryd.prog 13 #[.pointer (some ⟨p, 0, none⟩), .string s] w fun e w' =>
    e = .returned (.tuple #[.int .i64 (strL T s).2.1, .int .i64 (strL T s).2.2]) ∧ Turn w w' p F (strL T s).1 D := by
  unfold strL
  cases hs : s.toList.isEmpty
  · rw [if_neg (bytes_full hs)]
    go_enter Tryd.func13, Tryd.ntmps13
    go_wp2_with (first
      | (go_at_call 25; refine (put_any h ⟨6, 0, 0, s⟩).mono ?_; rintro e w2 ⟨rfl, ht⟩))
    go_returns
    exact ⟨rfl, ht⟩
  · rw [if_pos (bytes_empty hs)]
    go_enter Tryd.func13, Tryd.ntmps13
    go_wp2
    go_returns
    exact ⟨rfl, Turn.of_below h (Below.refl _ _)⟩
set_option maxRecDepth 1000000 in
theorem struct_nil (s : ByteArray) (w : World) : Calls Tryd.prog 13 #[.pointer none, .string s] w fun e w' => e = .returned (.tuple #[.int .i64 0, .int .i64 1]) ∧ w = w' := by
  go_enter Tryd.func13, Tryd.ntmps13
  go_wp2
  go_returns
  exact ⟨rfl, rfl⟩
def scalarT (T : List Ty) (n : Int) : Bool := decide (1 ≤ ((atT T n).getD ty0).kind) && decide (((atT T n).getD ty0).kind ≤ 4)
set_option maxRecDepth 1000000 in
theorem scalar_any {w : World} {p : Nat} {F : Nat → Prop} {T : List Ty} {D} (h : Tb w p F T D) (n : Int) : Calls Tryd.prog 24 #[.pointer (some ⟨p, 0, none⟩), .int .i64 n] w fun e w' =>
    e = .returned (.bool (scalarT T n)) ∧ Below w.heap.size w w' := by
  have ha := at_any h n
  unfold scalarT
  generalize (atT T n).getD ty0 = x at *
  obtain ⟨x1, x2, x3, x4⟩ := x
  generalize (atT T n).isSome = b at *
  by_cases h1 : 1 ≤ x1
  · have q1 : decide (x1 ≥ 1) = true := by simp; omega
    have q2 : decide (1 ≤ x1) = true := by simp; omega
    clear h1
    go_enter Tryd.func24, Tryd.ntmps24
    go_wp2_with (first
      | (go_at_call 19; refine ha.mono ?_; rintro e w1 ⟨rfl, hb1⟩))
    go_returns
    exact ⟨by simp [q2], hb1.alloc hb1.size _⟩
  · have q1 : decide (x1 ≥ 1) = false := by simp; omega
    have q2 : decide (1 ≤ x1) = false := by simp; omega
    clear h1
    go_enter Tryd.func24, Tryd.ntmps24
    go_wp2_with (first
      | (go_at_call 19; refine ha.mono ?_; rintro e w1 ⟨rfl, hb1⟩))
    go_returns
    exact ⟨by simp [q2], hb1.alloc hb1.size _⟩
set_option maxRecDepth 1000000 in
theorem scalar_nil (n : Int) (w : World) : Calls Tryd.prog 24 #[.pointer none, .int .i64 n] w fun e w' => e = .returned (.bool false) ∧ Below w.heap.size w w' := by
  go_enter Tryd.func24, Tryd.ntmps24
  go_wp2_with (first
    | (go_at_call 19; refine (at_nil n _).mono ?_; rintro e w1 ⟨rfl, hb1⟩))
  go_returns
  exact ⟨rfl, hb1.alloc hb1.size _⟩
set_option maxRecDepth 1000000 in
theorem size_nil (n : Int) (w : World) : Calls Tryd.prog 14 #[.pointer none, .int .i64 n] w fun e w' => e = .returned (.tuple #[.int .i64 0, .bool false]) ∧ Below w.heap.size w w' := by
  go_enter Tryd.func14, Tryd.ntmps14
  go_wp2_with (first
    | (go_at_call 19; refine (at_nil n _).mono ?_; rintro e w1 ⟨rfl, hb1⟩))
  go_returns
  exact ⟨rfl, hb1.alloc hb1.size _⟩
set_option maxRecDepth 1000000 in
theorem field_nil (n : Int) (s : ByteArray) (w : World) : Calls Tryd.prog 15 #[.pointer none, .int .i64 n, .string s] w fun e w' => e = .returned (.tuple #[.int .i64 0, .int .i64 0, .bool false]) ∧ Below w.heap.size w w' := by
  go_enter Tryd.func15, Tryd.ntmps15
  go_wp2_with (first
    | (go_at_call 19; refine (at_nil n _).mono ?_; rintro e w1 ⟨rfl, hb1⟩))
  go_returns
  exact ⟨rfl, hb1.alloc hb1.size _⟩
set_option maxRecDepth 1000000 in
theorem text_nil (n : Int) (w : World) : Calls Tryd.prog 22 #[.pointer none, .int .i64 n] w fun e w' => e = .returned (.string ⟨#[]⟩) ∧ Below w.heap.size w w' := by
  go_enter Tryd.func22, Tryd.ntmps22
  go_wp2_with (first
    | (go_at_call 19; refine (at_nil n _).mono ?_; rintro e w1 ⟨rfl, hb1⟩))
  go_returns
  exact ⟨rfl, hb1.alloc hb1.size _⟩
set_option maxRecDepth 1000000 in
theorem array_nil (n m : Int) (w : World) : Calls Tryd.prog 11 #[.pointer none, .int .i64 n, .int .i64 m] w fun e w' => e = .returned (.tuple #[.int .i64 0, .int .i64 1]) ∧ Below w.heap.size w w' := by
  go_enter Tryd.func11, Tryd.ntmps11
  go_wp2_with (first
    | (go_at_call 19; refine (at_nil n _).mono ?_; rintro e w1 ⟨rfl, hb1⟩))
  go_returns
  exact ⟨rfl, hb1.alloc hb1.size _⟩
set_option maxRecDepth 1000000 in
theorem define_nil (s : ByteArray) (v : Value) (w : World) : Calls Tryd.prog 12 #[.pointer none, .string s, v] w fun e w' => e = .returned (.int .i64 1) ∧ w = w' := by
  go_enter Tryd.func12, Tryd.ntmps12
  go_wp2_with (first
    | (go_at_call 13; refine (struct_nil s _).mono ?_; rintro e w1 ⟨rfl, rfl⟩))
  go_returns
  exact ⟨rfl, rfl⟩
end Go.Proofs.YtdoeinccnfggiaaDoor
