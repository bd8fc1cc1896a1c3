import Derived.Test.YtpadbfjocecofaaDoorQ
namespace Go.Proofs.YtpadbfjocecofaaDoor
open Go.RowKit Go.BigFrame

set_option maxRecDepth 1000000 in
set_option maxHeartbeats 1000000 in
theorem names_long (op : Int) (s : ByteArray) (w : World) (h : Tab w) (hl : 100 < s.size) : Calls Tryd.prog 10 #[.int .i64 op, .string s] w fun e w' => e = .returned (.bool true) ∧ Below w.heap.size w w' := by
  go_enter Tryd.func10, Tryd.ntmps10
  go_wp2_with (first
    | (go_at_call 13; refine (awake_any _ h).mono ?_; rintro e w1 ⟨rfl, hb1⟩))
  go_returns
  exact ⟨rfl, hb1⟩
def NameTo (op : Int) (k : Nat) (n : ByteArray) : Prop := (1 ≤ op ∧ op ≤ k → n = nm (op - 1).toNat) ∧ (¬ (1 ≤ op ∧ op ≤ k) → n = ⟨#[]⟩)
theorem NameTo.same {op : Int} {n n' : ByteArray} (h : NameTo op 23 n) (h' : NameIs op n') : n' = n := by
  by_cases hr : 1 ≤ op ∧ op ≤ 23
  · rw [h.1 hr, h'.1 hr]
  · rw [h.2 hr, h'.2 hr]
theorem NameTo.hit {op : Int} {k : Nat} (h : op = (k : Int) + 1) : NameTo op (k + 1) (nm k) := by
  subst h
  exact ⟨fun _ => by rw [show ((k : Int) + 1 - 1).toNat = k by omega], fun hh => absurd ⟨by omega, by omega⟩ hh⟩
theorem NameTo.miss {op : Int} {k : Nat} {n : ByteArray} (hn : NameTo op k n) (h : op ≠ (k : Int) + 1) : NameTo op (k + 1) n :=
  ⟨fun hh => hn.1 ⟨hh.1, by omega⟩, fun hh => hn.2 (by omega)⟩

set_option maxRecDepth 1000000 in
set_option maxHeartbeats 4000000 in
theorem names_0 (op : Int) (s : ByteArray) (w : World) (h : Tab w) (hl : ¬ 100 < s.size) (hop : op < 1) : Calls Tryd.prog 10 #[.int .i64 op, .string s] w fun e w' => e = .returned (.bool true) ∧ Below w.heap.size w w' := by
  have t2 := two_any op
  have t1 := one_any op
  rw [show (decide (1 ≤ op) && decide (op ≤ 19)) = false by simp; omega] at t2
  rw [show (decide (20 ≤ op) && decide (op ≤ 23)) = false by simp; omega] at t1
  have f_ge1 : decide (op ≥ 1) = false := by simp; omega
  have f_ge20 : decide (op ≥ 20) = false := by simp; omega
  have ts := steady_any op
  rw [show decide (1 ≤ op ∧ op < 4 ∨ 7 < op ∧ op ≤ 23) = false by simp; omega] at ts
  clear hop
  go_enter Tryd.func10, Tryd.ntmps10
  go_wp2_with (first
    | (go_at_call 22; refine (refNames _).mono ?_; rintro e w1 ⟨rfl, hcell, hlt1, hb1⟩; have h1 := h.below hb1))
  go_loopw [8, 9, 33] (fun n r i w8 => ∃ k : Nat, k ≤ 23 ∧ i = .int .i64 k ∧ w8 = w1 ∧ (∃ nn, n = .string nn ∧ NameTo op k nn) ∧ (∃ rr : Nat, r = .int .i64 rr ∧ FoundIn s k rr)) (fun _ _ i _ => 23 - (intOf i).toNat)
  case atStart => exact ⟨0, by omega, rfl, rfl, ⟨_, rfl, fun hh => absurd hh (by omega), fun _ => rfl⟩, ⟨0, rfl, Or.inl ⟨rfl, fun i hi => by omega⟩⟩⟩
  case round =>
    obtain ⟨k, hk, rfl, hw0, ⟨nn, rfl, hn⟩, ⟨rr, rfl, hr⟩⟩ := hrel
    have hw1 := hw0.symm
    subst hw1
    by_cases hlt : k < 23
    · have hc := hcell k hlt
      cases he : ((nm k).toList == s.toList) <;> cases ho : ((k : Int) + 1 == op)
      · go_wp2
        exact ⟨⟨k + 1, by omega, by simp, trivial, ⟨_, rfl, hn.miss (fun hh => by simp [hh] at ho)⟩, ⟨_, rfl, hr.miss (bytes_other he)⟩⟩, by simp [intOf]; omega⟩
      · go_wp2
        exact ⟨⟨k + 1, by omega, by simp, trivial, ⟨_, rfl, NameTo.hit (eq_of_beq ho).symm⟩, ⟨_, rfl, hr.miss (bytes_other he)⟩⟩, by simp [intOf]; omega⟩
      · go_wp2
        exact ⟨⟨k + 1, by omega, by simp, trivial, ⟨_, rfl, hn.miss (fun hh => by simp [hh] at ho)⟩, ⟨k + 1, by simp, FoundIn.hit (bytes_same he)⟩⟩, by simp [intOf]; omega⟩
      · go_wp2
        exact ⟨⟨k + 1, by omega, by simp, trivial, ⟨_, rfl, NameTo.hit (eq_of_beq ho).symm⟩, ⟨k + 1, by simp, FoundIn.hit (bytes_same he)⟩⟩, by simp [intOf]; omega⟩
    · obtain rfl : k = 23 := by omega
      have hpos : decide ((rr : Int) > 0) = decide (0 < rr) := by simp
      go_wp2_with (first
        | (go_at_call 23; refine (named_any s _ h1).mono ?_; rintro e w2 ⟨⟨r2, rfl, hr2⟩, hb2⟩; obtain rfl := hr.same hr2; have h2 := h1.below hb2)
        | (go_at_call 24; refine (t2 _).mono ?_; rintro e w' ⟨rfl, rfl⟩)
        | (go_at_call 25; refine (t1 _).mono ?_; rintro e w' ⟨rfl, rfl⟩)
        | (go_at_call 26; refine (ts _).mono ?_; rintro e w' ⟨rfl, rfl⟩)
        | (go_at_call 27; refine (name_any op _ h2).mono ?_; rintro e w3 ⟨⟨n3, rfl, hn3⟩, hb3⟩; obtain rfl := hn.same hn3; have h3 := h2.below hb3)
        | (go_at_call 13; refine (awake_any _ h3).mono ?_; rintro e w4 ⟨rfl, hb4⟩))
      go_returns
      exact ⟨rfl, ((hb1.trans (hb2.mono hb1.size)).trans (hb3.mono (hb1.trans (hb2.mono hb1.size)).size)).trans (hb4.mono ((hb1.trans (hb2.mono hb1.size)).trans (hb3.mono (hb1.trans (hb2.mono hb1.size)).size)).size)⟩

set_option maxRecDepth 1000000 in
set_option maxHeartbeats 4000000 in
theorem names_1 (op : Int) (s : ByteArray) (w : World) (h : Tab w) (hl : ¬ 100 < s.size) (hop : 1 ≤ op ∧ op < 4) : Calls Tryd.prog 10 #[.int .i64 op, .string s] w fun e w' => e = .returned (.bool true) ∧ Below w.heap.size w w' := by
  have t2 := two_any op
  have t1 := one_any op
  rw [show (decide (1 ≤ op) && decide (op ≤ 19)) = true by simp; omega] at t2
  rw [show (decide (20 ≤ op) && decide (op ≤ 23)) = false by simp; omega] at t1
  have f_ge1 : decide (op ≥ 1) = true := by simp; omega
  have f_le19 : decide (op ≤ 19) = true := by simp; omega
  have f_ge20 : decide (op ≥ 20) = false := by simp; omega
  have f_lt4 : decide (op < 4) = true := by simp; omega
  have ts := steady_any op
  rw [show decide (1 ≤ op ∧ op < 4 ∨ 7 < op ∧ op ≤ 23) = true by simp; omega] at ts
  clear hop
  go_enter Tryd.func10, Tryd.ntmps10
  go_wp2_with (first
    | (go_at_call 22; refine (refNames _).mono ?_; rintro e w1 ⟨rfl, hcell, hlt1, hb1⟩; have h1 := h.below hb1))
  go_loopw [8, 9, 33] (fun n r i w8 => ∃ k : Nat, k ≤ 23 ∧ i = .int .i64 k ∧ w8 = w1 ∧ (∃ nn, n = .string nn ∧ NameTo op k nn) ∧ (∃ rr : Nat, r = .int .i64 rr ∧ FoundIn s k rr)) (fun _ _ i _ => 23 - (intOf i).toNat)
  case atStart => exact ⟨0, by omega, rfl, rfl, ⟨_, rfl, fun hh => absurd hh (by omega), fun _ => rfl⟩, ⟨0, rfl, Or.inl ⟨rfl, fun i hi => by omega⟩⟩⟩
  case round =>
    obtain ⟨k, hk, rfl, hw0, ⟨nn, rfl, hn⟩, ⟨rr, rfl, hr⟩⟩ := hrel
    have hw1 := hw0.symm
    subst hw1
    by_cases hlt : k < 23
    · have hc := hcell k hlt
      cases he : ((nm k).toList == s.toList) <;> cases ho : ((k : Int) + 1 == op)
      · go_wp2
        exact ⟨⟨k + 1, by omega, by simp, trivial, ⟨_, rfl, hn.miss (fun hh => by simp [hh] at ho)⟩, ⟨_, rfl, hr.miss (bytes_other he)⟩⟩, by simp [intOf]; omega⟩
      · go_wp2
        exact ⟨⟨k + 1, by omega, by simp, trivial, ⟨_, rfl, NameTo.hit (eq_of_beq ho).symm⟩, ⟨_, rfl, hr.miss (bytes_other he)⟩⟩, by simp [intOf]; omega⟩
      · go_wp2
        exact ⟨⟨k + 1, by omega, by simp, trivial, ⟨_, rfl, hn.miss (fun hh => by simp [hh] at ho)⟩, ⟨k + 1, by simp, FoundIn.hit (bytes_same he)⟩⟩, by simp [intOf]; omega⟩
      · go_wp2
        exact ⟨⟨k + 1, by omega, by simp, trivial, ⟨_, rfl, NameTo.hit (eq_of_beq ho).symm⟩, ⟨k + 1, by simp, FoundIn.hit (bytes_same he)⟩⟩, by simp [intOf]; omega⟩
    · obtain rfl : k = 23 := by omega
      have hpos : decide ((rr : Int) > 0) = decide (0 < rr) := by simp
      go_wp2_with (first
        | (go_at_call 23; refine (named_any s _ h1).mono ?_; rintro e w2 ⟨⟨r2, rfl, hr2⟩, hb2⟩; obtain rfl := hr.same hr2; have h2 := h1.below hb2)
        | (go_at_call 24; refine (t2 _).mono ?_; rintro e w' ⟨rfl, rfl⟩)
        | (go_at_call 25; refine (t1 _).mono ?_; rintro e w' ⟨rfl, rfl⟩)
        | (go_at_call 26; refine (ts _).mono ?_; rintro e w' ⟨rfl, rfl⟩)
        | (go_at_call 27; refine (name_any op _ h2).mono ?_; rintro e w3 ⟨⟨n3, rfl, hn3⟩, hb3⟩; obtain rfl := hn.same hn3; have h3 := h2.below hb3)
        | (go_at_call 13; refine (awake_any _ h3).mono ?_; rintro e w4 ⟨rfl, hb4⟩))
      go_returns
      exact ⟨rfl, ((hb1.trans (hb2.mono hb1.size)).trans (hb3.mono (hb1.trans (hb2.mono hb1.size)).size)).trans (hb4.mono ((hb1.trans (hb2.mono hb1.size)).trans (hb3.mono (hb1.trans (hb2.mono hb1.size)).size)).size)⟩

set_option maxRecDepth 1000000 in
set_option maxHeartbeats 4000000 in
theorem names_2 (op : Int) (s : ByteArray) (w : World) (h : Tab w) (hl : ¬ 100 < s.size) (hop : 4 ≤ op ∧ op ≤ 7) : Calls Tryd.prog 10 #[.int .i64 op, .string s] w fun e w' => e = .returned (.bool true) ∧ Below w.heap.size w w' := by
  have t2 := two_any op
  have t1 := one_any op
  rw [show (decide (1 ≤ op) && decide (op ≤ 19)) = true by simp; omega] at t2
  rw [show (decide (20 ≤ op) && decide (op ≤ 23)) = false by simp; omega] at t1
  have f_ge1 : decide (op ≥ 1) = true := by simp; omega
  have f_le19 : decide (op ≤ 19) = true := by simp; omega
  have f_ge20 : decide (op ≥ 20) = false := by simp; omega
  have f_lt4 : decide (op < 4) = false := by simp; omega
  have f_gt7 : decide (op > 7) = false := by simp; omega
  have ts := steady_any op
  rw [show decide (1 ≤ op ∧ op < 4 ∨ 7 < op ∧ op ≤ 23) = false by simp; omega] at ts
  clear hop
  go_enter Tryd.func10, Tryd.ntmps10
  go_wp2_with (first
    | (go_at_call 22; refine (refNames _).mono ?_; rintro e w1 ⟨rfl, hcell, hlt1, hb1⟩; have h1 := h.below hb1))
  go_loopw [8, 9, 33] (fun n r i w8 => ∃ k : Nat, k ≤ 23 ∧ i = .int .i64 k ∧ w8 = w1 ∧ (∃ nn, n = .string nn ∧ NameTo op k nn) ∧ (∃ rr : Nat, r = .int .i64 rr ∧ FoundIn s k rr)) (fun _ _ i _ => 23 - (intOf i).toNat)
  case atStart => exact ⟨0, by omega, rfl, rfl, ⟨_, rfl, fun hh => absurd hh (by omega), fun _ => rfl⟩, ⟨0, rfl, Or.inl ⟨rfl, fun i hi => by omega⟩⟩⟩
  case round =>
    obtain ⟨k, hk, rfl, hw0, ⟨nn, rfl, hn⟩, ⟨rr, rfl, hr⟩⟩ := hrel
    have hw1 := hw0.symm
    subst hw1
    by_cases hlt : k < 23
    · have hc := hcell k hlt
      cases he : ((nm k).toList == s.toList) <;> cases ho : ((k : Int) + 1 == op)
      · go_wp2
        exact ⟨⟨k + 1, by omega, by simp, trivial, ⟨_, rfl, hn.miss (fun hh => by simp [hh] at ho)⟩, ⟨_, rfl, hr.miss (bytes_other he)⟩⟩, by simp [intOf]; omega⟩
      · go_wp2
        exact ⟨⟨k + 1, by omega, by simp, trivial, ⟨_, rfl, NameTo.hit (eq_of_beq ho).symm⟩, ⟨_, rfl, hr.miss (bytes_other he)⟩⟩, by simp [intOf]; omega⟩
      · go_wp2
        exact ⟨⟨k + 1, by omega, by simp, trivial, ⟨_, rfl, hn.miss (fun hh => by simp [hh] at ho)⟩, ⟨k + 1, by simp, FoundIn.hit (bytes_same he)⟩⟩, by simp [intOf]; omega⟩
      · go_wp2
        exact ⟨⟨k + 1, by omega, by simp, trivial, ⟨_, rfl, NameTo.hit (eq_of_beq ho).symm⟩, ⟨k + 1, by simp, FoundIn.hit (bytes_same he)⟩⟩, by simp [intOf]; omega⟩
    · obtain rfl : k = 23 := by omega
      have hpos : decide ((rr : Int) > 0) = decide (0 < rr) := by simp
      go_wp2_with (first
        | (go_at_call 23; refine (named_any s _ h1).mono ?_; rintro e w2 ⟨⟨r2, rfl, hr2⟩, hb2⟩; obtain rfl := hr.same hr2; have h2 := h1.below hb2)
        | (go_at_call 24; refine (t2 _).mono ?_; rintro e w' ⟨rfl, rfl⟩)
        | (go_at_call 25; refine (t1 _).mono ?_; rintro e w' ⟨rfl, rfl⟩)
        | (go_at_call 26; refine (ts _).mono ?_; rintro e w' ⟨rfl, rfl⟩)
        | (go_at_call 27; refine (name_any op _ h2).mono ?_; rintro e w3 ⟨⟨n3, rfl, hn3⟩, hb3⟩; obtain rfl := hn.same hn3; have h3 := h2.below hb3)
        | (go_at_call 13; refine (awake_any _ h3).mono ?_; rintro e w4 ⟨rfl, hb4⟩))
      go_returns
      exact ⟨rfl, ((hb1.trans (hb2.mono hb1.size)).trans (hb3.mono (hb1.trans (hb2.mono hb1.size)).size)).trans (hb4.mono ((hb1.trans (hb2.mono hb1.size)).trans (hb3.mono (hb1.trans (hb2.mono hb1.size)).size)).size)⟩

set_option maxRecDepth 1000000 in
set_option maxHeartbeats 4000000 in
theorem names_3 (op : Int) (s : ByteArray) (w : World) (h : Tab w) (hl : ¬ 100 < s.size) (hop : 8 ≤ op ∧ op ≤ 19) : Calls Tryd.prog 10 #[.int .i64 op, .string s] w fun e w' => e = .returned (.bool true) ∧ Below w.heap.size w w' := by
  have t2 := two_any op
  have t1 := one_any op
  rw [show (decide (1 ≤ op) && decide (op ≤ 19)) = true by simp; omega] at t2
  rw [show (decide (20 ≤ op) && decide (op ≤ 23)) = false by simp; omega] at t1
  have f_ge1 : decide (op ≥ 1) = true := by simp; omega
  have f_le19 : decide (op ≤ 19) = true := by simp; omega
  have f_ge20 : decide (op ≥ 20) = false := by simp; omega
  have f_lt4 : decide (op < 4) = false := by simp; omega
  have f_gt7 : decide (op > 7) = true := by simp; omega
  have ts := steady_any op
  rw [show decide (1 ≤ op ∧ op < 4 ∨ 7 < op ∧ op ≤ 23) = true by simp; omega] at ts
  clear hop
  go_enter Tryd.func10, Tryd.ntmps10
  go_wp2_with (first
    | (go_at_call 22; refine (refNames _).mono ?_; rintro e w1 ⟨rfl, hcell, hlt1, hb1⟩; have h1 := h.below hb1))
  go_loopw [8, 9, 33] (fun n r i w8 => ∃ k : Nat, k ≤ 23 ∧ i = .int .i64 k ∧ w8 = w1 ∧ (∃ nn, n = .string nn ∧ NameTo op k nn) ∧ (∃ rr : Nat, r = .int .i64 rr ∧ FoundIn s k rr)) (fun _ _ i _ => 23 - (intOf i).toNat)
  case atStart => exact ⟨0, by omega, rfl, rfl, ⟨_, rfl, fun hh => absurd hh (by omega), fun _ => rfl⟩, ⟨0, rfl, Or.inl ⟨rfl, fun i hi => by omega⟩⟩⟩
  case round =>
    obtain ⟨k, hk, rfl, hw0, ⟨nn, rfl, hn⟩, ⟨rr, rfl, hr⟩⟩ := hrel
    have hw1 := hw0.symm
    subst hw1
    by_cases hlt : k < 23
    · have hc := hcell k hlt
      cases he : ((nm k).toList == s.toList) <;> cases ho : ((k : Int) + 1 == op)
      · go_wp2
        exact ⟨⟨k + 1, by omega, by simp, trivial, ⟨_, rfl, hn.miss (fun hh => by simp [hh] at ho)⟩, ⟨_, rfl, hr.miss (bytes_other he)⟩⟩, by simp [intOf]; omega⟩
      · go_wp2
        exact ⟨⟨k + 1, by omega, by simp, trivial, ⟨_, rfl, NameTo.hit (eq_of_beq ho).symm⟩, ⟨_, rfl, hr.miss (bytes_other he)⟩⟩, by simp [intOf]; omega⟩
      · go_wp2
        exact ⟨⟨k + 1, by omega, by simp, trivial, ⟨_, rfl, hn.miss (fun hh => by simp [hh] at ho)⟩, ⟨k + 1, by simp, FoundIn.hit (bytes_same he)⟩⟩, by simp [intOf]; omega⟩
      · go_wp2
        exact ⟨⟨k + 1, by omega, by simp, trivial, ⟨_, rfl, NameTo.hit (eq_of_beq ho).symm⟩, ⟨k + 1, by simp, FoundIn.hit (bytes_same he)⟩⟩, by simp [intOf]; omega⟩
    · obtain rfl : k = 23 := by omega
      have hpos : decide ((rr : Int) > 0) = decide (0 < rr) := by simp
      go_wp2_with (first
        | (go_at_call 23; refine (named_any s _ h1).mono ?_; rintro e w2 ⟨⟨r2, rfl, hr2⟩, hb2⟩; obtain rfl := hr.same hr2; have h2 := h1.below hb2)
        | (go_at_call 24; refine (t2 _).mono ?_; rintro e w' ⟨rfl, rfl⟩)
        | (go_at_call 25; refine (t1 _).mono ?_; rintro e w' ⟨rfl, rfl⟩)
        | (go_at_call 26; refine (ts _).mono ?_; rintro e w' ⟨rfl, rfl⟩)
        | (go_at_call 27; refine (name_any op _ h2).mono ?_; rintro e w3 ⟨⟨n3, rfl, hn3⟩, hb3⟩; obtain rfl := hn.same hn3; have h3 := h2.below hb3)
        | (go_at_call 13; refine (awake_any _ h3).mono ?_; rintro e w4 ⟨rfl, hb4⟩))
      go_returns
      exact ⟨rfl, ((hb1.trans (hb2.mono hb1.size)).trans (hb3.mono (hb1.trans (hb2.mono hb1.size)).size)).trans (hb4.mono ((hb1.trans (hb2.mono hb1.size)).trans (hb3.mono (hb1.trans (hb2.mono hb1.size)).size)).size)⟩

set_option maxRecDepth 1000000 in
set_option maxHeartbeats 4000000 in
theorem names_4 (op : Int) (s : ByteArray) (w : World) (h : Tab w) (hl : ¬ 100 < s.size) (hop : 20 ≤ op ∧ op ≤ 23) : Calls Tryd.prog 10 #[.int .i64 op, .string s] w fun e w' => e = .returned (.bool true) ∧ Below w.heap.size w w' := by
  have t2 := two_any op
  have t1 := one_any op
  rw [show (decide (1 ≤ op) && decide (op ≤ 19)) = false by simp; omega] at t2
  rw [show (decide (20 ≤ op) && decide (op ≤ 23)) = true by simp; omega] at t1
  have f_ge1 : decide (op ≥ 1) = true := by simp; omega
  have f_le19 : decide (op ≤ 19) = false := by simp; omega
  have f_ge20 : decide (op ≥ 20) = true := by simp; omega
  have f_le23 : decide (op ≤ 23) = true := by simp; omega
  have f_lt4 : decide (op < 4) = false := by simp; omega
  have f_gt7 : decide (op > 7) = true := by simp; omega
  have ts := steady_any op
  rw [show decide (1 ≤ op ∧ op < 4 ∨ 7 < op ∧ op ≤ 23) = true by simp; omega] at ts
  clear hop
  go_enter Tryd.func10, Tryd.ntmps10
  go_wp2_with (first
    | (go_at_call 22; refine (refNames _).mono ?_; rintro e w1 ⟨rfl, hcell, hlt1, hb1⟩; have h1 := h.below hb1))
  go_loopw [8, 9, 33] (fun n r i w8 => ∃ k : Nat, k ≤ 23 ∧ i = .int .i64 k ∧ w8 = w1 ∧ (∃ nn, n = .string nn ∧ NameTo op k nn) ∧ (∃ rr : Nat, r = .int .i64 rr ∧ FoundIn s k rr)) (fun _ _ i _ => 23 - (intOf i).toNat)
  case atStart => exact ⟨0, by omega, rfl, rfl, ⟨_, rfl, fun hh => absurd hh (by omega), fun _ => rfl⟩, ⟨0, rfl, Or.inl ⟨rfl, fun i hi => by omega⟩⟩⟩
  case round =>
    obtain ⟨k, hk, rfl, hw0, ⟨nn, rfl, hn⟩, ⟨rr, rfl, hr⟩⟩ := hrel
    have hw1 := hw0.symm
    subst hw1
    by_cases hlt : k < 23
    · have hc := hcell k hlt
      cases he : ((nm k).toList == s.toList) <;> cases ho : ((k : Int) + 1 == op)
      · go_wp2
        exact ⟨⟨k + 1, by omega, by simp, trivial, ⟨_, rfl, hn.miss (fun hh => by simp [hh] at ho)⟩, ⟨_, rfl, hr.miss (bytes_other he)⟩⟩, by simp [intOf]; omega⟩
      · go_wp2
        exact ⟨⟨k + 1, by omega, by simp, trivial, ⟨_, rfl, NameTo.hit (eq_of_beq ho).symm⟩, ⟨_, rfl, hr.miss (bytes_other he)⟩⟩, by simp [intOf]; omega⟩
      · go_wp2
        exact ⟨⟨k + 1, by omega, by simp, trivial, ⟨_, rfl, hn.miss (fun hh => by simp [hh] at ho)⟩, ⟨k + 1, by simp, FoundIn.hit (bytes_same he)⟩⟩, by simp [intOf]; omega⟩
      · go_wp2
        exact ⟨⟨k + 1, by omega, by simp, trivial, ⟨_, rfl, NameTo.hit (eq_of_beq ho).symm⟩, ⟨k + 1, by simp, FoundIn.hit (bytes_same he)⟩⟩, by simp [intOf]; omega⟩
    · obtain rfl : k = 23 := by omega
      have hpos : decide ((rr : Int) > 0) = decide (0 < rr) := by simp
      go_wp2_with (first
        | (go_at_call 23; refine (named_any s _ h1).mono ?_; rintro e w2 ⟨⟨r2, rfl, hr2⟩, hb2⟩; obtain rfl := hr.same hr2; have h2 := h1.below hb2)
        | (go_at_call 24; refine (t2 _).mono ?_; rintro e w' ⟨rfl, rfl⟩)
        | (go_at_call 25; refine (t1 _).mono ?_; rintro e w' ⟨rfl, rfl⟩)
        | (go_at_call 26; refine (ts _).mono ?_; rintro e w' ⟨rfl, rfl⟩)
        | (go_at_call 27; refine (name_any op _ h2).mono ?_; rintro e w3 ⟨⟨n3, rfl, hn3⟩, hb3⟩; obtain rfl := hn.same hn3; have h3 := h2.below hb3)
        | (go_at_call 13; refine (awake_any _ h3).mono ?_; rintro e w4 ⟨rfl, hb4⟩))
      go_returns
      exact ⟨rfl, ((hb1.trans (hb2.mono hb1.size)).trans (hb3.mono (hb1.trans (hb2.mono hb1.size)).size)).trans (hb4.mono ((hb1.trans (hb2.mono hb1.size)).trans (hb3.mono (hb1.trans (hb2.mono hb1.size)).size)).size)⟩

set_option maxRecDepth 1000000 in
set_option maxHeartbeats 4000000 in
theorem names_5 (op : Int) (s : ByteArray) (w : World) (h : Tab w) (hl : ¬ 100 < s.size) (hop : 23 < op) : Calls Tryd.prog 10 #[.int .i64 op, .string s] w fun e w' => e = .returned (.bool true) ∧ Below w.heap.size w w' := by
  have t2 := two_any op
  have t1 := one_any op
  rw [show (decide (1 ≤ op) && decide (op ≤ 19)) = false by simp; omega] at t2
  rw [show (decide (20 ≤ op) && decide (op ≤ 23)) = false by simp; omega] at t1
  have f_ge1 : decide (op ≥ 1) = true := by simp; omega
  have f_le19 : decide (op ≤ 19) = false := by simp; omega
  have f_ge20 : decide (op ≥ 20) = true := by simp; omega
  have f_le23 : decide (op ≤ 23) = false := by simp; omega
  have ts := steady_any op
  rw [show decide (1 ≤ op ∧ op < 4 ∨ 7 < op ∧ op ≤ 23) = false by simp; omega] at ts
  clear hop
  go_enter Tryd.func10, Tryd.ntmps10
  go_wp2_with (first
    | (go_at_call 22; refine (refNames _).mono ?_; rintro e w1 ⟨rfl, hcell, hlt1, hb1⟩; have h1 := h.below hb1))
  go_loopw [8, 9, 33] (fun n r i w8 => ∃ k : Nat, k ≤ 23 ∧ i = .int .i64 k ∧ w8 = w1 ∧ (∃ nn, n = .string nn ∧ NameTo op k nn) ∧ (∃ rr : Nat, r = .int .i64 rr ∧ FoundIn s k rr)) (fun _ _ i _ => 23 - (intOf i).toNat)
  case atStart => exact ⟨0, by omega, rfl, rfl, ⟨_, rfl, fun hh => absurd hh (by omega), fun _ => rfl⟩, ⟨0, rfl, Or.inl ⟨rfl, fun i hi => by omega⟩⟩⟩
  case round =>
    obtain ⟨k, hk, rfl, hw0, ⟨nn, rfl, hn⟩, ⟨rr, rfl, hr⟩⟩ := hrel
    have hw1 := hw0.symm
    subst hw1
    by_cases hlt : k < 23
    · have hc := hcell k hlt
      cases he : ((nm k).toList == s.toList) <;> cases ho : ((k : Int) + 1 == op)
      · go_wp2
        exact ⟨⟨k + 1, by omega, by simp, trivial, ⟨_, rfl, hn.miss (fun hh => by simp [hh] at ho)⟩, ⟨_, rfl, hr.miss (bytes_other he)⟩⟩, by simp [intOf]; omega⟩
      · go_wp2
        exact ⟨⟨k + 1, by omega, by simp, trivial, ⟨_, rfl, NameTo.hit (eq_of_beq ho).symm⟩, ⟨_, rfl, hr.miss (bytes_other he)⟩⟩, by simp [intOf]; omega⟩
      · go_wp2
        exact ⟨⟨k + 1, by omega, by simp, trivial, ⟨_, rfl, hn.miss (fun hh => by simp [hh] at ho)⟩, ⟨k + 1, by simp, FoundIn.hit (bytes_same he)⟩⟩, by simp [intOf]; omega⟩
      · go_wp2
        exact ⟨⟨k + 1, by omega, by simp, trivial, ⟨_, rfl, NameTo.hit (eq_of_beq ho).symm⟩, ⟨k + 1, by simp, FoundIn.hit (bytes_same he)⟩⟩, by simp [intOf]; omega⟩
    · obtain rfl : k = 23 := by omega
      have hpos : decide ((rr : Int) > 0) = decide (0 < rr) := by simp
      go_wp2_with (first
        | (go_at_call 23; refine (named_any s _ h1).mono ?_; rintro e w2 ⟨⟨r2, rfl, hr2⟩, hb2⟩; obtain rfl := hr.same hr2; have h2 := h1.below hb2)
        | (go_at_call 24; refine (t2 _).mono ?_; rintro e w' ⟨rfl, rfl⟩)
        | (go_at_call 25; refine (t1 _).mono ?_; rintro e w' ⟨rfl, rfl⟩)
        | (go_at_call 26; refine (ts _).mono ?_; rintro e w' ⟨rfl, rfl⟩)
        | (go_at_call 27; refine (name_any op _ h2).mono ?_; rintro e w3 ⟨⟨n3, rfl, hn3⟩, hb3⟩; obtain rfl := hn.same hn3; have h3 := h2.below hb3)
        | (go_at_call 13; refine (awake_any _ h3).mono ?_; rintro e w4 ⟨rfl, hb4⟩))
      go_returns
      exact ⟨rfl, ((hb1.trans (hb2.mono hb1.size)).trans (hb3.mono (hb1.trans (hb2.mono hb1.size)).size)).trans (hb4.mono ((hb1.trans (hb2.mono hb1.size)).trans (hb3.mono (hb1.trans (hb2.mono hb1.size)).size)).size)⟩

theorem names_walk (op : Int) (s : ByteArray) (w : World) (h : Tab w) : Calls Tryd.prog 10 #[.int .i64 op, .string s] w fun e w' => e = .returned (.bool true) ∧ Below w.heap.size w w' := by
  by_cases hl : 100 < s.size
  · exact names_long op s w h hl
  · rcases op_ranges op with h0 | h0 | h0 | h0 | h0 | h0
    · exact names_0 op s w h hl h0
    · exact names_1 op s w h hl h0
    · exact names_2 op s w h hl h0
    · exact names_3 op s w h hl h0
    · exact names_4 op s w h hl h0
    · exact names_5 op s w h hl h0
end Go.Proofs.YtpadbfjocecofaaDoor
