import Derived.Test.YtdoeinccnfggiaaDoorH
namespace Go.Proofs.YtdoeinccnfggiaaDoor
open Go.RowKit Go.BigFrame

theorem deep_bound {T : List Ty} {D : ByteArray → Option (List Fld)} : ∀ (k : Nat) (n : Int), deep T D k n → 0 ≤ (sz T D k n).1 ∧ (sz T D k n).1 ≤ 5000000
  | 0, _, h => h.elim
  | k + 1, n, h => by
    unfold deep at h
    unfold sz
    cases hx : atT T n with
    | none => simp
    | some x =>
      obtain ⟨h5, h6⟩ := h x hx
      simp only
      by_cases h0 : x.kind = 0
      · simp [h0]
      · rw [if_neg h0]
        by_cases e5 : x.kind = 5
        · rw [if_pos e5]
          exact ⟨(h5 e5).2.1, (h5 e5).2.2⟩
        · rw [if_neg e5]
          by_cases e6 : x.kind = 6
          · rw [if_pos e6]
            cases hD : D x.name with
            | none => simp
            | some l =>
              have := (h6 e6 l hD).2 l.length (Nat.le_refl _)
              rw [List.take_length] at this
              exact this
          · rw [if_neg e6]
            simp
def arrL (T : List Ty) (D : ByteArray → Option (List Fld)) (k : Nat) (a n : Int) : List Ty × Int × Int :=
  if (atT T a).isSome = false then (T, 0, 1) else if (sz T D k a).2 = false then (T, 0, 8) else if n < 1 ∨ 1024 < n ∨ 4096 < (sz T D k a).1 * n then (T, 0, 4) else putL T ⟨5, a, n, ⟨#[]⟩⟩
set_option maxRecDepth 1000000 in
set_option maxHeartbeats 2000000 in
theorem array_any {w : World} {p : Nat} {F : Nat → Prop} {T : List Ty} {D : ByteArray → Option (List Fld)} (h : Tb w p F T D) (k : Nat) (a n : Int) (hd : deep T D k a) : Calls Tryd.prog 11 #[.pointer (some ⟨p, 0, none⟩), .int .i64 a, .int .i64 n] w fun e w' =>
    e = .returned (.tuple #[.int .i64 (arrL T D k a n).2.1, .int .i64 (arrL T D k a n).2.2]) ∧ Turn w w' p F (arrL T D k a n).1 D := by
  have ha := at_any h a
  have hb := deep_bound k a hd
  have hs := fun w hw => size_any (p := p) (F := F) k a w hw hd
  unfold arrL
  clear hd
  generalize (atT T a).getD ty0 = x at *
  generalize sz T D k a = S at *
  obtain ⟨S1, S2⟩ := S
  simp only at hb hs ⊢
  cases hi : (atT T a).isSome
  · rw [hi] at ha
    rw [if_pos rfl]
    clear hi
    go_enter Tryd.func11, Tryd.ntmps11
    go_wp2_with (first
      | (go_at_call 19; refine ha.mono ?_; rintro e w1 ⟨rfl, hb1⟩))
    go_returns
    exact ⟨rfl, Turn.of_below h (hb1.alloc hb1.size _)⟩
  · rw [hi] at ha
    rw [if_neg (by simp)]
    clear hi
    cases S2
    · rw [if_pos rfl]
      go_enter Tryd.func11, Tryd.ntmps11
      go_wp2_with (first
        | (go_at_call 19; refine ha.mono ?_; rintro e w1 ⟨rfl, hb1⟩)
        | (go_at_call 14; refine (hs _ ((h.below hb1).below (Below.one _ _))).mono ?_; rintro e w2 ⟨rfl, hb2⟩))
      go_returns
      exact ⟨rfl, Turn.of_below h ((hb1.alloc hb1.size _).trans (hb2.mono (hb1.alloc hb1.size _).size))⟩
    · rw [if_neg (by simp)]
      by_cases h1 : n < 1
      · rw [if_pos (.inl h1)]
        have q1 : decide (n < 1) = true := by simpa using h1
        clear h1
        go_enter Tryd.func11, Tryd.ntmps11
        go_wp2_with (first
          | (go_at_call 19; refine ha.mono ?_; rintro e w1 ⟨rfl, hb1⟩)
          | (go_at_call 14; refine (hs _ ((h.below hb1).below (Below.one _ _))).mono ?_; rintro e w2 ⟨rfl, hb2⟩))
        go_returns
        exact ⟨rfl, Turn.of_below h ((hb1.alloc hb1.size _).trans (hb2.mono (hb1.alloc hb1.size _).size))⟩
      · have q1 : decide (n < 1) = false := by simp; omega
        by_cases h2 : 1024 < n
        · rw [if_pos (.inr (.inl h2))]
          have q2 : decide (n > 1024) = true := by simpa using h2
          clear h1 h2
          go_enter Tryd.func11, Tryd.ntmps11
          go_wp2_with (first
            | (go_at_call 19; refine ha.mono ?_; rintro e w1 ⟨rfl, hb1⟩)
            | (go_at_call 14; refine (hs _ ((h.below hb1).below (Below.one _ _))).mono ?_; rintro e w2 ⟨rfl, hb2⟩))
          go_returns
          exact ⟨rfl, Turn.of_below h ((hb1.alloc hb1.size _).trans (hb2.mono (hb1.alloc hb1.size _).size))⟩
        · have q2 : decide (n > 1024) = false := by simp; omega
          have hm1 : 0 ≤ S1 * n := Int.mul_nonneg hb.1 (by omega)
          have hm2 : S1 * n ≤ 5000000 * 1024 := Int.mul_le_mul hb.2 (by omega) (by omega) (by omega)
          have hwr : wrap64 (S1 * n) = S1 * n := by unfold wrap64; omega
          by_cases h3 : 4096 < S1 * n
          · rw [if_pos (.inr (.inr h3))]
            have q3 : decide (S1 * n > 4096) = true := by simpa using h3
            clear h1 h2 h3
            go_enter Tryd.func11, Tryd.ntmps11
            go_wp2_with (first
              | (go_at_call 19; refine ha.mono ?_; rintro e w1 ⟨rfl, hb1⟩)
              | (go_at_call 14; refine (hs _ ((h.below hb1).below (Below.one _ _))).mono ?_; rintro e w2 ⟨rfl, hb2⟩))
            go_returns
            exact ⟨rfl, Turn.of_below h ((hb1.alloc hb1.size _).trans (hb2.mono (hb1.alloc hb1.size _).size))⟩
          · rw [if_neg (by omega)]
            have q3 : decide (S1 * n > 4096) = false := by simp; omega
            clear h1 h2 h3
            go_enter Tryd.func11, Tryd.ntmps11
            go_wp2_with (first
              | (go_at_call 19; refine ha.mono ?_; rintro e w1 ⟨rfl, hb1⟩)
              | (go_at_call 14; refine (hs _ ((h.below hb1).below (Below.one _ _))).mono ?_; rintro e w2 ⟨rfl, hb2⟩)
              | (go_at_call 25; refine (put_any (((h.below hb1).below (Below.one _ _)).below hb2) ⟨5, a, n, ⟨#[]⟩⟩).mono ?_; rintro e w3 ⟨rfl, ht⟩))
            go_returns
            exact ⟨rfl, Turn.after ((hb1.alloc hb1.size _).trans (hb2.mono (hb1.alloc hb1.size _).size)) ht⟩
def fieldL (Z : Fld → Int) (s : ByteArray) : List Fld → Int → Int × Int × Bool
  | [], _ => (0, 0, false)
  | f :: l, at_ => if f.name = s then (at_, f.type, true) else fieldL Z s l (at_ + Z f)
def fieldT (T : List Ty) (D : ByteArray → Option (List Fld)) (k : Nat) (n : Int) (s : ByteArray) : Int × Int × Bool :=
  match atT T n with
  | none => (0, 0, false)
  | some x => if x.kind = 6 then fieldL (fun f => (sz T D k f.type).1) s ((D x.name).getD []) 0 else (0, 0, false)
theorem drop_cons {l : List Fld} {j : Nat} {f : Fld} (h : l[j]? = some f) : l.drop j = f :: l.drop (j + 1) := by
  obtain ⟨hj, rfl⟩ := List.getElem?_eq_some_iff.1 h
  exact List.drop_eq_getElem_cons hj
end Go.Proofs.YtdoeinccnfggiaaDoor
