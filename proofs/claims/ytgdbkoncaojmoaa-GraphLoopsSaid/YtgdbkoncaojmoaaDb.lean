import Derived.Test.YtgdbkoncaojmoaaDa
/- A WALK IN DEPTH (plain): what it leaves, in order. -/
namespace Go.Proofs.Ytgdbkoncaojmoaa

/-- a walk over a list of places: seen and left ahead of it, seen and left behind it -/
inductive Ls (nx : Nat → List Nat) : List Nat → List Nat → List Nat → List Nat → List Nat → Prop
  | nil (S L : List Nat) : Ls nx [] S L S L
  | skip {n : Nat} {ns S L S' L' : List Nat} (h : n ∈ S) (hs : Ls nx ns S L S' L') : Ls nx (n :: ns) S L S' L'
  | go {n : Nat} {ns S L S1 L1 S' L' : List Nat} (h : n ∉ S) (h1 : Ls nx (nx n) (S ++ [n]) L S1 L1) (hs : Ls nx ns S1 (L1 ++ [n]) S' L') : Ls nx (n :: ns) S L S' L'
theorem Ls.det {nx : Nat → List Nat} {ns S L S1 L1 S2 L2 : List Nat} (h1 : Ls nx ns S L S1 L1) (h2 : Ls nx ns S L S2 L2) : S1 = S2 ∧ L1 = L2 := by
  induction h1 generalizing S2 L2 with
  | nil => cases h2; exact ⟨rfl, rfl⟩
  | skip h _ ih =>
    cases h2 with
    | skip _ h' => exact ih h'
    | go hn _ _ => exact absurd h hn
  | go h _ _ ih1 ih2 =>
    cases h2 with
    | skip hn _ => exact absurd hn h
    | go _ a b =>
      obtain ⟨e1, e2⟩ := ih1 a
      subst e1 e2
      exact ih2 b
theorem nodup_leN : ∀ (N : Nat) (l : List Nat), l.Nodup → (∀ x ∈ l, x < N) → l.length ≤ N
  | 0, l, _, h => by
    cases l with
    | nil => simp
    | cons a l => exact absurd (h a (by simp)) (by omega)
  | N + 1, l, hn, h => by
    have h1 := nodup_leN N (l.filter fun x => x ≠ N) (hn.sublist List.filter_sublist) (fun x hx => by
      have h2 := List.mem_filter.1 hx
      have h3 := h x h2.1
      have h4 : x ≠ N := by simpa using h2.2
      omega)
    have h2 : l.length ≤ (l.filter fun x => x ≠ N).length + 1 := by
      clear h h1
      induction l with
      | nil => simp
      | cons a l ih =>
        rw [List.nodup_cons] at hn
        by_cases e : a = N
        · subst e
          have : l.filter (fun x => x ≠ a) = l := List.filter_eq_self.2 fun x hx => by
            have : x ≠ a := fun e => by subst e; exact hn.1 hx
            simpa using this
          simp only [List.length_cons]
          rw [List.filter_cons_of_neg (by simp), this]
          exact Nat.le_refl _
        · rw [List.filter_cons_of_pos (by simpa using e)]
          have := ih hn.2
          simp only [List.length_cons]
          omega
    omega
theorem Ls.ex {nx : Nat → List Nat} {N : Nat} (hnx : ∀ p, ∀ q ∈ nx p, q < N) : ∀ (k : Nat) (ns S L : List Nat), (∀ n ∈ ns, n < N) → S.Nodup → (∀ x ∈ S, x < N) → N ≤ S.length + k → ∃ S' L', Ls nx ns S L S' L' ∧ S'.Nodup ∧ (∀ x ∈ S', x < N) ∧ S.length ≤ S'.length := by
  intro k
  induction k with
  | zero =>
    intro ns
    induction ns with
    | nil => exact fun S L _ h1 h2 _ => ⟨S, L, Ls.nil _ _, h1, h2, Nat.le_refl _⟩
    | cons n ns ih =>
      intro S L hn h1 h2 h3
      by_cases h : n ∈ S
      · obtain ⟨S', L', a, b⟩ := ih S L (fun x hx => hn x (by simp [hx])) h1 h2 h3
        exact ⟨S', L', Ls.skip h a, b⟩
      · have := nodup_leN N (S ++ [n]) (List.nodup_append.2 ⟨h1, by simp, fun a ha b hb e => by
          simp only [List.mem_singleton] at hb
          subst hb e
          exact h ha⟩) (fun x hx => by
          rcases List.mem_append.1 hx with h4 | h4
          · exact h2 x h4
          · simp only [List.mem_singleton] at h4; subst h4; exact hn _ (by simp))
        rw [List.length_append] at this
        simp at this
        omega
  | succ k ihk =>
    intro ns
    induction ns with
    | nil => exact fun S L _ h1 h2 _ => ⟨S, L, Ls.nil _ _, h1, h2, Nat.le_refl _⟩
    | cons n ns ih =>
      intro S L hn h1 h2 h3
      by_cases h : n ∈ S
      · obtain ⟨S', L', a, b⟩ := ih S L (fun x hx => hn x (by simp [hx])) h1 h2 h3
        exact ⟨S', L', Ls.skip h a, b⟩
      · obtain ⟨S1, L1, a, b, c, d⟩ := ihk (nx n) (S ++ [n]) L (hnx n) (List.nodup_append.2 ⟨h1, by simp, fun a ha b hb e => by
          simp only [List.mem_singleton] at hb
          subst hb e
          exact h ha⟩) (fun x hx => by
          rcases List.mem_append.1 hx with h4 | h4
          · exact h2 x h4
          · simp only [List.mem_singleton] at h4; subst h4; exact hn _ (by simp)) (by rw [List.length_append]; simp; omega)
        rw [List.length_append] at d
        simp at d
        obtain ⟨S', L', a', b', c', d'⟩ := ih S1 (L1 ++ [n]) (fun x hx => hn x (by simp [hx])) b c (by omega)
        exact ⟨S', L', Ls.go h a a', b', c', by omega⟩
/-- what a walk adds -/
structure LsF (nx : Nat → List Nat) (ns S S' A D : List Nat) : Prop where
  same : ∀ x, x ∈ A ↔ x ∈ D
  new : ∀ x ∈ A, x ∉ S
  nd : D.Nodup
  all : ∀ n ∈ ns, n ∈ S'
  cl : ∀ a ∈ A, ∀ q ∈ nx a, q ∈ S'
  par : ∀ n ∈ D, n ∈ ns ∨ ∃ p D1 D2, D = D1 ++ D2 ∧ n ∈ D1 ∧ p ∈ D2 ∧ n ∈ nx p
theorem Ls.facts {nx : Nat → List Nat} {ns S L S' L' : List Nat} (h : Ls nx ns S L S' L') : ∃ A D, S' = S ++ A ∧ L' = L ++ D ∧ LsF nx ns S S' A D := by
  induction h with
  | nil S L => exact ⟨[], [], by simp, by simp, by simp, by simp, by simp, by simp, by simp, by simp⟩
  | @skip n ns S L S' L' h _ ih =>
    obtain ⟨A, D, e1, e2, f⟩ := ih
    refine ⟨A, D, e1, e2, f.same, f.new, f.nd, fun x hx => ?_, f.cl, fun x hx => ?_⟩
    · rcases List.mem_cons.1 hx with hx | hx
      · subst hx; rw [e1]; exact List.mem_append_left _ h
      · exact f.all x hx
    · rcases f.par x hx with h1 | h1
      · exact Or.inl (List.mem_cons_of_mem _ h1)
      · exact Or.inr h1
  | @go n ns S L S1 L1 S' L' h _ _ ih1 ih2 =>
    obtain ⟨A1, D1, e1, e2, f1⟩ := ih1
    obtain ⟨A2, D2, e3, e4, f2⟩ := ih2
    have hsub1 : ∀ x, x ∈ S1 → x ∈ S' := fun x hx => by rw [e3]; exact List.mem_append_left _ hx
    have hn1 : n ∈ S1 := by rw [e1]; simp
    refine ⟨[n] ++ A1 ++ A2, D1 ++ [n] ++ D2, by rw [e3, e1]; simp, by rw [e4, e2]; simp, fun x => ?_, fun x hx => ?_, ?_, fun x hx => ?_, fun a ha q hq => ?_, fun x hx => ?_⟩
    · simp only [List.mem_append, List.mem_singleton, f1.same, f2.same]
      constructor
      · rintro ((a | a) | a)
        · exact Or.inl (Or.inr a)
        · exact Or.inl (Or.inl a)
        · exact Or.inr a
      · rintro ((a | a) | a)
        · exact Or.inl (Or.inr a)
        · exact Or.inl (Or.inl a)
        · exact Or.inr a
    · simp only [List.mem_append, List.mem_singleton] at hx
      rcases hx with (hx | hx) | hx
      · subst hx; exact h
      · intro h1; exact f1.new x hx (List.mem_append_left _ h1)
      · intro h1; exact f2.new x hx (by rw [e1]; exact List.mem_append_left _ (List.mem_append_left _ h1))
    · have hnD1 : n ∉ D1 := fun h1 => f1.new n ((f1.same n).2 h1) (by simp)
      have hD : ∀ x, x ∈ D2 → x ∉ S1 := fun x hx => f2.new x ((f2.same x).2 hx)
      rw [List.nodup_append, List.nodup_append]
      refine ⟨⟨f1.nd, by simp, fun a ha b hb e => ?_⟩, f2.nd, fun a ha b hb e => ?_⟩
      · simp only [List.mem_singleton] at hb; subst hb e; exact hnD1 ha
      · subst e
        apply hD a hb
        rcases List.mem_append.1 ha with h1 | h1
        · rw [e1]; exact List.mem_append_right _ ((f1.same a).2 h1)
        · simp only [List.mem_singleton] at h1; subst h1; exact hn1
    · rcases List.mem_cons.1 hx with hx | hx
      · subst hx; exact hsub1 _ hn1
      · exact f2.all x hx
    · simp only [List.mem_append, List.mem_singleton] at ha
      rcases ha with (ha | ha) | ha
      · subst ha; exact hsub1 _ (f1.all q hq)
      · exact hsub1 _ (f1.cl a ha q hq)
      · exact f2.cl a ha q hq
    · simp only [List.mem_append, List.mem_singleton] at hx
      rcases hx with (hx | hx) | hx
      · rcases f1.par x hx with h1 | ⟨p, B1, B2, e, h1, h2, h3⟩
        · exact Or.inr ⟨n, D1, [n] ++ D2, by simp, hx, by simp, h1⟩
        · exact Or.inr ⟨p, B1, B2 ++ [n] ++ D2, by rw [e]; simp, h1, by simp [h2], h3⟩
      · subst hx; exact Or.inl (by simp)
      · rcases f2.par x hx with h1 | ⟨p, B1, B2, e, h1, h2, h3⟩
        · exact Or.inl (List.mem_cons_of_mem _ h1)
        · exact Or.inr ⟨p, D1 ++ [n] ++ B1, B2, by rw [e]; simp, by simp [h1], h2, h3⟩
/-- what is left, turned about: the order -/
structure OrdL (nx : Nat → List Nat) (N : Nat) (O : List Nat) : Prop where
  hd : O[0]? = some 0
  nd : O.Nodup
  lt : ∀ x ∈ O, x < N
  mem : ∀ x, x ∈ O ↔ R0 (fun p q => q ∈ nx p) x
  par : ∀ n ∈ O, n ≠ 0 → ∃ p, n ∈ nx p ∧ O.idxOf p < O.idxOf n ∧ p ∈ O
theorem Ls.ord {nx : Nat → List Nat} {N : Nat} (hN : 0 < N) (hnx : ∀ p, ∀ q ∈ nx p, q < N) {S L : List Nat} (h : Ls nx (nx 0) [0] [] S L) : OrdL nx N (L ++ [0]).reverse := by
  obtain ⟨A, D, e1, e2, f⟩ := h.facts
  simp only [List.nil_append] at e2
  subst e2
  have h0 : (0 : Nat) ∉ L := fun h => f.new 0 ((f.same 0).2 h) (by simp)
  have hmem : ∀ x, x ∈ L ++ [0] ↔ x ∈ S := fun x => by
    rw [e1]
    simp only [List.mem_append, List.mem_singleton, f.same]
    exact Or.comm
  have hR1 : ∀ x ∈ L ++ [0], R0 (fun p q => q ∈ nx p) x := by
    -- from the back: the one behind is come to
    have key : ∀ k (x : Nat) B1 B2, L ++ [0] = B1 ++ B2 → B2.length ≤ k → x ∈ B2 → R0 (fun p q => q ∈ nx p) x := by
      intro k
      induction k with
      | zero => intro x B1 B2 _ hk hx; rw [List.length_eq_zero_iff.1 (by omega : B2.length = 0)] at hx; cases hx
      | succ k ih =>
        intro x B1 B2 e hk hx
        have hxm : x ∈ L ++ [0] := by rw [e]; exact List.mem_append_right _ hx
        rcases List.mem_append.1 hxm with h1 | h1
        · rcases f.par x h1 with h2 | ⟨p, D1, D2, e2, h2, h3, h4⟩
          · exact R0.step R0.zero h2
          · -- p stands in D2 ++ [0], which is shorter
            have hnd : (L ++ [0]).Nodup := by
              rw [List.nodup_append]
              exact ⟨f.nd, by simp, fun a ha b hb e => by simp only [List.mem_singleton] at hb; subst hb e; exact h0 ha⟩
            have e3 : D1 ++ (D2 ++ [0]) = B1 ++ B2 := by rw [← e, e2]; simp
            have hlen : (D2 ++ [0]).length < B2.length := by
              rcases Nat.lt_or_ge (D2 ++ [0]).length B2.length with h5 | h5
              · exact h5
              · exfalso
                have e4 := congrArg (List.drop D1.length) e3
                have hle : D1.length ≤ B1.length := by
                  have := congrArg List.length e3
                  simp only [List.length_append] at this h5
                  simp at this h5
                  omega
                have hx1 : x ∈ B1 := by
                  have e5 := congrArg (List.take D1.length) e3
                  rw [List.take_append_of_le_length (Nat.le_refl _), List.take_length, List.take_append_of_le_length hle] at e5
                  exact List.mem_of_mem_take (by rw [← e5]; exact h2)
                rw [e, List.nodup_append] at hnd
                exact hnd.2.2 x hx1 x hx rfl
            exact R0.step (ih p D1 (D2 ++ [0]) (by rw [e2]; simp) (by omega) (List.mem_append_left _ h3)) h4
        · simp only [List.mem_singleton] at h1; subst h1; exact R0.zero
    exact fun x hx => key _ x [] (L ++ [0]) rfl (Nat.le_refl _) hx
  have hR2 : ∀ x, R0 (fun p q => q ∈ nx p) x → x ∈ S := fun x hx => by
    induction hx with
    | zero => rw [e1]; simp
    | @step p q _ he ih =>
      rw [e1] at ih
      rcases List.mem_append.1 ih with h1 | h1
      · simp only [List.mem_singleton] at h1; subst h1; exact f.all q he
      · exact f.cl p h1 q he
  have hnd : (L ++ [0]).Nodup := by
    rw [List.nodup_append]
    exact ⟨f.nd, by simp, fun a ha b hb e => by simp only [List.mem_singleton] at hb; subst hb e; exact h0 ha⟩
  refine ⟨by simp, (by rw [List.Nodup, List.pairwise_reverse]; exact hnd.imp fun h => Ne.symm h), fun x hx => ?_, fun x => ?_, fun n hn hn0 => ?_⟩
  · have hr := hR1 x (List.mem_reverse.1 hx)
    cases hr with
    | zero => exact hN
    | step _ h => exact hnx _ _ h
  · rw [List.mem_reverse]
    exact ⟨hR1 x, fun h => (hmem x).2 (hR2 x h)⟩
  · have hnL : n ∈ L := by
      rcases List.mem_append.1 (List.mem_reverse.1 hn) with h1 | h1
      · exact h1
      · simp only [List.mem_singleton] at h1; exact absurd h1 hn0
    obtain ⟨p, B1, B2, e, h1, h2, h3⟩ : ∃ p B1 B2, L ++ [0] = B1 ++ B2 ∧ n ∈ B1 ∧ p ∈ B2 ∧ n ∈ nx p := by
      rcases f.par n hnL with h2 | ⟨p, D1, D2, e, h1, h2, h3⟩
      · exact ⟨0, L, [0], rfl, hnL, by simp, h2⟩
      · exact ⟨p, D1, D2 ++ [0], by rw [e]; simp, h1, by simp [h2], h3⟩
    have hnB : n ∉ B2 := fun h4 => by
      rw [e, List.nodup_append] at hnd
      exact hnd.2.2 n h1 n h4 rfl
    refine ⟨p, h3, ?_, ?_⟩
    · rw [e, List.reverse_append, List.idxOf_append, List.idxOf_append, if_pos (List.mem_reverse.2 h2), if_neg (fun h => hnB (List.mem_reverse.1 h))]
      have := List.idxOf_lt_length_iff.2 (List.mem_reverse.2 h2)
      omega
    · rw [List.mem_reverse, e]; exact List.mem_append_right _ h2
theorem OrdL.ord {nx : Nat → List Nat} {N : Nat} {O : List Nat} (h : OrdL nx N O) : Ord (fun p q => q ∈ nx p) (fun n => O.idxOf n) := by
  have h0 : (0 : Nat) ∈ O := List.mem_of_getElem? h.hd
  refine ⟨fun a b ha hb e => ?_, ?_, fun n hn hn0 => ?_⟩
  · have h1 := List.idxOf_lt_length_iff.2 ((h.mem a).2 ha)
    have h2 := List.idxOf_lt_length_iff.2 ((h.mem b).2 hb)
    have e1 := List.getElem_idxOf h1
    have e2 := List.getElem_idxOf h2
    have e : O.idxOf a = O.idxOf b := e
    rw [← e1, ← e2]
    congr 1
  · cases O with
    | nil => cases h0
    | cons a O =>
      have := h.hd
      simp only [List.getElem?_cons_zero, Option.some.injEq] at this
      subst this
      simp
  · obtain ⟨p, h1, h2, h3⟩ := h.par n ((h.mem n).2 hn) hn0
    exact ⟨p, (h.mem p).1 h3, h1, h2⟩
theorem OrdL.pl_at {nx : Nat → List Nat} {N : Nat} {O : List Nat} (h : OrdL nx N O) {k n : Nat} (hk : O[k]? = some n) : O.idxOf n = k := by
  obtain ⟨hk1, e⟩ := List.getElem?_eq_some_iff.1 hk
  subst e
  exact List.Nodup.idxOf_getElem h.nd k hk1
/-- what a loop with a stack still has to do -/
inductive Rn (nx : Nat → List Nat) : List (Nat × Nat) → List Nat → List Nat → List Nat → List Nat → Prop
  | nil (S L : List Nat) : Rn nx [] S L S L
  | cons {at_ j : Nat} {T : List (Nat × Nat)} {S L S1 L1 S' L' : List Nat} (h1 : Ls nx ((nx at_).drop j) S L S1 L1) (h2 : Rn nx T S1 (L1 ++ [at_]) S' L') : Rn nx ((at_, j) :: T) S L S' L'
theorem Rn.skip {nx : Nat → List Nat} {p j n : Nat} {T : List (Nat × Nat)} {S L S' L' : List Nat} (h : Rn nx ((p, j) :: T) S L S' L') (hn : (nx p)[j]? = some n) (hS : n ∈ S) : Rn nx ((p, j + 1) :: T) S L S' L' := by
  cases h with
  | cons h1 h2 =>
    obtain ⟨hj, e⟩ := List.getElem?_eq_some_iff.1 hn
    rw [List.drop_eq_getElem_cons hj, e] at h1
    cases h1 with
    | skip _ h3 => exact Rn.cons h3 h2
    | go h3 => exact absurd hS h3
theorem Rn.push {nx : Nat → List Nat} {p j n : Nat} {T : List (Nat × Nat)} {S L S' L' : List Nat} (h : Rn nx ((p, j) :: T) S L S' L') (hn : (nx p)[j]? = some n) (hS : n ∉ S) : Rn nx ((n, 0) :: (p, j + 1) :: T) (S ++ [n]) L S' L' := by
  cases h with
  | cons h1 h2 =>
    obtain ⟨hj, e⟩ := List.getElem?_eq_some_iff.1 hn
    rw [List.drop_eq_getElem_cons hj, e] at h1
    cases h1 with
    | skip h3 _ => exact absurd h3 hS
    | go _ h3 h4 => exact Rn.cons (by simpa using h3) (Rn.cons h4 h2)
theorem Rn.pop {nx : Nat → List Nat} {p j : Nat} {T : List (Nat × Nat)} {S L S' L' : List Nat} (h : Rn nx ((p, j) :: T) S L S' L') (hn : (nx p).length ≤ j) : Rn nx T S (L ++ [p]) S' L' := by
  cases h with
  | cons h1 h2 =>
    rw [List.drop_eq_nil_of_le hn] at h1
    cases h1
    exact h2
end Go.Proofs.Ytgdbkoncaojmoaa
