import Derived.Test.YtgdbkoncaojmoaaDb
import Derived.Test.YtgdbkoncaojmoaaZl
/- LOOPS (plain); edges of a function's instructions. -/
namespace Go.Proofs.Ytgdbkoncaojmoaa

/-- a way from a, h never entered -/
inductive Wf (E : Nat → Nat → Prop) (h a : Nat) : Nat → Prop
  | zero : Wf E h a a
  | step {p q : Nat} (hr : Wf E h a p) (he : E p q) (hne : q ≠ h) : Wf E h a q
theorem Wf.front {E : Nat → Nat → Prop} {h a b e : Nat} (he : E a b) (hb : b ≠ h) (hw : Wf E h b e) : Wf E h a e := by
  induction hw with
  | zero => exact Wf.step Wf.zero he hb
  | step _ h1 h2 ih => exact Wf.step ih h1 h2
theorem Wf.r0 {E : Nat → Nat → Prop} {h a b : Nat} (ha : R0 E a) (hw : Wf E h a b) : R0 E b := by
  induction hw with
  | zero => exact ha
  | step _ h1 _ ih => exact R0.step ih h1
theorem Wf.av {E : Nat → Nat → Prop} {h a b : Nat} (ha : Av E h a) (hw : Wf E h a b) : Av E h b := by
  induction hw with
  | zero => exact ha
  | step _ h1 h2 ih => exact Av.step ih h1 h2
/-- where a back edge to h begins -/
def Bk (E : Nat → Nat → Prop) (h e : Nat) : Prop := R0 E e ∧ E e h ∧ Dom E h e
/-- is one in h's loop? -/
def InL (E : Nat → Nat → Prop) (h n : Nat) : Prop := n = h ∨ (n ≠ h ∧ R0 E n ∧ ∃ e, Bk E h e ∧ Wf E h n e)
theorem InL.dom {E : Nat → Nat → Prop} {h n : Nat} (hh : R0 E h) (hl : InL E h n) : Dom E h n := by
  rcases hl with rfl | ⟨hne, hr, e, hb, hw⟩
  · exact Dom.refl hh
  · exact ⟨hr, fun hv => hb.2.2.2 (hw.av hv)⟩
theorem Bk.inL {E : Nat → Nat → Prop} {h e : Nat} (hb : Bk E h e) : InL E h e := by
  by_cases he : e = h
  · exact Or.inl he
  · exact Or.inr ⟨he, hb.1, e, hb, Wf.zero⟩
/-- the search backwards: what is in, what is to do, how often each was come to -/
structure Srch (E : Nat → Nat → Prop) (N h : Nat) (V T : List Nat) (cnt : Nat → Nat) : Prop where
  vh : V[0]? = some h
  nd : V.Nodup
  lt : ∀ x ∈ V, x < N
  cn : ∀ x, x ∈ V ↔ (0 < cnt x ∧ R0 E x)
  vi : ∀ x ∈ V, InL E h x
  td : ∀ t ∈ T, t < N ∧ (t = h ∨ ∃ e, Bk E h e ∧ Wf E h t e)
  en : ∀ e, Bk E h e → e ∈ V ∨ e ∈ T
  cl : ∀ x ∈ V, x ≠ h → ∀ p, E p x → R0 E p → p ∈ V ∨ p ∈ T
def oneAt (h : Nat) (x : Nat) : Nat := if x = h then 1 else 0
def bump (cnt : Nat → Nat) (n x : Nat) : Nat := if x = n then cnt n + 1 else cnt x
theorem Srch.start {E : Nat → Nat → Prop} {N h : Nat} (hh : R0 E h) (hN : h < N) {T : List Nat} (hT : ∀ t, t ∈ T ↔ Bk E h t) (hb : ∀ t ∈ T, t < N) : Srch E N h [h] T (oneAt h) := by
  refine ⟨rfl, by simp, fun x hx => ?_, fun x => ?_, fun x hx => ?_, fun t ht => ⟨hb t ht, Or.inr ⟨t, (hT t).1 ht, Wf.zero⟩⟩, fun e he => Or.inr ((hT e).2 he), fun x hx hne => ?_⟩
  · simp only [List.mem_singleton] at hx; subst hx; exact hN
  · unfold oneAt
    by_cases e : x = h
    · subst e; simp [hh]
    · simp [e]
  · simp only [List.mem_singleton] at hx; exact Or.inl hx
  · simp only [List.mem_singleton] at hx; exact absurd hx hne
theorem Srch.skip {E : Nat → Nat → Prop} {N h n : Nat} {V T : List Nat} {cnt : Nat → Nat} (s : Srch E N h V (n :: T) cnt) (hn : 0 < cnt n ∨ ¬ R0 E n) : Srch E N h V T (bump cnt n) := by
  have hin : R0 E n → n ∈ V := fun hr => (s.cn n).2 ⟨hn.resolve_right (fun g => g hr), hr⟩
  refine ⟨s.vh, s.nd, s.lt, fun x => ?_, s.vi, fun t ht => s.td t (List.mem_cons_of_mem _ ht), fun e he => ?_, fun x hx hne p hp hr => ?_⟩
  · rw [s.cn x]
    unfold bump
    by_cases e : x = n
    · subst e
      rw [if_pos rfl]
      exact ⟨fun ⟨_, g⟩ => ⟨Nat.succ_pos _, g⟩, fun ⟨_, g⟩ => ⟨hn.resolve_right (fun k => k g), g⟩⟩
    · simp [e]
  · rcases s.en e he with h1 | h1
    · exact Or.inl h1
    · rcases List.mem_cons.1 h1 with h2 | h2
      · subst h2; exact Or.inl (hin he.1)
      · exact Or.inr h2
  · rcases s.cl x hx hne p hp hr with h1 | h1
    · exact Or.inl h1
    · rcases List.mem_cons.1 h1 with h2 | h2
      · subst h2; exact Or.inl (hin hr)
      · exact Or.inr h2
theorem Srch.visit {E : Nat → Nat → Prop} {N h n : Nat} {V T B : List Nat} {cnt : Nat → Nat} (s : Srch E N h V (n :: T) cnt) (hn : cnt n = 0) (hr : R0 E n) (hB : ∀ p, p ∈ B ↔ (p < N ∧ E p n)) (hE : ∀ p q, E p q → p < N) : Srch E N h (V ++ [n]) (T ++ B) (bump cnt n) := by
  have hnV : n ∉ V := fun hx => by have := ((s.cn n).1 hx).1; omega
  have hnh : n ≠ h := fun e => by subst e; exact hnV (List.mem_of_getElem? s.vh)
  have htd := s.td n (by simp)
  obtain ⟨e, he, hw⟩ := htd.2.resolve_left hnh
  have hl : 0 < V.length := by have := (List.getElem?_eq_some_iff.1 s.vh).1; omega
  refine ⟨by rw [List.getElem?_append_left hl]; exact s.vh, ?_, fun x hx => ?_, fun x => ?_, fun x hx => ?_, fun t ht => ?_, fun e he => ?_, fun x hx hne p hp hrp => ?_⟩
  · rw [List.nodup_append]
    exact ⟨s.nd, by simp, fun a ha b hb e => by simp only [List.mem_singleton] at hb; subst hb e; exact hnV ha⟩
  · rcases List.mem_append.1 hx with h1 | h1
    · exact s.lt x h1
    · simp only [List.mem_singleton] at h1; subst h1; exact htd.1
  · rw [List.mem_append, List.mem_singleton, s.cn x]
    unfold bump
    by_cases e : x = n
    · subst e
      simp [hr]
    · simp [e]
  · rcases List.mem_append.1 hx with h1 | h1
    · exact s.vi x h1
    · simp only [List.mem_singleton] at h1; subst h1; exact Or.inr ⟨hnh, hr, e, he, hw⟩
  · rcases List.mem_append.1 ht with h1 | h1
    · exact s.td t (List.mem_cons_of_mem _ h1)
    · obtain ⟨h2, h3⟩ := (hB t).1 h1
      exact ⟨h2, Or.inr ⟨e, he, hw.front h3 hnh⟩⟩
  · rcases s.en e he with h1 | h1
    · exact Or.inl (List.mem_append_left _ h1)
    · rcases List.mem_cons.1 h1 with h2 | h2
      · subst h2; exact Or.inl (by simp)
      · exact Or.inr (List.mem_append_left _ h2)
  · rcases List.mem_append.1 hx with h1 | h1
    · rcases s.cl x h1 hne p hp hrp with h2 | h2
      · exact Or.inl (List.mem_append_left _ h2)
      · rcases List.mem_cons.1 h2 with h3 | h3
        · subst h3; exact Or.inl (by simp)
        · exact Or.inr (List.mem_append_left _ h3)
    · simp only [List.mem_singleton] at h1
      subst h1
      exact Or.inr (List.mem_append_right _ ((hB p).2 ⟨hE p x hp, hp⟩))
theorem Srch.done {E : Nat → Nat → Prop} {N h : Nat} {V : List Nat} {cnt : Nat → Nat} (s : Srch E N h V [] cnt) (n : Nat) : n ∈ V ↔ InL E h n := by
  refine ⟨s.vi n, fun hl => ?_⟩
  rcases hl with rfl | ⟨hne, hr, e, he, hw⟩
  · exact List.mem_of_getElem? s.vh
  · have heV : e ∈ V := (s.en e he).resolve_right (by simp)
    have key : ∀ q, Wf E h n q → q ∈ V → q ≠ h → n ∈ V := fun q hq => by
      induction hq with
      | zero => exact fun g _ => g
      | @step p q hr' h1 h2 ih =>
        intro hq hqh
        have hpr := hr'.r0 hr
        have hp : p ∈ V := (s.cl q hq hqh p h1 hpr).resolve_right (by simp)
        refine ih hp ?_
        cases hr' with
        | zero => exact hne
        | step _ _ g => exact g
    refine key e hw heV ?_
    cases hw with
    | zero => exact hne
    | step _ _ g => exact g
theorem Srch.len {E : Nat → Nat → Prop} {N h : Nat} {V T : List Nat} {cnt : Nat → Nat} (s : Srch E N h V T cnt) : V.length ≤ N := nodup_leN N V s.nd s.lt
/-- strictly rising lists of the same numbers -/
theorem rise_eq {α : Type} {r : α → α → Prop} (hirr : ∀ a, ¬ r a a) (hasym : ∀ a b, r a b → ¬ r b a) : ∀ {l l' : List α}, l.Pairwise r → l'.Pairwise r → (∀ x, x ∈ l ↔ x ∈ l') → l = l'
  | [], [], _, _, _ => rfl
  | [], b :: l', _, _, h => absurd ((h b).2 (by simp)) (by simp)
  | a :: l, [], _, _, h => absurd ((h a).1 (by simp)) (by simp)
  | a :: l, b :: l', h1, h2, h => by
    rw [List.pairwise_cons] at h1 h2
    have e : a = b := by
      rcases List.mem_cons.1 ((h a).1 (by simp)) with e | e
      · exact e
      · rcases List.mem_cons.1 ((h b).2 (by simp)) with e2 | e2
        · exact e2.symm
        · exact absurd (h1.1 b e2) (hasym _ _ (h2.1 a e))
    subst e
    have := rise_eq hirr hasym h1.2 h2.2 (fun x => by
      constructor
      · intro hx
        rcases List.mem_cons.1 ((h x).1 (List.mem_cons_of_mem _ hx)) with e | e
        · subst e; exact absurd (h1.1 x hx) (hirr x)
        · exact e
      · intro hx
        rcases List.mem_cons.1 ((h x).2 (List.mem_cons_of_mem _ hx)) with e | e
        · subst e; exact absurd (h2.1 x hx) (hirr x)
        · exact e)
    rw [this]
/-- numbers below N of which something holds, as ints, in order -/
noncomputable def upL (N : Nat) (P : Nat → Prop) : List Int := ((List.range N).filter fun n => tb (P n)).map fun n : Nat => (n : Int)
theorem upL_mem {N : Nat} {P : Nat → Prop} {x : Int} : x ∈ upL N P ↔ ∃ n : Nat, x = n ∧ n < N ∧ P n := by
  unfold upL
  rw [List.mem_map]
  constructor
  · rintro ⟨n, h, rfl⟩
    rw [List.mem_filter, List.mem_range, tb_true] at h
    exact ⟨n, rfl, h⟩
  · rintro ⟨n, rfl, h⟩
    exact ⟨n, by rw [List.mem_filter, List.mem_range, tb_true]; exact h, rfl⟩
theorem upL_succ (N : Nat) (P : Nat → Prop) : upL (N + 1) P = upL N P ++ (if tb (P N) = true then [(N : Int)] else []) := by
  unfold upL
  rw [List.range_succ, List.filter_append, List.map_append]
  congr 1
  cases h : tb (P N) <;> simp [h]
theorem upL_zero (P : Nat → Prop) : upL 0 P = [] := rfl
theorem upL_rise (N : Nat) (P : Nat → Prop) : (upL N P).Pairwise (· < ·) := by
  unfold upL
  rw [List.pairwise_map]
  exact (List.Pairwise.filter _ List.pairwise_lt_range).imp fun h => by omega
theorem upL_len (N : Nat) (P : Nat → Prop) : (upL N P).length ≤ N := by
  unfold upL
  rw [List.length_map]
  have := List.length_filter_le (fun n => tb (P n)) (List.range N)
  rwa [List.length_range] at this
theorem upL_uniq {N : Nat} {P : Nat → Prop} {l : List Int} (h : l.Pairwise (· < ·)) (hm : ∀ x, x ∈ l ↔ ∃ n : Nat, x = n ∧ n < N ∧ P n) : l = upL N P :=
  rise_eq (fun a => Int.lt_irrefl a) (fun a _ h1 h2 => absurd (Int.lt_trans h1 h2) (Int.lt_irrefl a)) h (upL_rise N P) fun x => (hm x).trans upL_mem.symm
theorem upL_congr {N : Nat} {P Q : Nat → Prop} (h : ∀ n, n < N → (P n ↔ Q n)) : upL N P = upL N Q := by
  unfold upL
  congr 1
  apply List.filter_congr
  intro n hn
  rw [Bool.eq_iff_iff, tb_true, tb_true]
  exact h n (List.mem_range.1 hn)
/-- where an instruction goes on -/
def nxN (l : List Ins) (p : Nat) : List Nat := match l[p]? with | some i => (i.next p).map Int.toNat | none => []
def Eg (l : List Ins) (p q : Nat) : Prop := q ∈ nxN l p
theorem nxN_int {f : Fn7} (hf : OkF f) {p : Nat} {i : Ins} (hi : f.code[p]? = some i) : i.next p = (nxN f.code p).map fun n : Nat => (n : Int) := by
  unfold nxN
  rw [hi]
  simp only [List.map_map]
  conv => lhs; rw [← List.map_id (i.next p)]
  apply List.map_congr_left
  intro n hn
  have := (hf.next hi n hn).1
  simp only [id_eq, Function.comp_apply]
  omega
theorem Eg.lt {f : Fn7} (hf : OkF f) {p q : Nat} (h : Eg f.code p q) : q < f.code.length := by
  unfold Eg nxN at h
  cases hi : f.code[p]? with
  | none => rw [hi] at h; cases h
  | some i =>
    rw [hi] at h
    simp only at h
    obtain ⟨n, hn, rfl⟩ := List.mem_map.1 h
    exact (hf.next hi n hn).2
theorem Eg.lt1 {l : List Ins} {p q : Nat} (h : Eg l p q) : p < l.length := by
  unfold Eg nxN at h
  cases hi : l[p]? with
  | none => rw [hi] at h; cases h
  | some i => exact (List.getElem?_eq_some_iff.1 hi).1
theorem Eg_iff {f : Fn7} (hf : OkF f) {p q : Nat} {i : Ins} (hi : f.code[p]? = some i) : (q : Int) ∈ i.next p ↔ Eg f.code p q := by
  rw [nxN_int hf hi]
  unfold Eg
  rw [List.mem_map]
  constructor
  · rintro ⟨n, hn, e⟩
    have : n = q := by omega
    subst this
    exact hn
  · exact fun h => ⟨q, h, rfl⟩
theorem Rch_r0 {f : Fn7} (hf : OkF f) {p : Nat} : Rch f.code p ↔ R0 (Eg f.code) p := by
  constructor
  · intro h
    induction h with
    | zero => exact R0.zero
    | @step p i n hr h hn ih =>
      refine R0.step ih ((Eg_iff hf h).1 ?_)
      have := (hf.next h n hn).1
      rwa [Int.toNat_of_nonneg this]
  · intro h
    induction h with
    | zero => exact Rch.zero (by have := hf.len; omega)
    | @step p q hr he ih =>
      obtain ⟨i, hi⟩ : ∃ i, f.code[p]? = some i := ⟨_, List.getElem?_eq_getElem he.lt1⟩
      have := Rch.step ih hi ((Eg_iff hf hi).2 he)
      simpa using this
theorem WR_av {f : Fn7} (hf : OkF f) {a p : Nat} (ha : a ≠ 0) : WR f.code 0 (a : Int) p ↔ Av (Eg f.code) a p := by
  constructor
  · intro h
    induction h with
    | zero => exact Av.zero (Ne.symm ha)
    | @step p i n hr h hn hne ih =>
      have h0 := (hf.next h n hn).1
      refine Av.step ih ((Eg_iff hf h).1 (by rwa [Int.toNat_of_nonneg h0])) (fun e => hne (by omega))
  · intro h
    induction h with
    | zero => exact WR.zero
    | @step p q hr he hne ih =>
      obtain ⟨i, hi⟩ : ∃ i, f.code[p]? = some i := ⟨_, List.getElem?_eq_getElem he.lt1⟩
      have := WR.step ih hi ((Eg_iff hf hi).2 he) (by omega)
      simpa using this
theorem WR_wf {f : Fn7} (hf : OkF f) {h n e : Nat} : WR f.code n (h : Int) e ↔ Wf (Eg f.code) h n e := by
  constructor
  · intro hw
    induction hw with
    | zero => exact Wf.zero
    | @step p i n hr h hn hne ih =>
      have h0 := (hf.next h n hn).1
      refine Wf.step ih ((Eg_iff hf h).1 (by rwa [Int.toNat_of_nonneg h0])) (fun e => hne (by omega))
  · intro hw
    induction hw with
    | zero => exact WR.zero
    | @step p q hr he hne ih =>
      obtain ⟨i, hi⟩ : ∃ i, f.code[p]? = some i := ⟨_, List.getElem?_eq_getElem he.lt1⟩
      have := WR.step ih hi ((Eg_iff hf hi).2 he) (by omega)
      simpa using this
/-- the function's order -/
theorem ord_of {f : Fn7} (hf : OkF f) : ∃ O, OrdL (nxN f.code) f.code.length O ∧ ∃ S L, Ls (nxN f.code) (nxN f.code 0) [0] [] S L ∧ O = (L ++ [0]).reverse := by
  have hl := hf.len
  have hnx : ∀ p, ∀ q ∈ nxN f.code p, q < f.code.length := fun p q hq => Eg.lt hf hq
  obtain ⟨S, L, h1, _⟩ := Ls.ex hnx f.code.length (nxN f.code 0) [0] [] (hnx 0) (by simp) (fun x hx => by simp only [List.mem_singleton] at hx; subst hx; omega) (by omega)
  exact ⟨_, h1.ord (by omega) hnx, S, L, h1, rfl⟩
end Go.Proofs.Ytgdbkoncaojmoaa
