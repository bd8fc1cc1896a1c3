import Derived.Test.YtgdbkoncaojmoaaZj
/- DOMINATORS (plain): chains, what a meet is, what a pass keeps. -/
namespace Go.Proofs.Ytgdbkoncaojmoaa

/-- what is come to from 0, a never entered -/
inductive Av (E : Nat → Nat → Prop) (a : Nat) : Nat → Prop
  | zero (h : 0 ≠ a) : Av E a 0
  | step {p q : Nat} (hr : Av E a p) (h : E p q) (hne : q ≠ a) : Av E a q
theorem Av.ne {E : Nat → Nat → Prop} {a b : Nat} (h : Av E a b) : b ≠ a := by
  cases h with
  | zero h => exact h
  | step _ _ h => exact h
/-- what is come to from 0 -/
inductive R0 (E : Nat → Nat → Prop) : Nat → Prop
  | zero : R0 E 0
  | step {p q : Nat} (hr : R0 E p) (h : E p q) : R0 E q
theorem Av.r0 {E : Nat → Nat → Prop} {a b : Nat} (h : Av E a b) : R0 E b := by
  induction h with
  | zero => exact R0.zero
  | step _ h _ ih => exact R0.step ih h
def Dom (E : Nat → Nat → Prop) (a b : Nat) : Prop := R0 E b ∧ ¬ Av E a b
theorem Dom.left {E : Nat → Nat → Prop} {a b : Nat} (h : Dom E a b) : R0 E a := by
  have key : ∀ {b : Nat}, R0 E b → Av E a b ∨ R0 E a := fun hb => by
    induction hb with
    | zero =>
      by_cases h0 : 0 = a
      · subst h0; exact Or.inr R0.zero
      · exact Or.inl (Av.zero h0)
    | @step p q hr he ih =>
      by_cases hq : q = a
      · subst hq; exact Or.inr (R0.step hr he)
      · rcases ih with ih | ih
        · exact Or.inl (Av.step ih he hq)
        · exact Or.inr ih
  exact (key h.1).resolve_left h.2
theorem Dom.refl {E : Nat → Nat → Prop} {a : Nat} (h : R0 E a) : Dom E a a := ⟨h, fun h => h.ne rfl⟩
theorem Dom.zero {E : Nat → Nat → Prop} {a : Nat} (h : R0 E a) : Dom E 0 a := ⟨h, fun hv => by
  clear h
  induction hv with
  | zero h => exact h rfl
  | step _ _ _ ih => exact ih⟩
theorem Dom.pre {E : Nat → Nat → Prop} {a p q : Nat} (h : Dom E a q) (he : E p q) (hp : R0 E p) (hne : a ≠ q) : Dom E a p := ⟨hp, fun hv => h.2 (Av.step hv he (Ne.symm hne))⟩
/-- chains -/
inductive Ch (up : Nat → Option Nat) : Nat → Nat → Prop
  | refl (n : Nat) : Ch up n n
  | step {n m z : Nat} (h0 : n ≠ 0) (h : up n = some m) (hc : Ch up m z) : Ch up n z
theorem Ch.zero {up : Nat → Option Nat} {z : Nat} (h : Ch up 0 z) : z = 0 := by
  cases h with
  | refl => rfl
  | step h0 => exact absurd rfl h0
theorem Ch.trans {up : Nat → Option Nat} {a b c : Nat} (h1 : Ch up a b) (h2 : Ch up b c) : Ch up a c := by
  induction h1 with
  | refl => exact h2
  | step h0 h _ ih => exact Ch.step h0 h (ih h2)
theorem Ch.tail {up : Nat → Option Nat} {a m z : Nat} (h : Ch up a z) (hu : up a = some m) (hne : z ≠ a) : Ch up m z := by
  cases h with
  | refl => exact absurd rfl hne
  | step h0 h hc => rw [hu] at h; injection h with h; subst h; exact hc
/-- two on one chain -/
theorem Ch.line {up : Nat → Option Nat} {x a b : Nat} (h1 : Ch up x a) (h2 : Ch up x b) : Ch up a b ∨ Ch up b a := by
  induction h1 with
  | refl => exact Or.inl h2
  | @step n m z h0 h hc ih =>
    cases h2 with
    | refl => exact Or.inr (Ch.step h0 h hc)
    | step h0' h' hc' => rw [h] at h'; injection h' with h'; subst h'; exact ih hc'
def setU (up : Nat → Option Nat) (n m : Nat) : Nat → Option Nat := fun x => if x = n then some m else up x
theorem setU_at (up : Nat → Option Nat) (n m : Nat) : setU up n m n = some m := by simp [setU]
theorem setU_ne {up : Nat → Option Nat} {n m x : Nat} (h : x ≠ n) : setU up n m x = up x := by simp [setU, h]
/-- where all stand -/
structure Tree (E : Nat → Nat → Prop) (pl : Nat → Nat) (up : Nat → Option Nat) : Prop where
  z : up 0 = some 0
  down : ∀ n m, n ≠ 0 → up n = some m → R0 E n ∧ pl m < pl n ∧ up m ≠ none
theorem Tree.le {E : Nat → Nat → Prop} {pl : Nat → Nat} {up : Nat → Option Nat} (h : Tree E pl up) {n z : Nat} (hc : Ch up n z) : pl z ≤ pl n := by
  induction hc with
  | refl => exact Nat.le_refl _
  | step h0 hu _ ih => have := (h.down _ _ h0 hu).2.1; omega
theorem Tree.some {E : Nat → Nat → Prop} {pl : Nat → Nat} {up : Nat → Option Nat} (h : Tree E pl up) {n z : Nat} (hc : Ch up n z) (hn : up n ≠ none) : up z ≠ none := by
  induction hc with
  | refl => exact hn
  | step h0 hu _ ih => exact ih (h.down _ _ h0 hu).2.2
theorem Tree.same {E : Nat → Nat → Prop} {pl : Nat → Nat} {up : Nat → Option Nat} (h : Tree E pl up) {n z : Nat} (h1 : Ch up n z) (h2 : pl n ≤ pl z) : z = n := by
  cases h1 with
  | refl => rfl
  | step h0 hu hc => have := (h.down _ _ h0 hu).2.1; have := h.le hc; omega
/-- the chains' common part -/
def Meet (E : Nat → Nat → Prop) (up : Nat → Option Nat) (n m : Nat) : Prop := ∀ z, Ch up m z ↔ ∀ p, E p n → up p ≠ none → Ch up p z
/-- what a pass keeps at place t -/
structure Psd (E : Nat → Nat → Prop) (pl : Nat → Nat) (up : Nat → Option Nat) (t : Nat) : Prop where
  tr : Tree E pl up
  r : ∀ n, up n ≠ none → R0 E n
  dom : ∀ n a, up n ≠ none → Dom E a n → Ch up n a
  low : ∀ n m, n ≠ 0 → up n = some m → ∀ z, (∀ p, E p n → up p ≠ none → Ch up p z) → Ch up m z
  fw : ∀ n p, up n ≠ none → R0 E p → E p n → pl p < pl n → up p ≠ none
  k : ∀ n m p, n ≠ 0 → up n = some m → E p n → R0 E p → pl p < pl n → ∀ z, Ch up m z → t ≤ pl z ∨ pl n < t → Ch up p z
  seen : ∀ p, R0 E p → pl p < t → up p ≠ none
/-- what the order is good for -/
structure Ord (E : Nat → Nat → Prop) (pl : Nat → Nat) : Prop where
  inj : ∀ a b, R0 E a → R0 E b → pl a = pl b → a = b
  z : pl 0 = 0
  par : ∀ n, R0 E n → n ≠ 0 → ∃ p, R0 E p ∧ E p n ∧ pl p < pl n
section upd
variable {E : Nat → Nat → Prop} {pl : Nat → Nat} {up : Nat → Option Nat} {n m : Nat}
theorem upd_low (hT : Tree E pl up) (hm : pl m < pl n) (hold : ∀ m0, up n = some m0 → Ch up m0 m) (hnone : up n = none → ∀ x, up x ≠ none → ¬ Ch up x n) {x z : Nat} (h : Ch (setU up n m) x z) (hx : up x ≠ none) : Ch up x z := by
  induction h with
  | refl => exact Ch.refl _
  | @step x y z h0 hu hc ih =>
    by_cases hxn : x = n
    · subst hxn
      rw [setU_at] at hu
      injection hu with hu
      subst hu
      cases hux : up x with
      | none => exact absurd hux hx
      | some m0 =>
        have h1 := hold m0 hux
        exact Ch.step h0 hux (h1.trans (ih (hT.some h1 (hT.down _ _ h0 hux).2.2)))
    · rw [setU_ne hxn] at hu
      exact Ch.step h0 hu (ih (hT.down _ _ h0 hu).2.2)
theorem upd_far {x z : Nat} (hx : ¬ Ch up x n) (h : Ch up x z) : Ch (setU up n m) x z := by
  induction h with
  | refl => exact Ch.refl _
  | @step x y z h0 hu hc ih =>
    have hxn : x ≠ n := fun e => by subst e; exact hx (Ch.refl _)
    exact Ch.step h0 (by rw [setU_ne hxn]; exact hu) (ih fun h => hx (Ch.step h0 hu h))
theorem upd_far' {x z : Nat} (hx : ¬ Ch up x n) (h : Ch (setU up n m) x z) : Ch up x z := by
  induction h with
  | refl => exact Ch.refl _
  | @step x y z h0 hu hc ih =>
    have hxn : x ≠ n := fun e => by subst e; exact hx (Ch.refl _)
    rw [setU_ne hxn] at hu
    exact Ch.step h0 hu (ih fun h => hx (Ch.step h0 hu h))
theorem upd_mid (hT : Tree E pl up) {x z : Nat} (h : Ch up x z) (hz : Ch up z n) : Ch (setU up n m) x z := by
  induction h with
  | refl => exact Ch.refl _
  | @step x y z h0 hu hc ih =>
    by_cases hxn : x = n
    · subst hxn
      have := hT.same (Ch.step h0 hu hc) (hT.le hz)
      subst this
      exact Ch.refl _
    · exact Ch.step h0 (by rw [setU_ne hxn]; exact hu) (ih hz)
theorem not_low (hT : Tree E pl up) (hm : pl m < pl n) : ¬ Ch up m n := fun h => by have := hT.le h; omega
theorem upd_end (hT : Tree E pl up) (hn : n ≠ 0) (hm : pl m < pl n) {x z : Nat} (hx : Ch up x n) (hz : Ch up m z) : Ch (setU up n m) x z :=
  (upd_mid hT hx (Ch.refl _)).trans (Ch.step hn (setU_at _ _ _) (upd_far (not_low hT hm) hz))
theorem upd_from (hT : Tree E pl up) (hm : pl m < pl n) {x z : Nat} (hx : Ch up x n) (h : Ch (setU up n m) x z) : Ch up z n ∨ Ch up m z := by
  induction h with
  | refl => exact Or.inl hx
  | @step x y z h0 hu hc ih =>
    by_cases hxn : x = n
    · subst hxn
      rw [setU_at] at hu
      injection hu with hu
      subst hu
      exact Or.inr (upd_far' (not_low hT hm) hc)
    · rw [setU_ne hxn] at hu
      exact ih (hx.tail hu (Ne.symm hxn))
end upd
/-- from n along the order's parents, past what stands higher -/
theorem Psd.way {E : Nat → Nat → Prop} {pl : Nat → Nat} {up : Nat → Option Nat} {t : Nat} (h : Psd E pl up t) (ho : Ord E pl) {n a : Nat} (ht : t = pl n) (ha : pl a < pl n) (hv : Av E a n) : ∀ k x, pl x ≤ k → up x ≠ none → Ch up x n → Av E a x := by
  intro k
  induction k with
  | zero =>
    intro x hk hx hc
    have := h.tr.le hc
    omega
  | succ k ih =>
    intro x hk hx hc
    have hle := h.tr.le hc
    by_cases hxn : x = n
    · subst hxn; exact hv
    · have h0 : x ≠ 0 := fun e => by subst e; exact hxn hc.zero.symm
      cases hu : up x with
      | none => exact absurd hu hx
      | some m =>
        obtain ⟨p, hp, he, hlt⟩ := ho.par x (h.r x hx) h0
        have hcm := hc.tail hu (Ne.symm hxn)
        have h1 := h.k x m p h0 hu he hp hlt n hcm (Or.inl (by omega))
        exact Av.step (ih p (by omega) (h.fw x p hx hp he hlt) h1) he (fun e => by subst e; omega)
/-- one step of a pass -/
theorem Psd.next {E : Nat → Nat → Prop} {pl : Nat → Nat} {up : Nat → Option Nat} {t : Nat} (h : Psd E pl up t) (ho : Ord E pl) {n m : Nat} (hn : n ≠ 0) (hr : R0 E n) (ht : pl n = t) (hme : Meet E up n m) : Psd E pl (setU up n m) (t + 1) := by
  obtain ⟨p1, hp1, he1, hl1⟩ := ho.par n hr hn
  have hs1 := h.seen p1 hp1 (by omega)
  have hc1 : Ch up p1 m := (hme m).1 (Ch.refl _) p1 he1 hs1
  have hm : pl m < pl n := by have := h.tr.le hc1; omega
  have hms : up m ≠ none := h.tr.some hc1 hs1
  have hold : ∀ m0, up n = some m0 → Ch up m0 m := fun m0 hu => h.low n m0 hn hu m ((hme m).1 (Ch.refl _))
  have hnone : up n = none → ∀ x, up x ≠ none → ¬ Ch up x n := fun e x hx hc => h.tr.some hc hx e
  have hT := h.tr
  have hsome : ∀ x, setU up n m x ≠ none → x ≠ n → up x ≠ none := fun x hx hxn => by rwa [setU_ne hxn] at hx
  have hsome' : ∀ x, up x ≠ none → setU up n m x ≠ none := fun x hx => by
    by_cases e : x = n
    · subst e; rw [setU_at]; simp
    · rwa [setU_ne e]
  have hlow : ∀ {x z}, up x ≠ none → Ch (setU up n m) x z → Ch up x z := fun hx hc => upd_low hT hm hold hnone hc hx
  have hmm : ∀ z, Ch (setU up n m) m z ↔ Ch up m z := fun z => ⟨upd_far' (not_low hT hm), upd_far (not_low hT hm)⟩
  refine ⟨⟨by rw [setU_ne (Ne.symm hn)]; exact hT.z, fun x y hx hu => ?_⟩, fun x hx => ?_, fun x a hx hd => ?_, fun x y hx hu z hz => ?_, fun x p hx hp he hlt => ?_, fun x y p hx hu he hp hlt z hz htz => ?_, fun p hp hlt => ?_⟩
  · by_cases e : x = n
    · subst e
      rw [setU_at] at hu
      injection hu with hu
      subst hu
      exact ⟨hr, hm, hsome' _ hms⟩
    · rw [setU_ne e] at hu
      have := hT.down x y hx hu
      exact ⟨this.1, this.2.1, hsome' _ this.2.2⟩
  · by_cases e : x = n
    · subst e; exact hr
    · exact h.r x (hsome x hx e)
  · by_cases e : x = n
    · subst e
      by_cases ea : a = x
      · subst ea; exact Ch.refl _
      · exact Ch.step hn (setU_at _ _ _) ((hmm a).2 ((hme a).2 fun p hp hps => h.dom p a hps (hd.pre hp (h.r p hps) ea)))
    · have hxs := hsome x hx e
      have hxa := h.dom x a hxs hd
      by_cases hxn : Ch up x n
      · rcases hxa.line hxn with h1 | h1
        · exact upd_mid hT hxa h1
        · by_cases ea : a = n
          · subst ea; exact upd_mid hT hxa (Ch.refl _)
          · by_cases hma : Ch up m a
            · exact upd_end hT hn hm hxn hma
            · exfalso
              have hla : pl a < pl n := by
                have h2 := hT.le h1
                by_cases h3 : pl n ≤ pl a
                · exact absurd (hT.same h1 h3) ea
                · omega
              have hdn : Dom E a n := ⟨hr, fun hv => hd.2 (h.way ho ht.symm hla hv _ x (Nat.le_refl _) hxs hxn)⟩
              exact hma ((hme a).2 fun p hp hps => h.dom p a hps (hdn.pre hp (h.r p hps) ea))
      · exact upd_far hxn hxa
  · -- low
    by_cases e : x = n
    · subst e
      rw [setU_at] at hu
      injection hu with hu
      subst hu
      exact (hmm z).2 ((hme z).2 fun p hp hps => hlow hps (hz p hp (hsome' p hps)))
    · rw [setU_ne e] at hu
      have hxs : up x ≠ none := by rw [hu]; simp
      have hyz := h.low x y hx hu z fun p hp hps => hlow hps (hz p hp (hsome' p hps))
      have hys := (hT.down x y hx hu).2.2
      by_cases hyn : Ch up y n
      · obtain ⟨p, hp, he, hlt⟩ := ho.par x (h.r x hxs) hx
        have hps := h.fw x p hxs hp he hlt
        have h1 := h.k x y p hx hu he hp hlt n hyn (Or.inl (by omega))
        rcases upd_from hT hm h1 (hz p he (hsome' p hps)) with h2 | h2
        · exact upd_mid hT hyz h2
        · exact upd_end hT hn hm hyn h2
      · exact upd_far hyn hyz
  · -- fw
    by_cases e : x = n
    · subst e; exact hsome' p (h.seen p hp (by omega))
    · exact hsome' p (h.fw x p (hsome x hx e) hp he hlt)
  · -- k
    by_cases e : x = n
    · subst e
      rw [setU_at] at hu
      injection hu with hu
      subst hu
      have hps := h.seen p hp (by omega)
      exact upd_far (fun hc => by have := hT.le hc; omega) ((hme z).1 ((hmm z).1 hz) p he hps)
    · rw [setU_ne e] at hu
      have hxs : up x ≠ none := by rw [hu]; simp
      have hys := (hT.down x y hx hu).2.2
      have hyz := hlow hys hz
      have hps := h.fw x p hxs hp he hlt
      by_cases hxt : pl x < t
      · exact upd_far (fun hc => by have := hT.le hc; omega) (h.k x y p hx hu he hp hlt z hyz (Or.inr hxt))
      · have hxt2 : pl x ≠ t := fun e2 => e (ho.inj x n (h.r x hxs) hr (by omega))
        have hzt : t + 1 ≤ pl z := by omega
        have hpz := h.k x y p hx hu he hp hlt z hyz (Or.inl (by omega))
        by_cases hpn : Ch up p n
        · rcases hpz.line hpn with h1 | h1
          · exact upd_mid hT hpz h1
          · have := hT.le h1; omega
        · exact upd_far hpn hpz
  · -- seen
    by_cases e : p = n
    · subst e; rw [setU_at]; simp
    · exact hsome' p (h.seen p hp (by
        have : pl p ≠ t := fun e2 => e (ho.inj p n hp hr (by omega))
        omega))
/-- a step at n that finds what stands there -/
theorem Psd.skip {E : Nat → Nat → Prop} {pl : Nat → Nat} {up : Nat → Option Nat} {t : Nat} (h : Psd E pl up t) (ho : Ord E pl) {n m : Nat} (hn : n ≠ 0) (hr : R0 E n) (ht : pl n = t) (hme : Meet E up n m) (hu : up n = some m) : Psd E pl up (t + 1) := by
  have e : setU up n m = up := by
    funext x
    by_cases e : x = n
    · subst e; rw [setU_at, hu]
    · exact setU_ne e
  have := h.next ho hn hr ht hme
  rwa [e] at this
/-- the first pass begins -/
theorem Psd.start {E : Nat → Nat → Prop} {pl : Nat → Nat} (ho : Ord E pl) : Psd E pl (fun x => if x = 0 then some 0 else none) 1 := by
  refine ⟨⟨rfl, fun n m hn hu => ?_⟩, fun n hn => ?_, fun n a hn hd => ?_, fun n m hn hu => ?_, fun n p hn hp he hlt => ?_, fun n m p hn hu => ?_, fun p hp hlt => ?_⟩
  · simp [hn] at hu
  · by_cases e : n = 0
    · subst e; exact R0.zero
    · simp [e] at hn
  · by_cases e : n = 0
    · subst e
      by_cases ea : a = 0
      · subst ea; exact Ch.refl _
      · exact absurd (Av.zero (Ne.symm ea)) hd.2
    · simp [e] at hn
  · simp [hn] at hu
  · by_cases e : n = 0
    · subst e; rw [ho.z] at hlt; omega
    · simp [e] at hn
  · simp [hn] at hu
  · by_cases e : p = 0
    · subst e; simp
    · exact absurd (ho.inj p 0 hp R0.zero (by rw [ho.z]; omega)) e
/-- a pass ends, another one begins -/
theorem Psd.again {E : Nat → Nat → Prop} {pl : Nat → Nat} {up : Nat → Option Nat} {t : Nat} (h : Psd E pl up t) (ht : ∀ n, R0 E n → pl n < t) : Psd E pl up 1 :=
  ⟨h.tr, h.r, h.dom, h.low, h.fw, fun n m p hn hu he hp hlt z hz _ => h.k n m p hn hu he hp hlt z hz (Or.inr (ht n (h.r n (by rw [hu]; simp)))), fun p hp _ => h.seen p hp (ht p hp)⟩
/-- nothing changed: chains are what dominates -/
theorem Psd.fixed {E : Nat → Nat → Prop} {pl : Nat → Nat} {up : Nat → Option Nat} {t : Nat} (h : Psd E pl up t) (ht : ∀ n, R0 E n → pl n < t) (hf : ∀ n, R0 E n → n ≠ 0 → ∃ m, up n = some m ∧ Meet E up n m) {n a : Nat} (hn : R0 E n) : Ch up n a ↔ Dom E a n := by
  refine ⟨fun hc => ⟨hn, fun hv => ?_⟩, fun hd => h.dom n a (h.seen n hn (ht n hn)) hd⟩
  clear hn
  induction hv with
  | zero h0 => exact h0 hc.zero.symm
  | @step p q hr he hne ih =>
    have hp := hr.r0
    by_cases hq : q = 0
    · subst hq; exact hne hc.zero.symm
    · obtain ⟨m, hu, hm⟩ := hf q (R0.step hp he) hq
      exact ih ((hm a).1 (hc.tail hu (Ne.symm hne)) p he (h.seen p hp (ht p hp)))
/-- two that walk up till they meet -/
structure Two2 (E : Nat → Nat → Prop) (pl : Nat → Nat) (up : Nat → Option Nat) (a0 b0 a b : Nat) : Prop where
  sa : up a ≠ none
  sb : up b ≠ none
  both : ∀ z, (Ch up a z ∧ Ch up b z) ↔ (Ch up a0 z ∧ Ch up b0 z)
theorem Two2.start {E : Nat → Nat → Prop} {pl : Nat → Nat} {up : Nat → Option Nat} {a b : Nat} (ha : up a ≠ none) (hb : up b ≠ none) : Two2 E pl up a b a b := ⟨ha, hb, fun _ => Iff.rfl⟩
theorem Two2.swap {E : Nat → Nat → Prop} {pl : Nat → Nat} {up : Nat → Option Nat} {a0 b0 a b : Nat} (h : Two2 E pl up a0 b0 a b) : Two2 E pl up b0 a0 b a := ⟨h.sb, h.sa, fun z => by rw [And.comm, h.both z, And.comm]⟩
theorem Two2.left {E : Nat → Nat → Prop} {pl : Nat → Nat} {up : Nat → Option Nat} {a0 b0 a b : Nat} (h : Two2 E pl up a0 b0 a b) (hT : Tree E pl up) (h00 : pl 0 = 0) (hlt : pl b < pl a) : ∃ m, up a = some m ∧ pl m < pl a ∧ Two2 E pl up a0 b0 m b := by
  have h0 : a ≠ 0 := fun e => by subst e; omega
  cases hu : up a with
  | none => exact absurd hu h.sa
  | some m =>
    have hd := hT.down a m h0 hu
    refine ⟨m, rfl, hd.2.1, hd.2.2, h.sb, fun z => ?_⟩
    rw [← h.both z]
    refine ⟨fun ⟨h1, h2⟩ => ⟨Ch.step h0 hu h1, h2⟩, fun ⟨h1, h2⟩ => ⟨h1.tail hu (fun e => ?_), h2⟩⟩
    subst e
    have := hT.le h2
    omega
theorem Two2.right {E : Nat → Nat → Prop} {pl : Nat → Nat} {up : Nat → Option Nat} {a0 b0 a b : Nat} (h : Two2 E pl up a0 b0 a b) (hT : Tree E pl up) (h00 : pl 0 = 0) (hlt : pl a < pl b) : ∃ m, up b = some m ∧ pl m < pl b ∧ Two2 E pl up a0 b0 a m := by
  obtain ⟨m, h1, h2, h3⟩ := h.swap.left hT h00 hlt
  exact ⟨m, h1, h2, h3.swap⟩
/-- what the first of them have in common -/
def Best (up : Nat → Option Nat) (L : List Nat) : Option Nat → Prop
  | none => ∀ p ∈ L, up p = none
  | some m => up m ≠ none ∧ ∀ z, Ch up m z ↔ ∀ p ∈ L, up p ≠ none → Ch up p z
theorem Best.skip {up : Nat → Option Nat} {L : List Nat} {b : Option Nat} {p : Nat} (h : Best up L b) (hp : up p = none) : Best up (L ++ [p]) b := by
  cases b with
  | none =>
    intro q hq
    rcases List.mem_append.1 hq with h1 | h1
    · exact h q h1
    · simp only [List.mem_singleton] at h1; subst h1; exact hp
  | some m =>
    refine ⟨h.1, fun z => (h.2 z).trans ⟨fun g q hq hs => ?_, fun g q hq => g q (List.mem_append_left _ hq)⟩⟩
    rcases List.mem_append.1 hq with h1 | h1
    · exact g q h1 hs
    · simp only [List.mem_singleton] at h1; subst h1; exact absurd hp hs
theorem Best.first {up : Nat → Option Nat} {L : List Nat} {p : Nat} (h : Best up L none) (hp : up p ≠ none) : Best up (L ++ [p]) (some p) :=
  ⟨hp, fun z => ⟨fun hc q hq hs => by
    rcases List.mem_append.1 hq with h1 | h1
    · exact absurd (h q h1) hs
    · simp only [List.mem_singleton] at h1; subst h1; exact hc, fun g => g p (by simp) hp⟩⟩
theorem Best.more {up : Nat → Option Nat} {L : List Nat} {p m r : Nat} (h : Best up L (some m)) (hp : up p ≠ none) (hr : up r ≠ none) (hb : ∀ z, Ch up r z ↔ (Ch up p z ∧ Ch up m z)) : Best up (L ++ [p]) (some r) :=
  ⟨hr, fun z => (hb z).trans ⟨fun ⟨h1, h2⟩ q hq hs => by
    rcases List.mem_append.1 hq with h3 | h3
    · exact (h.2 z).1 h2 q h3 hs
    · simp only [List.mem_singleton] at h3; subst h3; exact h1, fun g => ⟨g p (by simp) hp, (h.2 z).2 fun q hq hs => g q (List.mem_append_left _ hq) hs⟩⟩⟩
theorem Best.meet {E : Nat → Nat → Prop} {up : Nat → Option Nat} {L : List Nat} {n m : Nat} (h : Best up L (some m)) (hL : ∀ p, p ∈ L ↔ E p n) : Meet E up n m := fun z => (h.2 z).trans ⟨fun g p hp => g p ((hL p).2 hp), fun g p hp => g p ((hL p).1 hp)⟩
/-- the sum of places -/
def wgt (pl : Nat → Nat) (N : Nat) (up : Nat → Option Nat) (n : Nat) : Nat := match up n with | none => N + 1 | some m => pl m
def sumW (pl : Nat → Nat) (N : Nat) (up : Nat → Option Nat) : Nat → Nat
  | 0 => 0
  | k + 1 => sumW pl N up k + wgt pl N up k
theorem sumW_far {pl : Nat → Nat} {N : Nat} {up : Nat → Option Nat} {n m : Nat} : ∀ k, k ≤ n → sumW pl N (setU up n m) k = sumW pl N up k
  | 0, _ => rfl
  | k + 1, h => by
    unfold sumW
    rw [sumW_far k (by omega)]
    unfold wgt
    rw [setU_ne (by omega)]
theorem sumW_less {pl : Nat → Nat} {N : Nat} {up : Nat → Option Nat} {n m : Nat} (hw : pl m < wgt pl N up n) : ∀ k, n < k → sumW pl N (setU up n m) k < sumW pl N up k
  | 0, h => by omega
  | k + 1, h => by
    unfold sumW
    by_cases e : n = k
    · subst e
      rw [sumW_far n (Nat.le_refl _)]
      have : wgt pl N (setU up n m) n = pl m := by unfold wgt; rw [setU_at]
      omega
    · have := sumW_less hw k (by omega)
      have : wgt pl N (setU up n m) k = wgt pl N up k := by unfold wgt; rw [setU_ne (Ne.symm e)]
      omega
/-- a change makes the sum less -/
theorem Psd.less {E : Nat → Nat → Prop} {pl : Nat → Nat} {up : Nat → Option Nat} {t N : Nat} (h : Psd E pl up t) (ho : Ord E pl) (hN : ∀ p, R0 E p → pl p ≤ N) {n m : Nat} (hn : n ≠ 0) (hr : R0 E n) (ht : pl n = t) (hnN : n < N) (hme : Meet E up n m) (hne : up n ≠ some m) : sumW pl N (setU up n m) N < sumW pl N up N := by
  obtain ⟨p1, hp1, he1, hl1⟩ := ho.par n hr hn
  have hs1 := h.seen p1 hp1 (by omega)
  have hc1 : Ch up p1 m := (hme m).1 (Ch.refl _) p1 he1 hs1
  have hms := h.tr.some hc1 hs1
  apply sumW_less _ N hnN
  unfold wgt
  cases hu : up n with
  | none => show pl m < N + 1; have := hN m (h.r m hms); omega
  | some m0 =>
    show pl m < pl m0
    have hc := h.low n m0 hn hu m ((hme m).1 (Ch.refl _))
    have h1 := h.tr.le hc
    by_cases h2 : pl m0 ≤ pl m
    · exact absurd (by rw [hu, h.tr.same hc h2]) hne
    · omega
/-- what Above makes -/
structure UpT (E : Nat → Nat → Prop) (pl : Nat → Nat) (up : Nat → Option Nat) : Prop where
  tr : Tree E pl up
  pz : pl 0 = 0
  is : ∀ n, up n ≠ none ↔ R0 E n
  dom : ∀ n a, R0 E n → (Ch up n a ↔ Dom E a n)
theorem Psd.upT {E : Nat → Nat → Prop} {pl : Nat → Nat} {up : Nat → Option Nat} {t : Nat} (h : Psd E pl up t) (ho : Ord E pl) (ht : ∀ n, R0 E n → pl n < t) (hf : ∀ n, R0 E n → n ≠ 0 → ∃ m, up n = some m ∧ Meet E up n m) : UpT E pl up :=
  ⟨h.tr, ho.z, fun n => ⟨h.r n, fun hn => h.seen n hn (ht n hn)⟩, fun _ _ hn => h.fixed ht hf hn⟩
theorem UpT.next {E : Nat → Nat → Prop} {pl : Nat → Nat} {up : Nat → Option Nat} (h : UpT E pl up) {n m : Nat} (hn : n ≠ 0) (hu : up n = some m) (a : Nat) : (a ≠ n ∧ Dom E a n ∧ ∀ b, b ≠ n → Dom E b n → Dom E b a) ↔ a = m := by
  have hd := h.tr.down n m hn hu
  have hr := hd.1
  have hmr := (h.is m).1 hd.2.2
  have hcm : Ch up n m := Ch.step hn hu (Ch.refl _)
  have hmn : m ≠ n := fun e => by subst e; omega
  constructor
  · intro ⟨h1, h2, h3⟩
    have hca := ((h.dom n a hr).2 h2).tail hu h1
    have hdm := h3 m hmn ((h.dom n m hr).1 hcm)
    have hcm2 := (h.dom a m ((h.is a).1 (h.tr.some hca hd.2.2))).2 hdm
    exact h.tr.same hca (h.tr.le hcm2)
  · rintro rfl
    exact ⟨hmn, (h.dom n a hr).1 hcm, fun b hb hdb => (h.dom a b hmr).1 (((h.dom n b hr).2 hdb).tail hu hb)⟩
theorem Dom.at0 {E : Nat → Nat → Prop} {a : Nat} (h : Dom E a 0) : a = 0 := by
  by_cases e : a = 0
  · exact e
  · exact absurd (Av.zero (Ne.symm e)) h.2
/-- two that dominate a third one -/
theorem UpT.line {E : Nat → Nat → Prop} {pl : Nat → Nat} {up : Nat → Option Nat} (h : UpT E pl up) {a b c : Nat} (h1 : Dom E a c) (h2 : Dom E b c) : Dom E a b ∨ Dom E b a := by
  have hc := h1.1
  have e1 := (h.dom c a hc).2 h1
  have e2 := (h.dom c b hc).2 h2
  rcases e1.line e2 with h3 | h3
  · exact Or.inr ((h.dom a b h1.left).1 h3)
  · exact Or.inl ((h.dom b a h2.left).1 h3)
/-- one that dominates another one stands ahead of it -/
theorem UpT.ahead {E : Nat → Nat → Prop} {pl : Nat → Nat} {up : Nat → Option Nat} (h : UpT E pl up) {a b : Nat} (h1 : Dom E a b) (hne : a ≠ b) : pl a < pl b := by
  have hc := (h.dom b a h1.1).2 h1
  have h2 := h.tr.le hc
  by_cases h3 : pl b ≤ pl a
  · exact absurd (h.tr.same hc h3) hne
  · omega
end Go.Proofs.Ytgdbkoncaojmoaa
