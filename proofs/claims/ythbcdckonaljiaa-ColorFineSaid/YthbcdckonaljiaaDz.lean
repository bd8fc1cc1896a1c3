import Derived.Test.YthbcdckonaljiaaZj
import Derived.Deep.AppendLies
namespace Go.Proofs.Ythbcdckonaljiaa

inductive Av (E : Nat → Nat → Prop) (a : Nat) : Nat → Prop
  | zero (h : 0 ≠ a) : Av E a 0
  | step {p q : Nat} (hr : Av E a p) (h : E p q) (hne : q ≠ a) : Av E a q
theorem Av.ne {E : Nat → Nat → Prop} {a b : Nat} (h : Av E a b) : b ≠ a := by
  cases h with
  | zero h => exact h
  | step _ _ h => exact h
inductive R0 (E : Nat → Nat → Prop) : Nat → Prop
  | zero : R0 E 0
  | step {p q : Nat} (hr : R0 E p) (h : E p q) : R0 E q
theorem Av.r0 {E : Nat → Nat → Prop} {a b : Nat} (h : Av E a b) : R0 E b := by
  induction h with
  | zero => exact R0.zero
  | step _ h _ ih => exact R0.step ih h
def Dom (E : Nat → Nat → Prop) (a b : Nat) : Prop := R0 E b ∧ ¬ Av E a b
theorem Dom.left {E : Nat → Nat → Prop} {a b : Nat} (h : Dom E a b) : R0 E a := by
  have key : ∀ {b : Nat}, R0 E b → Av E a b ∨ R0 E a := fun hb => by
    induction hb with
    | zero =>
      by_cases h0 : 0 = a
      · subst h0; exact Or.inr R0.zero
      · exact Or.inl (Av.zero h0)
    | @step p q hr he ih =>
      by_cases hq : q = a
      · subst hq; exact Or.inr (R0.step hr he)
      · rcases ih with ih | ih
        · exact Or.inl (Av.step ih he hq)
        · exact Or.inr ih
  exact (key h.1).resolve_left h.2
theorem Dom.refl {E : Nat → Nat → Prop} {a : Nat} (h : R0 E a) : Dom E a a := ⟨h, fun h => h.ne rfl⟩
theorem Dom.zero {E : Nat → Nat → Prop} {a : Nat} (h : R0 E a) : Dom E 0 a := ⟨h, fun hv => by
  clear h
  induction hv with
  | zero h => exact h rfl
  | step _ _ _ ih => exact ih⟩
theorem Dom.pre {E : Nat → Nat → Prop} {a p q : Nat} (h : Dom E a q) (he : E p q) (hp : R0 E p) (hne : a ≠ q) : Dom E a p := ⟨hp, fun hv => h.2 (Av.step hv he (Ne.symm hne))⟩
inductive Ch (up : Nat → Option Nat) : Nat → Nat → Prop
  | refl (n : Nat) : Ch up n n
  | step {n m z : Nat} (h0 : n ≠ 0) (h : up n = some m) (hc : Ch up m z) : Ch up n z
theorem Ch.zero {up : Nat → Option Nat} {z : Nat} (h : Ch up 0 z) : z = 0 := by
  cases h with
  | refl => rfl
  | step h0 => exact absurd rfl h0
theorem Ch.trans {up : Nat → Option Nat} {a b c : Nat} (h1 : Ch up a b) (h2 : Ch up b c) : Ch up a c := by
  induction h1 with
  | refl => exact h2
  | step h0 h _ ih => exact Ch.step h0 h (ih h2)
theorem Ch.tail {up : Nat → Option Nat} {a m z : Nat} (h : Ch up a z) (hu : up a = some m) (hne : z ≠ a) : Ch up m z := by
  cases h with
  | refl => exact absurd rfl hne
  | step h0 h hc => rw [hu] at h; injection h with h; subst h; exact hc
theorem Ch.line {up : Nat → Option Nat} {x a b : Nat} (h1 : Ch up x a) (h2 : Ch up x b) : Ch up a b ∨ Ch up b a := by
  induction h1 with
  | refl => exact Or.inl h2
  | @step n m z h0 h hc ih =>
    cases h2 with
    | refl => exact Or.inr (Ch.step h0 h hc)
    | step h0' h' hc' => rw [h] at h'; injection h' with h'; subst h'; exact ih hc'
def setU (up : Nat → Option Nat) (n m : Nat) : Nat → Option Nat := fun x => if x = n then some m else up x
theorem setU_at (up : Nat → Option Nat) (n m : Nat) : setU up n m n = some m := by simp [setU]
theorem setU_ne {up : Nat → Option Nat} {n m x : Nat} (h : x ≠ n) : setU up n m x = up x := by simp [setU, h]
structure Tree (E : Nat → Nat → Prop) (pl : Nat → Nat) (up : Nat → Option Nat) : Prop where
  z : up 0 = some 0
  down : ∀ n m, n ≠ 0 → up n = some m → R0 E n ∧ pl m < pl n ∧ up m ≠ none
theorem Tree.le {E : Nat → Nat → Prop} {pl : Nat → Nat} {up : Nat → Option Nat} (h : Tree E pl up) {n z : Nat} (hc : Ch up n z) : pl z ≤ pl n := by
  induction hc with
  | refl => exact Nat.le_refl _
  | step h0 hu _ ih => have := (h.down _ _ h0 hu).2.1; omega
theorem Tree.some {E : Nat → Nat → Prop} {pl : Nat → Nat} {up : Nat → Option Nat} (h : Tree E pl up) {n z : Nat} (hc : Ch up n z) (hn : up n ≠ none) : up z ≠ none := by
  induction hc with
  | refl => exact hn
  | step h0 hu _ ih => exact ih (h.down _ _ h0 hu).2.2
theorem Tree.same {E : Nat → Nat → Prop} {pl : Nat → Nat} {up : Nat → Option Nat} (h : Tree E pl up) {n z : Nat} (h1 : Ch up n z) (h2 : pl n ≤ pl z) : z = n := by
  cases h1 with
  | refl => rfl
  | step h0 hu hc => have := (h.down _ _ h0 hu).2.1; have := h.le hc; omega
def Meet (E : Nat → Nat → Prop) (up : Nat → Option Nat) (n m : Nat) : Prop := ∀ z, Ch up m z ↔ ∀ p, E p n → up p ≠ none → Ch up p z
structure Psd (E : Nat → Nat → Prop) (pl : Nat → Nat) (up : Nat → Option Nat) (t : Nat) : Prop where
  tr : Tree E pl up
  r : ∀ n, up n ≠ none → R0 E n
  dom : ∀ n a, up n ≠ none → Dom E a n → Ch up n a
  low : ∀ n m, n ≠ 0 → up n = some m → ∀ z, (∀ p, E p n → up p ≠ none → Ch up p z) → Ch up m z
  fw : ∀ n p, up n ≠ none → R0 E p → E p n → pl p < pl n → up p ≠ none
  k : ∀ n m p, n ≠ 0 → up n = some m → E p n → R0 E p → pl p < pl n → ∀ z, Ch up m z → t ≤ pl z ∨ pl n < t → Ch up p z
  seen : ∀ p, R0 E p → pl p < t → up p ≠ none
structure Ord (E : Nat → Nat → Prop) (pl : Nat → Nat) : Prop where
  inj : ∀ a b, R0 E a → R0 E b → pl a = pl b → a = b
  z : pl 0 = 0
  par : ∀ n, R0 E n → n ≠ 0 → ∃ p, R0 E p ∧ E p n ∧ pl p < pl n
section upd
variable {E : Nat → Nat → Prop} {pl : Nat → Nat} {up : Nat → Option Nat} {n m : Nat}
theorem upd_low (hT : Tree E pl up) (hm : pl m < pl n) (hold : ∀ m0, up n = some m0 → Ch up m0 m) (hnone : up n = none → ∀ x, up x ≠ none → ¬ Ch up x n) {x z : Nat} (h : Ch (setU up n m) x z) (hx : up x ≠ none) : Ch up x z := by
  induction h with
  | refl => exact Ch.refl _
  | @step x y z h0 hu hc ih =>
    by_cases hxn : x = n
    · subst hxn
      rw [setU_at] at hu
      injection hu with hu
      subst hu
      cases hux : up x with
      | none => exact absurd hux hx
      | some m0 =>
        have h1 := hold m0 hux
        exact Ch.step h0 hux (h1.trans (ih (hT.some h1 (hT.down _ _ h0 hux).2.2)))
    · rw [setU_ne hxn] at hu
      exact Ch.step h0 hu (ih (hT.down _ _ h0 hu).2.2)
theorem upd_far {x z : Nat} (hx : ¬ Ch up x n) (h : Ch up x z) : Ch (setU up n m) x z := by
  induction h with
  | refl => exact Ch.refl _
  | @step x y z h0 hu hc ih =>
    have hxn : x ≠ n := fun e => by subst e; exact hx (Ch.refl _)
    exact Ch.step h0 (by rw [setU_ne hxn]; exact hu) (ih fun h => hx (Ch.step h0 hu h))
theorem upd_far' {x z : Nat} (hx : ¬ Ch up x n) (h : Ch (setU up n m) x z) : Ch up x z := by
  induction h with
  | refl => exact Ch.refl _
  | @step x y z h0 hu hc ih =>
    have hxn : x ≠ n := fun e => by subst e; exact hx (Ch.refl _)
    rw [setU_ne hxn] at hu
    exact Ch.step h0 hu (ih fun h => hx (Ch.step h0 hu h))
theorem upd_mid (hT : Tree E pl up) {x z : Nat} (h : Ch up x z) (hz : Ch up z n) : Ch (setU up n m) x z := by
  induction h with
  | refl => exact Ch.refl _
  | @step x y z h0 hu hc ih =>
    by_cases hxn : x = n
    · subst hxn
      have := hT.same (Ch.step h0 hu hc) (hT.le hz)
      subst this
      exact Ch.refl _
    · exact Ch.step h0 (by rw [setU_ne hxn]; exact hu) (ih hz)
theorem not_low (hT : Tree E pl up) (hm : pl m < pl n) : ¬ Ch up m n := fun h => by have := hT.le h; omega
theorem upd_end (hT : Tree E pl up) (hn : n ≠ 0) (hm : pl m < pl n) {x z : Nat} (hx : Ch up x n) (hz : Ch up m z) : Ch (setU up n m) x z :=
  (upd_mid hT hx (Ch.refl _)).trans (Ch.step hn (setU_at _ _ _) (upd_far (not_low hT hm) hz))
theorem upd_from (hT : Tree E pl up) (hm : pl m < pl n) {x z : Nat} (hx : Ch up x n) (h : Ch (setU up n m) x z) : Ch up z n ∨ Ch up m z := by
  induction h with
  | refl => exact Or.inl hx
  | @step x y z h0 hu hc ih =>
    by_cases hxn : x = n
    · subst hxn
      rw [setU_at] at hu
      injection hu with hu
      subst hu
      exact Or.inr (upd_far' (not_low hT hm) hc)
    · rw [setU_ne hxn] at hu
      exact ih (hx.tail hu (Ne.symm hxn))
end upd
theorem Psd.way {E : Nat → Nat → Prop} {pl : Nat → Nat} {up : Nat → Option Nat} {t : Nat} (h : Psd E pl up t) (ho : Ord E pl) {n a : Nat} (ht : t = pl n) (ha : pl a < pl n) (hv : Av E a n) : ∀ k x, pl x ≤ k → up x ≠ none → Ch up x n → Av E a x := by
  intro k
  induction k with
  | zero =>
    intro x hk hx hc
    have := h.tr.le hc
    omega
  | succ k ih =>
    intro x hk hx hc
    have hle := h.tr.le hc
    by_cases hxn : x = n
    · subst hxn; exact hv
    · have h0 : x ≠ 0 := fun e => by subst e; exact hxn hc.zero.symm
      cases hu : up x with
      | none => exact absurd hu hx
      | some m =>
        obtain ⟨p, hp, he, hlt⟩ := ho.par x (h.r x hx) h0
        have hcm := hc.tail hu (Ne.symm hxn)
        have h1 := h.k x m p h0 hu he hp hlt n hcm (Or.inl (by omega))
        exact Av.step (ih p (by omega) (h.fw x p hx hp he hlt) h1) he (fun e => by subst e; omega)
theorem Psd.next {E : Nat → Nat → Prop} {pl : Nat → Nat} {up : Nat → Option Nat} {t : Nat} (h : Psd E pl up t) (ho : Ord E pl) {n m : Nat} (hn : n ≠ 0) (hr : R0 E n) (ht : pl n = t) (hme : Meet E up n m) : Psd E pl (setU up n m) (t + 1) := by
  obtain ⟨p1, hp1, he1, hl1⟩ := ho.par n hr hn
  have hs1 := h.seen p1 hp1 (by omega)
  have hc1 : Ch up p1 m := (hme m).1 (Ch.refl _) p1 he1 hs1
  have hm : pl m < pl n := by have := h.tr.le hc1; omega
  have hms : up m ≠ none := h.tr.some hc1 hs1
  have hold : ∀ m0, up n = some m0 → Ch up m0 m := fun m0 hu => h.low n m0 hn hu m ((hme m).1 (Ch.refl _))
  have hnone : up n = none → ∀ x, up x ≠ none → ¬ Ch up x n := fun e x hx hc => h.tr.some hc hx e
  have hT := h.tr
  have hsome : ∀ x, setU up n m x ≠ none → x ≠ n → up x ≠ none := fun x hx hxn => by rwa [setU_ne hxn] at hx
  have hsome' : ∀ x, up x ≠ none → setU up n m x ≠ none := fun x hx => by
    by_cases e : x = n
    · subst e; rw [setU_at]; simp
    · rwa [setU_ne e]
  have hlow : ∀ {x z}, up x ≠ none → Ch (setU up n m) x z → Ch up x z := fun hx hc => upd_low hT hm hold hnone hc hx
  have hmm : ∀ z, Ch (setU up n m) m z ↔ Ch up m z := fun z => ⟨upd_far' (not_low hT hm), upd_far (not_low hT hm)⟩
  refine ⟨⟨by rw [setU_ne (Ne.symm hn)]; exact hT.z, fun x y hx hu => ?_⟩, fun x hx => ?_, fun x a hx hd => ?_, fun x y hx hu z hz => ?_, fun x p hx hp he hlt => ?_, fun x y p hx hu he hp hlt z hz htz => ?_, fun p hp hlt => ?_⟩
  · by_cases e : x = n
    · subst e
      rw [setU_at] at hu
      injection hu with hu
      subst hu
      exact ⟨hr, hm, hsome' _ hms⟩
    · rw [setU_ne e] at hu
      have := hT.down x y hx hu
      exact ⟨this.1, this.2.1, hsome' _ this.2.2⟩
  · by_cases e : x = n
    · subst e; exact hr
    · exact h.r x (hsome x hx e)
  · by_cases e : x = n
    · subst e
      by_cases ea : a = x
      · subst ea; exact Ch.refl _
      · exact Ch.step hn (setU_at _ _ _) ((hmm a).2 ((hme a).2 fun p hp hps => h.dom p a hps (hd.pre hp (h.r p hps) ea)))
    · have hxs := hsome x hx e
      have hxa := h.dom x a hxs hd
      by_cases hxn : Ch up x n
      · rcases hxa.line hxn with h1 | h1
        · exact upd_mid hT hxa h1
        · by_cases ea : a = n
          · subst ea; exact upd_mid hT hxa (Ch.refl _)
          · by_cases hma : Ch up m a
            · exact upd_end hT hn hm hxn hma
            · exfalso
              have hla : pl a < pl n := by
                have h2 := hT.le h1
                by_cases h3 : pl n ≤ pl a
                · exact absurd (hT.same h1 h3) ea
                · omega
              have hdn : Dom E a n := ⟨hr, fun hv => hd.2 (h.way ho ht.symm hla hv _ x (Nat.le_refl _) hxs hxn)⟩
              exact hma ((hme a).2 fun p hp hps => h.dom p a hps (hdn.pre hp (h.r p hps) ea))
      · exact upd_far hxn hxa
  · -- low
    by_cases e : x = n
    · subst e
      rw [setU_at] at hu
      injection hu with hu
      subst hu
      exact (hmm z).2 ((hme z).2 fun p hp hps => hlow hps (hz p hp (hsome' p hps)))
    · rw [setU_ne e] at hu
      have hxs : up x ≠ none := by rw [hu]; simp
      have hyz := h.low x y hx hu z fun p hp hps => hlow hps (hz p hp (hsome' p hps))
      have hys := (hT.down x y hx hu).2.2
      by_cases hyn : Ch up y n
      · obtain ⟨p, hp, he, hlt⟩ := ho.par x (h.r x hxs) hx
        have hps := h.fw x p hxs hp he hlt
        have h1 := h.k x y p hx hu he hp hlt n hyn (Or.inl (by omega))
        rcases upd_from hT hm h1 (hz p he (hsome' p hps)) with h2 | h2
        · exact upd_mid hT hyz h2
        · exact upd_end hT hn hm hyn h2
      · exact upd_far hyn hyz
  · -- fw
    by_cases e : x = n
    · subst e; exact hsome' p (h.seen p hp (by omega))
    · exact hsome' p (h.fw x p (hsome x hx e) hp he hlt)
  · -- k
    by_cases e : x = n
    · subst e
      rw [setU_at] at hu
      injection hu with hu
      subst hu
      have hps := h.seen p hp (by omega)
      exact upd_far (fun hc => by have := hT.le hc; omega) ((hme z).1 ((hmm z).1 hz) p he hps)
    · rw [setU_ne e] at hu
      have hxs : up x ≠ none := by rw [hu]; simp
      have hys := (hT.down x y hx hu).2.2
      have hyz := hlow hys hz
      have hps := h.fw x p hxs hp he hlt
      by_cases hxt : pl x < t
      · exact upd_far (fun hc => by have := hT.le hc; omega) (h.k x y p hx hu he hp hlt z hyz (Or.inr hxt))
      · have hxt2 : pl x ≠ t := fun e2 => e (ho.inj x n (h.r x hxs) hr (by omega))
        have hzt : t + 1 ≤ pl z := by omega
        have hpz := h.k x y p hx hu he hp hlt z hyz (Or.inl (by omega))
        by_cases hpn : Ch up p n
        · rcases hpz.line hpn with h1 | h1
          · exact upd_mid hT hpz h1
          · have := hT.le h1; omega
        · exact upd_far hpn hpz
  · -- seen
    by_cases e : p = n
    · subst e; rw [setU_at]; simp
    · exact hsome' p (h.seen p hp (by
        have : pl p ≠ t := fun e2 => e (ho.inj p n hp hr (by omega))
        omega))
theorem Psd.skip {E : Nat → Nat → Prop} {pl : Nat → Nat} {up : Nat → Option Nat} {t : Nat} (h : Psd E pl up t) (ho : Ord E pl) {n m : Nat} (hn : n ≠ 0) (hr : R0 E n) (ht : pl n = t) (hme : Meet E up n m) (hu : up n = some m) : Psd E pl up (t + 1) := by
  have e : setU up n m = up := by
    funext x
    by_cases e : x = n
    · subst e; rw [setU_at, hu]
    · exact setU_ne e
  have := h.next ho hn hr ht hme
  rwa [e] at this
theorem Psd.start {E : Nat → Nat → Prop} {pl : Nat → Nat} (ho : Ord E pl) : Psd E pl (fun x => if x = 0 then some 0 else none) 1 := by
  refine ⟨⟨rfl, fun n m hn hu => ?_⟩, fun n hn => ?_, fun n a hn hd => ?_, fun n m hn hu => ?_, fun n p hn hp he hlt => ?_, fun n m p hn hu => ?_, fun p hp hlt => ?_⟩
  · simp [hn] at hu
  · by_cases e : n = 0
    · subst e; exact R0.zero
    · simp [e] at hn
  · by_cases e : n = 0
    · subst e
      by_cases ea : a = 0
      · subst ea; exact Ch.refl _
      · exact absurd (Av.zero (Ne.symm ea)) hd.2
    · simp [e] at hn
  · simp [hn] at hu
  · by_cases e : n = 0
    · subst e; rw [ho.z] at hlt; omega
    · simp [e] at hn
  · simp [hn] at hu
  · by_cases e : p = 0
    · subst e; simp
    · exact absurd (ho.inj p 0 hp R0.zero (by rw [ho.z]; omega)) e
theorem Psd.again {E : Nat → Nat → Prop} {pl : Nat → Nat} {up : Nat → Option Nat} {t : Nat} (h : Psd E pl up t) (ht : ∀ n, R0 E n → pl n < t) : Psd E pl up 1 :=
  ⟨h.tr, h.r, h.dom, h.low, h.fw, fun n m p hn hu he hp hlt z hz _ => h.k n m p hn hu he hp hlt z hz (Or.inr (ht n (h.r n (by rw [hu]; simp)))), fun p hp _ => h.seen p hp (ht p hp)⟩
theorem Psd.fixed {E : Nat → Nat → Prop} {pl : Nat → Nat} {up : Nat → Option Nat} {t : Nat} (h : Psd E pl up t) (ht : ∀ n, R0 E n → pl n < t) (hf : ∀ n, R0 E n → n ≠ 0 → ∃ m, up n = some m ∧ Meet E up n m) {n a : Nat} (hn : R0 E n) : Ch up n a ↔ Dom E a n := by
  refine ⟨fun hc => ⟨hn, fun hv => ?_⟩, fun hd => h.dom n a (h.seen n hn (ht n hn)) hd⟩
  clear hn
  induction hv with
  | zero h0 => exact h0 hc.zero.symm
  | @step p q hr he hne ih =>
    have hp := hr.r0
    by_cases hq : q = 0
    · subst hq; exact hne hc.zero.symm
    · obtain ⟨m, hu, hm⟩ := hf q (R0.step hp he) hq
      exact ih ((hm a).1 (hc.tail hu (Ne.symm hne)) p he (h.seen p hp (ht p hp)))
structure Two2 (E : Nat → Nat → Prop) (pl : Nat → Nat) (up : Nat → Option Nat) (a0 b0 a b : Nat) : Prop where
  sa : up a ≠ none
  sb : up b ≠ none
  both : ∀ z, (Ch up a z ∧ Ch up b z) ↔ (Ch up a0 z ∧ Ch up b0 z)
theorem Two2.start {E : Nat → Nat → Prop} {pl : Nat → Nat} {up : Nat → Option Nat} {a b : Nat} (ha : up a ≠ none) (hb : up b ≠ none) : Two2 E pl up a b a b := ⟨ha, hb, fun _ => Iff.rfl⟩
theorem Two2.swap {E : Nat → Nat → Prop} {pl : Nat → Nat} {up : Nat → Option Nat} {a0 b0 a b : Nat} (h : Two2 E pl up a0 b0 a b) : Two2 E pl up b0 a0 b a := ⟨h.sb, h.sa, fun z => by rw [And.comm, h.both z, And.comm]⟩
theorem Two2.left {E : Nat → Nat → Prop} {pl : Nat → Nat} {up : Nat → Option Nat} {a0 b0 a b : Nat} (h : Two2 E pl up a0 b0 a b) (hT : Tree E pl up) (h00 : pl 0 = 0) (hlt : pl b < pl a) : ∃ m, up a = some m ∧ pl m < pl a ∧ Two2 E pl up a0 b0 m b := by
  have h0 : a ≠ 0 := fun e => by subst e; omega
  cases hu : up a with
  | none => exact absurd hu h.sa
  | some m =>
    have hd := hT.down a m h0 hu
    refine ⟨m, rfl, hd.2.1, hd.2.2, h.sb, fun z => ?_⟩
    rw [← h.both z]
    refine ⟨fun ⟨h1, h2⟩ => ⟨Ch.step h0 hu h1, h2⟩, fun ⟨h1, h2⟩ => ⟨h1.tail hu (fun e => ?_), h2⟩⟩
    subst e
    have := hT.le h2
    omega
theorem Two2.right {E : Nat → Nat → Prop} {pl : Nat → Nat} {up : Nat → Option Nat} {a0 b0 a b : Nat} (h : Two2 E pl up a0 b0 a b) (hT : Tree E pl up) (h00 : pl 0 = 0) (hlt : pl a < pl b) : ∃ m, up b = some m ∧ pl m < pl b ∧ Two2 E pl up a0 b0 a m := by
  obtain ⟨m, h1, h2, h3⟩ := h.swap.left hT h00 hlt
  exact ⟨m, h1, h2, h3.swap⟩
def Best (up : Nat → Option Nat) (L : List Nat) : Option Nat → Prop
  | none => ∀ p ∈ L, up p = none
  | some m => up m ≠ none ∧ ∀ z, Ch up m z ↔ ∀ p ∈ L, up p ≠ none → Ch up p z
theorem Best.skip {up : Nat → Option Nat} {L : List Nat} {b : Option Nat} {p : Nat} (h : Best up L b) (hp : up p = none) : Best up (L ++ [p]) b := by
  cases b with
  | none =>
    intro q hq
    rcases List.mem_append.1 hq with h1 | h1
    · exact h q h1
    · simp only [List.mem_singleton] at h1; subst h1; exact hp
  | some m =>
    refine ⟨h.1, fun z => (h.2 z).trans ⟨fun g q hq hs => ?_, fun g q hq => g q (List.mem_append_left _ hq)⟩⟩
    rcases List.mem_append.1 hq with h1 | h1
    · exact g q h1 hs
    · simp only [List.mem_singleton] at h1; subst h1; exact absurd hp hs
theorem Best.first {up : Nat → Option Nat} {L : List Nat} {p : Nat} (h : Best up L none) (hp : up p ≠ none) : Best up (L ++ [p]) (some p) :=
  ⟨hp, fun z => ⟨fun hc q hq hs => by
    rcases List.mem_append.1 hq with h1 | h1
    · exact absurd (h q h1) hs
    · simp only [List.mem_singleton] at h1; subst h1; exact hc, fun g => g p (by simp) hp⟩⟩
theorem Best.more {up : Nat → Option Nat} {L : List Nat} {p m r : Nat} (h : Best up L (some m)) (hp : up p ≠ none) (hr : up r ≠ none) (hb : ∀ z, Ch up r z ↔ (Ch up p z ∧ Ch up m z)) : Best up (L ++ [p]) (some r) :=
  ⟨hr, fun z => (hb z).trans ⟨fun ⟨h1, h2⟩ q hq hs => by
    rcases List.mem_append.1 hq with h3 | h3
    · exact (h.2 z).1 h2 q h3 hs
    · simp only [List.mem_singleton] at h3; subst h3; exact h1, fun g => ⟨g p (by simp) hp, (h.2 z).2 fun q hq hs => g q (List.mem_append_left _ hq) hs⟩⟩⟩
theorem Best.meet {E : Nat → Nat → Prop} {up : Nat → Option Nat} {L : List Nat} {n m : Nat} (h : Best up L (some m)) (hL : ∀ p, p ∈ L ↔ E p n) : Meet E up n m := fun z => (h.2 z).trans ⟨fun g p hp => g p ((hL p).2 hp), fun g p hp => g p ((hL p).1 hp)⟩
def wgt (pl : Nat → Nat) (N : Nat) (up : Nat → Option Nat) (n : Nat) : Nat := match up n with | none => N + 1 | some m => pl m
def sumW (pl : Nat → Nat) (N : Nat) (up : Nat → Option Nat) : Nat → Nat
  | 0 => 0
  | k + 1 => sumW pl N up k + wgt pl N up k
theorem sumW_far {pl : Nat → Nat} {N : Nat} {up : Nat → Option Nat} {n m : Nat} : ∀ k, k ≤ n → sumW pl N (setU up n m) k = sumW pl N up k
  | 0, _ => rfl
  | k + 1, h => by
    unfold sumW
    rw [sumW_far k (by omega)]
    unfold wgt
    rw [setU_ne (by omega)]
theorem sumW_less {pl : Nat → Nat} {N : Nat} {up : Nat → Option Nat} {n m : Nat} (hw : pl m < wgt pl N up n) : ∀ k, n < k → sumW pl N (setU up n m) k < sumW pl N up k
  | 0, h => by omega
  | k + 1, h => by
    unfold sumW
    by_cases e : n = k
    · subst e
      rw [sumW_far n (Nat.le_refl _)]
      have : wgt pl N (setU up n m) n = pl m := by unfold wgt; rw [setU_at]
      omega
    · have := sumW_less hw k (by omega)
      have : wgt pl N (setU up n m) k = wgt pl N up k := by unfold wgt; rw [setU_ne (Ne.symm e)]
      omega
theorem Psd.less {E : Nat → Nat → Prop} {pl : Nat → Nat} {up : Nat → Option Nat} {t N : Nat} (h : Psd E pl up t) (ho : Ord E pl) (hN : ∀ p, R0 E p → pl p ≤ N) {n m : Nat} (hn : n ≠ 0) (hr : R0 E n) (ht : pl n = t) (hnN : n < N) (hme : Meet E up n m) (hne : up n ≠ some m) : sumW pl N (setU up n m) N < sumW pl N up N := by
  obtain ⟨p1, hp1, he1, hl1⟩ := ho.par n hr hn
  have hs1 := h.seen p1 hp1 (by omega)
  have hc1 : Ch up p1 m := (hme m).1 (Ch.refl _) p1 he1 hs1
  have hms := h.tr.some hc1 hs1
  apply sumW_less _ N hnN
  unfold wgt
  cases hu : up n with
  | none => show pl m < N + 1; have := hN m (h.r m hms); omega
  | some m0 =>
    show pl m < pl m0
    have hc := h.low n m0 hn hu m ((hme m).1 (Ch.refl _))
    have h1 := h.tr.le hc
    by_cases h2 : pl m0 ≤ pl m
    · exact absurd (by rw [hu, h.tr.same hc h2]) hne
    · omega
structure UpT (E : Nat → Nat → Prop) (pl : Nat → Nat) (up : Nat → Option Nat) : Prop where
  tr : Tree E pl up
  pz : pl 0 = 0
  is : ∀ n, up n ≠ none ↔ R0 E n
  dom : ∀ n a, R0 E n → (Ch up n a ↔ Dom E a n)
theorem Psd.upT {E : Nat → Nat → Prop} {pl : Nat → Nat} {up : Nat → Option Nat} {t : Nat} (h : Psd E pl up t) (ho : Ord E pl) (ht : ∀ n, R0 E n → pl n < t) (hf : ∀ n, R0 E n → n ≠ 0 → ∃ m, up n = some m ∧ Meet E up n m) : UpT E pl up :=
  ⟨h.tr, ho.z, fun n => ⟨h.r n, fun hn => h.seen n hn (ht n hn)⟩, fun _ _ hn => h.fixed ht hf hn⟩
theorem UpT.next {E : Nat → Nat → Prop} {pl : Nat → Nat} {up : Nat → Option Nat} (h : UpT E pl up) {n m : Nat} (hn : n ≠ 0) (hu : up n = some m) (a : Nat) : (a ≠ n ∧ Dom E a n ∧ ∀ b, b ≠ n → Dom E b n → Dom E b a) ↔ a = m := by
  have hd := h.tr.down n m hn hu
  have hr := hd.1
  have hmr := (h.is m).1 hd.2.2
  have hcm : Ch up n m := Ch.step hn hu (Ch.refl _)
  have hmn : m ≠ n := fun e => by subst e; omega
  constructor
  · intro ⟨h1, h2, h3⟩
    have hca := ((h.dom n a hr).2 h2).tail hu h1
    have hdm := h3 m hmn ((h.dom n m hr).1 hcm)
    have hcm2 := (h.dom a m ((h.is a).1 (h.tr.some hca hd.2.2))).2 hdm
    exact h.tr.same hca (h.tr.le hcm2)
  · rintro rfl
    exact ⟨hmn, (h.dom n a hr).1 hcm, fun b hb hdb => (h.dom a b hmr).1 (((h.dom n b hr).2 hdb).tail hu hb)⟩
theorem Dom.at0 {E : Nat → Nat → Prop} {a : Nat} (h : Dom E a 0) : a = 0 := by
  by_cases e : a = 0
  · exact e
  · exact absurd (Av.zero (Ne.symm e)) h.2
theorem UpT.line {E : Nat → Nat → Prop} {pl : Nat → Nat} {up : Nat → Option Nat} (h : UpT E pl up) {a b c : Nat} (h1 : Dom E a c) (h2 : Dom E b c) : Dom E a b ∨ Dom E b a := by
  have hc := h1.1
  have e1 := (h.dom c a hc).2 h1
  have e2 := (h.dom c b hc).2 h2
  rcases e1.line e2 with h3 | h3
  · exact Or.inr ((h.dom a b h1.left).1 h3)
  · exact Or.inl ((h.dom b a h2.left).1 h3)
theorem UpT.ahead {E : Nat → Nat → Prop} {pl : Nat → Nat} {up : Nat → Option Nat} (h : UpT E pl up) {a b : Nat} (h1 : Dom E a b) (hne : a ≠ b) : pl a < pl b := by
  have hc := (h.dom b a h1.1).2 h1
  have h2 := h.tr.le hc
  by_cases h3 : pl b ≤ pl a
  · exact absurd (h.tr.same hc h3) hne
  · omega

inductive Ls (nx : Nat → List Nat) : List Nat → List Nat → List Nat → List Nat → List Nat → Prop
  | nil (S L : List Nat) : Ls nx [] S L S L
  | skip {n : Nat} {ns S L S' L' : List Nat} (h : n ∈ S) (hs : Ls nx ns S L S' L') : Ls nx (n::ns) S L S' L'
  | go {n : Nat} {ns S L S1 L1 S' L' : List Nat} (h : n ∉ S) (h1 : Ls nx (nx n) (S ++ [n]) L S1 L1) (hs : Ls nx ns S1 (L1 ++ [n]) S' L') : Ls nx (n::ns) S L S' L'
theorem Ls.det {nx : Nat → List Nat} {ns S L S1 L1 S2 L2 : List Nat} (h1 : Ls nx ns S L S1 L1) (h2 : Ls nx ns S L S2 L2) : S1 = S2 ∧ L1 = L2 := by
  induction h1 generalizing S2 L2 with
  | nil => cases h2; exact ⟨rfl, rfl⟩
  | skip h _ ih =>
    cases h2 with
    | skip _ h' => exact ih h'
    | go hn _ _ => exact absurd h hn
  | go h _ _ ih1 ih2 =>
    cases h2 with
    | skip hn _ => exact absurd hn h
    | go _ a b =>
      obtain ⟨e1, e2⟩ := ih1 a
      subst e1 e2
      exact ih2 b
theorem nodup_leN : ∀ (N : Nat) (l : List Nat), l.Nodup → (∀ x ∈ l, x < N) → l.length ≤ N
  | 0, l, _, h => by
    cases l with
    | nil => simp
    | cons a l => exact absurd (h a (by simp)) (by omega)
  | N + 1, l, hn, h => by
    have h1 := nodup_leN N (l.filter fun x => x ≠ N) (hn.sublist List.filter_sublist) (fun x hx => by
      have h2 := List.mem_filter.1 hx
      have h3 := h x h2.1
      have h4 : x ≠ N := by simpa using h2.2
      omega)
    have h2 : l.length ≤ (l.filter fun x => x ≠ N).length + 1 := by
      clear h h1
      induction l with
      | nil => simp
      | cons a l ih =>
        rw [List.nodup_cons] at hn
        by_cases e : a = N
        · subst e
          have : l.filter (fun x => x ≠ a) = l := List.filter_eq_self.2 fun x hx => by
            have : x ≠ a := fun e => by subst e; exact hn.1 hx
            simpa using this
          simp only [List.length_cons]
          rw [List.filter_cons_of_neg (by simp), this]
          exact Nat.le_refl _
        · rw [List.filter_cons_of_pos (by simpa using e)]
          have := ih hn.2
          simp only [List.length_cons]
          omega
    omega
theorem Ls.ex {nx : Nat → List Nat} {N : Nat} (hnx : ∀ p, ∀ q ∈ nx p, q < N) : ∀ (k : Nat) (ns S L : List Nat), (∀ n ∈ ns, n < N) → S.Nodup → (∀ x ∈ S, x < N) → N ≤ S.length + k → ∃ S' L', Ls nx ns S L S' L' ∧ S'.Nodup ∧ (∀ x ∈ S', x < N) ∧ S.length ≤ S'.length := by
  intro k
  induction k with
  | zero =>
    intro ns
    induction ns with
    | nil => exact fun S L _ h1 h2 _ => ⟨S, L, Ls.nil _ _, h1, h2, Nat.le_refl _⟩
    | cons n ns ih =>
      intro S L hn h1 h2 h3
      by_cases h : n ∈ S
      · obtain ⟨S', L', a, b⟩ := ih S L (fun x hx => hn x (by simp [hx])) h1 h2 h3
        exact ⟨S', L', Ls.skip h a, b⟩
      · have := nodup_leN N (S ++ [n]) (List.nodup_append.2 ⟨h1, by simp, fun a ha b hb e => by
          simp only [List.mem_singleton] at hb
          subst hb e
          exact h ha⟩) (fun x hx => by
          rcases List.mem_append.1 hx with h4 | h4
          · exact h2 x h4
          · simp only [List.mem_singleton] at h4; subst h4; exact hn _ (by simp))
        rw [List.length_append] at this
        simp at this
        omega
  | succ k ihk =>
    intro ns
    induction ns with
    | nil => exact fun S L _ h1 h2 _ => ⟨S, L, Ls.nil _ _, h1, h2, Nat.le_refl _⟩
    | cons n ns ih =>
      intro S L hn h1 h2 h3
      by_cases h : n ∈ S
      · obtain ⟨S', L', a, b⟩ := ih S L (fun x hx => hn x (by simp [hx])) h1 h2 h3
        exact ⟨S', L', Ls.skip h a, b⟩
      · obtain ⟨S1, L1, a, b, c, d⟩ := ihk (nx n) (S ++ [n]) L (hnx n) (List.nodup_append.2 ⟨h1, by simp, fun a ha b hb e => by
          simp only [List.mem_singleton] at hb
          subst hb e
          exact h ha⟩) (fun x hx => by
          rcases List.mem_append.1 hx with h4 | h4
          · exact h2 x h4
          · simp only [List.mem_singleton] at h4; subst h4; exact hn _ (by simp)) (by rw [List.length_append]; simp; omega)
        rw [List.length_append] at d
        simp at d
        obtain ⟨S', L', a', b', c', d'⟩ := ih S1 (L1 ++ [n]) (fun x hx => hn x (by simp [hx])) b c (by omega)
        exact ⟨S', L', Ls.go h a a', b', c', by omega⟩
structure LsF (nx : Nat → List Nat) (ns S S' A D : List Nat) : Prop where
  same : ∀ x, x ∈ A ↔ x ∈ D
  new : ∀ x ∈ A, x ∉ S
  nd : D.Nodup
  all : ∀ n ∈ ns, n ∈ S'
  cl : ∀ a ∈ A, ∀ q ∈ nx a, q ∈ S'
  par : ∀ n ∈ D, n ∈ ns ∨ ∃ p D1 D2, D = D1 ++ D2 ∧ n ∈ D1 ∧ p ∈ D2 ∧ n ∈ nx p
theorem Ls.facts {nx : Nat → List Nat} {ns S L S' L' : List Nat} (h : Ls nx ns S L S' L') : ∃ A D, S' = S ++ A ∧ L' = L ++ D ∧ LsF nx ns S S' A D := by
  induction h with
  | nil S L => exact ⟨[], [], by simp, by simp, by simp, by simp, by simp, by simp, by simp, by simp⟩
  | @skip n ns S L S' L' h _ ih =>
    obtain ⟨A, D, e1, e2, f⟩ := ih
    refine ⟨A, D, e1, e2, f.same, f.new, f.nd, fun x hx => ?_, f.cl, fun x hx => ?_⟩
    · rcases List.mem_cons.1 hx with hx | hx
      · subst hx; rw [e1]; exact List.mem_append_left _ h
      · exact f.all x hx
    · rcases f.par x hx with h1 | h1
      · exact Or.inl (List.mem_cons_of_mem _ h1)
      · exact Or.inr h1
  | @go n ns S L S1 L1 S' L' h _ _ ih1 ih2 =>
    obtain ⟨A1, D1, e1, e2, f1⟩ := ih1
    obtain ⟨A2, D2, e3, e4, f2⟩ := ih2
    have hsub1 : ∀ x, x ∈ S1 → x ∈ S' := fun x hx => by rw [e3]; exact List.mem_append_left _ hx
    have hn1 : n ∈ S1 := by rw [e1]; simp
    refine ⟨[n] ++ A1 ++ A2, D1 ++ [n] ++ D2, by rw [e3, e1]; simp, by rw [e4, e2]; simp, fun x => ?_, fun x hx => ?_, ?_, fun x hx => ?_, fun a ha q hq => ?_, fun x hx => ?_⟩
    · simp only [List.mem_append, List.mem_singleton, f1.same, f2.same]
      constructor
      · rintro ((a | a) | a)
        · exact Or.inl (Or.inr a)
        · exact Or.inl (Or.inl a)
        · exact Or.inr a
      · rintro ((a | a) | a)
        · exact Or.inl (Or.inr a)
        · exact Or.inl (Or.inl a)
        · exact Or.inr a
    · simp only [List.mem_append, List.mem_singleton] at hx
      rcases hx with (hx | hx) | hx
      · subst hx; exact h
      · intro h1; exact f1.new x hx (List.mem_append_left _ h1)
      · intro h1; exact f2.new x hx (by rw [e1]; exact List.mem_append_left _ (List.mem_append_left _ h1))
    · have hnD1 : n ∉ D1 := fun h1 => f1.new n ((f1.same n).2 h1) (by simp)
      have hD : ∀ x, x ∈ D2 → x ∉ S1 := fun x hx => f2.new x ((f2.same x).2 hx)
      rw [List.nodup_append, List.nodup_append]
      refine ⟨⟨f1.nd, by simp, fun a ha b hb e => ?_⟩, f2.nd, fun a ha b hb e => ?_⟩
      · simp only [List.mem_singleton] at hb; subst hb e; exact hnD1 ha
      · subst e
        apply hD a hb
        rcases List.mem_append.1 ha with h1 | h1
        · rw [e1]; exact List.mem_append_right _ ((f1.same a).2 h1)
        · simp only [List.mem_singleton] at h1; subst h1; exact hn1
    · rcases List.mem_cons.1 hx with hx | hx
      · subst hx; exact hsub1 _ hn1
      · exact f2.all x hx
    · simp only [List.mem_append, List.mem_singleton] at ha
      rcases ha with (ha | ha) | ha
      · subst ha; exact hsub1 _ (f1.all q hq)
      · exact hsub1 _ (f1.cl a ha q hq)
      · exact f2.cl a ha q hq
    · simp only [List.mem_append, List.mem_singleton] at hx
      rcases hx with (hx | hx) | hx
      · rcases f1.par x hx with h1 | ⟨p, B1, B2, e, h1, h2, h3⟩
        · exact Or.inr ⟨n, D1, [n] ++ D2, by simp, hx, by simp, h1⟩
        · exact Or.inr ⟨p, B1, B2 ++ [n] ++ D2, by rw [e]; simp, h1, by simp [h2], h3⟩
      · subst hx; exact Or.inl (by simp)
      · rcases f2.par x hx with h1 | ⟨p, B1, B2, e, h1, h2, h3⟩
        · exact Or.inl (List.mem_cons_of_mem _ h1)
        · exact Or.inr ⟨p, D1 ++ [n] ++ B1, B2, by rw [e]; simp, by simp [h1], h2, h3⟩
structure OrdL (nx : Nat → List Nat) (N : Nat) (O : List Nat) : Prop where
  hd : O[0]? = some 0
  nd : O.Nodup
  lt : ∀ x ∈ O, x < N
  mem : ∀ x, x ∈ O ↔ R0 (fun p q => q ∈ nx p) x
  par : ∀ n ∈ O, n ≠ 0 → ∃ p, n ∈ nx p ∧ O.idxOf p < O.idxOf n ∧ p ∈ O
theorem Ls.ord {nx : Nat → List Nat} {N : Nat} (hN : 0 < N) (hnx : ∀ p, ∀ q ∈ nx p, q < N) {S L : List Nat} (h : Ls nx (nx 0) [0] [] S L) : OrdL nx N (L ++ [0]).reverse := by
  obtain ⟨A, D, e1, e2, f⟩ := h.facts
  simp only [List.nil_append] at e2
  subst e2
  have h0 : (0 : Nat) ∉ L := fun h => f.new 0 ((f.same 0).2 h) (by simp)
  have hmem : ∀ x, x ∈ L ++ [0] ↔ x ∈ S := fun x => by
    rw [e1]
    simp only [List.mem_append, List.mem_singleton, f.same]
    exact Or.comm
  have hR1 : ∀ x ∈ L ++ [0], R0 (fun p q => q ∈ nx p) x := by
    -- from the back: the one behind is come to
    have key : ∀ k (x : Nat) B1 B2, L ++ [0] = B1 ++ B2 → B2.length ≤ k → x ∈ B2 → R0 (fun p q => q ∈ nx p) x := by
      intro k
      induction k with
      | zero => intro x B1 B2 _ hk hx; rw [List.length_eq_zero_iff.1 (by omega : B2.length = 0)] at hx; cases hx
      | succ k ih =>
        intro x B1 B2 e hk hx
        have hxm : x ∈ L ++ [0] := by rw [e]; exact List.mem_append_right _ hx
        rcases List.mem_append.1 hxm with h1 | h1
        · rcases f.par x h1 with h2 | ⟨p, D1, D2, e2, h2, h3, h4⟩
          · exact R0.step R0.zero h2
          · -- p stands in D2 ++ [0], which is shorter
            have hnd : (L ++ [0]).Nodup := by
              rw [List.nodup_append]
              exact ⟨f.nd, by simp, fun a ha b hb e => by simp only [List.mem_singleton] at hb; subst hb e; exact h0 ha⟩
            have e3 : D1 ++ (D2 ++ [0]) = B1 ++ B2 := by rw [← e, e2]; simp
            have hlen : (D2 ++ [0]).length < B2.length := by
              rcases Nat.lt_or_ge (D2 ++ [0]).length B2.length with h5 | h5
              · exact h5
              · exfalso
                have e4 := congrArg (List.drop D1.length) e3
                have hle : D1.length ≤ B1.length := by
                  have := congrArg List.length e3
                  simp only [List.length_append] at this h5
                  simp at this h5
                  omega
                have hx1 : x ∈ B1 := by
                  have e5 := congrArg (List.take D1.length) e3
                  rw [List.take_append_of_le_length (Nat.le_refl _), List.take_length, List.take_append_of_le_length hle] at e5
                  exact List.mem_of_mem_take (by rw [← e5]; exact h2)
                rw [e, List.nodup_append] at hnd
                exact hnd.2.2 x hx1 x hx rfl
            exact R0.step (ih p D1 (D2 ++ [0]) (by rw [e2]; simp) (by omega) (List.mem_append_left _ h3)) h4
        · simp only [List.mem_singleton] at h1; subst h1; exact R0.zero
    exact fun x hx => key _ x [] (L ++ [0]) rfl (Nat.le_refl _) hx
  have hR2 : ∀ x, R0 (fun p q => q ∈ nx p) x → x ∈ S := fun x hx => by
    induction hx with
    | zero => rw [e1]; simp
    | @step p q _ he ih =>
      rw [e1] at ih
      rcases List.mem_append.1 ih with h1 | h1
      · simp only [List.mem_singleton] at h1; subst h1; exact f.all q he
      · exact f.cl p h1 q he
  have hnd : (L ++ [0]).Nodup := by
    rw [List.nodup_append]
    exact ⟨f.nd, by simp, fun a ha b hb e => by simp only [List.mem_singleton] at hb; subst hb e; exact h0 ha⟩
  refine ⟨by simp, (by rw [List.Nodup, List.pairwise_reverse]; exact hnd.imp fun h => Ne.symm h), fun x hx => ?_, fun x => ?_, fun n hn hn0 => ?_⟩
  · have hr := hR1 x (List.mem_reverse.1 hx)
    cases hr with
    | zero => exact hN
    | step _ h => exact hnx _ _ h
  · rw [List.mem_reverse]
    exact ⟨hR1 x, fun h => (hmem x).2 (hR2 x h)⟩
  · have hnL : n ∈ L := by
      rcases List.mem_append.1 (List.mem_reverse.1 hn) with h1 | h1
      · exact h1
      · simp only [List.mem_singleton] at h1; exact absurd h1 hn0
    obtain ⟨p, B1, B2, e, h1, h2, h3⟩ : ∃ p B1 B2, L ++ [0] = B1 ++ B2 ∧ n ∈ B1 ∧ p ∈ B2 ∧ n ∈ nx p := by
      rcases f.par n hnL with h2 | ⟨p, D1, D2, e, h1, h2, h3⟩
      · exact ⟨0, L, [0], rfl, hnL, by simp, h2⟩
      · exact ⟨p, D1, D2 ++ [0], by rw [e]; simp, h1, by simp [h2], h3⟩
    have hnB : n ∉ B2 := fun h4 => by
      rw [e, List.nodup_append] at hnd
      exact hnd.2.2 n h1 n h4 rfl
    refine ⟨p, h3, ?_, ?_⟩
    · rw [e, List.reverse_append, List.idxOf_append, List.idxOf_append, if_pos (List.mem_reverse.2 h2), if_neg (fun h => hnB (List.mem_reverse.1 h))]
      have := List.idxOf_lt_length_iff.2 (List.mem_reverse.2 h2)
      omega
    · rw [List.mem_reverse, e]; exact List.mem_append_right _ h2
theorem OrdL.ord {nx : Nat → List Nat} {N : Nat} {O : List Nat} (h : OrdL nx N O) : Ord (fun p q => q ∈ nx p) (fun n => O.idxOf n) := by
  have h0 : (0 : Nat) ∈ O := List.mem_of_getElem? h.hd
  refine ⟨fun a b ha hb e => ?_, ?_, fun n hn hn0 => ?_⟩
  · have h1 := List.idxOf_lt_length_iff.2 ((h.mem a).2 ha)
    have h2 := List.idxOf_lt_length_iff.2 ((h.mem b).2 hb)
    have e1 := List.getElem_idxOf h1
    have e2 := List.getElem_idxOf h2
    have e : O.idxOf a = O.idxOf b := e
    rw [← e1, ← e2]
    congr 1
  · cases O with
    | nil => cases h0
    | cons a O =>
      have := h.hd
      simp only [List.getElem?_cons_zero, Option.some.injEq] at this
      subst this
      simp
  · obtain ⟨p, h1, h2, h3⟩ := h.par n ((h.mem n).2 hn) hn0
    exact ⟨p, (h.mem p).1 h3, h1, h2⟩
theorem OrdL.pl_at {nx : Nat → List Nat} {N : Nat} {O : List Nat} (h : OrdL nx N O) {k n : Nat} (hk : O[k]? = some n) : O.idxOf n = k := by
  obtain ⟨hk1, e⟩ := List.getElem?_eq_some_iff.1 hk
  subst e
  exact List.Nodup.idxOf_getElem h.nd k hk1
inductive Rn (nx : Nat → List Nat) : List (Nat × Nat) → List Nat → List Nat → List Nat → List Nat → Prop
  | nil (S L : List Nat) : Rn nx [] S L S L
  | cons {at_ j : Nat} {T : List (Nat × Nat)} {S L S1 L1 S' L' : List Nat} (h1 : Ls nx ((nx at_).drop j) S L S1 L1) (h2 : Rn nx T S1 (L1 ++ [at_]) S' L') : Rn nx ((at_, j)::T) S L S' L'
theorem Rn.skip {nx : Nat → List Nat} {p j n : Nat} {T : List (Nat × Nat)} {S L S' L' : List Nat} (h : Rn nx ((p, j)::T) S L S' L') (hn : (nx p)[j]? = some n) (hS : n ∈ S) : Rn nx ((p, j + 1)::T) S L S' L' := by
  cases h with
  | cons h1 h2 =>
    obtain ⟨hj, e⟩ := List.getElem?_eq_some_iff.1 hn
    rw [List.drop_eq_getElem_cons hj, e] at h1
    cases h1 with
    | skip _ h3 => exact Rn.cons h3 h2
    | go h3 => exact absurd hS h3
theorem Rn.push {nx : Nat → List Nat} {p j n : Nat} {T : List (Nat × Nat)} {S L S' L' : List Nat} (h : Rn nx ((p, j)::T) S L S' L') (hn : (nx p)[j]? = some n) (hS : n ∉ S) : Rn nx ((n, 0)::(p, j + 1)::T) (S ++ [n]) L S' L' := by
  cases h with
  | cons h1 h2 =>
    obtain ⟨hj, e⟩ := List.getElem?_eq_some_iff.1 hn
    rw [List.drop_eq_getElem_cons hj, e] at h1
    cases h1 with
    | skip h3 _ => exact absurd h3 hS
    | go _ h3 h4 => exact Rn.cons (by simpa using h3) (Rn.cons h4 h2)
theorem Rn.pop {nx : Nat → List Nat} {p j : Nat} {T : List (Nat × Nat)} {S L S' L' : List Nat} (h : Rn nx ((p, j)::T) S L S' L') (hn : (nx p).length ≤ j) : Rn nx T S (L ++ [p]) S' L' := by
  cases h with
  | cons h1 h2 =>
    rw [List.drop_eq_nil_of_le hn] at h1
    cases h1
    exact h2

inductive Wf (E : Nat → Nat → Prop) (h a : Nat) : Nat → Prop
  | zero : Wf E h a a
  | step {p q : Nat} (hr : Wf E h a p) (he : E p q) (hne : q ≠ h) : Wf E h a q
theorem Wf.front {E : Nat → Nat → Prop} {h a b e : Nat} (he : E a b) (hb : b ≠ h) (hw : Wf E h b e) : Wf E h a e := by
  induction hw with
  | zero => exact Wf.step Wf.zero he hb
  | step _ h1 h2 ih => exact Wf.step ih h1 h2
theorem Wf.r0 {E : Nat → Nat → Prop} {h a b : Nat} (ha : R0 E a) (hw : Wf E h a b) : R0 E b := by
  induction hw with
  | zero => exact ha
  | step _ h1 _ ih => exact R0.step ih h1
theorem Wf.av {E : Nat → Nat → Prop} {h a b : Nat} (ha : Av E h a) (hw : Wf E h a b) : Av E h b := by
  induction hw with
  | zero => exact ha
  | step _ h1 h2 ih => exact Av.step ih h1 h2
def Bk (E : Nat → Nat → Prop) (h e : Nat) : Prop := R0 E e ∧ E e h ∧ Dom E h e
def InL (E : Nat → Nat → Prop) (h n : Nat) : Prop := n = h ∨ (n ≠ h ∧ R0 E n ∧ ∃ e, Bk E h e ∧ Wf E h n e)
theorem InL.dom {E : Nat → Nat → Prop} {h n : Nat} (hh : R0 E h) (hl : InL E h n) : Dom E h n := by
  rcases hl with rfl | ⟨hne, hr, e, hb, hw⟩
  · exact Dom.refl hh
  · exact ⟨hr, fun hv => hb.2.2.2 (hw.av hv)⟩
theorem Bk.inL {E : Nat → Nat → Prop} {h e : Nat} (hb : Bk E h e) : InL E h e := by
  by_cases he : e = h
  · exact Or.inl he
  · exact Or.inr ⟨he, hb.1, e, hb, Wf.zero⟩
structure Srch (E : Nat → Nat → Prop) (N h : Nat) (V T : List Nat) (cnt : Nat → Nat) : Prop where
  vh : V[0]? = some h
  nd : V.Nodup
  lt : ∀ x ∈ V, x < N
  cn : ∀ x, x ∈ V ↔ (0 < cnt x ∧ R0 E x)
  vi : ∀ x ∈ V, InL E h x
  td : ∀ t ∈ T, t < N ∧ (t = h ∨ ∃ e, Bk E h e ∧ Wf E h t e)
  en : ∀ e, Bk E h e → e ∈ V ∨ e ∈ T
  cl : ∀ x ∈ V, x ≠ h → ∀ p, E p x → R0 E p → p ∈ V ∨ p ∈ T
def oneAt (h : Nat) (x : Nat) : Nat := if x = h then 1 else 0
def bump (cnt : Nat → Nat) (n x : Nat) : Nat := if x = n then cnt n + 1 else cnt x
theorem Srch.start {E : Nat → Nat → Prop} {N h : Nat} (hh : R0 E h) (hN : h < N) {T : List Nat} (hT : ∀ t, t ∈ T ↔ Bk E h t) (hb : ∀ t ∈ T, t < N) : Srch E N h [h] T (oneAt h) := by
  refine ⟨rfl, by simp, fun x hx => ?_, fun x => ?_, fun x hx => ?_, fun t ht => ⟨hb t ht, Or.inr ⟨t, (hT t).1 ht, Wf.zero⟩⟩, fun e he => Or.inr ((hT e).2 he), fun x hx hne => ?_⟩
  · simp only [List.mem_singleton] at hx; subst hx; exact hN
  · unfold oneAt
    by_cases e : x = h
    · subst e; simp [hh]
    · simp [e]
  · simp only [List.mem_singleton] at hx; exact Or.inl hx
  · simp only [List.mem_singleton] at hx; exact absurd hx hne
theorem Srch.skip {E : Nat → Nat → Prop} {N h n : Nat} {V T : List Nat} {cnt : Nat → Nat} (s : Srch E N h V (n::T) cnt) (hn : 0 < cnt n ∨ ¬ R0 E n) : Srch E N h V T (bump cnt n) := by
  have hin : R0 E n → n ∈ V := fun hr => (s.cn n).2 ⟨hn.resolve_right (fun g => g hr), hr⟩
  refine ⟨s.vh, s.nd, s.lt, fun x => ?_, s.vi, fun t ht => s.td t (List.mem_cons_of_mem _ ht), fun e he => ?_, fun x hx hne p hp hr => ?_⟩
  · rw [s.cn x]
    unfold bump
    by_cases e : x = n
    · subst e
      rw [if_pos rfl]
      exact ⟨fun ⟨_, g⟩ => ⟨Nat.succ_pos _, g⟩, fun ⟨_, g⟩ => ⟨hn.resolve_right (fun k => k g), g⟩⟩
    · simp [e]
  · rcases s.en e he with h1 | h1
    · exact Or.inl h1
    · rcases List.mem_cons.1 h1 with h2 | h2
      · subst h2; exact Or.inl (hin he.1)
      · exact Or.inr h2
  · rcases s.cl x hx hne p hp hr with h1 | h1
    · exact Or.inl h1
    · rcases List.mem_cons.1 h1 with h2 | h2
      · subst h2; exact Or.inl (hin hr)
      · exact Or.inr h2
theorem Srch.visit {E : Nat → Nat → Prop} {N h n : Nat} {V T B : List Nat} {cnt : Nat → Nat} (s : Srch E N h V (n::T) cnt) (hn : cnt n = 0) (hr : R0 E n) (hB : ∀ p, p ∈ B ↔ (p < N ∧ E p n)) (hE : ∀ p q, E p q → p < N) : Srch E N h (V ++ [n]) (T ++ B) (bump cnt n) := by
  have hnV : n ∉ V := fun hx => by have := ((s.cn n).1 hx).1; omega
  have hnh : n ≠ h := fun e => by subst e; exact hnV (List.mem_of_getElem? s.vh)
  have htd := s.td n (by simp)
  obtain ⟨e, he, hw⟩ := htd.2.resolve_left hnh
  have hl : 0 < V.length := by have := (List.getElem?_eq_some_iff.1 s.vh).1; omega
  refine ⟨by rw [List.getElem?_append_left hl]; exact s.vh, ?_, fun x hx => ?_, fun x => ?_, fun x hx => ?_, fun t ht => ?_, fun e he => ?_, fun x hx hne p hp hrp => ?_⟩
  · rw [List.nodup_append]
    exact ⟨s.nd, by simp, fun a ha b hb e => by simp only [List.mem_singleton] at hb; subst hb e; exact hnV ha⟩
  · rcases List.mem_append.1 hx with h1 | h1
    · exact s.lt x h1
    · simp only [List.mem_singleton] at h1; subst h1; exact htd.1
  · rw [List.mem_append, List.mem_singleton, s.cn x]
    unfold bump
    by_cases e : x = n
    · subst e
      simp [hr]
    · simp [e]
  · rcases List.mem_append.1 hx with h1 | h1
    · exact s.vi x h1
    · simp only [List.mem_singleton] at h1; subst h1; exact Or.inr ⟨hnh, hr, e, he, hw⟩
  · rcases List.mem_append.1 ht with h1 | h1
    · exact s.td t (List.mem_cons_of_mem _ h1)
    · obtain ⟨h2, h3⟩ := (hB t).1 h1
      exact ⟨h2, Or.inr ⟨e, he, hw.front h3 hnh⟩⟩
  · rcases s.en e he with h1 | h1
    · exact Or.inl (List.mem_append_left _ h1)
    · rcases List.mem_cons.1 h1 with h2 | h2
      · subst h2; exact Or.inl (by simp)
      · exact Or.inr (List.mem_append_left _ h2)
  · rcases List.mem_append.1 hx with h1 | h1
    · rcases s.cl x h1 hne p hp hrp with h2 | h2
      · exact Or.inl (List.mem_append_left _ h2)
      · rcases List.mem_cons.1 h2 with h3 | h3
        · subst h3; exact Or.inl (by simp)
        · exact Or.inr (List.mem_append_left _ h3)
    · simp only [List.mem_singleton] at h1
      subst h1
      exact Or.inr (List.mem_append_right _ ((hB p).2 ⟨hE p x hp, hp⟩))
theorem Srch.done {E : Nat → Nat → Prop} {N h : Nat} {V : List Nat} {cnt : Nat → Nat} (s : Srch E N h V [] cnt) (n : Nat) : n ∈ V ↔ InL E h n := by
  refine ⟨s.vi n, fun hl => ?_⟩
  rcases hl with rfl | ⟨hne, hr, e, he, hw⟩
  · exact List.mem_of_getElem? s.vh
  · have heV : e ∈ V := (s.en e he).resolve_right (by simp)
    have key : ∀ q, Wf E h n q → q ∈ V → q ≠ h → n ∈ V := fun q hq => by
      induction hq with
      | zero => exact fun g _ => g
      | @step p q hr' h1 h2 ih =>
        intro hq hqh
        have hpr := hr'.r0 hr
        have hp : p ∈ V := (s.cl q hq hqh p h1 hpr).resolve_right (by simp)
        refine ih hp ?_
        cases hr' with
        | zero => exact hne
        | step _ _ g => exact g
    refine key e hw heV ?_
    cases hw with
    | zero => exact hne
    | step _ _ g => exact g
theorem Srch.len {E : Nat → Nat → Prop} {N h : Nat} {V T : List Nat} {cnt : Nat → Nat} (s : Srch E N h V T cnt) : V.length ≤ N := nodup_leN N V s.nd s.lt
theorem rise_eq {α : Type} {r : α → α → Prop} (hirr : ∀ a, ¬ r a a) (hasym : ∀ a b, r a b → ¬ r b a) : ∀ {l l' : List α}, l.Pairwise r → l'.Pairwise r → (∀ x, x ∈ l ↔ x ∈ l') → l = l'
  | [], [], _, _, _ => rfl
  | [], b::l', _, _, h => absurd ((h b).2 (by simp)) (by simp)
  | a::l, [], _, _, h => absurd ((h a).1 (by simp)) (by simp)
  | a::l, b::l', h1, h2, h => by
    rw [List.pairwise_cons] at h1 h2
    have e : a = b := by
      rcases List.mem_cons.1 ((h a).1 (by simp)) with e | e
      · exact e
      · rcases List.mem_cons.1 ((h b).2 (by simp)) with e2 | e2
        · exact e2.symm
        · exact absurd (h1.1 b e2) (hasym _ _ (h2.1 a e))
    subst e
    have := rise_eq hirr hasym h1.2 h2.2 (fun x => by
      constructor
      · intro hx
        rcases List.mem_cons.1 ((h x).1 (List.mem_cons_of_mem _ hx)) with e | e
        · subst e; exact absurd (h1.1 x hx) (hirr x)
        · exact e
      · intro hx
        rcases List.mem_cons.1 ((h x).2 (List.mem_cons_of_mem _ hx)) with e | e
        · subst e; exact absurd (h2.1 x hx) (hirr x)
        · exact e)
    rw [this]
noncomputable def upL (N : Nat) (P : Nat → Prop) : List Int := ((List.range N).filter fun n => tb (P n)).map fun n : Nat => (n : Int)
theorem upL_mem {N : Nat} {P : Nat → Prop} {x : Int} : x ∈ upL N P ↔ ∃ n : Nat, x = n ∧ n < N ∧ P n := by
  unfold upL
  rw [List.mem_map]
  constructor
  · rintro ⟨n, h, rfl⟩
    rw [List.mem_filter, List.mem_range, tb_true] at h
    exact ⟨n, rfl, h⟩
  · rintro ⟨n, rfl, h⟩
    exact ⟨n, by rw [List.mem_filter, List.mem_range, tb_true]; exact h, rfl⟩
theorem upL_succ (N : Nat) (P : Nat → Prop) : upL (N + 1) P = upL N P ++ (if tb (P N) = true then [(N : Int)] else []) := by
  unfold upL
  rw [List.range_succ, List.filter_append, List.map_append]
  congr 1
  cases h : tb (P N) <;> simp [h]
theorem upL_zero (P : Nat → Prop) : upL 0 P = [] := rfl
theorem upL_rise (N : Nat) (P : Nat → Prop) : (upL N P).Pairwise (· < ·) := by
  unfold upL
  rw [List.pairwise_map]
  exact (List.Pairwise.filter _ List.pairwise_lt_range).imp fun h => by omega
theorem upL_len (N : Nat) (P : Nat → Prop) : (upL N P).length ≤ N := by
  unfold upL
  rw [List.length_map]
  have := List.length_filter_le (fun n => tb (P n)) (List.range N)
  rwa [List.length_range] at this
theorem upL_uniq {N : Nat} {P : Nat → Prop} {l : List Int} (h : l.Pairwise (· < ·)) (hm : ∀ x, x ∈ l ↔ ∃ n : Nat, x = n ∧ n < N ∧ P n) : l = upL N P :=
  rise_eq (fun a => Int.lt_irrefl a) (fun a _ h1 h2 => absurd (Int.lt_trans h1 h2) (Int.lt_irrefl a)) h (upL_rise N P) fun x => (hm x).trans upL_mem.symm
theorem upL_congr {N : Nat} {P Q : Nat → Prop} (h : ∀ n, n < N → (P n ↔ Q n)) : upL N P = upL N Q := by
  unfold upL
  congr 1
  apply List.filter_congr
  intro n hn
  rw [Bool.eq_iff_iff, tb_true, tb_true]
  exact h n (List.mem_range.1 hn)
def nxN (l : List Ins) (p : Nat) : List Nat := match l[p]? with | some i => (i.next p).map Int.toNat | none => []
def Eg (l : List Ins) (p q : Nat) : Prop := q ∈ nxN l p
theorem nxN_int {f : Fn7} (hf : OkF f) {p : Nat} {i : Ins} (hi : f.code[p]? = some i) : i.next p = (nxN f.code p).map fun n : Nat => (n : Int) := by
  unfold nxN
  rw [hi]
  simp only [List.map_map]
  conv => lhs; rw [← List.map_id (i.next p)]
  apply List.map_congr_left
  intro n hn
  have := (hf.next hi n hn).1
  simp only [id_eq, Function.comp_apply]
  omega
theorem Eg.lt {f : Fn7} (hf : OkF f) {p q : Nat} (h : Eg f.code p q) : q < f.code.length := by
  unfold Eg nxN at h
  cases hi : f.code[p]? with
  | none => rw [hi] at h; cases h
  | some i =>
    rw [hi] at h
    simp only at h
    obtain ⟨n, hn, rfl⟩ := List.mem_map.1 h
    exact (hf.next hi n hn).2
theorem Eg.lt1 {l : List Ins} {p q : Nat} (h : Eg l p q) : p < l.length := by
  unfold Eg nxN at h
  cases hi : l[p]? with
  | none => rw [hi] at h; cases h
  | some i => exact (List.getElem?_eq_some_iff.1 hi).1
theorem Eg_iff {f : Fn7} (hf : OkF f) {p q : Nat} {i : Ins} (hi : f.code[p]? = some i) : (q : Int) ∈ i.next p ↔ Eg f.code p q := by
  rw [nxN_int hf hi]
  unfold Eg
  rw [List.mem_map]
  constructor
  · rintro ⟨n, hn, e⟩
    have : n = q := by omega
    subst this
    exact hn
  · exact fun h => ⟨q, h, rfl⟩
theorem Rch_r0 {f : Fn7} (hf : OkF f) {p : Nat} : Rch f.code p ↔ R0 (Eg f.code) p := by
  constructor
  · intro h
    induction h with
    | zero => exact R0.zero
    | @step p i n hr h hn ih =>
      refine R0.step ih ((Eg_iff hf h).1 ?_)
      have := (hf.next h n hn).1
      rwa [Int.toNat_of_nonneg this]
  · intro h
    induction h with
    | zero => exact Rch.zero (by have := hf.len; omega)
    | @step p q hr he ih =>
      obtain ⟨i, hi⟩ : ∃ i, f.code[p]? = some i := ⟨_, List.getElem?_eq_getElem he.lt1⟩
      have := Rch.step ih hi ((Eg_iff hf hi).2 he)
      simpa using this
theorem ord_of {f : Fn7} (hf : OkF f) : ∃ O, OrdL (nxN f.code) f.code.length O ∧ ∃ S L, Ls (nxN f.code) (nxN f.code 0) [0] [] S L ∧ O = (L ++ [0]).reverse := by
  have hl := hf.len
  have hnx : ∀ p, ∀ q ∈ nxN f.code p, q < f.code.length := fun p q hq => Eg.lt hf hq
  obtain ⟨S, L, h1, _⟩ := Ls.ex hnx f.code.length (nxN f.code 0) [0] [] (hnx 0) (by simp) (fun x hx => by simp only [List.mem_singleton] at hx; subst hx; omega) (by omega)
  exact ⟨_, h1.ord (by omega) hnx, S, L, h1, rfl⟩
open Go.RowKit Go.BigFrame

def gN (n : Int) : List Value := [.int .i64 n]
theorem PreN.cell {W : World} {b : Nat} {l : List Int} {t : TypeId} (h : Pre gN 1 t W b l) {j : Nat} {v : Int} (hj : l[j]? = some v) : W.cell? ⟨b, j, none⟩ = some (.int .i64 v) := by
  have := h.cell hj (k := 0) (by omega) (v := .int .i64 v) rfl
  simpa using this
theorem PreN.set {W : World} {b : Nat} {l : List Int} {t : TypeId} (h : Pre gN 1 t W b l) {j : Nat} (hj : j < l.length) (v : Int) : Pre gN 1 t (W.setCell ⟨b, j, none⟩ (.int .i64 v)) b (l.set j v) := by
  have := h.store (j := j) (x := l[j]) (y := v) (List.getElem?_eq_getElem hj) (k := 0) (by omega) (v := .int .i64 v) rfl rfl (fun k' hk' => by
    cases k' with
    | zero => exact absurd rfl hk'
    | succ k' => rfl)
  simpa using this
theorem PreN.rd {W : World} {b : Nat} {l : List Int} {t : TypeId} (h : Pre gN 1 t W b l) : RdN W (some ⟨b, 0, none⟩) l := fun j n hn => ⟨b, 0, rfl, Pre.lt h, by rw [Nat.zero_add]; exact PreN.cell h hn⟩
theorem info_n2 : (Try.prog.info? 3).map (fun i => (i.zero, i.size, i.bytes)) = some (some (.int .i64 0), 1, 8) := by kernel_rfl
theorem make_ints (L : Nat) (hL : L ≤ 100000) (W : World) : (Instr.makeSlice 45 (.int .i64 L) (.int .i64 L)).run Try.prog W = .ok (.slice (some ⟨W.heap.size, 0, none⟩) L L) (W.alloc (.cells (madeCells #[.int .i64 0] L) 3)) := by
  obtain ⟨i0, hi, hz0, hz1, hz2⟩ := info_parts info_n2
  have := run_make (P := Try.prog) W 45 3 i0 (.int .i64 0) (by kernel_rfl) hi hz0 .i64 .i64 L L (by omega) (by omega) (by rw [hz2]; omega) (by omega)
  simpa [hz1, Value.cells] using this
theorem made_ints (W : World) (N : Nat) : Pre gN 1 3 (W.alloc (.cells (madeCells #[.int .i64 0] N) 3)) W.heap.size (List.replicate N 0) := by
  have h := made_pre (g := gN) (d := 1) (t := 3) W #[.int .i64 0] N 0 rfl (fun k hk => by
    obtain rfl : k = 0 := by omega
    rfl)
  rwa [Nat.mul_one] at h
def OwT (base : Nat) (l : List Int) (e : Ending) (w : World) : Prop := ∃ V, e = .returned V ∧ OwnN w V l ∧ ∀ b, V.ownBlock = some b → base ≤ b
theorem OwT.slf {base : Nat} {l : List Int} {e : Ending} {w : World} (h : OwT base l e w) : SlF base l e w := by
  obtain ⟨V, rfl, ho, hb⟩ := h
  obtain ⟨A, cap, rfl, h1, h2⟩ := ho.form
  exact ⟨A, cap, rfl, h2, fun b o e => hb b (by rw [e]; rfl)⟩
theorem OwnN.grown {w w' : World} {V : Value} {l : List Int} {row : Option Nat} (h : OwnN w V l) (hg : w.grownBy w' row) (hne : V.ownBlock = none ∨ V.ownBlock ≠ row) : OwnN w' V l := World.ownsRow.kept h hg hne
theorem OwnN.keepS {w w' : World} {V : Value} {l : List Int} (h : OwnN w V l) (hk : ∀ b, V.ownBlock = some b → w'.heap[b]? = w.heap[b]?) : OwnN w' V l := by
  obtain ⟨h1, h2⟩ := h
  refine ⟨h1, ?_⟩
  rcases h2 with h2 | ⟨g, cap, cur, e, h3, h4, h5⟩
  · exact Or.inl h2
  · exact Or.inr ⟨g, cap, cur, e, h3, by rw [hk g (by rw [e]; rfl)]; exact h4, h5⟩
structure RowsO (w : World) (base ob N : Nat) (vs : Nat → Value) (B : Nat → List Int) : Prop where
  hob : base ≤ ob
  pre : Pre g1 1 45 w ob ((List.range N).map vs)
  own : ∀ j, j < N → OwnN w (vs j) (B j)
  far : ∀ j b, j < N → (vs j).ownBlock = some b → base ≤ b ∧ b ≠ ob ∧ b < w.heap.size
  two : ∀ i j b, i < N → j < N → i ≠ j → (vs i).ownBlock = some b → (vs j).ownBlock ≠ some b
theorem RowsO.cell {w : World} {base ob N : Nat} {vs : Nat → Value} {B : Nat → List Int} (h : RowsO w base ob N vs B) {n : Nat} (hn : n < N) : w.cell? ⟨ob, n, none⟩ = some (vs n) := Pre1.cell h.pre (by simp [hn])
theorem RowsO.later {w w' : World} {base ob N : Nat} {vs : Nat → Value} {B : Nat → List Int} (h : RowsO w base ob N vs B) (hb : Below w.heap.size w w') : RowsO w' base ob N vs B :=
  ⟨h.hob, Pre.later h.pre hb, fun j hj => (h.own j hj).later hb, fun j b hj e => by obtain ⟨h1, h2, h3⟩ := h.far j b hj e; exact ⟨h1, h2, Nat.lt_of_lt_of_le h3 hb.size⟩, h.two⟩
theorem RowsO.made (W : World) (N : Nat) (base : Nat) (hb : base ≤ W.heap.size) : RowsO (W.alloc (.cells (madeCells #[.slice none 0 0] N) 45)) base W.heap.size N (fun _ => .slice none 0 0) (fun _ => []) := by
  have h := made_pre (g := g1) (d := 1) (t := 45) W #[.slice none 0 0] N (.slice none 0 0) rfl (fun k hk => by
    obtain rfl : k = 0 := by omega
    rfl)
  rw [Nat.mul_one] at h
  refine ⟨hb, ?_, fun j _ => OwnN.nil _, (fun j b _ e => by cases e), (fun i j b _ _ _ e => by cases e)⟩
  rw [show (List.range N).map (fun _ => Value.slice none 0 0) = List.replicate N (.slice none 0 0) by rw [List.map_const', List.length_range]]
  exact h
def rowAt (vs : Nat → Value) (n : Nat) (v : Value) (j : Nat) : Value := if j = n then v else vs j
def addAt (B : Nat → List Int) (n : Nat) (x : Int) (j : Nat) : List Int := if j = n then B n ++ [x] else B j
theorem RowsO.push {w wa w' : World} {base ob N : Nat} {vs : Nat → Value} {B : Nat → List Int} (h : RowsO w base ob N vs B) {n : Nat} (hn : n < N) {x : Int} {v : Value} {o : Obj} (ha : wa = w.alloc o)
    (ho : OwnN w' v (B n ++ [x])) (hg : wa.grownBy w' (vs n).ownBlock) (hv : v.ownBlock = (vs n).ownBlock ∨ v.ownBlock = some (w.heap.size + 1)) (hbase : base ≤ w.heap.size) : RowsO (w'.setCell ⟨ob, n, none⟩ v) base ob N (rowAt vs n v) (addAt B n x) := by
  subst ha
  have hobl := Pre.lt h.pre
  have hsz : w.heap.size + 1 ≤ w'.heap.size := by have := hg.size; simpa using this
  have hkeep : ∀ b, b < w.heap.size → (vs n).ownBlock ≠ some b → w'.heap[b]? = w.heap[b]? := fun b hb hne => (hg.block b (by simp; omega) (fun e => hne e.symm)).trans (heap_alloc_old w o hb)
  have hnob : (vs n).ownBlock ≠ some ob := fun e => (h.far n ob hn e).2.1 rfl
  have hpre : Pre g1 1 45 w' ob ((List.range N).map vs) := h.pre.of_heap (hkeep ob hobl hnob)
  have hvob : ∀ b, v.ownBlock = some b → base ≤ b ∧ b ≠ ob ∧ b < w'.heap.size := fun b hb => by
    rcases hv with e | e
    · rw [e] at hb
      obtain ⟨h1, h2, h3⟩ := h.far n b hn hb
      exact ⟨h1, h2, by omega⟩
    · rw [e] at hb
      injection hb with hb
      subst hb
      refine ⟨by omega, by omega, ?_⟩
      obtain ⟨_, _, _, h2, _⟩ := ho.form
      exact h2 _ e
  have hset : ∀ {u : Value} {l : List Int}, OwnN w' u l → (∀ b, u.ownBlock = some b → b ≠ ob) → OwnN (w'.setCell ⟨ob, n, none⟩ v) u l := fun ho hne => ho.keepS fun b hb => heap_setCell_other w' ⟨ob, n, none⟩ b v (fun e => hne b hb e)
  refine ⟨h.hob, ?_, fun j hj => ?_, fun j b hj e => ?_, fun i j b hi hj hij e => ?_⟩
  · have h1 := Pre1.set hpre (j := n) (by simpa using hn) v
    have h2 : ((List.range N).map vs).set n v = (List.range N).map (rowAt vs n v) := by
      apply List.ext_getElem?
      intro j
      rw [List.getElem?_set]
      by_cases e : n = j
      · subst e; simp [hn, rowAt]
      · rw [if_neg e]
        by_cases hj : j < N
        · simp [hj, rowAt, Ne.symm e]
        · rw [List.getElem?_eq_none (by simpa using hj), List.getElem?_eq_none (by simpa using hj)]
    rw [h2] at h1
    exact h1
  · unfold rowAt addAt
    by_cases e : j = n
    · rw [if_pos e, if_pos e]
      exact hset ho fun b hb => (hvob b hb).2.1
    · rw [if_neg e, if_neg e]
      refine hset ?_ fun b hb => (h.far j b hj hb).2.1
      exact (h.own j hj).keepS fun b hb => hkeep b (h.far j b hj hb).2.2 (fun e2 => h.two n j b hn hj (Ne.symm e) e2 hb)
  · unfold rowAt at e
    simp only [World.size_setCell]
    split at e
    · exact hvob b e
    · obtain ⟨h1, h2, h3⟩ := h.far j b hj e
      exact ⟨h1, h2, by omega⟩
  · unfold rowAt at e ⊢
    by_cases hin : i = n
    · rw [if_pos hin] at e
      rw [if_neg (by omega)]
      rcases hv with e2 | e2
      · exact h.two n j b hn hj (by omega) (by rw [← e2]; exact e)
      · intro e3
        rw [e2] at e
        injection e with e
        have := (h.far j b hj e3).2.2
        omega
    · rw [if_neg hin] at e
      by_cases hjn : j = n
      · rw [if_pos hjn]
        intro e3
        rcases hv with e2 | e2
        · exact h.two i n b hi hn hin e (by rw [← e2]; exact e3)
        · rw [e2] at e3
          injection e3 with e3
          have := (h.far i b hi e).2.2
          omega
      · rw [if_neg hjn]
        exact h.two i j b hi hj hij e
theorem RowsO.still {w w' : World} {base ob N : Nat} {vs : Nat → Value} {B : Nat → List Int} (h : RowsO w base ob N vs B) {n : Nat} (hn : n < N) {o : Obj} (hg : (w.alloc o).grownBy w' (vs n).ownBlock) : (∀ k, w'.frozen? ⟨ob, k, none⟩ = false) ∧ ob < w'.heap.size ∧ ∀ j, j < N → w'.cell? ⟨ob, j, none⟩ = some (vs j) := by
  have hobl := Pre.lt h.pre
  have hp : Pre g1 1 45 w' ob ((List.range N).map vs) := h.pre.of_heap ((hg.block ob (by simp only [World.size_alloc]; omega) (fun e => (h.far n ob hn e.symm).2.1 rfl)).trans (heap_alloc_old w o hobl))
  exact ⟨fun k => Pre.free hp k, Pre.lt hp, fun j hj => Pre1.cell hp (by simp [hj])⟩
def RowsR (w : World) (ob N : Nat) (B : Nat → List Int) : Prop := ∀ j, j < N → ∃ A c, w.cell? ⟨ob, j, none⟩ = some (.slice A (B j).length c) ∧ RdN w A (B j)
theorem RowsO.rd {w : World} {base ob N : Nat} {vs : Nat → Value} {B : Nat → List Int} (h : RowsO w base ob N vs B) : RowsR w ob N B := fun j hj => by
  obtain ⟨A, c, e, _, h2⟩ := (h.own j hj).form
  exact ⟨A, c, by rw [h.cell hj, e], h2⟩
theorem RowsO.far2 {w : World} {base ob N : Nat} {vs : Nat → Value} {B : Nat → List Int} (h : RowsO w base ob N vs B) : ∀ j, j < N → ∀ A n c, w.cell? ⟨ob, j, none⟩ = some (.slice A n c) → ∀ b o, A = some ⟨b, o, none⟩ → base ≤ b ∧ b < w.heap.size := fun j hj A n c hc b o e => by
  rw [h.cell hj] at hc
  injection hc with hc
  have h1 := h.far j b hj (by rw [hc, e]; rfl)
  exact ⟨h1.1, h1.2.2⟩
theorem RowsR.below {w w' : World} {ob N : Nat} {B : Nat → List Int} (h : RowsR w ob N B) (hb : Below w.heap.size w w') : RowsR w' ob N B := fun j hj => by
  obtain ⟨A, c, h1, h2⟩ := h j hj
  exact ⟨A, c, (hb.cell (p := ⟨ob, j, none⟩) (World.block_lt_of_cell? w _ h1)).trans h1, h2.below hb⟩
def RowsRT (base N : Nat) (B : Nat → List Int) (e : Ending) (w : World) : Prop := ∃ ob, e = .returned (.slice (some ⟨ob, 0, none⟩) N N) ∧ base ≤ ob ∧ ob < w.heap.size ∧ RowsR w ob N B ∧ ∀ j, j < N → ∀ A n c, w.cell? ⟨ob, j, none⟩ = some (.slice A n c) → ∀ b o, A = some ⟨b, o, none⟩ → base ≤ b ∧ b < w.heap.size
end Go.Proofs.Ythbcdckonaljiaa
