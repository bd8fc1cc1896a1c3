import Derived.Test.YtihbgppcacaekaaDoorCw
/- A REGION THAT DRAWS ITS ORDER, stores in its head too (code/Cw's law). -/
namespace Go.Proofs.YtihbgppcacaekaaDoor
open Go Go.RowKit

section
def grownB2 (l : List Oper) (n m : Nat) : Bool :=
  Region.noSelect l.toArray && decide (n < l.length) && Region.sinkB .any l.toArray n && Region.chainB .any l.toArray n && Region.seqB .any l.toArray (l.length - n) n (fullB l.length n)
    && (List.range n).all (fun i => match l[i]? with | some o => o.guard.isNone && (match o.dst with | some d => decide (d < m) && decide (whoT l n d = some i) | none => true) && o.after.all (fun e => !Region.binds .any e || decide (e.on < i)) | none => false)
def StepT2 (P : Program) (W0 : Act) (l : List Oper) (n : Nat) (I : (Nat → Option Value) → World → Prop) (i : Nat) (o : Oper) (s : Nat → Option Value) (w : World) : Prop :=
  StepT P W0 l n I i o s w ∨ ∃ w', (execOp (evalT W0 l n s) o).run P w = .ok .skip w' ∧ I (updT s i undef) w'
variable {P : Program} {l : List Oper} {n : Nat} {I : (Nat → Option Value) → World → Prop} {a0 : Act}
theorem AsT.put2 {s : Nat → Option Value} {a : Act} (h : AsT a0 l n s a) {i : Nat} {o : Oper} (ho : l[i]? = some o) (hw : ∀ d, o.dst = some d → whoT l n d = some i) (v : Value) : AsT a0 l n (updT s i v) (a.put o.dst v) := by
  cases hd : o.dst with
  | some d =>
    have := h.put ho hd (hw d hd) v
    rwa [hd] at this
  | none =>
    refine ⟨h.size, h.defers, fun t ht => ?_⟩
    show a.tmps.getD t undef = _
    rw [h.val t ht]
    cases hwt : whoT l n t with
    | none => rfl
    | some j =>
      have hj := whoT_spec hwt
      have hne : j ≠ i := by
        rintro rfl
        rw [ho] at hj
        simp [hd] at hj
      simp [updT, hne]
theorem putsT_spec2 {s : Nat → Option Value} : ∀ (k : List Oper) (p : Nat) (a : Act), (∀ j, j < k.length → k[j]? = l[p + j]?) → p + k.length = n → (∀ i, i < n → ∃ o, l[i]? = some o ∧ ∀ d, o.dst = some d → d < a0.tmps.size ∧ whoT l n d = some i) → (∀ i, i < n → (s i).isSome) →
    a.tmps.size = a0.tmps.size → a.defers = a0.defers → (∀ t, t < a0.tmps.size → a.tmps.getD t undef = ((whoT l n t).bind fun j => if j < p then s j else none).getD (a0.tmps.getD t undef)) → AsT a0 l n s (putsT k s p a)
  | [], p, a, _, hp, hall, _, h1, h2, h3 => ⟨h1, h2, fun t ht => by
      show a.tmps.getD t undef = _
      rw [h3 t ht]
      cases hw : whoT l n t with
      | none => rfl
      | some j =>
        have hj := (whoT_spec hw).1
        have : j < p := by simp at hp; omega
        simp [this]⟩
  | o :: k, p, a, hk, hp, hall, hs, h1, h2, h3 => by
    have hpn : p < n := by simp at hp; omega
    obtain ⟨o', ho', hdw⟩ := hall p hpn
    have h0 : l[p]? = some o := by simpa using (hk 0 (by simp)).symm
    obtain rfl : o' = o := by rw [h0] at ho'; exact (Option.some.inj ho').symm
    show AsT a0 l n s (putsT k s (p + 1) (a.put o'.dst ((s p).getD undef)))
    cases hd : o'.dst with
    | none =>
      refine putsT_spec2 k (p + 1) a (fun j hj => by have := hk (j + 1) (by simp; omega); simpa [Nat.add_assoc, Nat.add_comm 1 j] using this) (by simp at hp; omega) hall hs h1 h2 (fun t ht => ?_)
      rw [h3 t ht]
      cases hwt : whoT l n t with
      | none => rfl
      | some j =>
        have hj := whoT_spec hwt
        have hne : j ≠ p := by
          rintro rfl
          rw [ho'] at hj
          simp [hd] at hj
        have : (j < p + 1) = (j < p) := by apply propext; omega
        simp [this]
    | some d =>
      obtain ⟨hdm, hw⟩ := hdw d hd
      refine putsT_spec2 k (p + 1) _ (fun j hj => by have := hk (j + 1) (by simp; omega); simpa [Nat.add_assoc, Nat.add_comm 1 j] using this) (by simp at hp; omega) hall hs (by simp [Act.put, h1]) h2 (fun t ht => ?_)
      by_cases htd : d = t
      · subst htd
        have : d < a.tmps.size := by rw [h1]; exact ht
        have h9 := hs p hpn
        cases hsp : s p with
        | none => rw [hsp] at h9; cases h9
        | some v => simp [Act.put, hw, this, hsp]
      · have e2 : (a.put (some d) ((s p).getD undef)).tmps.getD t undef = a.tmps.getD t undef := by simp [Act.put, Array.getElem?_setIfInBounds_ne htd]
        rw [e2, h3 t ht]
        cases hwt : whoT l n t with
        | none => rfl
        | some j =>
          have hj := whoT_spec hwt
          have hne : j ≠ p := by
            rintro rfl
            rw [ho'] at hj
            simp only [Option.bind_some, hd, Option.some.injEq] at hj
            exact htd hj.2
          have : (j < p + 1) = (j < p) := by apply propext; omega
          simp [this]
theorem wpAny_grown2 {Q : Exit → Act → World → Prop} (hB : grownB2 l n a0.tmps.size = true)
    (hstep : ∀ i o s w, i < n → l[i]? = some o → I s w → s i = none → (∀ e ∈ o.after, Region.binds .any e = true → (s e.on).isSome = true) → StepT2 P a0 l n I i o s w)
    (hend : ∀ s w, I s w → (∀ i, i < n → (s i).isSome = true) → wpList P l.toArray Q (l.drop n) (putsT (l.take n) s 0 a0) w) :
    ∀ (f : Nat) (s : Nat → Option Value) (listed : Array Bool) (a : Act) (w : World), ((List.range n).filter fun i => (s i).isNone).length = f → ListedT l n s listed → AsT a0 l n s a → I s w → wpAny P .any l.toArray Q (f + (l.length - n)) listed a w := by
  simp only [grownB2, Bool.and_eq_true, decide_eq_true_eq] at hB
  obtain ⟨⟨⟨⟨⟨hsel, hn⟩, hs⟩, hc⟩, hseq⟩, hops⟩ := hB
  have hall : ∀ i, i < n → ∃ o, l[i]? = some o ∧ (∀ d, o.dst = some d → d < a0.tmps.size ∧ whoT l n d = some i) ∧ o.guard = none ∧ ∀ e ∈ o.after, Region.binds .any e = true → e.on < i := fun i hi => by
    have h1 := List.all_eq_true.1 hops i (List.mem_range.2 hi)
    cases ho : l[i]? with
    | none => rw [ho] at h1; simp at h1
    | some o =>
      rw [ho] at h1
      simp only [Bool.and_eq_true] at h1
      obtain ⟨⟨h2, h3⟩, h4⟩ := h1
      refine ⟨o, rfl, fun d hd => ?_, by simpa using h2, fun e he hb => ?_⟩
      · rw [hd] at h3
        simp only [Bool.and_eq_true, decide_eq_true_eq] at h3
        exact h3
      · have h5 := Array.all_eq_true_iff_forall_mem.1 h4 e he
        simp only [hb, Bool.not_true, Bool.false_or, decide_eq_true_eq] at h5
        exact h5
  have hdd : ∀ t j, whoT l n t = some j → t < a0.tmps.size := fun t j h => by
    obtain ⟨h1, h2⟩ := whoT_spec h
    obtain ⟨o, ho, hd, _⟩ := hall j h1
    rw [ho] at h2
    simp only [Option.bind_some] at h2
    exact (hd t h2).1
  intro f
  induction f with
  | zero =>
    intro s listed a w hf hL hA hI
    have hsome : ∀ i, i < n → (s i).isSome = true := fun i hi => by
      have h1 : i ∉ (List.range n).filter fun i => (s i).isNone := by
        rw [List.eq_nil_of_length_eq_zero hf]; simp
      simp only [List.mem_filter, List.mem_range, not_and] at h1
      have := h1 hi
      cases hsi : s i with
      | none => rw [hsi] at this; simp at this
      | some v => rfl
    have hfull : listed = fullB l.length n := by
      apply Array.ext
      · rw [hL.inv.size]; simp [fullB]
      · intro i h1 h2
        have hi : i < l.length := by have := hL.inv.size; simp at this; omega
        rcases Nat.lt_or_ge i n with hin | hin
        · have := (hL.told i hin).2 (hsome i hin)
          simp only [Array.getD, h1, dif_pos] at this
          simp [fullB, hin]
          exact this
        · have := hL.inv.tail i hin (by simpa using hi)
          simp only [Array.getD, h1, dif_pos] at this
          simp [fullB, Nat.not_lt.2 hin]
          exact this
    have hE := hend s w hI hsome
    have hA2 : AsT a0 l n s (putsT (l.take n) s 0 a0) := putsT_spec2 (l.take n) 0 a0 (fun j hj => by
        have : j < n := by simp at hj; omega
        simp [this]) (by simp; omega) (fun i hi => by obtain ⟨o, h1, h2, _⟩ := hall i hi; exact ⟨o, h1, h2⟩) hsome rfl rfl (fun t ht => by
          cases whoT l n t with
          | none => rfl
          | some j => simp)
    rw [← hA.eq hA2] at hE
    have hdl : (l.drop n).length = l.length - n := by simp
    have := wpAny_of_seq (md := .any) (Q' := Q) (l.drop n) n listed a w (fun j => by simp [List.getElem?_drop]) (by rw [hdl, hfull]; exact hseq) hE
    rw [hdl] at this
    rwa [Nat.zero_add]
  | succ f ih =>
    intro s listed a w hf hL hA hI
    have hsz : listed.size = l.length := by have := hL.inv.size; simpa using this
    obtain ⟨i1, hi1, hn1⟩ : ∃ i, i < n ∧ s i = none := by
      have h1 : ((List.range n).filter fun i => (s i).isNone) ≠ [] := fun h => by rw [h] at hf; cases hf
      obtain ⟨i, hi⟩ := List.exists_mem_of_ne_nil _ h1
      simp only [List.mem_filter, List.mem_range, Option.isNone_iff_eq_none] at hi
      exact ⟨i, hi.1, hi.2⟩
    obtain ⟨i0, hi0, hn0, hfst⟩ : ∃ i, i < n ∧ s i = none ∧ ∀ j, j < i → (s j).isSome = true := by
      have key : ∀ k i, i < k → i < n → s i = none → ∃ i, i < n ∧ s i = none ∧ ∀ j, j < i → (s j).isSome = true := by
        intro k
        induction k with
        | zero => intro i h; exact absurd h (Nat.not_lt_zero _)
        | succ k ihk =>
          intro i hik hin hsi
          by_cases hex : ∃ j, j < i ∧ s j = none
          · obtain ⟨j, hji, hsj⟩ := hex
            exact ihk j (by omega) (by omega) hsj
          · refine ⟨i, hin, hsi, fun j hj => ?_⟩
            cases h : s j with
            | none => exact absurd ⟨j, hj, h⟩ hex
            | some v => rfl
      exact key (i1 + 1) i1 (Nat.lt_succ_self _) hi1 hn1
    have hun : listed.getD i0 true = false := by
      have h1 : listed.getD i0 false = false := by
        cases h : listed.getD i0 false with
        | false => rfl
        | true => have := (hL.told i0 hi0).1 h; rw [hn0] at this; cases this
      exact getD_in (by omega) h1
    rw [show f + 1 + (l.length - n) = (f + (l.length - n)) + 1 by omega]
    have hready : Region.ready .any l.toArray listed ≠ [] := by
      obtain ⟨o, ho, _, _, hon⟩ := hall i0 hi0
      have hr : i0 ∈ Region.ready .any l.toArray listed := mem_ready.2 ⟨hun, o, by simpa using ho, fun e he hb => (hL.told e.on (Nat.lt_trans (hon e he hb) hi0)).2 (hfst e.on (hon e he hb))⟩
      intro h
      rw [h] at hr
      cases hr
    refine ⟨fun h0 => absurd h0 hready, fun i hi => ?_⟩
    have hin : i < n := by
      rcases Nat.lt_or_ge i n with h | h
      · exact h
      · exact absurd hi (tail_waits hs hc (by simpa using hn) hL.inv _ i0 rfl hi0 hun i h)
    obtain ⟨hiu, o', ho', haft⟩ := mem_ready.1 hi
    obtain ⟨o, ho, hd, hg, hon⟩ := hall i hin
    obtain rfl : o' = o := by
      have : l[i]? = some o' := by simpa using ho'
      rw [ho] at this; exact (Option.some.inj this).symm
    have hsi : s i = none := by
      cases h : s i with
      | none => rfl
      | some v =>
        have := (hL.told i hin).2 (by rw [h]; rfl)
        rw [getD_both hiu] at this; cases this
    have hst := hstep i o' s w hin ho hI hsi (fun e he hb => (hL.told _ (Nat.lt_trans (hon e he hb) hin)).1 (haft e he hb))
    have hnext : ∀ v w', I (updT s i v) w' → wpAny P .any l.toArray Q (f + (l.length - n)) (listed.setIfInBounds i true) (a.put o'.dst v) w' := fun v w' hI' => by
      refine ih (updT s i v) _ _ _ ?_ ⟨hL.inv.set hi hin, fun j hj => ?_⟩ (hA.put2 ho (fun d h => (hd d h).2) v) hI'
      · have key : ∀ (k : List Nat), k.Nodup → i ∈ k → (k.filter fun j => (updT s i v j).isNone).length + 1 = (k.filter fun j => (s j).isNone).length := by
          intro k
          induction k with
          | nil => intro _ h; cases h
          | cons x k ihk =>
            intro hnd hik
            rw [List.nodup_cons] at hnd
            by_cases hxi : x = i
            · subst hxi
              have e : k.filter (fun j => (updT s x v j).isNone) = k.filter (fun j => (s j).isNone) := by
                apply List.filter_congr
                intro j hj
                have : j ≠ x := fun h => hnd.1 (h ▸ hj)
                simp [updT, this]
              simp [updT, hsi]
              rw [← e]
              simp [updT]
            · have hik' : i ∈ k := by
                rcases List.mem_cons.1 hik with h | h
                · exact absurd h.symm hxi
                · exact h
              have := ihk hnd.2 hik'
              have e : updT s i v x = s x := by simp [updT, hxi]
              simp only [List.filter_cons, e]
              split
              · simp only [List.length_cons]; omega
              · exact this
        have := key (List.range n) List.nodup_range (List.mem_range.2 hin)
        omega
      · by_cases hji : i = j
        · subst hji
          have : i < listed.size := by omega
          simp [updT, this]
        · have h1 : updT s i v j = s j := by simp [updT, Ne.symm hji]
          rw [getD_set_ne false hji, h1]
          exact hL.told j hj
    have hev : a.eval = evalT a0 l n s := funext (hA.eval hdd)
    unfold wpOp
    simp only [ho']
    have hwant : Region.wanted o' (yielded l.toArray a.tmps) = true := by unfold Region.wanted; rw [hg]
    rw [if_pos hwant]
    refine Or.inl ?_
    unfold Oper.wp
    rw [hev]
    rcases hst with (⟨v, w', hr, hI'⟩ | ⟨fn, args, hr, hcall⟩) | ⟨w', hr, hI'⟩
    · rw [hr, Oper.upon_value]
      exact hnext v w' hI'
    · rw [hr, Oper.upon_enter]
      refine hcall.mono fun e w' ⟨v, he, hI'⟩ => ?_
      subst he
      exact hnext v w' hI'
    · rw [hr]
      exact hnext undef w' hI'
theorem wp_region_grown2 {id : Nat} {Q : Exit → Act → World → Prop} {W : World} (n : Nat) (I : (Nat → Option Value) → World → Prop) (hm : P.follows .mixedOrders = true) (hB : grownB2 l n a0.tmps.size = true)
    (h0 : I (fun _ => none) { W with drawn := W.drawn + 1 })
    (hstep : ∀ i o s w, i < n → l[i]? = some o → I s w → s i = none → (∀ e ∈ o.after, Region.binds .any e = true → (s e.on).isSome = true) → StepT2 P a0 l n I i o s w)
    (hend : ∀ s w, I s w → (∀ i, i < n → (s i).isSome = true) → wpList P l.toArray Q (l.drop n) (putsT (l.take n) s 0 a0) w) : (Code.region id l.toArray true).wp P Q a0 W := by
  have hn : n < l.length := by
    simp only [grownB2, Bool.and_eq_true, decide_eq_true_eq] at hB
    exact hB.1.1.1.1.2
  refine wp_region_any hm ?_
  have := wpAny_grown2 (P := P) (I := I) (Q := Q) hB hstep hend n (fun _ => none) (Array.replicate l.toArray.size false) a0 { W with drawn := W.drawn + 1 } (by show ((List.range n).filter fun _ => true).length = n; rw [List.filter_eq_self.2 (fun _ _ => rfl)]; simp)
    ⟨⟨by simp, fun j oj _ hl => (by rw [getD_replicate_false] at hl; cases hl), fun t _ ht => getD_in (by simpa using ht) (getD_replicate_false _ _)⟩, fun i hi => by rw [getD_replicate_false]; simp⟩
    ⟨rfl, rfl, fun t ht => by cases whoT l n t <;> rfl⟩ h0
  rw [show n + (l.length - n) = l.toArray.size by simp; omega] at this
  exact this
end
end Go.Proofs.YtihbgppcacaekaaDoor
