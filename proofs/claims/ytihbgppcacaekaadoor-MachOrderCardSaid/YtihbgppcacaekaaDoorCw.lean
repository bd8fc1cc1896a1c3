import Derived.StillTail
import Derived.Laws.Rows
import Derived.Laws.Tables
import Derived.ProofKit
import Derived.Test.YtihbgppcacaekaaDoorProg
/- REGIONS THAT DRAW THEIR ORDER, whatever their head makes: each operation of the head tells a value and keeps an invariant of what was told and of the world; the tail goes one by one. -/
namespace Go.Proofs.YtihbgppcacaekaaDoor
open Go

section
/-- who of the first n tells temporary t -/
def whoT (l : List Oper) (n : Nat) (t : Tmp) : Option Nat := (List.range n).find? fun j => decide ((l[j]?.bind (·.dst)) = some t)
/-- what an operand is, by what was told -/
def evalT (a0 : Act) (l : List Oper) (n : Nat) (s : Nat → Option Value) : Operand → Value
  | .tmp t => ((whoT l n t).bind s).getD (a0.eval (.tmp t))
  | x => a0.eval x
def updT (s : Nat → Option Value) (i : Nat) (v : Value) : Nat → Option Value := fun j => if j = i then some v else s j
/-- the frame behind the head -/
def putsT : List Oper → (Nat → Option Value) → Nat → Act → Act
  | [], _, _, a => a
  | o :: l, s, k, a => putsT l s (k + 1) (a.put o.dst ((s k).getD undef))
def fullB (m n : Nat) : Array Bool := (Array.range m).map fun i => decide (i < n)
/-- the region's form: a head of n operations in any order, a tail in one order -/
def grownB (l : List Oper) (n m : Nat) : Bool :=
  Region.noSelect l.toArray && decide (n < l.length) && Region.sinkB .any l.toArray n && Region.chainB .any l.toArray n && Region.seqB .any l.toArray (l.length - n) n (fullB l.length n)
    && (List.range n).all (fun i => match l[i]? with | some o => o.guard.isNone && (match o.dst with | some d => decide (d < m) && decide (whoT l n d = some i) | none => false) && o.after.all (fun e => !Region.binds .any e || decide (e.on < i)) | none => false)
/-- one operation of the head, by what was told -/
def StepT (P : Program) (W0 : Act) (l : List Oper) (n : Nat) (I : (Nat → Option Value) → World → Prop) (i : Nat) (o : Oper) (s : Nat → Option Value) (w : World) : Prop :=
  (∃ v w', (execOp (evalT W0 l n s) o).run P w = .ok (.value v) w' ∧ I (updT s i v) w') ∨
  (∃ f args, (execOp (evalT W0 l n s) o).run P w = .ok (.enter f args) w ∧ Calls P f args w fun e w' => ∃ v, e = .returned v ∧ I (updT s i v) w')

variable {P : Program} {l : List Oper} {n : Nat} {I : (Nat → Option Value) → World → Prop} {a0 : Act}
/-- a frame that is as was told -/
structure AsT (a0 : Act) (l : List Oper) (n : Nat) (s : Nat → Option Value) (a : Act) : Prop where
  size : a.tmps.size = a0.tmps.size
  defers : a.defers = a0.defers
  val : ∀ t, t < a0.tmps.size → a.tmps.getD t undef = ((whoT l n t).bind s).getD (a0.tmps.getD t undef)
theorem AsT.eval {s : Nat → Option Value} {a : Act} (h : AsT a0 l n s a) (hd : ∀ t j, whoT l n t = some j → t < a0.tmps.size) (x : Operand) : a.eval x = evalT a0 l n s x := by
  cases x with
  | tmp t =>
    show a.tmps.getD t undef = ((whoT l n t).bind s).getD (a0.tmps.getD t undef)
    rcases Nat.lt_or_ge t a0.tmps.size with ht | ht
    · exact h.val t ht
    · have h1 : whoT l n t = none := by
        cases hw : whoT l n t with
        | none => rfl
        | some j => exact absurd (hd t j hw) (Nat.not_lt.2 ht)
      have h2 : t ≥ a.tmps.size := by rw [h.size]; exact ht
      simp [h1, Array.getD, Nat.not_lt.2 ht, Nat.not_lt.2 h2]
  | _ => rfl
theorem whoT_spec {t : Tmp} {j : Nat} (h : whoT l n t = some j) : j < n ∧ (l[j]?.bind (·.dst)) = some t := by
  unfold whoT at h
  have h1 := List.find?_some h
  have h2 := List.mem_of_find?_eq_some h
  exact ⟨List.mem_range.1 h2, by simpa using h1⟩
theorem AsT.put {s : Nat → Option Value} {a : Act} (h : AsT a0 l n s a) {i : Nat} {o : Oper} {d : Tmp} (ho : l[i]? = some o) (hd : o.dst = some d) (hw : whoT l n d = some i) (v : Value) : AsT a0 l n (updT s i v) (a.put o.dst v) := by
  rw [hd]
  refine ⟨by simp [Act.put, h.size], h.defers, fun t ht => ?_⟩
  by_cases htd : d = t
  · subst htd
    have : d < a.tmps.size := by rw [h.size]; exact ht
    simp [Act.put, hw, updT, this]
  · have h1 := h.val t ht
    have h2 : (a.put (some d) v).tmps.getD t undef = a.tmps.getD t undef := by simp [Act.put, Array.getElem?_setIfInBounds_ne htd]
    rw [h2, h1]
    cases hwt : whoT l n t with
    | none => rfl
    | some j =>
      have hj := whoT_spec hwt
      have hne : j ≠ i := by
        rintro rfl
        rw [ho] at hj
        simp only [Option.bind_some, hd, Option.some.injEq] at hj
        exact htd hj.2
      simp [updT, hne]
theorem putsT_spec {s : Nat → Option Value} : ∀ (k : List Oper) (p : Nat) (a : Act), (∀ j, j < k.length → k[j]? = l[p + j]?) → p + k.length = n → (∀ i, i < n → ∃ o d, l[i]? = some o ∧ o.dst = some d ∧ d < a0.tmps.size ∧ whoT l n d = some i) → (∀ i, i < n → (s i).isSome) →
    a.tmps.size = a0.tmps.size → a.defers = a0.defers → (∀ t, t < a0.tmps.size → a.tmps.getD t undef = ((whoT l n t).bind fun j => if j < p then s j else none).getD (a0.tmps.getD t undef)) → AsT a0 l n s (putsT k s p a)
  | [], p, a, _, hp, hall, _, h1, h2, h3 => ⟨h1, h2, fun t ht => by
      show a.tmps.getD t undef = _
      rw [h3 t ht]
      cases hw : whoT l n t with
      | none => rfl
      | some j =>
        have hj := (whoT_spec hw).1
        have : j < p := by simp at hp; omega
        simp [this]⟩
  | o :: k, p, a, hk, hp, hall, hs, h1, h2, h3 => by
    have hpn : p < n := by simp at hp; omega
    obtain ⟨o', d, ho', hd, hdm, hw⟩ := hall p hpn
    have h0 : l[p]? = some o := by simpa using (hk 0 (by simp)).symm
    obtain rfl : o' = o := by rw [h0] at ho'; exact (Option.some.inj ho').symm
    show AsT a0 l n s (putsT k s (p + 1) (a.put o'.dst ((s p).getD undef)))
    refine putsT_spec k (p + 1) _ (fun j hj => by have := hk (j + 1) (by simp; omega); simpa [Nat.add_assoc, Nat.add_comm 1 j] using this) (by simp at hp; omega) hall hs (by rw [hd]; simp [Act.put, h1]) (by rw [hd]; exact h2) (fun t ht => ?_)
    rw [hd]
    by_cases htd : d = t
    · subst htd
      have : d < a.tmps.size := by rw [h1]; exact ht
      have h9 := hs p hpn
      cases hsp : s p with
      | none => rw [hsp] at h9; cases h9
      | some v => simp [Act.put, hw, this, hsp]
    · have e2 : (a.put (some d) ((s p).getD undef)).tmps.getD t undef = a.tmps.getD t undef := by simp [Act.put, Array.getElem?_setIfInBounds_ne htd]
      rw [e2, h3 t ht]
      cases hwt : whoT l n t with
      | none => rfl
      | some j =>
        have hj := whoT_spec hwt
        have hne : j ≠ p := by
          rintro rfl
          rw [ho'] at hj
          simp only [Option.bind_some, hd, Option.some.injEq] at hj
          exact htd hj.2
        have : (j < p + 1) = (j < p) := by apply propext; omega
        simp [this]
theorem AsT.eq {s : Nat → Option Value} {a b : Act} (h : AsT a0 l n s a) (h' : AsT a0 l n s b) : a = b := by
  obtain ⟨ta, da⟩ := a
  obtain ⟨tb, db⟩ := b
  have hd : da = db := h.defers.trans h'.defers.symm
  have hsz : ta.size = tb.size := h.size.trans h'.size.symm
  have ht : ta = tb := by
    apply Array.ext hsz
    intro t h1 h2
    have e1 := h.val t (by rw [← h.size]; exact h1)
    have e2 := h'.val t (by rw [← h.size]; exact h1)
    have e := e1.trans e2.symm
    simpa [h1, h2] using e
  rw [hd, ht]
/-- what is listed is what was told -/
structure ListedT (l : List Oper) (n : Nat) (s : Nat → Option Value) (listed : Array Bool) : Prop where
  inv : HeadInv .any l.toArray n listed
  told : ∀ i, i < n → (listed.getD i false = true ↔ (s i).isSome = true)
theorem wpAny_grown {Q : Exit → Act → World → Prop} (hB : grownB l n a0.tmps.size = true)
    (hstep : ∀ i o s w, i < n → l[i]? = some o → I s w → s i = none → (∀ e ∈ o.after, Region.binds .any e = true → (s e.on).isSome = true) → StepT P a0 l n I i o s w)
    (hend : ∀ s w, I s w → (∀ i, i < n → (s i).isSome = true) → wpList P l.toArray Q (l.drop n) (putsT (l.take n) s 0 a0) w) :
    ∀ (f : Nat) (s : Nat → Option Value) (listed : Array Bool) (a : Act) (w : World), ((List.range n).filter fun i => (s i).isNone).length = f → ListedT l n s listed → AsT a0 l n s a → I s w → wpAny P .any l.toArray Q (f + (l.length - n)) listed a w := by
  simp only [grownB, Bool.and_eq_true, decide_eq_true_eq] at hB
  obtain ⟨⟨⟨⟨⟨hsel, hn⟩, hs⟩, hc⟩, hseq⟩, hops⟩ := hB
  have hall : ∀ i, i < n → ∃ o d, l[i]? = some o ∧ o.dst = some d ∧ d < a0.tmps.size ∧ whoT l n d = some i ∧ o.guard = none ∧ ∀ e ∈ o.after, Region.binds .any e = true → e.on < i := fun i hi => by
    have h1 := List.all_eq_true.1 hops i (List.mem_range.2 hi)
    cases ho : l[i]? with
    | none => rw [ho] at h1; simp at h1
    | some o =>
      rw [ho] at h1
      simp only [Bool.and_eq_true] at h1
      obtain ⟨⟨h2, h3⟩, h4⟩ := h1
      cases hd : o.dst with
      | none => rw [hd] at h3; simp at h3
      | some d =>
        rw [hd] at h3
        simp only [Bool.and_eq_true, decide_eq_true_eq] at h3
        refine ⟨o, d, rfl, hd, h3.1, h3.2, by simpa using h2, fun e he hb => ?_⟩
        have h5 := Array.all_eq_true_iff_forall_mem.1 h4 e he
        simp only [hb, Bool.not_true, Bool.false_or, decide_eq_true_eq] at h5
        exact h5
  have hdd : ∀ t j, whoT l n t = some j → t < a0.tmps.size := fun t j h => by
    obtain ⟨h1, h2⟩ := whoT_spec h
    obtain ⟨o, d, ho, hd, hdm, _⟩ := hall j h1
    rw [ho] at h2
    simp only [Option.bind_some, hd, Option.some.injEq] at h2
    rw [← h2]; exact hdm
  intro f
  induction f with
  | zero =>
    intro s listed a w hf hL hA hI
    have hsome : ∀ i, i < n → (s i).isSome = true := fun i hi => by
      have h1 : i ∉ (List.range n).filter fun i => (s i).isNone := by
        rw [List.eq_nil_of_length_eq_zero hf]; simp
      simp only [List.mem_filter, List.mem_range, not_and] at h1
      have := h1 hi
      cases hsi : s i with
      | none => rw [hsi] at this; simp at this
      | some v => rfl
    have hfull : listed = fullB l.length n := by
      apply Array.ext
      · rw [hL.inv.size]; simp [fullB]
      · intro i h1 h2
        have hi : i < l.length := by have := hL.inv.size; simp at this; omega
        rcases Nat.lt_or_ge i n with hin | hin
        · have := (hL.told i hin).2 (hsome i hin)
          simp only [Array.getD, h1, dif_pos] at this
          simp [fullB, hin]
          exact this
        · have := hL.inv.tail i hin (by simpa using hi)
          simp only [Array.getD, h1, dif_pos] at this
          simp [fullB, Nat.not_lt.2 hin]
          exact this
    have hE := hend s w hI hsome
    have hA2 : AsT a0 l n s (putsT (l.take n) s 0 a0) := putsT_spec (l.take n) 0 a0 (fun j hj => by
        have : j < n := by simp at hj; omega
        simp [this]) (by simp; omega) (fun i hi => by obtain ⟨o, d, h1, h2, h3, h4, _⟩ := hall i hi; exact ⟨o, d, h1, h2, h3, h4⟩) hsome rfl rfl (fun t ht => by
          cases whoT l n t with
          | none => rfl
          | some j => simp)
    rw [← hA.eq hA2] at hE
    have hdl : (l.drop n).length = l.length - n := by simp
    have := wpAny_of_seq (md := .any) (Q' := Q) (l.drop n) n listed a w (fun j => by simp [List.getElem?_drop]) (by rw [hdl, hfull]; exact hseq) hE
    rw [hdl] at this
    rwa [Nat.zero_add]
  | succ f ih =>
    intro s listed a w hf hL hA hI
    have hsz : listed.size = l.length := by have := hL.inv.size; simpa using this
    obtain ⟨i1, hi1, hn1⟩ : ∃ i, i < n ∧ s i = none := by
      have h1 : ((List.range n).filter fun i => (s i).isNone) ≠ [] := fun h => by rw [h] at hf; cases hf
      obtain ⟨i, hi⟩ := List.exists_mem_of_ne_nil _ h1
      simp only [List.mem_filter, List.mem_range, Option.isNone_iff_eq_none] at hi
      exact ⟨i, hi.1, hi.2⟩
    obtain ⟨i0, hi0, hn0, hfst⟩ : ∃ i, i < n ∧ s i = none ∧ ∀ j, j < i → (s j).isSome = true := by
      have key : ∀ k i, i < k → i < n → s i = none → ∃ i, i < n ∧ s i = none ∧ ∀ j, j < i → (s j).isSome = true := by
        intro k
        induction k with
        | zero => intro i h; exact absurd h (Nat.not_lt_zero _)
        | succ k ihk =>
          intro i hik hin hsi
          by_cases hex : ∃ j, j < i ∧ s j = none
          · obtain ⟨j, hji, hsj⟩ := hex
            exact ihk j (by omega) (by omega) hsj
          · refine ⟨i, hin, hsi, fun j hj => ?_⟩
            cases h : s j with
            | none => exact absurd ⟨j, hj, h⟩ hex
            | some v => rfl
      exact key (i1 + 1) i1 (Nat.lt_succ_self _) hi1 hn1
    have hun : listed.getD i0 true = false := by
      have h1 : listed.getD i0 false = false := by
        cases h : listed.getD i0 false with
        | false => rfl
        | true => have := (hL.told i0 hi0).1 h; rw [hn0] at this; cases this
      exact getD_in (by omega) h1
    rw [show f + 1 + (l.length - n) = (f + (l.length - n)) + 1 by omega]
    have hready : Region.ready .any l.toArray listed ≠ [] := by
      obtain ⟨o, d, ho, _, _, _, _, hon⟩ := hall i0 hi0
      have hr : i0 ∈ Region.ready .any l.toArray listed := mem_ready.2 ⟨hun, o, by simpa using ho, fun e he hb => (hL.told e.on (Nat.lt_trans (hon e he hb) hi0)).2 (hfst e.on (hon e he hb))⟩
      intro h
      rw [h] at hr
      cases hr
    refine ⟨fun h0 => absurd h0 hready, fun i hi => ?_⟩
    have hin : i < n := by
      rcases Nat.lt_or_ge i n with h | h
      · exact h
      · exact absurd hi (tail_waits hs hc (by simpa using hn) hL.inv _ i0 rfl hi0 hun i h)
    obtain ⟨hiu, o', ho', haft⟩ := mem_ready.1 hi
    obtain ⟨o, d, ho, hd, hdm, hw, hg, hon⟩ := hall i hin
    obtain rfl : o' = o := by
      have : l[i]? = some o' := by simpa using ho'
      rw [ho] at this; exact (Option.some.inj this).symm
    have hsi : s i = none := by
      cases h : s i with
      | none => rfl
      | some v =>
        have := (hL.told i hin).2 (by rw [h]; rfl)
        rw [getD_both hiu] at this; cases this
    have hst := hstep i o' s w hin ho hI hsi (fun e he hb => (hL.told _ (Nat.lt_trans (hon e he hb) hin)).1 (haft e he hb))
    have hnext : ∀ v w', I (updT s i v) w' → wpAny P .any l.toArray Q (f + (l.length - n)) (listed.setIfInBounds i true) (a.put o'.dst v) w' := fun v w' hI' => by
      refine ih (updT s i v) _ _ _ ?_ ⟨hL.inv.set hi hin, fun j hj => ?_⟩ (hA.put ho hd hw v) hI'
      · have key : ∀ (k : List Nat), k.Nodup → i ∈ k → (k.filter fun j => (updT s i v j).isNone).length + 1 = (k.filter fun j => (s j).isNone).length := by
          intro k
          induction k with
          | nil => intro _ h; cases h
          | cons x k ihk =>
            intro hnd hik
            rw [List.nodup_cons] at hnd
            by_cases hxi : x = i
            · subst hxi
              have e : k.filter (fun j => (updT s x v j).isNone) = k.filter (fun j => (s j).isNone) := by
                apply List.filter_congr
                intro j hj
                have : j ≠ x := fun h => hnd.1 (h ▸ hj)
                simp [updT, this]
              simp [updT, hsi]
              rw [← e]
              simp [updT]
            · have hik' : i ∈ k := by
                rcases List.mem_cons.1 hik with h | h
                · exact absurd h.symm hxi
                · exact h
              have := ihk hnd.2 hik'
              have e : updT s i v x = s x := by simp [updT, hxi]
              simp only [List.filter_cons, e]
              split
              · simp only [List.length_cons]; omega
              · exact this
        have := key (List.range n) List.nodup_range (List.mem_range.2 hin)
        omega
      · by_cases hji : i = j
        · subst hji
          have : i < listed.size := by omega
          simp [updT, this]
        · have h1 : updT s i v j = s j := by simp [updT, Ne.symm hji]
          rw [getD_set_ne false hji, h1]
          exact hL.told j hj
    have hev : a.eval = evalT a0 l n s := funext (hA.eval hdd)
    unfold wpOp
    simp only [ho']
    have hwant : Region.wanted o' (yielded l.toArray a.tmps) = true := by unfold Region.wanted; rw [hg]
    rw [if_pos hwant]
    refine Or.inl ?_
    unfold Oper.wp
    rw [hev]
    rcases hst with ⟨v, w', hr, hI'⟩ | ⟨fn, args, hr, hcall⟩
    · rw [hr, Oper.upon_value]
      exact hnext v w' hI'
    · rw [hr, Oper.upon_enter]
      refine hcall.mono fun e w' ⟨v, he, hI'⟩ => ?_
      subst he
      exact hnext v w' hI'
theorem wp_region_grown {id : Nat} {Q : Exit → Act → World → Prop} {W : World} (n : Nat) (I : (Nat → Option Value) → World → Prop) (hm : P.follows .mixedOrders = true) (hB : grownB l n a0.tmps.size = true)
    (h0 : I (fun _ => none) { W with drawn := W.drawn + 1 })
    (hstep : ∀ i o s w, i < n → l[i]? = some o → I s w → s i = none → (∀ e ∈ o.after, Region.binds .any e = true → (s e.on).isSome = true) → StepT P a0 l n I i o s w)
    (hend : ∀ s w, I s w → (∀ i, i < n → (s i).isSome = true) → wpList P l.toArray Q (l.drop n) (putsT (l.take n) s 0 a0) w) : (Code.region id l.toArray true).wp P Q a0 W := by
  have hn : n < l.length := by
    simp only [grownB, Bool.and_eq_true, decide_eq_true_eq] at hB
    exact hB.1.1.1.1.2
  refine wp_region_any hm ?_
  have := wpAny_grown (P := P) (I := I) (Q := Q) hB hstep hend n (fun _ => none) (Array.replicate l.toArray.size false) a0 { W with drawn := W.drawn + 1 } (by show ((List.range n).filter fun _ => true).length = n; rw [List.filter_eq_self.2 (fun _ _ => rfl)]; simp)
    ⟨⟨by simp, fun j oj _ hl => (by rw [getD_replicate_false] at hl; cases hl), fun t _ ht => getD_in (by simpa using ht) (getD_replicate_false _ _)⟩, fun i hi => by rw [getD_replicate_false]; simp⟩
    ⟨rfl, rfl, fun t ht => by cases whoT l n t <;> rfl⟩ h0
  rw [show n + (l.length - n) = l.toArray.size by simp; omega] at this
  exact this
end
end Go.Proofs.YtihbgppcacaekaaDoor

/- single operations, by what was told -/
namespace Go.Proofs.YtihbgppcacaekaaDoor
open Go
section
variable {P : Program} {ρ : Operand → Value} {o : Oper} {w : World}
theorem runT_load (ty : TypeId) (x : Operand) (ho : o.op = .load ty x) (g : Nat) (hx : ρ x = .pointer (some ⟨g, 0, none⟩)) (t : TypeId) (cs : Array Value) (fr : Nat × Nat) (d : TypeDesc) (hg : w.heap[g]? = some (.cells cs t fr))
    (hu : P.underlying ty = some d) (hd : (match d with | .struct _ | .array _ _ => true | _ => false) = true) (hi : (P.info? ty).map (·.size) = some cs.size) : (execOp ρ o).run P w = .ok (.value (.agg cs)) w := by
  unfold execOp
  simp only [ho, hx, Instr.loadAt, Instr.sureAddr, Sem.run_bind, Sem.run_pure, Result.andThen_ok, run_loadVar_row w g t ty cs fr d hg hu hd hi]
theorem runT_move (x : Operand) (ho : o.op = .move x) : (execOp ρ o).run P w = .ok (.value (ρ x)) w := by
  unfold execOp
  simp only [ho, Sem.run_pure]
theorem runT_call (f : FuncId) (xs : Array Operand) (ats : Array TypeId) (ho : o.op = .call { callee := .value (.func f), args := xs, argTypes := ats }) (hf : ρ (.func f) = .func (.func f) #[] #[]) (args : Array Value) (ha : xs.map ρ = args)
    {fn : Func} {c : Code} (hfn : P.funcs[f]? = some fn) (hname : (fn.name == "runtime.NumGoroutine") = false) (hb : fn.body = some c) : (execOp ρ o).run P w = .ok (.enter f args) w := by
  have h1 : fn.name ≠ "runtime.NumGoroutine" := by simpa using hname
  subst ha
  unfold execOp
  simp [ho, resolve, Deferred.ofValue, invoke, hf, callFunc, hfn, h1, hb]
end
end Go.Proofs.YtihbgppcacaekaaDoor
namespace Go.Proofs.YtihbgppcacaekaaDoor
open Go
section
variable {P : Program} {ρ : Operand → Value} {o : Oper} {w : World}
theorem runT_alloc (ty : TypeId) (ho : o.op = .alloc ty) (r : Array Value) (hr : ∀ w : World, (Instr.alloc ty true (.tuple #[])).run P w = .ok (.pointer (some ⟨w.heap.size, 0, none⟩)) (w.alloc (.cells r ty (0, 0)))) :
    (execOp ρ o).run P w = .ok (.value (.pointer (some ⟨w.heap.size, 0, none⟩))) (w.alloc (.cells r ty (0, 0))) := by
  unfold execOp
  simp only [ho, Sem.run_bind, hr w, Result.andThen_ok, Sem.run_pure]
theorem alloc_res (w : World) : (Instr.alloc 30 true (.tuple #[])).run Tryd.prog w = .ok (.pointer (some ⟨w.heap.size, 0, none⟩)) (w.alloc (.cells #[.int .i64 0, .int .i64 0, .slice none 0 0] 30 (0, 0))) := by kernel_rfl
end
end Go.Proofs.YtihbgppcacaekaaDoor
namespace Go.Proofs.YtihbgppcacaekaaDoor
open Go
theorem evalT_told {a0 : Act} {l : List Oper} {n : Nat} {s : Nat → Option Value} {t : Tmp} {v : Value} (j : Nat) (h : whoT l n t = some j) (hs : s j = some v) : evalT a0 l n s (.tmp t) = v := by
  simp [evalT, h, hs]
theorem evalT_old {a0 : Act} {l : List Oper} {n : Nat} {s : Nat → Option Value} {t : Tmp} (h : whoT l n t = none) : evalT a0 l n s (.tmp t) = a0.eval (.tmp t) := by
  simp [evalT, h]
end Go.Proofs.YtihbgppcacaekaaDoor
