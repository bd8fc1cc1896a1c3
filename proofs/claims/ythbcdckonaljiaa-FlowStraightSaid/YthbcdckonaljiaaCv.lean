import Derived.Test.YthbcdckonaljiaaZe1
import Derived.Deep.RegionHeld3
/- REGIONS THAT DRAW THEIR ORDER, WITH ONE FLOATING OPERATION: nothing waits for a part taken out of a tuple, so it may come behind the last store. It may be thought to come ahead of it. -/
namespace Go.Proofs.Ythbcdckonaljiaa
open Go

section
variable {P : Program} {ops : Array Oper} {md : Region.Mode} {C : World → Prop} {Q : Exit → Act → World → Prop}
/-- operation s waits for operation f as well -/
def oneEdge (s f j : Nat) (o : Oper) : Oper := if j = s then { o with after := o.after.push ⟨f, .data⟩ } else o
def edgesFrom (s f : Nat) : Nat → List Oper → List Oper
  | _, [] => []
  | k, o :: l => oneEdge s f k o :: edgesFrom s f (k + 1) l
theorem edgesFrom_get (s f : Nat) : ∀ (l : List Oper) (k j : Nat), (edgesFrom s f k l)[j]? = (l[j]?).map (oneEdge s f (k + j))
  | [], _, _ => by simp [edgesFrom]
  | o :: l, k, 0 => by simp [edgesFrom]
  | o :: l, k, j + 1 => by
    simp only [edgesFrom, List.getElem?_cons_succ, edgesFrom_get s f l (k + 1) j]
    rw [show k + 1 + j = k + (j + 1) by omega]
theorem edgesFrom_len (s f : Nat) : ∀ (l : List Oper) (k : Nat), (edgesFrom s f k l).length = l.length
  | [], _ => rfl
  | o :: l, k => by simp [edgesFrom, edgesFrom_len s f l (k + 1)]
theorem oneEdge_op (s f j : Nat) (o : Oper) : (oneEdge s f j o).op = o.op := by unfold oneEdge; split <;> rfl
theorem oneEdge_dst (s f j : Nat) (o : Oper) : (oneEdge s f j o).dst = o.dst := by unfold oneEdge; split <;> rfl
theorem oneEdge_type (s f j : Nat) (o : Oper) : (oneEdge s f j o).type = o.type := by unfold oneEdge; split <;> rfl
theorem oneEdge_guard (s f j : Nat) (o : Oper) : (oneEdge s f j o).guard = o.guard := by unfold oneEdge; split <;> rfl
theorem execOp_edge (ρ : Operand → Value) (s f j : Nat) (o : Oper) : execOp ρ (oneEdge s f j o) = execOp ρ o := by
  unfold oneEdge
  split <;> rfl
theorem yielded_edge {l : List Oper} (s f : Nat) (t : Array Value) : yielded (edgesFrom s f 0 l).toArray t = yielded l.toArray t := by
  funext j
  unfold yielded
  simp only [List.getElem?_toArray, edgesFrom_get]
  cases l[j]? with
  | none => rfl
  | some o => simp [oneEdge_dst]
theorem wanted_edge (s f j : Nat) (o : Oper) (g : Nat → Option Bool) : Region.wanted (oneEdge s f j o) g = Region.wanted o g := by
  unfold oneEdge
  split <;> rfl
theorem wp_edge (s f j : Nat) (o : Oper) (a : Act) (w : World) (K : Act → World → Prop) (Q : Exit → Act → World → Prop) : (oneEdge s f j o).wp P a w K Q = o.wp P a w K Q := by
  unfold oneEdge
  split <;> rfl
theorem asks_edge (s f j : Nat) (o : Oper) (a : Act) (w : World) : (oneEdge s f j o).asks P a w = o.asks P a w := by
  unfold oneEdge
  split <;> rfl
theorem wpOp_edge {l : List Oper} (s f i : Nat) (K : Act → World → Prop) (a : Act) (w : World) : wpOp P (edgesFrom s f 0 l).toArray Q i K a w = wpOp P l.toArray Q i K a w := by
  unfold wpOp
  simp only [List.getElem?_toArray, edgesFrom_get, yielded_edge]
  cases l[i]? with
  | none => rfl
  | some o => simp only [Option.map_some, wanted_edge, wp_edge, asks_edge, oneEdge_dst]
theorem ready_edge {l : List Oper} {s f i : Nat} {listed : Array Bool} : i ∈ Region.ready md (edgesFrom s f 0 l).toArray listed ↔ i ∈ Region.ready md l.toArray listed ∧ (i = s → listed.getD f false = true) := by
  rw [mem_ready, mem_ready]
  simp only [List.getElem?_toArray, edgesFrom_get]
  cases hi : l[i]? with
  | none => simp
  | some o =>
    simp only [Option.map_some, Option.some.injEq, exists_eq_left', Nat.zero_add]
    by_cases his : i = s
    · subst his
      unfold oneEdge
      simp only [if_true, Array.mem_push, forall_const]
      constructor
      · rintro ⟨h1, h2⟩
        exact ⟨⟨h1, fun e he hb => h2 e (Or.inl he) hb⟩, h2 ⟨f, .data⟩ (Or.inr rfl) rfl⟩
      · rintro ⟨⟨h1, h2⟩, h3⟩
        refine ⟨h1, fun e he hb => ?_⟩
        rcases he with he | rfl
        · exact h2 e he hb
        · exact h3
    · unfold oneEdge
      simp [his]
/-- a part that is taken out of a tuple tells the same in every world -/
theorem yields_of_extract {f : Nat} {of : Oper} {t : Operand} {ix : Nat} (hf : ops[f]? = some of) (ho : of.op = .extract t ix) {K : Act → World → Prop} {a : Act} {w : World} (h : wpOp P ops Q f K a w) :
    ∃ v, Yields P ops of v a ∧ K (a.put of.dst v) w := by
  unfold wpOp at h
  simp only [hf] at h
  by_cases hw : Region.wanted of (yielded ops a.tmps) = true
  · rw [if_pos hw] at h
    have he : execOp a.eval of = (do let x ← Instr.extract (a.eval t) ix; pure (.value x)) := by
      unfold execOp
      rw [ho]
    have key : (∃ v, (∀ w, (execOp a.eval of).run P w = .ok (.value v) w) ∧ ¬ of.asks P a w) ∨ (¬ of.wp P a w K Q ∧ ¬ of.asks P a w) := by
      rw [he] 
      unfold Oper.wp Oper.asks
      rw [he]
      unfold Instr.extract
      split
      · rename_i vs _
        cases hv : vs[ix]? with
        | some v => exact Or.inl ⟨v, fun w => rfl, fun h => by have h1 : noRoomEvent ∈ (#[] : Array Event) := h.1; simp at h1⟩
        | none => exact Or.inr ⟨fun h => h, fun h => by have h1 : noRoomEvent ∈ (#[] : Array Event) := h.1; simp at h1⟩
      · exact Or.inr ⟨fun h => h, fun h => by have h1 : noRoomEvent ∈ (#[] : Array Event) := h.1; simp at h1⟩
    rcases key with ⟨v, hv, hna⟩ | ⟨h1, h2⟩
    · refine ⟨v, Or.inl ⟨hw, hv⟩, ?_⟩
      rcases h with h | ⟨h, _⟩
      · unfold Oper.wp at h
        rw [hv w] at h
        exact h
      · exact absurd h hna
    · rcases h with h | ⟨h, _⟩
      · exact absurd h h1
      · exact absurd h h2
  · rw [if_neg hw] at h
    exact ⟨undef, Or.inr ⟨by simpa using hw, rfl⟩, h⟩
/-- orders with the edge serve for all orders -/
theorem wpAny_of_edge {l : List Oper} {s f : Nat} {of os : Oper} {t : Operand} {ix : Nat} (hQ : ∀ c a w, ¬ Q (.panic c) a w) (hf : l[f]? = some of) (hs : l[s]? = some os) (ho : of.op = .extract t ix) (hfs : f ≠ s)
    (hsel : ∀ (j : Nat) (o : Oper) cs b, l.toArray[j]? = some o → o.op ≠ .select cs b)
    (hap : ∀ j oj, l.toArray[j]? = some oj → j ≠ f → (∀ e' ∈ os.after, Region.binds md e' = true → e'.on ≠ j) → (∀ e ∈ oj.after, Region.binds md e = true → e.on ≠ f) → of.apart l.toArray oj = true)
    (hsub : ∀ e ∈ of.after, Region.binds md e = true → ∃ e' ∈ os.after, Region.binds md e' = true ∧ e'.on = e.on) :
    ∀ (g : Nat) (listed : Array Bool) (a : Act) (w : World), listed.size = l.length → wpAny P md (edgesFrom s f 0 l).toArray Q g listed a w → wpAny P md l.toArray Q g listed a w := by
  have hfr : ∀ listed : Array Bool, listed.size = l.length → s ∈ Region.ready md l.toArray listed → s ∉ Region.ready md (edgesFrom s f 0 l).toArray listed → f ∈ Region.ready md (edgesFrom s f 0 l).toArray listed := by
    intro listed hsz h1 h2
    have hun : listed.getD f false ≠ true := fun h => h2 (ready_edge.2 ⟨h1, fun _ => h⟩)
    rw [ready_edge]
    refine ⟨?_, fun h => absurd h hfs⟩
    rw [mem_ready] at h1 ⊢
    obtain ⟨_, o, ho', h3⟩ := h1
    have ho' : l[s]? = some o := by simpa using ho'
    obtain rfl : o = os := by rw [hs] at ho'; exact (Option.some.inj ho').symm
    refine ⟨getD_in (by rw [hsz]; exact (List.getElem?_eq_some_iff.1 hf).1) (by simpa using hun), of, by simpa using hf, fun e he hb => ?_⟩
    obtain ⟨e', he', hb', hon⟩ := hsub e he hb
    rw [← hon]
    exact h3 e' he' hb'
  intro g
  induction g with
  | zero =>
    intro listed a w hsz h
    refine ⟨?_, h.2⟩
    have h1 := h.1
    apply List.eq_nil_iff_forall_not_mem.2
    intro i hi
    by_cases h2 : i ∈ Region.ready md (edgesFrom s f 0 l).toArray listed
    · rw [h1] at h2; cases h2
    · by_cases his : i = s
      · subst his
        have := hfr listed hsz hi h2
        rw [h1] at this; cases this
      · exact h2 (ready_edge.2 ⟨hi, fun h => absurd h his⟩)
  | succ g ih =>
    intro listed a w hsz h
    have step : ∀ i ∈ Region.ready md (edgesFrom s f 0 l).toArray listed, wpOp P l.toArray Q i (wpAny P md l.toArray Q g (listed.setIfInBounds i true)) a w := fun i hi => by
      have h1 := h.2 i hi
      rw [wpOp_edge] at h1
      exact wpOp_mono (fun a' w' h' => ih _ a' w' (by simpa using hsz) h') h1
    by_cases hc : s ∈ Region.ready md l.toArray listed ∧ s ∉ Region.ready md (edgesFrom s f 0 l).toArray listed
    · have hfm := hfr listed hsz hc.1 hc.2
      obtain ⟨v, hy, hk⟩ := yields_of_extract (ops := l.toArray) (by simpa using hf) ho (step f hfm)
      exact wpAny_first (by simpa using hf) hsel (fun c a w h => absurd h (hQ _ _ _)) g listed a w (fun j oj hj hne hun hno => hap j oj hj hne (fun e' he' hb' hon => by
        have h1 := hc.1
        rw [mem_ready] at h1
        obtain ⟨_, o, ho', h3⟩ := h1
        have ho' : l[s]? = some o := by simpa using ho'
        obtain rfl : o = os := by rw [hs] at ho'; exact (Option.some.inj ho').symm
        have h4 := h3 e' he' hb'
        rw [hon] at h4
        simp only [Array.getD] at h4 hun
        split at h4
        · rename_i hlt
          rw [dif_pos hlt] at hun
          rw [h4] at hun
          cases hun
        · cases h4) hno) (ready_edge.1 hfm).1 hy hk
    · have hall : ∀ i ∈ Region.ready md l.toArray listed, i ∈ Region.ready md (edgesFrom s f 0 l).toArray listed := fun i hi => by
        by_cases his : i = s
        · subst his
          exact Classical.not_not.1 fun h2 => hc ⟨hi, h2⟩
        · exact ready_edge.2 ⟨hi, fun h => absurd h his⟩
      refine ⟨fun h0 => h.1 ?_, fun i hi => step i (hall i hi)⟩
      apply List.eq_nil_iff_forall_not_mem.2
      intro i hi
      have := (ready_edge.1 hi).1
      rw [h0] at this
      cases this
end
/-- may operation f be thought to come ahead of s? -/
def floatB (l : List Oper) (s f : Nat) : Bool :=
  match l[f]?, l[s]? with
  | some of, some os => (match of.op with | .extract .. => true | _ => false) && f != s && Region.noSelect l.toArray
      && ((List.range l.length).all fun j => j == f || match l[j]? with
        | some oj => oj.after.any (fun e => Region.binds .any e && e.on == f) || of.apart l.toArray oj || os.after.any (fun e => Region.binds .any e && e.on == j)
        | none => true)
      && (of.after.all fun e => !Region.binds .any e || os.after.any fun e' => Region.binds .any e' && e'.on == e.on)
  | _, _ => false
theorem wpAny_of_float {P : Program} {Q : Exit → Act → World → Prop} {l : List Oper} {s f : Nat} (hQ : ∀ c a w, ¬ Q (.panic c) a w) (hfl : floatB l s f = true) (g : Nat) (listed : Array Bool) (a : Act) (w : World) (hsz : listed.size = l.length)
    (h : wpAny P .any (edgesFrom s f 0 l).toArray Q g listed a w) : wpAny P .any l.toArray Q g listed a w := by
  unfold floatB at hfl
  split at hfl
  · rename_i of os hof hos
    simp only [Bool.and_eq_true, bne_iff_ne, ne_eq] at hfl
    obtain ⟨⟨⟨⟨hx, hne⟩, hsel⟩, hap⟩, hsub⟩ := hfl
    cases hop : of.op with
    | extract t ix =>
      refine wpAny_of_edge hQ hof hos hop hne (Region.noSelect_spec hsel) (fun j oj hj hjf hos' hno => ?_) (fun e he hb => ?_) g listed a w hsz h
      · have hj' : l[j]? = some oj := by simpa using hj
        have h1 := List.all_eq_true.1 hap j (List.mem_range.2 (List.getElem?_eq_some_iff.1 hj').1)
        simp only [hj', Bool.or_eq_true, beq_iff_eq, hjf, false_or] at h1
        rcases h1 with (h1 | h1) | h1
        · obtain ⟨e, he, hb⟩ := Array.any_eq_true'.1 h1
          simp only [Bool.and_eq_true, beq_iff_eq] at hb
          exact absurd hb.2 (hno e he hb.1)
        · exact h1
        · obtain ⟨e, he, hb⟩ := Array.any_eq_true'.1 h1
          simp only [Bool.and_eq_true, beq_iff_eq] at hb
          exact absurd hb.2 (hos' e he hb.1)
      · have h1 := Array.all_eq_true_iff_forall_mem.1 hsub e he
        simp only [hb, Bool.not_true, Bool.false_or] at h1
        obtain ⟨e', he', hb'⟩ := Array.any_eq_true'.1 h1
        simp only [Bool.and_eq_true, beq_iff_eq] at hb'
        exact ⟨e', he', hb'.1, hb'.2⟩
    | _ => rw [hop] at hx; cases hx
  · cases hfl
theorem wpQuiet_edge {P : Program} {C : World → Prop} {l : List Oper} {s f : Nat} {Lq : Act → Prop} : ∀ (m : List Oper) (a : Act), wpQuiet P l.toArray C Lq m a → wpQuiet P (edgesFrom s f 0 l).toArray C Lq m a
  | [], _, h => h
  | o :: m, a, h => by
    unfold wpQuiet at h ⊢
    rw [yielded_edge]
    split
    · rename_i hw
      rw [if_pos hw] at h
      exact Oper.quiet_mono (fun a' h' => wpQuiet_edge m a' h') h
    · rename_i hw
      rw [if_neg hw] at h
      exact wpQuiet_edge m _ h
theorem edgesFrom_take (s f : Nat) : ∀ (n : Nat) (l : List Oper) (k : Nat), k + n ≤ s → (edgesFrom s f k l).take n = l.take n
  | 0, _, _, _ => by simp
  | n + 1, [], _, _ => rfl
  | n + 1, o :: l, k, h => by
    simp only [edgesFrom, List.take_succ_cons]
    rw [edgesFrom_take s f n l (k + 1) (by omega)]
    have : oneEdge s f k o = o := by unfold oneEdge; rw [if_neg (by omega)]
    rw [this]
theorem edgesFrom_drop (s f : Nat) : ∀ (n : Nat) (l : List Oper) (k : Nat), (edgesFrom s f k l).drop n = edgesFrom s f (k + n) (l.drop n)
  | 0, _, _ => by simp
  | n + 1, [], _ => by simp [edgesFrom]
  | n + 1, o :: l, k => by
    simp only [edgesFrom, List.drop_succ_cons]
    rw [edgesFrom_drop s f n l (k + 1), show k + 1 + n = k + (n + 1) by omega]
theorem wpList_edge {P : Program} {l : List Oper} {s f : Nat} {Q : Exit → Act → World → Prop} : ∀ (m : List Oper) (k : Nat) (a : Act) (w : World), wpList P l.toArray Q m a w → wpList P (edgesFrom s f 0 l).toArray Q (edgesFrom s f k m) a w
  | [], _, _, _, h => h
  | o :: m, k, a, w, h => by
    unfold wpList at h
    show wpList P _ Q (oneEdge s f k o :: edgesFrom s f (k + 1) m) a w
    unfold wpList
    rw [yielded_edge, wanted_edge, wp_edge, asks_edge, oneEdge_dst]
    split
    · rename_i hw
      rw [if_pos hw] at h
      exact h.imp (Oper.wp_mono fun a' w' h' => wpList_edge m (k + 1) a' w' h') id
    · rename_i hw
      rw [if_neg hw] at h
      exact wpList_edge m (k + 1) _ _ h
/-- quiet operations in a class of worlds; then the tail, one by one; one part of a tuple floats -/
theorem wp_region_quiet_float {P : Program} {C : World → Prop} {id : Nat} {Q : Exit → Act → World → Prop} {a : Act} {w : World} {l : List Oper} (n s f : Nat) (hm : P.follows .mixedOrders = true) (hns : n ≤ s) (hfl : floatB l s f = true) (hB : Region.lexTailB .any (edgesFrom s f 0 l).toArray n = true) (hQ : ∀ c a w, ¬ Q (.panic c) a w) (hC0 : C { w with drawn := w.drawn + 1 })
    (h : wpQuiet P l.toArray C (fun a' => ∀ w', C w' → wpList P l.toArray Q (l.drop n) a' w') (l.take n) a) : (Code.region id l.toArray true).wp P Q a w := by
  simp only [Region.lexTailB, Bool.and_eq_true, decide_eq_true_eq] at hB
  obtain ⟨⟨⟨⟨hsel, hn⟩, hs⟩, hc⟩, hlex⟩ := hB
  have hn' : n < l.length := by simpa [edgesFrom_len] using hn
  have hlen := edgesFrom_len s f l 0
  have htl : ((edgesFrom s f 0 l).take n).length = n := by simp [hlen]; omega
  have hdl : ((edgesFrom s f 0 l).drop n).length = (edgesFrom s f 0 l).toArray.size - n := by simp
  have inv0 : HeadInv .any (edgesFrom s f 0 l).toArray n (Array.replicate (edgesFrom s f 0 l).toArray.size false) :=
    ⟨by simp, fun j oj _ hl => (by rw [getD_replicate_false] at hl; cases hl), fun t _ ht => getD_in (by simpa using ht) (getD_replicate_false _ _)⟩
  have h' := wpQuiet_edge (s := s) (f := f) _ _ h
  rw [← edgesFrom_take s f n l 0 (by omega)] at h'
  have H := wpAnyQL_lex (C := C) (md := .any) (g := (edgesFrom s f 0 l).toArray.size - n) hsel hs hc hn ((edgesFrom s f 0 l).take n) 0 _ a (fun j hj => by
    have hj' : j < n := by rw [htl] at hj; exact hj
    simp [hj']) (by simpa using htl) inv0 (by rw [htl]; exact hlex) h'
  refine wp_region_any hm ?_
  have h2 := wpAny_of_headQ (C := C) (md := .any) (Q' := Q) (g := (edgesFrom s f 0 l).toArray.size - n) (fun listed a' w' hC' hL => by
    have h3 := wpList_edge (s := s) (f := f) (l.drop n) n a' w' (hL.2 w' hC')
    rw [show edgesFrom s f n (l.drop n) = (edgesFrom s f 0 l).drop n by rw [edgesFrom_drop, Nat.zero_add]] at h3
    have := wpAny_of_seq (md := .any) (Q' := Q) ((edgesFrom s f 0 l).drop n) n listed a' w' (fun j => by simp [List.getElem?_drop]) (by rw [hdl]; exact hL.1) h3
    rwa [hdl] at this) _ _ _ _ hC0 H
  rw [htl, show n + ((edgesFrom s f 0 l).toArray.size - n) = l.toArray.size by simp only [List.size_toArray, hlen]; omega] at h2
  rw [show (edgesFrom s f 0 l).toArray.size = l.toArray.size by simp [hlen]] at h2
  exact wpAny_of_float hQ hfl _ _ _ _ (by simp) h2
/-- the class: worlds that have more blocks -/
theorem wp_region_later_float {P : Program} {id : Nat} {Q : Exit → Act → World → Prop} {a : Act} {W : World} {l : List Oper} (n s f : Nat) (hm : P.follows .mixedOrders = true) (hns : n ≤ s) (hfl : floatB l s f = true) (hB : Region.lexTailB .any (edgesFrom s f 0 l).toArray n = true) (hQ : ∀ c a w, ¬ Q (.panic c) a w)
    (h : wpQuiet P l.toArray (fun w' => ∃ s : Later W, w' = s.w) (fun a' => ∀ w', (∃ s : Later W, w' = s.w) → wpList P l.toArray Q (l.drop n) a' w') (l.take n) a) : (Code.region id l.toArray true).wp P Q a W :=
  wp_region_quiet_float (C := fun w' => ∃ s : Later W, w' = s.w) n s f hm hns hfl hB hQ ⟨⟨{ W with drawn := W.drawn + 1 }, ⟨rfl, rfl, rfl, Nat.le_refl _, fun _ _ => rfl⟩⟩, rfl⟩ h
end Go.Proofs.Ythbcdckonaljiaa
