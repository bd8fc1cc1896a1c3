import Derived.WalkKit
import Derived.ProofKit
import Derived.StringKeys
import Derived.Maps.Own
import Derived.Maps.OwnOps
namespace Go.Proofs.YtdoeinccnfggiaaDoor
open Go.MapKept Go.RowKit

/-- block b of w is a map of at most n entries with strings as keys, that holds g -/
def MapS (w : World) (b n : Nat) (g : ByteArray → Option Value) : Prop := ∃ (es : Array MapEntry) (clock : Nat), w.heap[b]? = some (.map es clock) ∧ es.size ≤ n ∧
  (∀ (i j : Nat) ei ej, es[i]? = some ei → es[j]? = some ej → ei.key = ej.key → i = j) ∧ (∀ (i : Nat) e, es[i]? = some e → ∃ s, e.key = .string s) ∧
  (∀ (i : Nat) e s, es[i]? = some e → e.key = .string s → g s = some e.val) ∧ (∀ s v, g s = some v → ∃ (i : Nat) (e : MapEntry), es[i]? = some e ∧ e.key = .string s)
def upd (g : ByteArray → Option Value) (s : ByteArray) (v : Value) : ByteArray → Option Value := fun s' => if s' = s then some v else g s'
theorem MapS.made (w : World) : MapS (w.alloc (.map #[] 0)) w.heap.size 0 (fun _ => none) :=
  ⟨#[], 0, (MapKept.heap_alloc w _).1, by simp, by simp, by simp, by simp, by simp⟩
theorem MapS.lt {w : World} {b n : Nat} {g} (h : MapS w b n g) : b < w.heap.size := by
  obtain ⟨es, clock, hb, _⟩ := h
  exact (Array.getElem?_eq_some_iff.1 hb).1
theorem MapS.of_block {w w' : World} {b n : Nat} {g} (h : MapS w b n g) (hb : w'.heap[b]? = w.heap[b]?) : MapS w' b n g := by
  obtain ⟨es, clock, h1, h2⟩ := h
  exact ⟨es, clock, hb.trans h1, h2⟩
theorem MapS.kept {w w' : World} {b n : Nat} {g} {row : Option Nat} (h : MapS w b n g) (hg : w.grownBy w' row) (hne : some b ≠ row) : MapS w' b n g := h.of_block (hg.block b h.lt hne)
theorem MapS.below {w w' : World} {b n B : Nat} {g} (h : MapS w b n g) (hb : Below B w w') (hB : b < B) : MapS w' b n g := h.of_block (hb.block b hB)
theorem MapS.find {w : World} {b n : Nat} {g} (h : MapS w b n g) (s : ByteArray) : ∃ (es : Array MapEntry) (clock : Nat), w.heap[b]? = some (.map es clock) ∧
    ((Instr.findNow .string (.string s) es.toList 0 = some none ∧ g s = none ∧ ∀ (i : Nat) e, es[i]? = some e → e.key ≠ .string s) ∨ ∃ (j : Nat) (e : MapEntry), Instr.findNow .string (.string s) es.toList 0 = some (some (j, e.val)) ∧ es[j]? = some e ∧ e.key = .string s ∧ g s = some e.val) := by
  obtain ⟨es, clock, hb, _, h1, h2, h3, h4⟩ := h
  refine ⟨es, clock, hb, ?_⟩
  have hks : ∀ x ∈ es.toList, IsKey .string x.key := fun x hx => by
    obtain ⟨i, hi⟩ := List.mem_iff_getElem?.1 hx
    obtain ⟨s', e⟩ := h2 i x (by simpa using hi)
    rw [e]; trivial
  rcases findNow_spec (d := .string) (k := .string s) trivial es.toList 0 hks with ⟨ha, hn⟩ | ⟨j, e0, ha, hj, hk⟩
  · refine Or.inl ⟨ha, ?_, fun i e hi => hn e (List.mem_iff_getElem?.2 ⟨i, by simpa using hi⟩)⟩
    cases hg : g s with
    | none => rfl
    | some v =>
      obtain ⟨i, e, hi, hk⟩ := h4 s v hg
      exact absurd hk (hn e (List.mem_iff_getElem?.2 ⟨i, by simpa using hi⟩))
  · have hj' : es[j]? = some e0 := by simpa using hj
    exact Or.inr ⟨j, e0, by simpa using ha, hj', hk, h3 j e0 s hj' hk⟩
theorem MapS.lookup {P : Program} {w : World} {b n : Nat} {g} (h : MapS w b n g) {t k e : TypeId} (ht : P.underlying t = some (.map k e)) (hk : P.underlying k = some .string) {z : Value} (hz : (zeroValue e).run P w = .ok z w) (s : ByteArray) (c : Bool) :
    (Instr.lookup t (.map (some b)) (.string s) c).run P w = .ok (if c then .tuple #[(g s).getD z, .bool (g s).isSome] else (g s).getD z) w := by
  obtain ⟨es, clock, hb, hf⟩ := h.find s
  have hck := run_checkKey (w := w) hk (d := .string) (k := .string s) trivial es.isEmpty 9999
  rcases hf with ⟨ha, hg, _⟩ | ⟨j, e0, ha, _, _, hg⟩
  · simp [Instr.lookup, run_underlying ht, MapKept.run_getObj_map hb, hck, run_findKey (w := w) hk ha, hz, Result.andThen, hg]
  · simp [Instr.lookup, run_underlying ht, MapKept.run_getObj_map hb, hck, run_findKey (w := w) hk ha, Result.andThen, hg]
theorem MapS.update {P : Program} {w : World} {b n : Nat} {g} (h : MapS w b n g) {t k e : TypeId} (ht : P.underlying t = some (.map k e)) (hk : P.underlying k = some .string) (s : ByteArray) (v : Value) :
    ∃ w', (Instr.mapUpdate t (.map (some b)) (.string s) v).run P w = .ok () w' ∧ MapS w' b (n + 1) (upd g s v) ∧ w.grownBy w' (some b) := by
  have h0 := h
  obtain ⟨es, clock, hb, hf⟩ := h.find s
  obtain ⟨es', clock', hb', hn, h1, h2, h3, h4⟩ := h0
  rw [hb] at hb'
  obtain ⟨rfl, rfl⟩ : es = es' ∧ clock = clock' := by simpa using hb'
  have hck := run_checkKey (w := w) hk (d := .string) (k := .string s) trivial false 9999
  have hgrow : ∀ o : Obj, w.grownBy { w with heap := w.heap.setIfInBounds b o } (some b) := fun o => ⟨rfl, rfl, rfl, by simp, fun i _ hi => by
    have : b ≠ i := fun e => hi (by rw [e])
    simp [this]⟩
  have hlt : b < w.heap.size := (Array.getElem?_eq_some_iff.1 hb).1
  rcases hf with ⟨ha, hg, hno⟩ | ⟨j, e0, ha, hj, hkey, hg⟩
  · refine ⟨{ w with heap := w.heap.setIfInBounds b (.map (es.push { key := .string s, val := v, born := clock }) (clock + 1)) }, ?_, ⟨es.push { key := .string s, val := v, born := clock }, clock + 1, by simp [hlt], by simp; omega, ?_, ?_, ?_, ?_⟩, hgrow _⟩
    · simp [Instr.mapUpdate, run_underlying ht, MapKept.run_getObj_map hb, hck, run_findKey (w := w) hk ha, Result.andThen, MapKept.run_setObj_map _ hb]
    · intro i j ei ej hi hj he
      rw [Array.getElem?_push] at hi hj
      split at hi <;> split at hj
      · omega
      · injection hi with hi; subst hi; exact absurd he.symm (hno j ej hj)
      · injection hj with hj; subst hj; exact absurd he (hno i ei hi)
      · exact h1 i j ei ej hi hj he
    · intro i e hi
      rw [Array.getElem?_push] at hi
      split at hi
      · injection hi with hi; subst hi; exact ⟨s, rfl⟩
      · exact h2 i e hi
    · intro i e s' hi he
      rw [Array.getElem?_push] at hi
      split at hi
      · injection hi with hi; subst hi
        injection he with he; subst he
        simp [upd]
      · have hne : s' ≠ s := fun e1 => hno i e hi (by rw [he, e1])
        simp only [upd, if_neg hne]
        exact h3 i e s' hi he
    · intro s' v' hv
      by_cases he : s' = s
      · subst he
        exact ⟨es.size, _, by rw [Array.getElem?_push, if_pos rfl], rfl⟩
      · simp only [upd, if_neg he] at hv
        obtain ⟨i, e, hi, hk'⟩ := h4 s' v' hv
        have hil : i < es.size := (Array.getElem?_eq_some_iff.1 hi).1
        exact ⟨i, e, by rw [Array.getElem?_push, if_neg (by omega)]; exact hi, hk'⟩
  · refine ⟨{ w with heap := w.heap.setIfInBounds b (.map (es.modify j fun e => { e with key := .string s, val := v }) clock) }, ?_, ⟨es.modify j fun e => { e with key := .string s, val := v }, clock, by simp [hlt], by simp; omega, ?_, ?_, ?_, ?_⟩, hgrow _⟩
    · have hst := run_keyThatStays (P := P) (w := w) (k := .string s) (d := .string) trivial
      simp [Instr.mapUpdate, run_underlying ht, MapKept.run_getObj_map hb, hck, run_findKey (w := w) hk ha, Result.andThen, hj, hkey, hst, MapKept.run_setObj_map _ hb]
    all_goals
      have hm : ∀ (i : Nat) e, (es.modify j fun e => { e with key := .string s, val := v })[i]? = some e → ∃ e', es[i]? = some e' ∧ e.key = e'.key ∧ (i = j → e.val = v) ∧ (i ≠ j → e = e') := fun i e hi => by
        rw [Array.getElem?_modify] at hi
        split at hi
        · rename_i hij
          subst hij
          rw [hj] at hi
          simp at hi
          subst hi
          exact ⟨e0, hj, hkey.symm, fun _ => rfl, fun hh => absurd rfl hh⟩
        · rename_i hij
          exact ⟨e, hi, rfl, fun hh => absurd hh.symm hij, fun _ => rfl⟩
    · intro i j' ei ej hi hj' he
      obtain ⟨a, ha1, ha2, _⟩ := hm i ei hi
      obtain ⟨c, hc1, hc2, _⟩ := hm j' ej hj'
      exact h1 i j' a c ha1 hc1 (ha2.symm.trans (he.trans hc2))
    · intro i e hi
      obtain ⟨a, ha1, ha2, _⟩ := hm i e hi
      rw [ha2]
      exact h2 i a ha1
    · intro i e s' hi he
      obtain ⟨a, ha1, ha2, ha3, ha4⟩ := hm i e hi
      by_cases hij : i = j
      · subst hij
        rw [hj] at ha1
        injection ha1 with ha1
        subst ha1
        rw [ha2, hkey] at he
        injection he with he
        subst he
        simp [upd, ha3 rfl]
      · have e1 := ha4 hij
        subst e1
        have hne : s' ≠ s := fun e1 => hij (h1 i j _ _ ha1 hj (by rw [he, hkey, e1]))
        simp only [upd, if_neg hne]
        exact h3 i _ s' ha1 he
    · intro s' v' hv
      by_cases he : s' = s
      · subst he
        exact ⟨j, _, by rw [Array.getElem?_modify, if_pos rfl, hj]; rfl, rfl⟩
      · simp only [upd, if_neg he] at hv
        obtain ⟨i, e, hi, hk'⟩ := h4 s' v' hv
        have hij : j ≠ i := fun e1 => by
          subst e1
          rw [hj] at hi
          injection hi with hi
          subst hi
          rw [hkey] at hk'
          injection hk' with hk'
          exact he hk'.symm
        exact ⟨i, e, by rw [Array.getElem?_modify, if_neg hij]; exact hi, hk'⟩
theorem wpList_mapUpdate_s {P : Program} (w : World) {ops : Array Oper} {rest : List Oper} {o : Oper} {a : Act} {Q : Exit → Act → World → Prop}
    (hg : o.guard = none) (m x v : Operand) (t : TypeId) (hop : o.op = Op.mapUpdate t m x v) {k e : TypeId} (ht : P.underlying t = some (.map k e)) (hk : P.underlying k = some .string)
    (b n : Nat) (g : ByteArray → Option Value) (hm : a.eval m = .map (some b)) (h : MapS w b n g) (s : ByteArray) (val : Value) (hx : a.eval x = .string s) (hv : a.eval v = val)
    (hK : ∀ w', MapS w' b (n + 1) (upd g s val) → w.grownBy w' (some b) → wpList P ops Q rest (a.put o.dst undef) w') :
    wpList P ops Q (o :: rest) a w := by
  refine wpList_plain hg fun K' hK' => ?_
  obtain ⟨w', hrun, r1, r2⟩ := h.update ht hk s val
  unfold Oper.wp
  simp [execOp, hop, hm, hx, hv, hrun, Result.andThen]
  exact hK' _ _ (hK w' r1 r2)
end Go.Proofs.YtdoeinccnfggiaaDoor
