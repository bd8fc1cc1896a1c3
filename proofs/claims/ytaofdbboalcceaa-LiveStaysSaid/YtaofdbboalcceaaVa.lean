import Derived.WalkKit
import Derived.ProofKit
import Derived.StringKeys
import Derived.Maps.Own
import Derived.Maps.OwnOps
import Derived.Test.YtaofdbboalcceaaCa
import Derived.Maps.RangeRun
import Derived.Maps.RangeWalk
/- MAPS WITH NUMBERS AS KEYS, of any program. -/
namespace Go.Proofs.Ytaofdbboalcceaa
open Go.MapKept Go.RowKit

/-- MAPS WITH NUMBERS AS KEYS: block b of w is a map of at most n entries with numbers as keys, that holds g -/
def MapI (w : World) (b n : Nat) (g : Int → Option Value) : Prop := ∃ (es : Array MapEntry) (clock : Nat), w.heap[b]? = some (.map es clock) ∧ es.size ≤ n ∧
  (∀ (i j : Nat) ei ej, es[i]? = some ei → es[j]? = some ej → ei.key = ej.key → i = j) ∧ (∀ (i : Nat) e, es[i]? = some e → ∃ s, e.key = .int .i64 s) ∧
  (∀ (i : Nat) e s, es[i]? = some e → e.key = .int .i64 s → g s = some e.val) ∧ (∀ s v, g s = some v → ∃ (i : Nat) (e : MapEntry), es[i]? = some e ∧ e.key = .int .i64 s)
def updM (g : Int → Option Value) (s : Int) (v : Value) : Int → Option Value := fun s' => if s' = s then some v else g s'
theorem MapI.made (w : World) : MapI (w.alloc (.map #[] 0)) w.heap.size 0 (fun _ => none) :=
  ⟨#[], 0, (MapKept.heap_alloc w _).1, by simp, by simp, by simp, by simp, by simp⟩
theorem MapI.lt {w : World} {b n : Nat} {g} (h : MapI w b n g) : b < w.heap.size := by
  obtain ⟨es, clock, hb, _⟩ := h
  exact (Array.getElem?_eq_some_iff.1 hb).1
theorem MapI.of_block {w w' : World} {b n : Nat} {g} (h : MapI w b n g) (hb : w'.heap[b]? = w.heap[b]?) : MapI w' b n g := by
  obtain ⟨es, clock, h1, h2⟩ := h
  exact ⟨es, clock, hb.trans h1, h2⟩
theorem MapI.kept {w w' : World} {b n : Nat} {g} {row : Option Nat} (h : MapI w b n g) (hg : w.grownBy w' row) (hne : some b ≠ row) : MapI w' b n g := h.of_block (hg.block b h.lt hne)
theorem MapI.below {w w' : World} {b n B : Nat} {g} (h : MapI w b n g) (hb : Below B w w') (hB : b < B) : MapI w' b n g := h.of_block (hb.block b hB)
theorem MapI.find {w : World} {b n : Nat} {g} (h : MapI w b n g) (s : Int) : ∃ (es : Array MapEntry) (clock : Nat), w.heap[b]? = some (.map es clock) ∧
    ((Instr.findNow (.int .i64) (.int .i64 s) es.toList 0 = some none ∧ g s = none ∧ ∀ (i : Nat) e, es[i]? = some e → e.key ≠ .int .i64 s) ∨ ∃ (j : Nat) (e : MapEntry), Instr.findNow (.int .i64) (.int .i64 s) es.toList 0 = some (some (j, e.val)) ∧ es[j]? = some e ∧ e.key = .int .i64 s ∧ g s = some e.val) := by
  obtain ⟨es, clock, hb, _, h1, h2, h3, h4⟩ := h
  refine ⟨es, clock, hb, ?_⟩
  have hks : ∀ x ∈ es.toList, IsKey (.int .i64) x.key := fun x hx => by
    obtain ⟨i, hi⟩ := List.mem_iff_getElem?.1 hx
    obtain ⟨s', e⟩ := h2 i x (by simpa using hi)
    rw [e]; rfl
  rcases findNow_spec (d := .int .i64) (k := .int .i64 s) rfl es.toList 0 hks with ⟨ha, hn⟩ | ⟨j, e0, ha, hj, hk⟩
  · refine Or.inl ⟨ha, ?_, fun i e hi => hn e (List.mem_iff_getElem?.2 ⟨i, by simpa using hi⟩)⟩
    cases hg : g s with
    | none => rfl
    | some v =>
      obtain ⟨i, e, hi, hk⟩ := h4 s v hg
      exact absurd hk (hn e (List.mem_iff_getElem?.2 ⟨i, by simpa using hi⟩))
  · have hj' : es[j]? = some e0 := by simpa using hj
    exact Or.inr ⟨j, e0, by simpa using ha, hj', hk, h3 j e0 s hj' hk⟩
theorem MapI.lookup {P : Program} {w : World} {b n : Nat} {g} (h : MapI w b n g) {t k e : TypeId} (ht : P.underlying t = some (.map k e)) (hk : P.underlying k = some (.int .i64)) {z : Value} (hz : (zeroValue e).run P w = .ok z w) (s : Int) (c : Bool) :
    (Instr.lookup t (.map (some b)) (.int .i64 s) c).run P w = .ok (if c then .tuple #[(g s).getD z, .bool (g s).isSome] else (g s).getD z) w := by
  obtain ⟨es, clock, hb, hf⟩ := h.find s
  have hck := run_checkKey (w := w) hk (d := .int .i64) (k := .int .i64 s) rfl es.isEmpty 9999
  rcases hf with ⟨ha, hg, _⟩ | ⟨j, e0, ha, _, _, hg⟩
  · simp [Instr.lookup, run_underlying ht, MapKept.run_getObj_map hb, hck, run_findKey (w := w) hk ha, hz, Result.andThen, hg]
  · simp [Instr.lookup, run_underlying ht, MapKept.run_getObj_map hb, hck, run_findKey (w := w) hk ha, Result.andThen, hg]
theorem MapI.update {P : Program} {w : World} {b n : Nat} {g} (h : MapI w b n g) {t k e : TypeId} (ht : P.underlying t = some (.map k e)) (hk : P.underlying k = some (.int .i64)) (s : Int) (v : Value) :
    ∃ w', (Instr.mapUpdate t (.map (some b)) (.int .i64 s) v).run P w = .ok () w' ∧ MapI w' b (n + 1) (updM g s v) ∧ w.grownBy w' (some b) := by
  have h0 := h
  obtain ⟨es, clock, hb, hf⟩ := h.find s
  obtain ⟨es', clock', hb', hn, h1, h2, h3, h4⟩ := h0
  rw [hb] at hb'
  obtain ⟨rfl, rfl⟩ : es = es' ∧ clock = clock' := by simpa using hb'
  have hck := run_checkKey (w := w) hk (d := .int .i64) (k := .int .i64 s) rfl false 9999
  have hgrow : ∀ o : Obj, w.grownBy { w with heap := w.heap.setIfInBounds b o } (some b) := fun o => ⟨rfl, rfl, rfl, by simp, fun i _ hi => by
    have : b ≠ i := fun e => hi (by rw [e])
    simp [this]⟩
  have hlt : b < w.heap.size := (Array.getElem?_eq_some_iff.1 hb).1
  rcases hf with ⟨ha, hg, hno⟩ | ⟨j, e0, ha, hj, hkey, hg⟩
  · refine ⟨{ w with heap := w.heap.setIfInBounds b (.map (es.push { key := .int .i64 s, val := v, born := clock }) (clock + 1)) }, ?_, ⟨es.push { key := .int .i64 s, val := v, born := clock }, clock + 1, by simp [hlt], by simp; omega, ?_, ?_, ?_, ?_⟩, hgrow _⟩
    · simp [Instr.mapUpdate, run_underlying ht, MapKept.run_getObj_map hb, hck, run_findKey (w := w) hk ha, Result.andThen, MapKept.run_setObj_map _ hb]
    · intro i j ei ej hi hj he
      rw [Array.getElem?_push] at hi hj
      split at hi <;> split at hj
      · omega
      · injection hi with hi; subst hi; exact absurd he.symm (hno j ej hj)
      · injection hj with hj; subst hj; exact absurd he (hno i ei hi)
      · exact h1 i j ei ej hi hj he
    · intro i e hi
      rw [Array.getElem?_push] at hi
      split at hi
      · injection hi with hi; subst hi; exact ⟨s, rfl⟩
      · exact h2 i e hi
    · intro i e s' hi he
      rw [Array.getElem?_push] at hi
      split at hi
      · injection hi with hi; subst hi
        injection he with _ he; subst he
        simp [updM]
      · have hne : s' ≠ s := fun e1 => hno i e hi (by rw [he, e1])
        simp only [updM, if_neg hne]
        exact h3 i e s' hi he
    · intro s' v' hv
      by_cases he : s' = s
      · subst he
        exact ⟨es.size, _, by rw [Array.getElem?_push, if_pos rfl], rfl⟩
      · simp only [updM, if_neg he] at hv
        obtain ⟨i, e, hi, hk'⟩ := h4 s' v' hv
        have hil : i < es.size := (Array.getElem?_eq_some_iff.1 hi).1
        exact ⟨i, e, by rw [Array.getElem?_push, if_neg (by omega)]; exact hi, hk'⟩
  · refine ⟨{ w with heap := w.heap.setIfInBounds b (.map (es.modify j fun e => { e with key := .int .i64 s, val := v }) clock) }, ?_, ⟨es.modify j fun e => { e with key := .int .i64 s, val := v }, clock, by simp [hlt], by simp; omega, ?_, ?_, ?_, ?_⟩, hgrow _⟩
    · have hst := run_keyThatStays (P := P) (w := w) (k := .int .i64 s) (d := .int .i64) rfl
      simp [Instr.mapUpdate, run_underlying ht, MapKept.run_getObj_map hb, hck, run_findKey (w := w) hk ha, Result.andThen, hj, hkey, hst, MapKept.run_setObj_map _ hb]
    all_goals
      have hm : ∀ (i : Nat) e, (es.modify j fun e => { e with key := .int .i64 s, val := v })[i]? = some e → ∃ e', es[i]? = some e' ∧ e.key = e'.key ∧ (i = j → e.val = v) ∧ (i ≠ j → e = e') := fun i e hi => by
        rw [Array.getElem?_modify] at hi
        split at hi
        · rename_i hij
          subst hij
          rw [hj] at hi
          simp at hi
          subst hi
          exact ⟨e0, hj, hkey.symm, fun _ => rfl, fun hh => absurd rfl hh⟩
        · rename_i hij
          exact ⟨e, hi, rfl, fun hh => absurd hh.symm hij, fun _ => rfl⟩
    · intro i j' ei ej hi hj' he
      obtain ⟨a, ha1, ha2, _⟩ := hm i ei hi
      obtain ⟨c, hc1, hc2, _⟩ := hm j' ej hj'
      exact h1 i j' a c ha1 hc1 (ha2.symm.trans (he.trans hc2))
    · intro i e hi
      obtain ⟨a, ha1, ha2, _⟩ := hm i e hi
      rw [ha2]
      exact h2 i a ha1
    · intro i e s' hi he
      obtain ⟨a, ha1, ha2, ha3, ha4⟩ := hm i e hi
      by_cases hij : i = j
      · subst hij
        rw [hj] at ha1
        injection ha1 with ha1
        subst ha1
        rw [ha2, hkey] at he
        injection he with _ he
        subst he
        simp [updM, ha3 rfl]
      · have e1 := ha4 hij
        subst e1
        have hne : s' ≠ s := fun e1 => hij (h1 i j _ _ ha1 hj (by rw [he, hkey, e1]))
        simp only [updM, if_neg hne]
        exact h3 i _ s' ha1 he
    · intro s' v' hv
      by_cases he : s' = s
      · subst he
        exact ⟨j, _, by rw [Array.getElem?_modify, if_pos rfl, hj]; rfl, rfl⟩
      · simp only [updM, if_neg he] at hv
        obtain ⟨i, e, hi, hk'⟩ := h4 s' v' hv
        have hij : j ≠ i := fun e1 => by
          subst e1
          rw [hj] at hi
          injection hi with hi
          subst hi
          rw [hkey] at hk'
          injection hk' with _ hk'
          exact he hk'.symm
        exact ⟨i, e, by rw [Array.getElem?_modify, if_neg hij]; exact hi, hk'⟩
theorem wpList_mapUpdate_i {P : Program} (w : World) {ops : Array Oper} {rest : List Oper} {o : Oper} {a : Act} {Q : Exit → Act → World → Prop}
    (hg : o.guard = none) (m x v : Operand) (t : TypeId) (hop : o.op = Op.mapUpdate t m x v) {k e : TypeId} (ht : P.underlying t = some (.map k e)) (hk : P.underlying k = some (.int .i64))
    (b n : Nat) (g : Int → Option Value) (hm : a.eval m = .map (some b)) (h : MapI w b n g) (s : Int) (val : Value) (hx : a.eval x = .int .i64 s) (hv : a.eval v = val)
    (hK : ∀ w', MapI w' b (n + 1) (updM g s val) → w.grownBy w' (some b) → wpList P ops Q rest (a.put o.dst undef) w') :
    wpList P ops Q (o :: rest) a w := by
  refine wpList_plain hg fun K' hK' => ?_
  obtain ⟨w', hrun, r1, r2⟩ := h.update ht hk s val
  unfold Oper.wp
  simp [execOp, hop, hm, hx, hv, hrun, Result.andThen]
  exact hK' _ _ (hK w' r1 r2)
end Go.Proofs.Ytaofdbboalcceaa

/- SETS OF NUMBERS, AS MAPS TO BOOLS; the range over one. -/
namespace Go.Proofs.Ytaofdbboalcceaa
open Go.MapKept Go.RowKit

structure Ents (es : Array MapEntry) (clock : Nat) (S : Int → Bool) : Prop where
  dist : ∀ (i j : Nat) ei ej, es[i]? = some ei → es[j]? = some ej → ei.key = ej.key → i = j
  form : ∀ (i : Nat) e, es[i]? = some e → ∃ s, e.key = .int .i64 s ∧ S s = true ∧ e.val = .bool true
  has : ∀ s, S s = true → ∃ (i : Nat) (e : MapEntry), es[i]? = some e ∧ e.key = .int .i64 s
  born : ∀ (i j : Nat) ei ej, es[i]? = some ei → es[j]? = some ej → ei.born = ej.born → i = j
  old : ∀ (i : Nat) e, es[i]? = some e → e.born < clock
/-- block b is the set S -/
def SetI (w : World) (b : Nat) (S : Int → Bool) : Prop := ∃ es clock, w.heap[b]? = some (.map es clock) ∧ Ents es clock S
def insS_ (S : Int → Bool) (s : Int) : Int → Bool := fun x => decide (x = s) || S x
theorem SetI.made (w : World) : SetI (w.alloc (.map #[] 0)) w.heap.size (fun _ => false) :=
  ⟨#[], 0, (MapKept.heap_alloc w _).1, by simp, by simp, by simp, by simp, by simp⟩
theorem SetI.lt {w : World} {b : Nat} {S} (h : SetI w b S) : b < w.heap.size := by
  obtain ⟨es, clock, hb, _⟩ := h
  exact (Array.getElem?_eq_some_iff.1 hb).1
theorem SetI.of_block {w w' : World} {b : Nat} {S} (h : SetI w b S) (hb : w'.heap[b]? = w.heap[b]?) : SetI w' b S := by
  obtain ⟨es, clock, h1, h2⟩ := h
  exact ⟨es, clock, hb.trans h1, h2⟩
theorem SetI.below {w w' : World} {b B : Nat} {S} (h : SetI w b S) (hb : Below B w w') (hB : b < B) : SetI w' b S := h.of_block (hb.block b hB)
theorem SetI.kept {w w' : World} {b : Nat} {S} {row : Option Nat} (h : SetI w b S) (hg : w.grownBy w' row) (hne : some b ≠ row) : SetI w' b S := h.of_block (hg.block b h.lt hne)
theorem SetI.find {w : World} {b : Nat} {S} (h : SetI w b S) (s : Int) : ∃ (es : Array MapEntry) (clock : Nat), w.heap[b]? = some (.map es clock) ∧ Ents es clock S ∧
    ((Instr.findNow (.int .i64) (.int .i64 s) es.toList 0 = some none ∧ S s = false ∧ ∀ (i : Nat) e, es[i]? = some e → e.key ≠ .int .i64 s) ∨ ∃ (j : Nat) (e : MapEntry), Instr.findNow (.int .i64) (.int .i64 s) es.toList 0 = some (some (j, .bool true)) ∧ es[j]? = some e ∧ e.key = .int .i64 s ∧ S s = true ∧ e.val = .bool true) := by
  obtain ⟨es, clock, hb, hE⟩ := h
  refine ⟨es, clock, hb, hE, ?_⟩
  have hks : ∀ x ∈ es.toList, IsKey (.int .i64) x.key := fun x hx => by
    obtain ⟨i, hi⟩ := List.mem_iff_getElem?.1 hx
    obtain ⟨s', e, _⟩ := hE.form i x (by simpa using hi)
    rw [e]; rfl
  rcases findNow_spec (d := .int .i64) (k := .int .i64 s) rfl es.toList 0 hks with ⟨ha, hn⟩ | ⟨j, e0, ha, hj, hk⟩
  · have hno : ∀ (i : Nat) e, es[i]? = some e → e.key ≠ .int .i64 s := fun i e hi => hn e (List.mem_iff_getElem?.2 ⟨i, by simpa using hi⟩)
    refine Or.inl ⟨ha, ?_, hno⟩
    cases hg : S s with
    | false => rfl
    | true =>
      obtain ⟨i, e, hi, hk⟩ := hE.has s hg
      exact absurd hk (hno i e hi)
  · have hj' : es[j]? = some e0 := by simpa using hj
    obtain ⟨s', h1, h2, h3⟩ := hE.form j e0 hj'
    have hs : s' = s := by rw [h1] at hk; injection hk
    subst hs
    exact Or.inr ⟨j, e0, by rw [← h3]; simpa using ha, hj', hk, h2, h3⟩
section
variable {P : Program}
theorem SetI.lookup {w : World} {b : Nat} {S} (h : SetI w b S) {t k e : TypeId} (ht : P.underlying t = some (.map k e)) (hk : P.underlying k = some (.int .i64)) (hz : (zeroValue e).run P w = .ok (.bool false) w) (s : Int) :
    (Instr.lookup t (.map (some b)) (.int .i64 s) false).run P w = .ok (.bool (S s)) w := by
  obtain ⟨es, clock, hb, _, hf⟩ := h.find s
  have hck := run_checkKey (w := w) hk (d := .int .i64) (k := .int .i64 s) rfl es.isEmpty 9999
  rcases hf with ⟨ha, hg, _⟩ | ⟨j, e0, ha, _, _, hg, _⟩
  · simp [Instr.lookup, run_underlying ht, MapKept.run_getObj_map hb, hck, run_findKey (w := w) hk ha, hz, Result.andThen, hg]
  · simp [Instr.lookup, run_underlying ht, MapKept.run_getObj_map hb, hck, run_findKey (w := w) hk ha, Result.andThen, hg]
theorem Ents.push {es : Array MapEntry} {clock : Nat} {S : Int → Bool} (h : Ents es clock S) (s : Int) (hno : ∀ (i : Nat) e, es[i]? = some e → e.key ≠ .int .i64 s) :
    Ents (es.push { key := .int .i64 s, val := .bool true, born := clock }) (clock + 1) (insS_ S s) := by
  refine ⟨fun i j ei ej hi hj he => ?_, fun i e hi => ?_, fun s' hs' => ?_, fun i j ei ej hi hj he => ?_, fun i e hi => ?_⟩
  · rw [Array.getElem?_push] at hi hj
    split at hi <;> split at hj
    · omega
    · injection hi with hi; subst hi; exact absurd he.symm (hno j ej hj)
    · injection hj with hj; subst hj; exact absurd he (hno i ei hi)
    · exact h.dist i j ei ej hi hj he
  · rw [Array.getElem?_push] at hi
    split at hi
    · injection hi with hi; subst hi; exact ⟨s, rfl, by simp [insS_], rfl⟩
    · obtain ⟨s', h1, h2, h3⟩ := h.form i e hi
      exact ⟨s', h1, by simp [insS_, h2], h3⟩
  · by_cases he : s' = s
    · subst he
      exact ⟨es.size, _, by rw [Array.getElem?_push, if_pos rfl], rfl⟩
    · obtain ⟨i, e, hi, hk'⟩ := h.has s' (by simpa [insS_, he] using hs')
      have hil : i < es.size := (Array.getElem?_eq_some_iff.1 hi).1
      exact ⟨i, e, by rw [Array.getElem?_push, if_neg (by omega)]; exact hi, hk'⟩
  · rw [Array.getElem?_push] at hi hj
    split at hi <;> split at hj
    · omega
    · injection hi with hi; subst hi; have := h.old j ej hj; simp only at he; omega
    · injection hj with hj; subst hj; have := h.old i ei hi; simp only at he; omega
    · exact h.born i j ei ej hi hj he
  · rw [Array.getElem?_push] at hi
    split at hi
    · injection hi with hi; subst hi; simp
    · have := h.old i e hi; omega
theorem insS_same {S : Int → Bool} {s : Int} (h : S s = true) : insS_ S s = S := by
  funext x
  by_cases hx : x = s
  · subst hx; simp [insS_, h]
  · simp [insS_, hx]
theorem SetI.update {w : World} {b : Nat} {S} (h : SetI w b S) {t k e : TypeId} (ht : P.underlying t = some (.map k e)) (hk : P.underlying k = some (.int .i64)) (s : Int) :
    ∃ w', (Instr.mapUpdate t (.map (some b)) (.int .i64 s) (.bool true)).run P w = .ok () w' ∧ SetI w' b (insS_ S s) ∧ w.grownBy w' (some b) ∧ w'.heap.size = w.heap.size := by
  obtain ⟨es, clock, hb, hE, hf⟩ := h.find s
  have hck := run_checkKey (w := w) hk (d := .int .i64) (k := .int .i64 s) rfl false 9999
  have hgrow : ∀ o : Obj, w.grownBy { w with heap := w.heap.setIfInBounds b o } (some b) := fun o => ⟨rfl, rfl, rfl, by simp, fun i _ hi => by
    have : b ≠ i := fun e => hi (by rw [e])
    simp [this]⟩
  have hlt : b < w.heap.size := (Array.getElem?_eq_some_iff.1 hb).1
  rcases hf with ⟨ha, hg, hno⟩ | ⟨j, e0, ha, hj, hkey, hg, hv⟩
  · refine ⟨{ w with heap := w.heap.setIfInBounds b (.map (es.push { key := .int .i64 s, val := .bool true, born := clock }) (clock + 1)) }, ?_, ⟨_, _, by simp [hlt], hE.push s hno⟩, hgrow _, by simp⟩
    simp [Instr.mapUpdate, run_underlying ht, MapKept.run_getObj_map hb, hck, run_findKey (w := w) hk ha, Result.andThen, MapKept.run_setObj_map _ hb]
  · have hsame : (es.modify j fun e => { e with key := .int .i64 s, val := .bool true }) = es := by
      apply Array.ext
      · simp
      · intro i h1 h2
        rw [Array.getElem_modify]
        split
        · rename_i hji
          subst hji
          have : es[j] = e0 := by rw [Array.getElem?_eq_getElem h2] at hj; injection hj
          rw [this]
          cases e0
          simp only at hkey hv
          rw [hkey, hv]
        · rfl
    refine ⟨{ w with heap := w.heap.setIfInBounds b (.map es clock) }, ?_, ⟨es, clock, by simp [hlt], by rw [insS_same hg]; exact hE⟩, hgrow _, by simp⟩
    have hst := run_keyThatStays (P := P) (w := w) (k := .int .i64 s) (d := .int .i64) rfl
    simp [Instr.mapUpdate, run_underlying ht, MapKept.run_getObj_map hb, hck, run_findKey (w := w) hk ha, Result.andThen, hj, hkey, hst, MapKept.run_setObj_map _ hb, hsame]
/-- an entry that was just laid, its value not yet stored -/
def HalfI (w : World) (b : Nat) (S : Int → Bool) (s : Int) (clock : Nat) : Prop := ∃ es, w.heap[b]? = some (.map (es.push { key := .int .i64 s, val := .bool false, born := clock }) (clock + 1)) ∧ Ents es clock S ∧ ∀ (i : Nat) e, es[i]? = some e → e.key ≠ .int .i64 s
theorem SetI.entry {w : World} {b : Nat} {S} (h : SetI w b S) {t k e : TypeId} (ht : P.underlying t = some (.map k e)) (hk : P.underlying k = some (.int .i64)) (hz : (zeroValue e).run P w = .ok (.bool false) w) (s : Int) (hs : S s = false) :
    ∃ (w' : World) (clock : Nat), (Instr.mapEntry t (.map (some b)) (.int .i64 s)).run P w = .ok (.tuple #[.bool false, .int .i64 clock]) w' ∧ HalfI w' b S s clock ∧ w.grownBy w' (some b) ∧ w'.heap.size = w.heap.size := by
  obtain ⟨es, clock, hb, hE, hf⟩ := h.find s
  have hck := run_checkKey (w := w) hk (d := .int .i64) (k := .int .i64 s) rfl false 9999
  have hlt : b < w.heap.size := (Array.getElem?_eq_some_iff.1 hb).1
  rcases hf with ⟨ha, hg, hno⟩ | ⟨j, e0, ha, hj, hkey, hg, hv⟩
  · refine ⟨{ w with heap := w.heap.setIfInBounds b (.map (es.push { key := .int .i64 s, val := .bool false, born := clock }) (clock + 1)) }, clock, ?_, ⟨es, by simp [hlt], hE, hno⟩, ⟨rfl, rfl, rfl, by simp, fun i _ hi => by
      have : b ≠ i := fun e => hi (by rw [e])
      simp [this]⟩, by simp⟩
    simp [Instr.mapEntry, run_underlying ht, MapKept.run_getObj_map hb, hck, run_findKey (w := w) hk ha, hz, Result.andThen, MapKept.run_setObj_map _ hb, goInt]
  · rw [hs] at hg; cases hg
theorem HalfI.store {w : World} {b : Nat} {S} {s : Int} {clock : Nat} (h : HalfI w b S s clock) (t : TypeId) :
    ∃ w', (Instr.entryStore t (.map (some b)) (.int .i64 clock) (.bool true)).run P w = .ok () w' ∧ SetI w' b (insS_ S s) ∧ w.grownBy w' (some b) ∧ w'.heap.size = w.heap.size := by
  obtain ⟨es, hb, hE, hno⟩ := h
  have hlt : b < w.heap.size := (Array.getElem?_eq_some_iff.1 hb).1
  have hfi : (es.push { key := .int .i64 s, val := .bool false, born := clock }).findIdx? (fun e => (e.born : Int) == (clock : Int)) = some es.size := by
    rw [Array.findIdx?_eq_some_iff_getElem]
    refine ⟨by simp, by simp, fun j hj => ?_⟩
    have hjl : j < es.size := hj
    rw [Array.getElem_push_lt hjl]
    have := hE.old j es[j] (Array.getElem?_eq_getElem hjl)
    simp
    omega
  have hmod : ((es.push { key := .int .i64 s, val := .bool false, born := clock }).modify es.size fun e => { e with val := .bool true }) = es.push { key := .int .i64 s, val := .bool true, born := clock } := by
    apply Array.ext
    · simp
    · intro i h1 h2
      rw [Array.getElem_modify]
      split
      · rename_i hi; subst hi; simp
      · rename_i hi
        have : i < es.size := by simp at h2; omega
        rw [Array.getElem_push_lt this, Array.getElem_push_lt this]
  refine ⟨{ w with heap := w.heap.setIfInBounds b (.map (es.push { key := .int .i64 s, val := .bool true, born := clock }) (clock + 1)) }, ?_, ⟨_, _, by simp [hlt], hE.push s hno⟩, ⟨rfl, rfl, rfl, by simp, fun i _ hi => by
    have : b ≠ i := fun e => hi (by rw [e])
    simp [this]⟩, by simp⟩
  simp [Instr.entryStore, MapKept.run_getObj_map hb, Result.andThen, asInt, asIntOf, hfi, hmod, MapKept.run_setObj_map _ hb]
/-- block r is an iterator over the set S in block b; l: what is still to come -/
def RgD (w : World) (r b : Nat) (S : Int → Bool) (l : List Int) : Prop := ∃ (es : Array MapEntry) (clock c0 : Nat) (seen : Array Nat), Ents es clock S ∧ w.heap[b]? = some (.map es clock) ∧ clock ≤ c0 ∧ w.heap[r]? = some (.mapIter (some b) clock seen c0) ∧
  l = (es.toList.filter fun e => !seen.contains e.born).map fun e => match e.key with | .int _ n => n | _ => 0
theorem RgD.of_blocks {w w' : World} {r b : Nat} {S} {l : List Int} (h : RgD w r b S l) (h1 : w'.heap[b]? = w.heap[b]?) (h2 : w'.heap[r]? = w.heap[r]?) : RgD w' r b S l := by
  obtain ⟨es, clock, c0, seen, a, b, c, d, e⟩ := h
  exact ⟨es, clock, c0, seen, a, h1.trans b, c, h2.trans d, e⟩
theorem RgD.lt {w : World} {r b : Nat} {S} {l : List Int} (h : RgD w r b S l) : b < w.heap.size ∧ r < w.heap.size := by
  obtain ⟨es, clock, c0, seen, a, b, c, d, e⟩ := h
  exact ⟨(Array.getElem?_eq_some_iff.1 b).1, (Array.getElem?_eq_some_iff.1 d).1⟩
theorem RgD.below {w w' : World} {r b : Nat} {S} {l : List Int} (h : RgD w r b S l) (hb : Below w.heap.size w w') : RgD w' r b S l := h.of_blocks (hb.block _ h.lt.1) (hb.block _ h.lt.2)
theorem RgD.set {w : World} {r b : Nat} {S} {l : List Int} (h : RgD w r b S l) : SetI w b S := by
  obtain ⟨es, clock, c0, seen, a, b, c, d, e⟩ := h
  exact ⟨es, clock, b, a⟩
theorem SetI.range {w : World} {b : Nat} {S} (h : SetI w b S) {t k e : TypeId} (ht : P.underlying t = some (.map k e)) :
    ∃ (l : List Int) (o : Obj), (Instr.range t (.map (some b))).run P w = .ok (.pointer (some ⟨w.heap.size, 0, none⟩)) (w.alloc o) ∧ RgD (w.alloc o) w.heap.size b S l ∧ l.Nodup ∧ ∀ x, x ∈ l ↔ S x = true := by
  obtain ⟨es, clock, hb, hE⟩ := h
  have hall : (es.toList.filter fun e => !(#[] : Array Nat).contains e.born) = es.toList := by simp
  refine ⟨_, _, run_range_map w t k e b es clock ht hb, ⟨es, clock, clock, #[], hE, by rw [heap_alloc_old w _ (Array.getElem?_eq_some_iff.1 hb).1]; exact hb, Nat.le_refl _, heap_alloc_new w _, rfl⟩, ?_, fun x => ?_⟩
  · rw [hall, List.nodup_iff_pairwise_ne, List.pairwise_iff_getElem]
    intro i j hi hj hij
    simp only [List.length_map, Array.length_toList] at hi hj
    simp only [List.getElem_map, Array.getElem_toList]
    obtain ⟨s1, a1, _⟩ := hE.form i es[i] (Array.getElem?_eq_getElem hi)
    obtain ⟨s2, a2, _⟩ := hE.form j es[j] (Array.getElem?_eq_getElem hj)
    rw [a1, a2]
    intro he
    simp only at he
    have := hE.dist i j _ _ (Array.getElem?_eq_getElem hi) (Array.getElem?_eq_getElem hj) (by rw [a1, a2, he])
    omega
  · rw [hall, List.mem_map]
    constructor
    · rintro ⟨e, he, rfl⟩
      obtain ⟨i, hi⟩ := List.mem_iff_getElem?.1 he
      obtain ⟨s, h1, h2, _⟩ := hE.form i e (by simpa using hi)
      rw [h1]
      exact h2
    · intro hx
      obtain ⟨i, e, hi, hk⟩ := hE.has x hx
      exact ⟨e, List.mem_iff_getElem?.2 ⟨i, by simpa using hi⟩, by rw [hk]⟩
theorem RgD.next {w : World} {r b : Nat} {S} {l : List Int} (h : RgD w r b S l) (ty : TypeId) :
    (l = [] ∧ (Instr.next (.pointer (some ⟨r, 0, none⟩)) false ty).run P w = .ok (.tuple #[.bool false]) w) ∨
    ∃ (s : Int) (l' : List Int) (w' : World), s ∈ l ∧ S s = true ∧ (∀ x, x ∈ l' ↔ x ∈ l ∧ x ≠ s) ∧ l'.length < l.length ∧ RgD w' r b S l' ∧ w.grownBy w' (some r) ∧ w'.heap.size = w.heap.size ∧
      (Instr.next (.pointer (some ⟨r, 0, none⟩)) false ty).run P w = .ok (.tuple #[.bool true, .int .i64 s, .bool true]) w' ∧ (Instr.entry (.pointer (some ⟨r, 0, none⟩))).run P w' = .ok (.tuple #[.int .i64 s, .bool true]) w' := by
  obtain ⟨es, clock, c0, seen, hE, hb, hc, hr, rfl⟩ := h
  have hlo : ∀ sn : Array Nat, (leftOf es sn).toList = es.toList.filter fun e => !sn.contains e.born := fun sn => by simp [leftOf]
  rcases run_next_at w ty r b clock c0 seen es clock hr hb (fun x hx => by
    obtain ⟨i, hi⟩ := List.mem_iff_getElem?.1 hx
    exact hE.old i x (by simpa using hi)) hc with ⟨h0, hrun⟩ | ⟨e, he, w1, hw1, hrun⟩
  · refine Or.inl ⟨?_, hrun⟩
    have : (leftOf es seen).toList = [] := by rw [Array.eq_empty_of_size_eq_zero h0]
    rw [← hlo, this]; rfl
  · rw [hlo] at he
    have hem : e ∈ es.toList := (List.mem_filter.1 he).1
    obtain ⟨i, hi⟩ := List.mem_iff_getElem?.1 hem
    have hi' : es[i]? = some e := by simpa using hi
    obtain ⟨s, h1, h2, h3⟩ := hE.form i e hi'
    have hfilt : (es.toList.filter fun x => !(seen.push e.born).contains x.born) = (es.toList.filter fun x => !seen.contains x.born).filter fun x => x.born != e.born := by
      rw [List.filter_filter]
      apply List.filter_congr
      intro x _
      rw [Bool.eq_iff_iff]
      simp
      constructor
      · rintro ⟨a, b⟩; exact ⟨b, a⟩
      · rintro ⟨a, b⟩; exact ⟨b, a⟩
    have hblk : w1.heap = w.heap := by rcases hw1 with rfl | rfl <;> rfl
    have hlr : r < w.heap.size := (Array.getElem?_eq_some_iff.1 hr).1
    have hbr : b ≠ r := fun e => by subst e; rw [hb] at hr; cases hr
    have hg : w.grownBy (ChangeMaps.setBlock w1 r (.mapIter (some b) clock (seen.push e.born) clock)) (some r) := by
      rcases hw1 with rfl | rfl
      · exact ⟨rfl, rfl, rfl, by simp [ChangeMaps.setBlock], fun i _ hne => by
          have : r ≠ i := fun e => hne (by rw [e])
          simp [ChangeMaps.setBlock, this]⟩
      · exact ⟨rfl, rfl, rfl, by simp [ChangeMaps.setBlock], fun i _ hne => by
          have : r ≠ i := fun e => hne (by rw [e])
          simp [ChangeMaps.setBlock, this]
          rfl⟩
    have hr' : (ChangeMaps.setBlock w1 r (.mapIter (some b) clock (seen.push e.born) clock)).heap[r]? = some (.mapIter (some b) clock (seen.push e.born) clock) := by
      simp [ChangeMaps.setBlock, hblk, hlr]
    have hb' : (ChangeMaps.setBlock w1 r (.mapIter (some b) clock (seen.push e.born) clock)).heap[b]? = some (.map es clock) := by
      simp [ChangeMaps.setBlock, hblk, Ne.symm hbr, hb]
    refine Or.inr ⟨s, _, _, ?_, h2, ?_, ?_, ⟨es, clock, clock, seen.push e.born, hE, hb', Nat.le_refl _, hr', rfl⟩, hg, by simp [ChangeMaps.setBlock, hblk], by rw [h1, h3] at hrun; exact hrun, ?_⟩
    · exact List.mem_map.2 ⟨e, he, by rw [h1]⟩
    · intro x
      rw [hfilt, List.mem_map, List.mem_map]
      constructor
      · rintro ⟨e', he', rfl⟩
        obtain ⟨h4, h5⟩ := List.mem_filter.1 he'
        refine ⟨⟨e', h4, rfl⟩, fun h6 => ?_⟩
        obtain ⟨i', hi2⟩ := List.mem_iff_getElem?.1 (List.mem_filter.1 h4).1
        have hi2' : es[i']? = some e' := by simpa using hi2
        obtain ⟨s', h7, _⟩ := hE.form i' e' hi2'
        rw [h7] at h6
        simp only at h6
        subst h6
        have := hE.dist i' i e' e hi2' hi' (by rw [h7, h1])
        subst this
        rw [hi'] at hi2'
        injection hi2' with h8
        subst h8
        simp at h5
      · rintro ⟨⟨e', he', rfl⟩, hne⟩
        refine ⟨e', List.mem_filter.2 ⟨he', ?_⟩, rfl⟩
        simp only [bne_iff_ne, ne_eq]
        intro h6
        obtain ⟨i', hi2⟩ := List.mem_iff_getElem?.1 (List.mem_filter.1 he').1
        have hi2' : es[i']? = some e' := by simpa using hi2
        have := hE.born i' i e' e hi2' hi' h6
        subst this
        rw [hi'] at hi2'
        injection hi2' with h8
        subst h8
        rw [h1] at hne
        exact hne rfl
    · rw [hfilt, List.length_map, List.length_map]
      exact List.length_filter_lt_length_iff_exists.2 ⟨e, he, by simp⟩
    · have := run_entry_at (P := P) _ r b clock seen es clock e hr' hb' hem (by
        rw [List.nodup_iff_pairwise_ne, List.pairwise_iff_getElem]
        intro i j hi hj hij
        simp only [List.length_map, Array.length_toList] at hi hj
        simp only [List.getElem_map, Array.getElem_toList]
        intro he
        have := hE.born i j _ _ (Array.getElem?_eq_getElem hi) (Array.getElem?_eq_getElem hj) he
        omega)
      rw [h1, h3] at this
      exact this
/-- a list of numbers below R, each once, is no longer than R -/
theorem nodup_le : ∀ (R : Nat) (l : List Int), l.Nodup → (∀ x ∈ l, 0 ≤ x ∧ x < (R : Int)) → l.length ≤ R
  | 0, [], _, _ => Nat.le_refl _
  | 0, x :: l, _, h => by have := h x (by simp); omega
  | R + 1, l, hn, h => by
    by_cases hm : (R : Int) ∈ l
    · have h1 := nodup_le R (l.erase R) (hn.erase _) (fun x hx => by
        have h2 := (List.Nodup.mem_erase_iff hn).1 hx
        have := h x h2.2
        have := h2.1
        omega)
      rw [List.length_erase_of_mem hm] at h1
      omega
    · have h1 := nodup_le R l hn (fun x hx => by
        have := h x hx
        have : x ≠ R := fun e => hm (e ▸ hx)
        omega)
      omega
section
variable (w : World) {ops : Array Oper} {rest : List Oper} {o : Oper} {a : Act} {Q : Exit → Act → World → Prop}
theorem wpList_update_set (hg : o.guard = none) (m x v : Operand) (t : TypeId) (hop : o.op = Op.mapUpdate t m x v) {k e : TypeId} (ht : P.underlying t = some (.map k e)) (hk : P.underlying k = some (.int .i64))
    (b : Nat) (S : Int → Bool) (hm : a.eval m = .map (some b)) (h : SetI w b S) (s : Int) (hx : a.eval x = .int .i64 s) (hv : a.eval v = .bool true)
    (hK : ∀ w', SetI w' b (insS_ S s) → w.grownBy w' (some b) → w'.heap.size = w.heap.size → wpList P ops Q rest (a.put o.dst undef) w') : wpList P ops Q (o :: rest) a w := by
  refine wpList_plain hg fun K' hK' => ?_
  obtain ⟨w', hrun, r1, r2, r3⟩ := h.update ht hk s
  unfold Oper.wp
  simp [execOp, hop, hm, hx, hv, hrun, Result.andThen]
  exact hK' _ _ (hK w' r1 r2 r3)
theorem wpList_mapEntry_set (hg : o.guard = none) (m x : Operand) (t : TypeId) (hop : o.op = Op.mapEntry t m x) {k e : TypeId} (ht : P.underlying t = some (.map k e)) (hk : P.underlying k = some (.int .i64)) (hz : (zeroValue e).run P w = .ok (.bool false) w)
    (b : Nat) (S : Int → Bool) (hm : a.eval m = .map (some b)) (h : SetI w b S) (s : Int) (hs : S s = false) (hx : a.eval x = .int .i64 s)
    (hK : ∀ (w' : World) (clock : Nat), HalfI w' b S s clock → w.grownBy w' (some b) → w'.heap.size = w.heap.size → wpList P ops Q rest (a.put o.dst (.tuple #[.bool false, .int .i64 clock])) w') : wpList P ops Q (o :: rest) a w := by
  refine wpList_plain hg fun K' hK' => ?_
  obtain ⟨w', clock, hrun, r1, r2, r3⟩ := h.entry ht hk hz s hs
  unfold Oper.wp
  simp [execOp, hop, hm, hx, hrun, Result.andThen]
  exact hK' _ _ (hK w' clock r1 r2 r3)
theorem wpList_entryStore_set (hg : o.guard = none) (m x v : Operand) (t : TypeId) (hop : o.op = Op.entryStore t m x v) (b : Nat) (S : Int → Bool) (s : Int) (clock : Nat) (hm : a.eval m = .map (some b)) (h : HalfI w b S s clock) (hx : a.eval x = .int .i64 clock) (hv : a.eval v = .bool true)
    (hK : ∀ w', SetI w' b (insS_ S s) → w.grownBy w' (some b) → w'.heap.size = w.heap.size → wpList P ops Q rest (a.put o.dst undef) w') : wpList P ops Q (o :: rest) a w := by
  refine wpList_plain hg fun K' hK' => ?_
  obtain ⟨w', hrun, r1, r2, r3⟩ := h.store (P := P) t
  unfold Oper.wp
  simp [execOp, hop, hm, hx, hv, hrun, Result.andThen]
  exact hK' _ _ (hK w' r1 r2 r3)
theorem wpList_range_set (hg : o.guard = none) (m : Operand) (t : TypeId) (hop : o.op = Op.range t m) {k e : TypeId} (ht : P.underlying t = some (.map k e)) (b : Nat) (S : Int → Bool) (hm : a.eval m = .map (some b)) (h : SetI w b S)
    (hK : ∀ (l : List Int) (o' : Obj), RgD (w.alloc o') w.heap.size b S l → l.Nodup → (∀ x, x ∈ l ↔ S x = true) → wpList P ops Q rest (a.put o.dst (.pointer (some ⟨w.heap.size, 0, none⟩))) (w.alloc o')) : wpList P ops Q (o :: rest) a w := by
  refine wpList_plain hg fun K' hK' => ?_
  obtain ⟨l, o', hrun, r1, r2, r3⟩ := h.range (P := P) ht
  unfold Oper.wp
  simp [execOp, hop, hm, hrun, Result.andThen]
  exact hK' _ _ (hK l o' r1 r2 r3)
theorem wpList_next_set (hg : o.guard = none) (it : Operand) (hop : o.op = Op.next it false) (r b : Nat) (S : Int → Bool) (l : List Int) (hit : a.eval it = .pointer (some ⟨r, 0, none⟩)) (h : RgD w r b S l)
    (hDone : l = [] → wpList P ops Q rest (a.put o.dst (.tuple #[.bool false])) w)
    (hMore : ∀ (s : Int) (l' : List Int) (w' : World), s ∈ l → S s = true → (∀ x, x ∈ l' ↔ x ∈ l ∧ x ≠ s) → l'.length < l.length → RgD w' r b S l' → w.grownBy w' (some r) → w'.heap.size = w.heap.size →
      (Instr.entry (.pointer (some ⟨r, 0, none⟩))).run P w' = .ok (.tuple #[.int .i64 s, .bool true]) w' → wpList P ops Q rest (a.put o.dst (.tuple #[.bool true, .int .i64 s, .bool true])) w') : wpList P ops Q (o :: rest) a w := by
  refine wpList_plain hg fun K' hK' => ?_
  unfold Oper.wp
  rcases h.next (P := P) o.type with ⟨h0, hrun⟩ | ⟨s, l', w', h1, h2, h3, h4, h5, h6, h7, hrun, hen⟩
  · simp [execOp, hop, hit, hrun, Result.andThen]
    exact hK' _ _ (hDone h0)
  · simp [execOp, hop, hit, hrun, Result.andThen]
    exact hK' _ _ (hMore s l' w' h1 h2 h3 h4 h5 h6 h7 hen)
end
end
end Go.Proofs.Ytaofdbboalcceaa
