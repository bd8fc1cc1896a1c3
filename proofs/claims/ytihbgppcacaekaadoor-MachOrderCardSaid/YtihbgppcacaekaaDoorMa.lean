import Derived.WalkKit
import Derived.ProofKit
import Derived.StringKeys
import Derived.Maps.Own
import Derived.Maps.OwnOps
import Derived.Maps.RangeRun
import Derived.Maps.RangeWalk
/- MAPS WITH ANY KEYS THAT CAN BE READ (numbers, structs), of any program: looked up, changed, gone through while entries are taken out. -/
namespace Go.Proofs.YtihbgppcacaekaaDoor
open Go.MapKept Go.RowKit

/-- values of type k that stand for the keys κ -/
structure KeyV (P : Program) (k : TypeId) {κ : Type} (kv : κ → Value) : Prop where
  inj : ∀ x y, kv x = kv y → x = y
  check : ∀ (w : World) (em : Bool) (x : κ), (Instr.checkKey em 10000 k (kv x)).run P w = .ok () w
  find : ∀ (w : World) (x : κ) (es : List MapEntry), (∀ e ∈ es, ∃ y, e.key = kv y) →
    ((Instr.findKey k (kv x) es).run P w = .ok none w ∧ ∀ e ∈ es, e.key ≠ kv x) ∨ ∃ j e, (Instr.findKey k (kv x) es).run P w = .ok (some (j, e.val)) w ∧ es[j]? = some e ∧ e.key = kv x
  stays : ∀ (w : World) (x : κ), (Instr.keyThatStays (kv x) (kv x)).run P w = .ok (kv x) w
section
variable {P : Program} {k : TypeId} {κ : Type} {kv : κ → Value}
/-- the entries of a map that holds g -/
structure EntK (kv : κ → Value) (es : Array MapEntry) (clock : Nat) (g : κ → Option Value) : Prop where
  form : ∀ (i : Nat) e, es[i]? = some e → ∃ x, e.key = kv x ∧ g x = some e.val ∧ e.born < clock
  dist : ∀ (i j : Nat) ei ej, es[i]? = some ei → es[j]? = some ej → ei.key = ej.key → i = j
  born : ∀ (i j : Nat) ei ej, es[i]? = some ei → es[j]? = some ej → ei.born = ej.born → i = j
  has : ∀ x v, g x = some v → ∃ (i : Nat) (e : MapEntry), es[i]? = some e ∧ e.key = kv x
def MapK (kv : κ → Value) (w : World) (b : Nat) (g : κ → Option Value) : Prop := ∃ es clock, w.heap[b]? = some (.map es clock) ∧ EntK kv es clock g
theorem MapK.made (w : World) : MapK kv (w.alloc (.map #[] 0)) w.heap.size (fun _ => none) :=
  ⟨#[], 0, (MapKept.heap_alloc w _).1, by simp, by simp, by simp, by simp⟩
theorem MapK.lt {w : World} {b : Nat} {g} (h : MapK kv w b g) : b < w.heap.size := by
  obtain ⟨es, clock, hb, _⟩ := h
  exact (Array.getElem?_eq_some_iff.1 hb).1
theorem MapK.of_block {w w' : World} {b : Nat} {g} (h : MapK kv w b g) (hb : w'.heap[b]? = w.heap[b]?) : MapK kv w' b g := by
  obtain ⟨es, clock, h1, h2⟩ := h
  exact ⟨es, clock, hb.trans h1, h2⟩
theorem MapK.below {w w' : World} {b B : Nat} {g} (h : MapK kv w b g) (hb : Below B w w') (hB : b < B) : MapK kv w' b g := h.of_block (hb.block b hB)
theorem MapK.kept {w w' : World} {b : Nat} {g} {row : Option Nat} (h : MapK kv w b g) (hg : w.grownBy w' row) (hne : some b ≠ row) : MapK kv w' b g := h.of_block (hg.block b h.lt hne)
/-- what is found at a key -/
theorem EntK.find (K : KeyV P k kv) {es : Array MapEntry} {clock : Nat} {g} (h : EntK kv es clock g) (w : World) (x : κ) :
    ((Instr.findKey k (kv x) es.toList).run P w = .ok none w ∧ g x = none ∧ ∀ (i : Nat) e, es[i]? = some e → e.key ≠ kv x) ∨
    ∃ (j : Nat) (e : MapEntry), (Instr.findKey k (kv x) es.toList).run P w = .ok (some (j, e.val)) w ∧ es[j]? = some e ∧ e.key = kv x ∧ g x = some e.val := by
  rcases K.find w x es.toList (fun e he => by
    obtain ⟨i, hi⟩ := List.mem_iff_getElem?.1 he
    obtain ⟨y, h1, _⟩ := h.form i e (by simpa using hi)
    exact ⟨y, h1⟩) with ⟨h1, h2⟩ | ⟨j, e, h1, h2, h3⟩
  · have hno : ∀ (i : Nat) e, es[i]? = some e → e.key ≠ kv x := fun i e hi => h2 e (List.mem_iff_getElem?.2 ⟨i, by simpa using hi⟩)
    refine Or.inl ⟨h1, ?_, hno⟩
    cases hg : g x with
    | none => rfl
    | some v =>
      obtain ⟨i, e, hi, hk⟩ := h.has x v hg
      exact absurd hk (hno i e hi)
  · have h2' : es[j]? = some e := by simpa using h2
    refine Or.inr ⟨j, e, h1, h2', h3, ?_⟩
    obtain ⟨y, h4, h5, _⟩ := h.form j e h2'
    rw [K.inj x y (by rw [← h3, h4])]
    exact h5
theorem MapK.lookup (K : KeyV P k kv) {w : World} {b : Nat} {g} (h : MapK kv w b g) {t e : TypeId} (ht : P.underlying t = some (.map k e)) {z : Value} (hz : (zeroValue e).run P w = .ok z w) (x : κ) (c : Bool) :
    (Instr.lookup t (.map (some b)) (kv x) c).run P w = .ok (if c then .tuple #[(g x).getD z, .bool (g x).isSome] else (g x).getD z) w := by
  obtain ⟨es, clock, hb, hE⟩ := h
  have hck := K.check w es.isEmpty x
  rcases hE.find K w x with ⟨ha, hg, _⟩ | ⟨j, e0, ha, _, _, hg⟩
  · simp [Instr.lookup, run_underlying ht, MapKept.run_getObj_map hb, hck, ha, hz, Result.andThen, hg]
  · simp [Instr.lookup, run_underlying ht, MapKept.run_getObj_map hb, hck, ha, Result.andThen, hg]
def updK [DecidableEq κ] (g : κ → Option Value) (x : κ) (v : Option Value) : κ → Option Value := fun y => if y = x then v else g y
theorem EntK.push [DecidableEq κ] {es : Array MapEntry} {clock : Nat} {g} (h : EntK kv es clock g) (x : κ) (v : Value) (hno : ∀ (i : Nat) e, es[i]? = some e → e.key ≠ kv x) :
    EntK kv (es.push { key := kv x, val := v, born := clock }) (clock + 1) (updK g x (some v)) := by
  refine ⟨fun i e hi => ?_, fun i j ei ej hi hj he => ?_, fun i j ei ej hi hj he => ?_, fun y u hy => ?_⟩
  · rw [Array.getElem?_push] at hi
    split at hi
    · injection hi with hi; subst hi
      exact ⟨x, rfl, by simp [updK], by simp⟩
    · obtain ⟨y, h1, h2, h3⟩ := h.form i e hi
      refine ⟨y, h1, ?_, by omega⟩
      have : y ≠ x := fun e' => hno i e hi (by rw [h1, e'])
      simp [updK, this, h2]
  · rw [Array.getElem?_push] at hi hj
    split at hi <;> split at hj
    · omega
    · injection hi with hi; subst hi; exact absurd he.symm (hno j ej hj)
    · injection hj with hj; subst hj; exact absurd he (hno i ei hi)
    · exact h.dist i j ei ej hi hj he
  · rw [Array.getElem?_push] at hi hj
    split at hi <;> split at hj
    · omega
    · injection hi with hi; subst hi
      obtain ⟨_, _, _, h3⟩ := h.form j ej hj
      simp at he; omega
    · injection hj with hj; subst hj
      obtain ⟨_, _, _, h3⟩ := h.form i ei hi
      simp at he; omega
    · exact h.born i j ei ej hi hj he
  · unfold updK at hy
    split at hy
    · rename_i e; subst e
      exact ⟨es.size, _, by rw [Array.getElem?_push, if_pos rfl], rfl⟩
    · obtain ⟨i, e, h1, h2⟩ := h.has y u hy
      have := (Array.getElem?_eq_some_iff.1 h1).1
      exact ⟨i, e, by rw [Array.getElem?_push, if_neg (by omega)]; exact h1, h2⟩
theorem EntK.modify [DecidableEq κ] (K : KeyV P k kv) {es : Array MapEntry} {clock : Nat} {g} (h : EntK kv es clock g) (x : κ) (v : Value) (j : Nat) (e0 : MapEntry) (hj : es[j]? = some e0) (hk : e0.key = kv x) :
    EntK kv (es.modify j fun e => { e with key := kv x, val := v }) clock (updK g x (some v)) := by
  have hget : ∀ (i : Nat) (e : MapEntry), (es.modify j fun e => { e with key := kv x, val := v })[i]? = some e → ∃ e' : MapEntry, es[i]? = some e' ∧ e.born = e'.born ∧ e.key = e'.key ∧ (i = j → e.val = v) ∧ (i ≠ j → e = e') := fun i e hi => by
    rw [Array.getElem?_modify] at hi
    split at hi
    · rename_i e1; subst e1
      rw [hj] at hi
      injection hi with hi
      subst hi
      exact ⟨e0, hj, rfl, hk.symm, fun _ => rfl, fun h => absurd rfl h⟩
    · rename_i hne
      exact ⟨e, hi, rfl, rfl, fun h => absurd h.symm hne, fun _ => rfl⟩
  refine ⟨fun i e hi => ?_, fun i i' ei ej hi hj' he => ?_, fun i i' ei ej hi hj' he => ?_, fun y u hy => ?_⟩
  · obtain ⟨e', h1, h2, h3, h4, h5⟩ := hget i e hi
    obtain ⟨y, a1, a2, a3⟩ := h.form i e' h1
    refine ⟨y, by rw [h3, a1], ?_, by rw [h2]; exact a3⟩
    by_cases hij : i = j
    · have : y = x := K.inj y x (by rw [← a1, ← hk]; subst hij; rw [hj] at h1; injection h1 with h1; rw [h1])
      rw [h4 hij, this]; simp [updK]
    · have : y ≠ x := fun e1 => hij (h.dist i j e' e0 h1 hj (by rw [a1, hk, e1]))
      rw [h5 hij]; simp [updK, this, a2]
  · obtain ⟨e1, b1, _, b3, _⟩ := hget i ei hi
    obtain ⟨e2, c1, _, c3, _⟩ := hget i' ej hj'
    exact h.dist i i' e1 e2 b1 c1 (by rw [← b3, ← c3]; exact he)
  · obtain ⟨e1, b1, b2, _⟩ := hget i ei hi
    obtain ⟨e2, c1, c2, _⟩ := hget i' ej hj'
    exact h.born i i' e1 e2 b1 c1 (by rw [← b2, ← c2]; exact he)
  · have key : ∀ (i : Nat) (e : MapEntry), es[i]? = some e → ∃ e' : MapEntry, (es.modify j fun e => { e with key := kv x, val := v })[i]? = some e' ∧ e'.key = e.key := fun i e hi => by
      rw [Array.getElem?_modify]
      split
      · rename_i e1; subst e1
        rw [hj] at hi ⊢
        injection hi with hi
        subst hi
        exact ⟨_, rfl, hk.symm⟩
      · exact ⟨e, hi, rfl⟩
    unfold updK at hy
    split at hy
    · rename_i e; subst e
      obtain ⟨e', h1, h2⟩ := key j e0 hj
      exact ⟨j, e', h1, by rw [h2, hk]⟩
    · obtain ⟨i, e, h1, h2⟩ := h.has y u hy
      obtain ⟨e', h3, h4⟩ := key i e h1
      exact ⟨i, e', h3, by rw [h4, h2]⟩
theorem grown_map {w : World} {b : Nat} (hb : b < w.heap.size) (o : Obj) : w.grownBy { w with heap := w.heap.setIfInBounds b o } (some b) ∧ ({ w with heap := w.heap.setIfInBounds b o } : World).heap[b]? = some o :=
  ⟨⟨rfl, rfl, rfl, by simp, fun i _ hi => by
    have : b ≠ i := fun e => hi (by rw [e])
    simp [this]⟩, by simp [hb]⟩
theorem MapK.update [DecidableEq κ] (K : KeyV P k kv) {w : World} {b : Nat} {g} (h : MapK kv w b g) {t e : TypeId} (ht : P.underlying t = some (.map k e)) (x : κ) (v : Value) :
    ∃ w', (Instr.mapUpdate t (.map (some b)) (kv x) v).run P w = .ok () w' ∧ MapK kv w' b (updK g x (some v)) ∧ w.grownBy w' (some b) ∧ w'.heap.size = w.heap.size := by
  obtain ⟨es, clock, hb, hE⟩ := h
  have hck := K.check w false x
  have hlt : b < w.heap.size := (Array.getElem?_eq_some_iff.1 hb).1
  rcases hE.find K w x with ⟨ha, hg, hno⟩ | ⟨j, e0, ha, hj, hkey, hg⟩
  · refine ⟨{ w with heap := w.heap.setIfInBounds b (.map (es.push { key := kv x, val := v, born := clock }) (clock + 1)) }, ?_, ⟨_, _, (grown_map hlt _).2, hE.push x v hno⟩, (grown_map hlt _).1, by simp⟩
    simp [Instr.mapUpdate, run_underlying ht, MapKept.run_getObj_map hb, hck, ha, Result.andThen, MapKept.run_setObj_map _ hb]
  · refine ⟨{ w with heap := w.heap.setIfInBounds b (.map (es.modify j fun e => { e with key := kv x, val := v }) clock) }, ?_, ⟨_, _, (grown_map hlt _).2, hE.modify K x v j e0 hj hkey⟩, (grown_map hlt _).1, by simp⟩
    have hst := K.stays w x
    have hkk : (Option.map MapEntry.key es[j]?).getD (kv x) = kv x := by rw [hj]; exact hkey
    simp [Instr.mapUpdate, run_underlying ht, MapKept.run_getObj_map hb, hck, ha, Result.andThen, MapKept.run_setObj_map _ hb, hkk, hst]
theorem EntK.erase [DecidableEq κ] (K : KeyV P k kv) {es : Array MapEntry} {clock : Nat} {g} (h : EntK kv es clock g) (x : κ) (j : Nat) (e0 : MapEntry) (hj : es[j]? = some e0) (hk : e0.key = kv x) :
    EntK kv (es.eraseIdxIfInBounds j) clock (updK g x none) := by
  have hlt := (Array.getElem?_eq_some_iff.1 hj).1
  have hget : ∀ i : Nat, (es.eraseIdxIfInBounds j)[i]? = if i < j then es[i]? else es[i + 1]? := fun i => by
    rw [Array.eraseIdxIfInBounds_eq, dif_pos hlt, Array.getElem?_eraseIdx]
  have back : ∀ (i : Nat) e, (es.eraseIdxIfInBounds j)[i]? = some e → ∃ i', es[i']? = some e ∧ i' ≠ j ∧ (i' = if i < j then i else i + 1) := fun i e hi => by
    rw [hget] at hi
    split at hi
    · rename_i hij; exact ⟨i, hi, by omega, by rw [if_pos hij]⟩
    · rename_i hij; exact ⟨i + 1, hi, by omega, by rw [if_neg hij]⟩
  have there : ∀ (i : Nat) e, es[i]? = some e → i ≠ j → ∃ i', (es.eraseIdxIfInBounds j)[i']? = some e := fun i e hi hne => by
    by_cases hij : i < j
    · exact ⟨i, by rw [hget, if_pos hij]; exact hi⟩
    · exact ⟨i - 1, by rw [hget, if_neg (by omega), show i - 1 + 1 = i by omega]; exact hi⟩
  refine ⟨fun i e hi => ?_, fun i i' ei ej hi hj' he => ?_, fun i i' ei ej hi hj' he => ?_, fun y u hy => ?_⟩
  · obtain ⟨i', h1, h2, _⟩ := back i e hi
    obtain ⟨y, a1, a2, a3⟩ := h.form i' e h1
    refine ⟨y, a1, ?_, a3⟩
    have : y ≠ x := fun e1 => h2 (h.dist i' j e e0 h1 hj (by rw [a1, hk, e1]))
    simp [updK, this, a2]
  · obtain ⟨p, b1, _, b3⟩ := back i ei hi
    obtain ⟨q, c1, _, c3⟩ := back i' ej hj'
    have := h.dist p q ei ej b1 c1 he
    subst this
    split at b3 <;> split at c3 <;> omega
  · obtain ⟨p, b1, _, b3⟩ := back i ei hi
    obtain ⟨q, c1, _, c3⟩ := back i' ej hj'
    have := h.born p q ei ej b1 c1 he
    subst this
    split at b3 <;> split at c3 <;> omega
  · unfold updK at hy
    split at hy
    · cases hy
    · rename_i hne
      obtain ⟨i, e, h1, h2⟩ := h.has y u hy
      have hij : i ≠ j := fun e1 => by
        subst e1
        rw [hj] at h1
        injection h1 with h1
        rw [← h1, hk] at h2
        exact hne (K.inj _ _ h2.symm)
      obtain ⟨i', h3⟩ := there i e h1 hij
      exact ⟨i', e, h3, h2⟩
theorem updK_none [DecidableEq κ] {g : κ → Option Value} {x : κ} (h : g x = none) : updK g x none = g := by
  funext y
  unfold updK
  split
  · rename_i e; rw [e, h]
  · rfl
theorem MapK.delete [DecidableEq κ] (K : KeyV P k kv) {w : World} {b : Nat} {g} (h : MapK kv w b g) {t e : TypeId} (ht : P.underlying t = some (.map k e)) (ty kt : TypeId) (x : κ) :
    ∃ w', (Builtin.delete_ #[t, kt] ty #[.map (some b), kv x]).run P w = .ok (.tuple #[]) w' ∧ MapK kv w' b (updK g x none) ∧ w.grownBy w' (some b) ∧ w'.heap.size = w.heap.size := by
  obtain ⟨es, clock, hb, hE⟩ := h
  have hck := K.check w es.isEmpty x
  have hlt : b < w.heap.size := (Array.getElem?_eq_some_iff.1 hb).1
  rcases hE.find K w x with ⟨ha, hg, hno⟩ | ⟨j, e0, ha, hj, hkey, hg⟩
  · refine ⟨{ w with heap := w.heap.setIfInBounds b (.map es clock) }, ?_, ⟨_, _, (grown_map hlt _).2, by rw [updK_none hg]; exact hE⟩, (grown_map hlt _).1, by simp⟩
    simp [Builtin.delete_, run_underlying ht, MapKept.run_getObj_map hb, hck, ha, Result.andThen, MapKept.run_setObj_map _ hb]
  · refine ⟨{ w with heap := w.heap.setIfInBounds b (.map (es.eraseIdxIfInBounds j) clock) }, ?_, ⟨_, _, (grown_map hlt _).2, hE.erase K x j e0 hj hkey⟩, (grown_map hlt _).1, by simp⟩
    simp [Builtin.delete_, run_underlying ht, MapKept.run_getObj_map hb, hck, ha, Result.andThen, MapKept.run_setObj_map _ hb]
/-- block r is an iterator over the map in block b; l: the keys that are still to come -/
def RgK (kv : κ → Value) (w : World) (r b : Nat) (g : κ → Option Value) (l : List κ) : Prop := ∃ (es : Array MapEntry) (clock c0 : Nat) (seen : Array Nat), EntK kv es clock g ∧ w.heap[b]? = some (.map es clock) ∧ clock ≤ c0 ∧ w.heap[r]? = some (.mapIter (some b) clock seen c0) ∧
  l.Nodup ∧ ∀ x, x ∈ l ↔ ∃ (i : Nat) (e : MapEntry), es[i]? = some e ∧ e.key = kv x ∧ seen.contains e.born = false
theorem RgK.of_blocks {w w' : World} {r b : Nat} {g} {l : List κ} (h : RgK kv w r b g l) (h1 : w'.heap[b]? = w.heap[b]?) (h2 : w'.heap[r]? = w.heap[r]?) : RgK kv w' r b g l := by
  obtain ⟨es, clock, c0, seen, a, b, c, d, e⟩ := h
  exact ⟨es, clock, c0, seen, a, h1.trans b, c, h2.trans d, e⟩
theorem RgK.lt {w : World} {r b : Nat} {g} {l : List κ} (h : RgK kv w r b g l) : b < w.heap.size ∧ r < w.heap.size := by
  obtain ⟨es, clock, c0, seen, a, b, c, d, e⟩ := h
  exact ⟨(Array.getElem?_eq_some_iff.1 b).1, (Array.getElem?_eq_some_iff.1 d).1⟩
theorem RgK.below {w w' : World} {r b : Nat} {g} {l : List κ} (h : RgK kv w r b g l) (hb : Below w.heap.size w w') : RgK kv w' r b g l := h.of_blocks (hb.block _ h.lt.1) (hb.block _ h.lt.2)
theorem RgK.map {w : World} {r b : Nat} {g} {l : List κ} (h : RgK kv w r b g l) : MapK kv w b g := by
  obtain ⟨es, clock, c0, seen, a, b, c, d, e⟩ := h
  exact ⟨es, clock, b, a⟩
theorem keys_list : ∀ (L : List MapEntry), (∀ e ∈ L, ∃ x, e.key = kv x) → ∃ l : List κ, l.map kv = L.map (·.key)
  | [], _ => ⟨[], rfl⟩
  | e :: L, h => by
    obtain ⟨x, hx⟩ := h e (by simp)
    obtain ⟨l, hl⟩ := keys_list L fun e he => h e (by simp [he])
    exact ⟨x :: l, by simp [hx, hl]⟩
theorem MapK.range (K : KeyV P k kv) {w : World} {b : Nat} {g} (h : MapK kv w b g) {t e : TypeId} (ht : P.underlying t = some (.map k e)) :
    ∃ (l : List κ) (o : Obj), (Instr.range t (.map (some b))).run P w = .ok (.pointer (some ⟨w.heap.size, 0, none⟩)) (w.alloc o) ∧ RgK kv (w.alloc o) w.heap.size b g l ∧ ∀ x, x ∈ l ↔ (g x).isSome = true := by
  obtain ⟨es, clock, hb, hE⟩ := h
  obtain ⟨l, hl⟩ := keys_list (kv := kv) es.toList (fun e he => by
    obtain ⟨i, hi⟩ := List.mem_iff_getElem?.1 he
    obtain ⟨x, h1, _⟩ := hE.form i e (by simpa using hi)
    exact ⟨x, h1⟩)
  have hlen : l.length = es.size := by have := congrArg List.length hl; simpa using this
  have hat : ∀ (i : Nat) x, l[i]? = some x ↔ ∃ e, es[i]? = some e ∧ e.key = kv x := fun i x => by
    have h1 := congrArg (fun m : List Value => m[i]?) hl
    simp only [List.getElem?_map, Array.getElem?_toList] at h1
    constructor
    · intro hx
      rw [hx] at h1
      cases he : es[i]? with
      | none => rw [he] at h1; cases h1
      | some e => rw [he] at h1; exact ⟨e, rfl, by simpa using h1.symm⟩
    · rintro ⟨e, he, hk⟩
      rw [he] at h1
      cases hx : l[i]? with
      | none => rw [hx] at h1; cases h1
      | some y => rw [hx] at h1; rw [K.inj y x (by rw [← hk]; simpa using h1)]
  have hmem : ∀ x, x ∈ l ↔ ∃ (i : Nat) (e : MapEntry), es[i]? = some e ∧ e.key = kv x := fun x => by
    rw [List.mem_iff_getElem?]
    exact ⟨fun ⟨i, hi⟩ => by obtain ⟨e, h1, h2⟩ := (hat i x).1 hi; exact ⟨i, e, h1, h2⟩, fun ⟨i, e, h1, h2⟩ => ⟨i, (hat i x).2 ⟨e, h1, h2⟩⟩⟩
  refine ⟨l, _, run_range_map w t k e b es clock ht hb, ⟨es, clock, clock, #[], hE, by rw [heap_alloc_old w _ (Array.getElem?_eq_some_iff.1 hb).1]; exact hb, Nat.le_refl _, heap_alloc_new w _, ?_, fun x => by rw [hmem]; simp⟩, fun x => ?_⟩
  · rw [List.nodup_iff_pairwise_ne, List.pairwise_iff_getElem]
    intro i j hi hj hij he
    obtain ⟨e1, a1, a2⟩ := (hat i l[i]).1 (List.getElem?_eq_getElem hi)
    obtain ⟨e2, b1, b2⟩ := (hat j l[j]).1 (List.getElem?_eq_getElem hj)
    have := hE.dist i j e1 e2 a1 b1 (by rw [a2, b2, he])
    omega
  · rw [hmem]
    constructor
    · rintro ⟨i, e, h1, h2⟩
      obtain ⟨y, h3, h4, _⟩ := hE.form i e h1
      rw [K.inj x y (by rw [← h2, h3]), h4]
      rfl
    · intro hx
      obtain ⟨v, hv⟩ := Option.isSome_iff_exists.1 hx
      exact hE.has x v hv
theorem RgK.next [DecidableEq κ] (K : KeyV P k kv) {w : World} {r b : Nat} {g} {l : List κ} (h : RgK kv w r b g l) (ty : TypeId) :
    (l = [] ∧ (Instr.next (.pointer (some ⟨r, 0, none⟩)) false ty).run P w = .ok (.tuple #[.bool false]) w) ∨
    ∃ (x : κ) (v : Value) (w' : World), x ∈ l ∧ g x = some v ∧ RgK kv w' r b g (l.filter fun y => decide (y ≠ x)) ∧ w.grownBy w' (some r) ∧ w'.heap.size = w.heap.size ∧
      (Instr.next (.pointer (some ⟨r, 0, none⟩)) false ty).run P w = .ok (.tuple #[.bool true, kv x, v]) w' ∧ (Instr.entry (.pointer (some ⟨r, 0, none⟩))).run P w' = .ok (.tuple #[kv x, v]) w' := by
  obtain ⟨es, clock, c0, seen, hE, hb, hc, hr, hnd, hl⟩ := h
  have hlo : ∀ sn : Array Nat, (leftOf es sn).toList = es.toList.filter fun e => !sn.contains e.born := fun sn => by simp [leftOf]
  rcases run_next_at w ty r b clock c0 seen es clock hr hb (fun x hx => by
    obtain ⟨i, hi⟩ := List.mem_iff_getElem?.1 hx
    obtain ⟨_, _, _, h3⟩ := hE.form i x (by simpa using hi)
    exact h3) hc with ⟨h0, hrun⟩ | ⟨e, he, w1, hw1, hrun⟩
  · refine Or.inl ⟨?_, hrun⟩
    have h1 : (leftOf es seen).toList = [] := by rw [Array.eq_empty_of_size_eq_zero h0]
    rw [hlo] at h1
    apply List.eq_nil_iff_forall_not_mem.2
    intro x hx
    obtain ⟨i, e, h2, h3, h4⟩ := (hl x).1 hx
    have : e ∈ es.toList.filter fun e => !seen.contains e.born := List.mem_filter.2 ⟨List.mem_iff_getElem?.2 ⟨i, by simpa using h2⟩, by rw [h4]; rfl⟩
    rw [h1] at this
    cases this
  · rw [hlo] at he
    have hem : e ∈ es.toList := (List.mem_filter.1 he).1
    have hes : seen.contains e.born = false := by simpa using (List.mem_filter.1 he).2
    obtain ⟨i, hi⟩ := List.mem_iff_getElem?.1 hem
    have hi' : es[i]? = some e := by simpa using hi
    obtain ⟨x, h1, h2, h3⟩ := hE.form i e hi'
    have hblk : w1.heap = w.heap := by rcases hw1 with rfl | rfl <;> rfl
    have hlr : r < w.heap.size := (Array.getElem?_eq_some_iff.1 hr).1
    have hbr : b ≠ r := fun e => by subst e; rw [hb] at hr; cases hr
    have hg : w.grownBy (ChangeMaps.setBlock w1 r (.mapIter (some b) clock (seen.push e.born) clock)) (some r) := by
      rcases hw1 with rfl | rfl
      · exact ⟨rfl, rfl, rfl, by simp [ChangeMaps.setBlock], fun i _ hne => by
          have : r ≠ i := fun e => hne (by rw [e])
          simp [ChangeMaps.setBlock, this]⟩
      · exact ⟨rfl, rfl, rfl, by simp [ChangeMaps.setBlock], fun i _ hne => by
          have : r ≠ i := fun e => hne (by rw [e])
          simp [ChangeMaps.setBlock, this]
          rfl⟩
    have hr' : (ChangeMaps.setBlock w1 r (.mapIter (some b) clock (seen.push e.born) clock)).heap[r]? = some (.mapIter (some b) clock (seen.push e.born) clock) := by
      simp [ChangeMaps.setBlock, hblk, hlr]
    have hb' : (ChangeMaps.setBlock w1 r (.mapIter (some b) clock (seen.push e.born) clock)).heap[b]? = some (.map es clock) := by
      simp [ChangeMaps.setBlock, hblk, Ne.symm hbr, hb]
    refine Or.inr ⟨x, e.val, _, (hl x).2 ⟨i, e, hi', h1, hes⟩, h2, ⟨es, clock, clock, seen.push e.born, hE, hb', Nat.le_refl _, hr', hnd.filter _, fun y => ?_⟩, hg, by simp [ChangeMaps.setBlock, hblk], by rw [h1] at hrun; exact hrun, ?_⟩
    · rw [List.mem_filter, hl y]
      simp only [decide_eq_true_eq]
      constructor
      · rintro ⟨⟨i', e', a1, a2, a3⟩, hne⟩
        refine ⟨i', e', a1, a2, ?_⟩
        have : e'.born ≠ e.born := fun hb => by
          have := hE.born i' i e' e a1 hi' hb
          subst this
          rw [hi'] at a1
          injection a1 with a1
          exact hne (K.inj _ _ (by rw [← a2, ← a1, h1]))
        simp at a3 ⊢
        exact ⟨a3, this⟩
      · rintro ⟨i', e', a1, a2, a3⟩
        simp at a3
        refine ⟨⟨i', e', a1, a2, by simpa using a3.1⟩, fun hyx => a3.2 ?_⟩
        have := hE.dist i' i e' e a1 hi' (by rw [a2, h1, hyx])
        subst this
        rw [hi'] at a1
        injection a1 with a1
        rw [a1]
    · have := run_entry_at (P := P) _ r b clock seen es clock e hr' hb' hem (by
        rw [List.nodup_iff_pairwise_ne, List.pairwise_iff_getElem]
        intro i j hi hj hij
        simp only [List.length_map, Array.length_toList] at hi hj
        simp only [List.getElem_map, Array.getElem_toList]
        intro he
        have := hE.born i j _ _ (Array.getElem?_eq_getElem hi) (Array.getElem?_eq_getElem hj) he
        omega)
      rw [h1] at this
      exact this
/-- an entry is taken out while the map is gone through -/
theorem RgK.delete [DecidableEq κ] (K : KeyV P k kv) {w : World} {r b : Nat} {g} {l : List κ} (h : RgK kv w r b g l) {t e : TypeId} (ht : P.underlying t = some (.map k e)) (ty kt : TypeId) (x : κ) (hx : x ∉ l) :
    ∃ w', (Builtin.delete_ #[t, kt] ty #[.map (some b), kv x]).run P w = .ok (.tuple #[]) w' ∧ RgK kv w' r b (updK g x none) l ∧ w.grownBy w' (some b) ∧ w'.heap.size = w.heap.size := by
  obtain ⟨es, clock, c0, seen, hE, hb, hc, hr, hnd, hl⟩ := h
  have hck := K.check w es.isEmpty x
  have hlt : b < w.heap.size := (Array.getElem?_eq_some_iff.1 hb).1
  have hbr : b ≠ r := fun e => by subst e; rw [hb] at hr; cases hr
  rcases hE.find K w x with ⟨ha, hg, hno⟩ | ⟨j, e0, ha, hj, hkey, hg⟩
  · refine ⟨{ w with heap := w.heap.setIfInBounds b (.map es clock) }, ?_, ⟨es, clock, c0, seen, by rw [updK_none hg]; exact hE, (grown_map hlt _).2, hc, ?_, hnd, hl⟩, (grown_map hlt _).1, by simp⟩
    · simp [Builtin.delete_, run_underlying ht, MapKept.run_getObj_map hb, hck, ha, Result.andThen, MapKept.run_setObj_map _ hb]
    · simp [hbr, hr]
  · refine ⟨{ w with heap := w.heap.setIfInBounds b (.map (es.eraseIdxIfInBounds j) clock) }, ?_, ⟨_, clock, c0, seen, hE.erase K x j e0 hj hkey, (grown_map hlt _).2, hc, ?_, hnd, fun y => ?_⟩, (grown_map hlt _).1, by simp⟩
    · simp [Builtin.delete_, run_underlying ht, MapKept.run_getObj_map hb, hck, ha, Result.andThen, MapKept.run_setObj_map _ hb]
    · simp [hbr, hr]
    · have hjl := (Array.getElem?_eq_some_iff.1 hj).1
      have hget : ∀ i : Nat, (es.eraseIdxIfInBounds j)[i]? = if i < j then es[i]? else es[i + 1]? := fun i => by
        rw [Array.eraseIdxIfInBounds_eq, dif_pos hjl, Array.getElem?_eraseIdx]
      rw [hl y]
      constructor
      · rintro ⟨i, e, a1, a2, a3⟩
        have hij : i ≠ j := fun e1 => by
          subst e1
          rw [hj] at a1
          injection a1 with a1
          have : y = x := K.inj _ _ (by rw [← a2, ← a1, hkey])
          subst this
          exact hx ((hl y).2 ⟨i, e0, hj, hkey, by rw [a1]; exact a3⟩)
        by_cases hlt2 : i < j
        · exact ⟨i, e, by rw [hget, if_pos hlt2]; exact a1, a2, a3⟩
        · exact ⟨i - 1, e, by rw [hget, if_neg (by omega), show i - 1 + 1 = i by omega]; exact a1, a2, a3⟩
      · rintro ⟨i, e, a1, a2, a3⟩
        rw [hget] at a1
        split at a1
        · exact ⟨i, e, a1, a2, a3⟩
        · exact ⟨i + 1, e, a1, a2, a3⟩
end
section
variable {P : Program} {k : TypeId} {κ : Type} [DecidableEq κ] {kv : κ → Value} (K : KeyV P k kv) (w : World) {ops : Array Oper} {rest : List Oper} {o : Oper} {a : Act} {Q : Exit → Act → World → Prop}
include K
theorem wpList_update_map (hg : o.guard = none) (m x v : Operand) (t : TypeId) (hop : o.op = Op.mapUpdate t m x v) {e : TypeId} (ht : P.underlying t = some (.map k e)) (b : Nat) (g : κ → Option Value) (hm : a.eval m = .map (some b)) (h : MapK kv w b g) (s : κ) (u : Value) (hx : a.eval x = kv s) (hv : a.eval v = u)
    (hK : ∀ w', MapK kv w' b (updK g s (some u)) → w.grownBy w' (some b) → w'.heap.size = w.heap.size → wpList P ops Q rest (a.put o.dst undef) w') : wpList P ops Q (o :: rest) a w := by
  refine wpList_plain hg fun K' hK' => ?_
  obtain ⟨w', hrun, r1, r2, r3⟩ := h.update K ht s u
  unfold Oper.wp
  simp [execOp, hop, hm, hx, hv, hrun, Result.andThen]
  exact hK' _ _ (hK w' r1 r2 r3)
omit [DecidableEq κ] in
theorem wpList_lookup_map (hg : o.guard = none) (m x : Operand) (t : TypeId) (c : Bool) (hop : o.op = Op.lookup t m x c) {e : TypeId} (ht : P.underlying t = some (.map k e)) {z : Value} (hz : (zeroValue e).run P w = .ok z w) (b : Nat) (g : κ → Option Value) (hm : a.eval m = .map (some b)) (h : MapK kv w b g) (s : κ) (hx : a.eval x = kv s)
    (hK : wpList P ops Q rest (a.put o.dst (if c then .tuple #[(g s).getD z, .bool (g s).isSome] else (g s).getD z)) w) : wpList P ops Q (o :: rest) a w := by
  refine wpList_plain hg fun K' hK' => ?_
  have hrun := h.lookup K ht hz s c
  unfold Oper.wp
  simp only [execOp, hop, hm, hx, Sem.run_bind, Sem.run_pure, hrun, Result.andThen_ok]
  exact hK' _ _ hK
omit [DecidableEq κ] in
theorem wpList_range_map (hg : o.guard = none) (m : Operand) (t : TypeId) (hop : o.op = Op.range t m) {e : TypeId} (ht : P.underlying t = some (.map k e)) (b : Nat) (g : κ → Option Value) (hm : a.eval m = .map (some b)) (h : MapK kv w b g)
    (hK : ∀ (l : List κ) (o' : Obj), RgK kv (w.alloc o') w.heap.size b g l → (∀ x, x ∈ l ↔ (g x).isSome = true) → wpList P ops Q rest (a.put o.dst (.pointer (some ⟨w.heap.size, 0, none⟩))) (w.alloc o')) : wpList P ops Q (o :: rest) a w := by
  refine wpList_plain hg fun K' hK' => ?_
  obtain ⟨l, o', hrun, r1, r2⟩ := h.range K ht
  unfold Oper.wp
  simp [execOp, hop, hm, hrun, Result.andThen]
  exact hK' _ _ (hK l o' r1 r2)
theorem wpList_next_map (hg : o.guard = none) (it : Operand) (hop : o.op = Op.next it false) (r b : Nat) (g : κ → Option Value) (l : List κ) (hit : a.eval it = .pointer (some ⟨r, 0, none⟩)) (h : RgK kv w r b g l)
    (hDone : l = [] → wpList P ops Q rest (a.put o.dst (.tuple #[.bool false])) w)
    (hMore : ∀ (x : κ) (v : Value) (w' : World), x ∈ l → g x = some v → RgK kv w' r b g (l.filter fun y => decide (y ≠ x)) → w.grownBy w' (some r) → w'.heap.size = w.heap.size →
      (Instr.entry (.pointer (some ⟨r, 0, none⟩))).run P w' = .ok (.tuple #[kv x, v]) w' → wpList P ops Q rest (a.put o.dst (.tuple #[.bool true, kv x, v])) w') : wpList P ops Q (o :: rest) a w := by
  refine wpList_plain hg fun K' hK' => ?_
  unfold Oper.wp
  rcases h.next K o.type with ⟨h0, hrun⟩ | ⟨x, v, w', h1, h2, h3, h4, h5, hrun, hen⟩
  · simp [execOp, hop, hit, hrun, Result.andThen]
    exact hK' _ _ (hDone h0)
  · simp [execOp, hop, hit, hrun, Result.andThen]
    exact hK' _ _ (hMore x v w' h1 h2 h3 h4 h5 hen)
theorem wpList_delete_range (hg : o.guard = none) (m x : Operand) (t kt : TypeId) (hop : o.op = .call { callee := .builtin .delete, args := #[m, x], argTypes := #[t, kt] }) {e : TypeId} (ht : P.underlying t = some (.map k e)) (r b : Nat) (g : κ → Option Value) (l : List κ) (hm : a.eval m = .map (some b)) (h : RgK kv w r b g l) (s : κ) (hs : s ∉ l) (hx : a.eval x = kv s)
    (hK : ∀ w', RgK kv w' r b (updK g s none) l → w.grownBy w' (some b) → w'.heap.size = w.heap.size → wpList P ops Q rest (a.put o.dst (.tuple #[])) w') : wpList P ops Q (o :: rest) a w := by
  obtain ⟨w', hrun, r1, r2, r3⟩ := h.delete K ht o.type kt s hs
  refine wpList_plain hg fun K' hK' => ?_
  unfold Oper.wp execOp
  simp only [hop, resolve, invoke, builtin, Sem.run_bind, Sem.run_pure, Result.andThen_ok, List.map_toArray, List.map_cons, List.map_nil, hm, hx, hrun]
  exact hK' _ _ (hK w' r1 r2 r3)
theorem wpList_delete_map (hg : o.guard = none) (m x : Operand) (t kt : TypeId) (hop : o.op = .call { callee := .builtin .delete, args := #[m, x], argTypes := #[t, kt] }) {e : TypeId} (ht : P.underlying t = some (.map k e)) (b : Nat) (g : κ → Option Value) (hm : a.eval m = .map (some b)) (h : MapK kv w b g) (s : κ) (hx : a.eval x = kv s)
    (hK : ∀ w', MapK kv w' b (updK g s none) → w.grownBy w' (some b) → w'.heap.size = w.heap.size → wpList P ops Q rest (a.put o.dst (.tuple #[])) w') : wpList P ops Q (o :: rest) a w := by
  obtain ⟨w', hrun, r1, r2, r3⟩ := h.delete K ht o.type kt s
  refine wpList_plain hg fun K' hK' => ?_
  unfold Oper.wp execOp
  simp only [hop, resolve, invoke, builtin, Sem.run_bind, Sem.run_pure, Result.andThen_ok, List.map_toArray, List.map_cons, List.map_nil, hm, hx, hrun]
  exact hK' _ _ (hK w' r1 r2 r3)
end
end Go.Proofs.YtihbgppcacaekaaDoor
