import Derived.Test.YtihbgppcacaekaaDoorRe
import Derived.Test.YtihbgppcacaekaaDoorRd
import Derived.Test.YtihbgppcacaekaaDoorQx
/- TABLES OF OBJECTS, appended. -/
namespace Go.Proofs.YtihbgppcacaekaaDoor
open Go.RowKit Go.BigFrame

abbrev Ox := Ob × Option Addr × Nat
abbrev oxL (x : Ox) : List Value := obL x.1 x.2.1 x.2.2
theorem flatO_get : ∀ (v : List Ox) (j k : Nat), k < 4 → (v.flatMap oxL)[j * 4 + k]? = (v[j]?).bind fun x => (oxL x)[k]?
  | [], j, k, _ => by simp
  | x :: t, 0, k, hk => by
    rw [List.flatMap_cons, List.getElem?_append_left (by simp; omega)]
    simp
  | x :: t, j + 1, k, hk => by
    rw [List.flatMap_cons, List.getElem?_append_right (by simp; omega), show (j + 1) * 4 + k - (oxL x).length = j * 4 + k by simp; omega, flatO_get t j k hk]
    simp
theorem flatO_len (v : List Ox) : (v.flatMap oxL).length = v.length * 4 := by
  induction v with
  | nil => rfl
  | cons x t ih => rw [List.flatMap_cons, List.length_append, ih]; simp; omega
theorem flatO_one (v : List Ox) : ∀ u ∈ v.flatMap oxL, u.oneCell' = true := fun u hu => by
  obtain ⟨x, _, hx⟩ := List.mem_flatMap.1 hu
  simp at hx
  rcases hx with rfl | rfl | rfl | rfl <;> rfl
/-- a table of objects, with where their lines lie -/
def RdX (w : World) (F : Option Addr) (L : List Ox) : Prop := ∀ (k : Nat) x, L[k]? = some x → ∃ b o, F = some ⟨b, o, none⟩ ∧ b < w.heap.size ∧ (∀ j, j < 4 → w.cell? ⟨b, o + (k * 4 + j), none⟩ = (oxL x)[j]?) ∧ RdL w x.2.1 x.1.lines
theorem RdX.below {w w' : World} {F : Option Addr} {L : List Ox} (h : RdX w F L) (hb : Below w.heap.size w w') : RdX w' F L := fun k x hk => by
  obtain ⟨b, o, e1, e2, e3, e4⟩ := h k x hk
  exact ⟨b, o, e1, Nat.lt_of_lt_of_le e2 hb.size, fun j hj => (hb.cell (p := ⟨b, o + (k * 4 + j), none⟩) e2).trans (e3 j hj), e4.below hb⟩
theorem RdX.rdO {w : World} {F : Option Addr} {L : List Ox} (h : RdX w F L) : RdO w F (L.map (·.1)) := fun k f hk => by
  rw [List.getElem?_map] at hk
  cases e : L[k]? with
  | none => rw [e] at hk; cases hk
  | some x =>
    rw [e] at hk
    injection hk with hk
    subst hk
    obtain ⟨b, o, e1, e2, e3, e4⟩ := h k x e
    exact ⟨b, o, x.2.1, x.2.2, e1, e2, e3, e4⟩
theorem rdX_of {w : World} {F : Option Addr} : ∀ {l : List Ob}, RdO w F l → ∃ L : List Ox, L.map (·.1) = l ∧ RdX w F L := fun {l} h => by
  have hrows : ∀ i, i < l.length → ∃ r : Ox, l[i]? = some r.1 ∧ ∃ b o, F = some ⟨b, o, none⟩ ∧ b < w.heap.size ∧ (∀ j, j < 4 → w.cell? ⟨b, o + (i * 4 + j), none⟩ = (oxL r)[j]?) ∧ RdL w r.2.1 r.1.lines := fun i hi => by
    obtain ⟨b, o, C, cap, e1, e2, e3, e4⟩ := h i _ (List.getElem?_eq_getElem hi)
    exact ⟨(l[i], C, cap), List.getElem?_eq_getElem hi, b, o, e1, e2, e3, e4⟩
  haveI : Inhabited Ox := ⟨(Ob.zero, none, 0)⟩
  obtain ⟨f, hf⟩ := Go.Deep.choose_lt hrows
  refine ⟨(List.range l.length).map f, ?_, fun k x hk => ?_⟩
  · apply List.ext_getElem?
    intro i
    by_cases hi : i < l.length
    · rw [List.getElem?_map, List.getElem?_map, List.getElem?_range hi]
      exact (hf i hi).1.symm
    · rw [List.getElem?_eq_none (by simp; omega), List.getElem?_eq_none (by omega)]
  · have hi : k < l.length := by have := (List.getElem?_eq_some_iff.1 hk).1; simpa using this
    rw [List.getElem?_map, List.getElem?_range hi] at hk
    injection hk with hk
    subst hk
    exact (hf k hi).2
/-- objects that are being gathered -/
def OwnO (w : World) (base : Nat) (V : Value) (L : List Ox) : Prop := w.ownsRow base 39 4 V L.length (L.flatMap oxL)
theorem OwnO.later {w w' : World} {base : Nat} {V : Value} {l : List Ox} (h : OwnO w base V l) (hb : Below w.heap.size w w') : OwnO w' base V l := ownsRow_later h hb
theorem OwnO.block {w : World} {base : Nat} {V : Value} {l : List Ox} (h : OwnO w base V l) {g : Nat} (hg : V.ownBlock = some g) : base ≤ g ∧ g < w.heap.size := by
  obtain ⟨_, h2⟩ := h
  rcases h2 with ⟨rfl, hn⟩ | ⟨g', cap, cur, rfl, hB, hh, _⟩
  · simp [Value.ownBlock] at hg
  · simp [Value.ownBlock] at hg
    subst hg
    exact ⟨hB, (Array.getElem?_eq_some_iff.1 hh).1⟩
theorem OwnO.made (w : World) (base : Nat) (hb : base ≤ w.heap.size) : OwnO (w.alloc (.cells #[] 39 (0, 0))) base (.slice (some ⟨w.heap.size, 0, none⟩) 0 0) [] :=
  ⟨rfl, Or.inr ⟨w.heap.size, 0, #[], rfl, hb, heap_alloc_new w _, Nat.le_refl _, by decide, rfl, rfl⟩⟩
theorem OwnO.read {w : World} {base : Nat} {V : Value} {L : List Ox} (h : OwnO w base V L) (hL : ∀ x ∈ L, RdL w x.2.1 x.1.lines) : ∃ A cap, V = .slice A L.length cap ∧ RdX w A L := by
  have h0 := h
  obtain ⟨h1, h2⟩ := h
  rcases h2 with ⟨rfl, hn⟩ | ⟨g, cap, cur, rfl, hB, hg, hnc, _, hsz, htake⟩
  · refine ⟨none, 0, by rw [hn], fun j n hj => ?_⟩
    have := (List.getElem?_eq_some_iff.1 hj).1
    omega
  · have hlt := (Array.getElem?_eq_some_iff.1 hg).1
    refine ⟨_, _, rfl, fun j n hj => ⟨g, 0, rfl, hlt, fun k hk => ?_, hL n (List.mem_of_getElem? hj)⟩⟩
    have hjl := (List.getElem?_eq_some_iff.1 hj).1
    have := World.ownsRow.cellAt h0 (j * 4 + k) (by omega)
    rw [Nat.zero_add, this, flatO_get L j k hk, hj]
    rfl
theorem info_ob : (Tryd.prog.info? 39).map (fun i => (i.zero, i.size, i.bytes)) = some (some (.agg #[.string ⟨#[]⟩, .int .i64 0, .int .i64 0, .slice none 0 0]), 4, 56) := by kernel_rfl
theorem run_append_ob (w : World) (base : Nat) (V : Value) (k l : List Ox) (hown : OwnO w base V k) (b o m c : Nat) (hm : m = l.length) (hl : RdX w (some ⟨b, o, none⟩) l ∨ l.length = 0 ∨ ∃ x, l = [x] ∧ o = 0 ∧ w.heap[b]? = some (.cells (oxL x).toArray 39 (0, 0))) (hn : k.length + l.length ≤ 1000) (hb : base ≤ w.heap.size) :
    ∃ V' w', (Builtin.append_ #[22, 22] 22 #[V, .slice (some ⟨b, o, none⟩) m c]).run Tryd.prog w = .ok V' w' ∧ OwnO w' base V' (k ++ l) ∧ w.grownBy w' V.ownBlock ∧ (V'.ownBlock = V.ownBlock ∨ V'.ownBlock = some w.heap.size) := by
  obtain ⟨i0, hi, hz0, hz1, hz2⟩ := info_parts info_ob
  subst hm
  obtain ⟨V', w', hr, h1, h2, _, h4⟩ := run_append_own_at (P := Tryd.prog) w base 22 22 39 i0 (.agg #[.string ⟨#[]⟩, .int .i64 0, .int .i64 0, .slice none 0 0]) 4 56 (by kernel_rfl) hi hz0 hz1 hz2 rfl (by decide) V k.length (k.flatMap oxL) hown ⟨b, o, none⟩ l.length c (l.flatMap oxL) (flatO_len l)
    (fun j u hu => by
      have hj := (List.getElem?_eq_some_iff.1 hu).1
      rw [flatO_len] at hj
      have hadd : (⟨b, o, none⟩ : Addr).add j = ⟨b, o + j, none⟩ := by
        unfold Addr.add; split
        · rename_i h0; rw [h0, Nat.add_zero]
        · rfl
      rw [hadd]
      rcases hl with hl | hl | ⟨x, rfl, rfl, hx⟩
      · have hq : j / 4 < l.length := by omega
        obtain ⟨b', o', e, _, hc, _⟩ := hl (j / 4) _ (List.getElem?_eq_getElem hq)
        simp only [Option.some.injEq, Addr.mk.injEq, and_true] at e
        obtain ⟨rfl, rfl⟩ := e
        have := hc (j % 4) (by omega)
        rw [show j / 4 * 4 + j % 4 = j by omega] at this
        rw [this, ← hu]
        have h9 := flatO_get l (j / 4) (j % 4) (by omega)
        rw [show j / 4 * 4 + j % 4 = j by omega, List.getElem?_eq_getElem hq] at h9
        exact h9.symm
      · omega
      · rw [Nat.zero_add]
        exact cell_of_heap hx j u (by simpa using hu)) (flatO_one l) (by simp only [maxLen]; omega) (by omega) hb
  have hfl : (k ++ l).flatMap oxL = k.flatMap oxL ++ l.flatMap oxL := by simp
  refine ⟨V', w', hr, ?_, h2, h4⟩
  unfold OwnO
  rw [List.length_append, hfl]
  exact h1
end Go.Proofs.YtihbgppcacaekaaDoor
