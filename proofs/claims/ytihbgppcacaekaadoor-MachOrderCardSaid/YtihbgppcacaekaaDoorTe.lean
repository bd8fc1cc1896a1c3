import Derived.Test.YtihbgppcacaekaaDoorRe
import Derived.Test.YtihbgppcacaekaaDoorRd
import Derived.Test.YtihbgppcacaekaaDoorQx
import Derived.Test.YtihbgppcacaekaaDoorQp
import Derived.Test.YtihbgppcacaekaaDoorWg
/- TABLES OF OBJECTS, appended. -/
namespace Go.Proofs.YtihbgppcacaekaaDoor
open Go.RowKit Go.BigFrame

abbrev Ox := Ob × Option Addr × Nat
abbrev oxL (x : Ox) : List Value := obL x.1 x.2.1 x.2.2
theorem flatO_get : ∀ (v : List Ox) (j k : Nat), k < 4 → (v.flatMap oxL)[j * 4 + k]? = (v[j]?).bind fun x => (oxL x)[k]?
  | [], j, k, _ => by simp
  | x :: t, 0, k, hk => by
    rw [List.flatMap_cons, List.getElem?_append_left (by simp; omega)]
    simp
  | x :: t, j + 1, k, hk => by
    rw [List.flatMap_cons, List.getElem?_append_right (by simp; omega), show (j + 1) * 4 + k - (oxL x).length = j * 4 + k by simp; omega, flatO_get t j k hk]
    simp
theorem flatO_len (v : List Ox) : (v.flatMap oxL).length = v.length * 4 := by
  induction v with
  | nil => rfl
  | cons x t ih => rw [List.flatMap_cons, List.length_append, ih]; simp; omega
theorem flatO_one (v : List Ox) : ∀ u ∈ v.flatMap oxL, u.oneCell' = true := fun u hu => by
  obtain ⟨x, _, hx⟩ := List.mem_flatMap.1 hu
  simp at hx
  rcases hx with rfl | rfl | rfl | rfl <;> rfl
/-- a table of objects, with where their lines lie -/
def RdX (w : World) (F : Option Addr) (L : List Ox) : Prop := ∀ (k : Nat) x, L[k]? = some x → ∃ b o, F = some ⟨b, o, none⟩ ∧ b < w.heap.size ∧ (∀ j, j < 4 → w.cell? ⟨b, o + (k * 4 + j), none⟩ = (oxL x)[j]?) ∧ RdL w x.2.1 x.1.lines
theorem RdX.below {w w' : World} {F : Option Addr} {L : List Ox} (h : RdX w F L) (hb : Below w.heap.size w w') : RdX w' F L := fun k x hk => by
  obtain ⟨b, o, e1, e2, e3, e4⟩ := h k x hk
  exact ⟨b, o, e1, Nat.lt_of_lt_of_le e2 hb.size, fun j hj => (hb.cell (p := ⟨b, o + (k * 4 + j), none⟩) e2).trans (e3 j hj), e4.below hb⟩
theorem RdX.rdO {w : World} {F : Option Addr} {L : List Ox} (h : RdX w F L) : RdO w F (L.map (·.1)) := fun k f hk => by
  rw [List.getElem?_map] at hk
  cases e : L[k]? with
  | none => rw [e] at hk; cases hk
  | some x =>
    rw [e] at hk
    injection hk with hk
    subst hk
    obtain ⟨b, o, e1, e2, e3, e4⟩ := h k x e
    exact ⟨b, o, x.2.1, x.2.2, e1, e2, e3, e4⟩
theorem rdX_of {w : World} {F : Option Addr} : ∀ {l : List Ob}, RdO w F l → ∃ L : List Ox, L.map (·.1) = l ∧ RdX w F L := fun {l} h => by
  have hrows : ∀ i, i < l.length → ∃ r : Ox, l[i]? = some r.1 ∧ ∃ b o, F = some ⟨b, o, none⟩ ∧ b < w.heap.size ∧ (∀ j, j < 4 → w.cell? ⟨b, o + (i * 4 + j), none⟩ = (oxL r)[j]?) ∧ RdL w r.2.1 r.1.lines := fun i hi => by
    obtain ⟨b, o, C, cap, e1, e2, e3, e4⟩ := h i _ (List.getElem?_eq_getElem hi)
    exact ⟨(l[i], C, cap), List.getElem?_eq_getElem hi, b, o, e1, e2, e3, e4⟩
  haveI : Inhabited Ox := ⟨(Ob.zero, none, 0)⟩
  obtain ⟨f, hf⟩ := Go.Deep.choose_lt hrows
  refine ⟨(List.range l.length).map f, ?_, fun k x hk => ?_⟩
  · apply List.ext_getElem?
    intro i
    by_cases hi : i < l.length
    · rw [List.getElem?_map, List.getElem?_map, List.getElem?_range hi]
      exact (hf i hi).1.symm
    · rw [List.getElem?_eq_none (by simp; omega), List.getElem?_eq_none (by omega)]
  · have hi : k < l.length := by have := (List.getElem?_eq_some_iff.1 hk).1; simpa using this
    rw [List.getElem?_map, List.getElem?_range hi] at hk
    injection hk with hk
    subst hk
    exact (hf k hi).2
/-- objects that are being gathered -/
def OwnO (w : World) (base : Nat) (V : Value) (L : List Ox) : Prop := w.ownsRow base 39 4 V L.length (L.flatMap oxL)
theorem OwnO.later {w w' : World} {base : Nat} {V : Value} {l : List Ox} (h : OwnO w base V l) (hb : Below w.heap.size w w') : OwnO w' base V l := ownsRow_later h hb
theorem OwnO.block {w : World} {base : Nat} {V : Value} {l : List Ox} (h : OwnO w base V l) {g : Nat} (hg : V.ownBlock = some g) : base ≤ g ∧ g < w.heap.size := by
  obtain ⟨_, h2⟩ := h
  rcases h2 with ⟨rfl, hn⟩ | ⟨g', cap, cur, rfl, hB, hh, _⟩
  · simp [Value.ownBlock] at hg
  · simp [Value.ownBlock] at hg
    subst hg
    exact ⟨hB, (Array.getElem?_eq_some_iff.1 hh).1⟩
theorem OwnO.made (w : World) (base : Nat) (hb : base ≤ w.heap.size) : OwnO (w.alloc (.cells #[] 39 (0, 0))) base (.slice (some ⟨w.heap.size, 0, none⟩) 0 0) [] :=
  ⟨rfl, Or.inr ⟨w.heap.size, 0, #[], rfl, hb, heap_alloc_new w _, Nat.le_refl _, by decide, rfl, rfl⟩⟩
theorem OwnO.read {w : World} {base : Nat} {V : Value} {L : List Ox} (h : OwnO w base V L) (hL : ∀ x ∈ L, RdL w x.2.1 x.1.lines) : ∃ A cap, V = .slice A L.length cap ∧ RdX w A L := by
  have h0 := h
  obtain ⟨h1, h2⟩ := h
  rcases h2 with ⟨rfl, hn⟩ | ⟨g, cap, cur, rfl, hB, hg, hnc, _, hsz, htake⟩
  · refine ⟨none, 0, by rw [hn], fun j n hj => ?_⟩
    have := (List.getElem?_eq_some_iff.1 hj).1
    omega
  · have hlt := (Array.getElem?_eq_some_iff.1 hg).1
    refine ⟨_, _, rfl, fun j n hj => ⟨g, 0, rfl, hlt, fun k hk => ?_, hL n (List.mem_of_getElem? hj)⟩⟩
    have hjl := (List.getElem?_eq_some_iff.1 hj).1
    have := World.ownsRow.cellAt h0 (j * 4 + k) (by omega)
    rw [Nat.zero_add, this, flatO_get L j k hk, hj]
    rfl
theorem info_ob : (Tryd.prog.info? 39).map (fun i => (i.zero, i.size, i.bytes)) = some (some (.agg #[.string ⟨#[]⟩, .int .i64 0, .int .i64 0, .slice none 0 0]), 4, 56) := by kernel_rfl
theorem run_append_ob (w : World) (base : Nat) (V : Value) (k l : List Ox) (hown : OwnO w base V k) (b o m c : Nat) (hm : m = l.length) (hl : RdX w (some ⟨b, o, none⟩) l ∨ l.length = 0 ∨ ∃ x, l = [x] ∧ o = 0 ∧ w.heap[b]? = some (.cells (oxL x).toArray 39 (0, 0))) (hn : k.length + l.length ≤ 1000) (hb : base ≤ w.heap.size) :
    ∃ V' w', (Builtin.append_ #[22, 22] 22 #[V, .slice (some ⟨b, o, none⟩) m c]).run Tryd.prog w = .ok V' w' ∧ OwnO w' base V' (k ++ l) ∧ w.grownBy w' V.ownBlock ∧ (V'.ownBlock = V.ownBlock ∨ V'.ownBlock = some w.heap.size) := by
  obtain ⟨i0, hi, hz0, hz1, hz2⟩ := info_parts info_ob
  subst hm
  obtain ⟨V', w', hr, h1, h2, _, h4⟩ := run_append_own_at (P := Tryd.prog) w base 22 22 39 i0 (.agg #[.string ⟨#[]⟩, .int .i64 0, .int .i64 0, .slice none 0 0]) 4 56 (by kernel_rfl) hi hz0 hz1 hz2 rfl (by decide) V k.length (k.flatMap oxL) hown ⟨b, o, none⟩ l.length c (l.flatMap oxL) (flatO_len l)
    (fun j u hu => by
      have hj := (List.getElem?_eq_some_iff.1 hu).1
      rw [flatO_len] at hj
      have hadd : (⟨b, o, none⟩ : Addr).add j = ⟨b, o + j, none⟩ := by
        unfold Addr.add; split
        · rename_i h0; rw [h0, Nat.add_zero]
        · rfl
      rw [hadd]
      rcases hl with hl | hl | ⟨x, rfl, rfl, hx⟩
      · have hq : j / 4 < l.length := by omega
        obtain ⟨b', o', e, _, hc, _⟩ := hl (j / 4) _ (List.getElem?_eq_getElem hq)
        simp only [Option.some.injEq, Addr.mk.injEq, and_true] at e
        obtain ⟨rfl, rfl⟩ := e
        have := hc (j % 4) (by omega)
        rw [show j / 4 * 4 + j % 4 = j by omega] at this
        rw [this, ← hu]
        have h9 := flatO_get l (j / 4) (j % 4) (by omega)
        rw [show j / 4 * 4 + j % 4 = j by omega, List.getElem?_eq_getElem hq] at h9
        exact h9.symm
      · omega
      · rw [Nat.zero_add]
        exact cell_of_heap hx j u (by simpa using hu)) (flatO_one l) (by simp only [maxLen]; omega) (by omega) hb
  have hfl : (k ++ l).flatMap oxL = k.flatMap oxL ++ l.flatMap oxL := by simp
  refine ⟨V', w', hr, ?_, h2, h4⟩
  unfold OwnO
  rw [List.length_append, hfl]
  exact h1
end Go.Proofs.YtihbgppcacaekaaDoor
/- A REGION THAT APPENDS A TABLE AND ONE OBJECT. -/
namespace Go.Proofs.YtihbgppcacaekaaDoor
open Go.RowKit Go.BigFrame

section
variable {ρ : Operand → Value} {o : Oper} {w : World}
theorem ldO (x : Operand) (ho : o.op = .load 39 x) (b j : Nat) (hx : ρ x = .pointer (some ⟨b, j, none⟩)) (v0 v1 v2 v3 : Value) (c0 : w.cell? ⟨b, j, none⟩ = some v0) (c1 : w.cell? ⟨b, j + 1, none⟩ = some v1) (c2 : w.cell? ⟨b, j + 2, none⟩ = some v2) (c3 : w.cell? ⟨b, j + 3, none⟩ = some v3) :
    (execOp ρ o).run Tryd.prog w = .ok (.value (.agg #[v0, v1, v2, v3])) w := by
  unfold execOp
  simp only [ho, hx]
  have h0 : (isAgg 39).run Tryd.prog w = .ok true w := by kernel_rfl
  have h1 : ∀ w, (sizeOf 39).run Tryd.prog w = .ok 4 w := fun w => by kernel_rfl
  simp [go_sem, h0, h1, c0, c1, c2, c3]
theorem fm_0 (w : World) (b : Nat) : (Instr.fieldAt 25 (.pointer (some ⟨b, 0, none⟩)) 0).run Tryd.prog w = .ok (.pointer (some ⟨b, 0, none⟩)) w := by kernel_rfl
theorem naO (w : World) : (isAgg 22).run Tryd.prog w = .ok false w := by kernel_rfl
theorem ix_o (w : World) (b o N c : Nat) (hN : 0 < N) : (Instr.indexAt 22 (.slice (some ⟨b, o, none⟩) N c) (.int .i64 0)).run Tryd.prog w = .ok (.pointer (some ⟨b, o, none⟩)) w := by
  have h1 : ¬ N = 0 := by omega
  simp [go_sem, h1]
theorem bsl_0 (w : World) : (Instr.buildSlice 22 0 #[]).run Tryd.prog w = .ok (.slice (some ⟨w.heap.size, 0, none⟩) 0 0) (w.alloc (.cells #[] 39 (0, 0))) := by kernel_rfl
theorem bsl_1 (w : World) (x : Ox) : (Instr.buildSlice 22 1 #[(0, .agg (oxL x).toArray)]).run Tryd.prog w = .ok (.slice (some ⟨w.heap.size, 0, none⟩) 1 1) (w.alloc (.cells (oxL x).toArray 39 (0, 0))) := by kernel_rfl
end
theorem rdX_lines {W W' : World} {F : Option Addr} {L : List Ox} (h : RdX W F L) (x : Ox) (hx : x ∈ L) (hb : Below W.heap.size W W') : RdL W' x.2.1 x.1.lines := by
  obtain ⟨j, hj⟩ := List.mem_iff_getElem?.1 hx
  obtain ⟨_, _, _, _, _, h4⟩ := h j x hj
  exact h4.below hb
structure RtI (W : World) (L : List Ox) (x0 : Ox) (vals : List Value) (s : Nat → Option Value) (w : World) : Prop where
  b : Below W.heap.size W w
  g : ∀ i v, s i = some v → (i = 1 ∨ i = 2 ∨ i = 4 ∨ i = 5 ∨ i = 6 ∨ i = 7) → vals[i]? = some v
  o3 : s 0 = none → s 3 = none
  o9 : s 3 = none ∨ s 8 = none → s 9 = none
  g0 : ∀ v, s 0 = some v → s 3 = none → OwnO w W.heap.size v []
  g3 : ∀ v, s 3 = some v → s 9 = none → OwnO w W.heap.size v L
  g9 : ∀ v, s 9 = some v → OwnO w W.heap.size v (L ++ [x0])
  g8 : ∀ v, s 8 = some v → ∃ q, v = .slice (some ⟨q, 0, none⟩) 1 1 ∧ W.heap.size ≤ q ∧ w.heap[q]? = some (.cells (oxL x0).toArray 39 (0, 0)) ∧ (∀ v0, s 0 = some v0 → s 3 = none → v0.ownBlock ≠ some q) ∧ (∀ v3, s 3 = some v3 → s 9 = none → v3.ownBlock ≠ some q)
section
variable {W w : World} {L : List Ox} {x0 : Ox} {vals : List Value} {s : Nat → Option Value}
theorem updT_other {s : Nat → Option Value} {i j : Nat} {v : Value} (h : j ≠ i) : updT s i v j = s j := by unfold updT; rw [if_neg h]
theorem updT_same {s : Nat → Option Value} {i : Nat} {v : Value} : updT s i v i = some v := by unfold updT; rw [if_pos rfl]
theorem RtI.told (h : RtI W L x0 vals s w) {j : Nat} {v : Value} (hj : j = 1 ∨ j = 2 ∨ j = 4 ∨ j = 5 ∨ j = 6 ∨ j = 7) (hv : vals[j]? = some v) (hs : (s j).isSome = true) : s j = some v := by
  cases e : s j with
  | none => rw [e] at hs; cases hs
  | some u =>
    have := h.g j u e hj
    rw [hv] at this
    exact this.symm
theorem RtI.quiet (h : RtI W L x0 vals s w) (i : Nat) (v : Value) (hi : i = 1 ∨ i = 2 ∨ i = 4 ∨ i = 5 ∨ i = 6 ∨ i = 7) (hv : vals[i]? = some v) : RtI W L x0 vals (updT s i v) w := by
  have e0 : updT s i v 0 = s 0 := updT_other (by omega)
  have e3 : updT s i v 3 = s 3 := updT_other (by omega)
  have e8 : updT s i v 8 = s 8 := updT_other (by omega)
  have e9 : updT s i v 9 = s 9 := updT_other (by omega)
  exact { b := h.b, g := fun j u hj hm => by
            by_cases hji : j = i
            · subst hji
              rw [updT_same] at hj
              injection hj with hj
              rw [← hj]; exact hv
            · rw [updT_other hji] at hj
              exact h.g j u hj hm
          o3 := by rw [e0, e3]; exact h.o3
          o9 := by rw [e3, e8, e9]; exact h.o9
          g0 := by rw [e0, e3]; exact h.g0
          g3 := by rw [e3, e9]; exact h.g3
          g9 := by rw [e9]; exact h.g9
          g8 := by rw [e0, e3, e8, e9]; exact h.g8 }
theorem RtI.gen (h : RtI W L x0 vals s w) (i : Nat) (v : Value) (hi : i = 0 ∨ i = 3 ∨ i = 8 ∨ i = 9) : ∀ j u, updT s i v j = some u → (j = 1 ∨ j = 2 ∨ j = 4 ∨ j = 5 ∨ j = 6 ∨ j = 7) → vals[j]? = some u := fun j u hj hm => by
  rw [updT_other (by omega)] at hj
  exact h.g j u hj hm
theorem RtI.op0 (h : RtI W L x0 vals s w) (hs : s 0 = none) : RtI W L x0 vals (updT s 0 (.slice (some ⟨w.heap.size, 0, none⟩) 0 0)) (w.alloc (.cells #[] 39 (0, 0))) := by
  have e3 : updT s 0 (.slice (some ⟨w.heap.size, 0, none⟩) 0 0) 3 = s 3 := updT_other (by omega)
  have e8 : updT s 0 (.slice (some ⟨w.heap.size, 0, none⟩) 0 0) 8 = s 8 := updT_other (by omega)
  have e9 : updT s 0 (.slice (some ⟨w.heap.size, 0, none⟩) 0 0) 9 = s 9 := updT_other (by omega)
  have h3 := h.o3 hs
  have h9 := h.o9 (Or.inl h3)
  have hb := Below.one w (.cells #[] 39 (0, 0))
  exact { b := h.b.trans (hb.mono h.b.size), g := h.gen 0 _ (Or.inl rfl)
          o3 := fun _ => by rw [e3]; exact h3
          o9 := fun _ => by rw [e9]; exact h9
          g0 := fun v hv _ => by
            rw [updT_same] at hv
            injection hv with hv
            subst hv
            exact OwnO.made w W.heap.size h.b.size
          g3 := fun v hv => by rw [e3, h3] at hv; cases hv
          g9 := fun v hv => by rw [e9, h9] at hv; cases hv
          g8 := fun v hv => by
            rw [e8] at hv
            obtain ⟨q, e, h1, h2, _, _⟩ := h.g8 v hv
            refine ⟨q, e, h1, keepB hb h2, fun v0 hv0 _ => ?_, (fun v3 hv3 => by rw [e3, h3] at hv3; cases hv3)⟩
            rw [updT_same] at hv0
            injection hv0 with hv0
            subst hv0
            have := (Array.getElem?_eq_some_iff.1 h2).1
            simp [Value.ownBlock]
            omega }
theorem RtI.op8 (h : RtI W L x0 vals s w) (hs : s 8 = none) : RtI W L x0 vals (updT s 8 (.slice (some ⟨w.heap.size, 0, none⟩) 1 1)) (w.alloc (.cells (oxL x0).toArray 39 (0, 0))) := by
  have e0 : updT s 8 (.slice (some ⟨w.heap.size, 0, none⟩) 1 1) 0 = s 0 := updT_other (by omega)
  have e3 : updT s 8 (.slice (some ⟨w.heap.size, 0, none⟩) 1 1) 3 = s 3 := updT_other (by omega)
  have e9 : updT s 8 (.slice (some ⟨w.heap.size, 0, none⟩) 1 1) 9 = s 9 := updT_other (by omega)
  have h9 := h.o9 (Or.inr hs)
  have hb := Below.one w (.cells (oxL x0).toArray 39 (0, 0))
  exact { b := h.b.trans (hb.mono h.b.size), g := h.gen 8 _ (by omega)
          o3 := by rw [e0, e3]; exact h.o3
          o9 := fun _ => by rw [e9]; exact h9
          g0 := fun v hv h3 => by rw [e0] at hv; rw [e3] at h3; exact (h.g0 v hv h3).later hb
          g3 := fun v hv _ => by rw [e3] at hv; exact (h.g3 v hv h9).later hb
          g9 := fun v hv => by rw [e9, h9] at hv; cases hv
          g8 := fun v hv => by
            rw [updT_same] at hv
            injection hv with hv
            subst hv
            refine ⟨_, rfl, h.b.size, heap_alloc_new w _, fun v0 hv0 h3 e => ?_, fun v3 hv3 _ e => ?_⟩
            · rw [e0] at hv0
              rw [e3] at h3
              have := (h.g0 v0 hv0 h3).block e
              omega
            · rw [e3] at hv3
              have := (h.g3 v3 hv3 h9).block e
              omega }
theorem RtI.op3 (h : RtI W L x0 vals s w) (hs : s 3 = none) {v0 v' : Value} {w' : World} (h0 : s 0 = some v0) (ho : OwnO w' W.heap.size v' ([] ++ L)) (hg : w.grownBy w' v0.ownBlock) (hn : v'.ownBlock = v0.ownBlock ∨ v'.ownBlock = some w.heap.size) : RtI W L x0 vals (updT s 3 v') w' := by
  have e0 : updT s 3 v' 0 = s 0 := updT_other (by omega)
  have e8 : updT s 3 v' 8 = s 8 := updT_other (by omega)
  have e9 : updT s 3 v' 9 = s 9 := updT_other (by omega)
  have h9 := h.o9 (Or.inl hs)
  have hown := h.g0 v0 h0 hs
  exact { b := h.b.grown hg h.b.size fun k hk => (hown.block hk).1, g := h.gen 3 _ (by omega)
          o3 := fun hh => by rw [e0, h0] at hh; cases hh
          o9 := fun _ => by rw [e9]; exact h9
          g0 := fun v _ hh => by rw [updT_same] at hh; cases hh
          g3 := fun v hv _ => by
            rw [updT_same] at hv
            injection hv with hv
            subst hv
            exact ho
          g9 := fun v hv => by rw [e9, h9] at hv; cases hv
          g8 := fun v hv => by
            rw [e8] at hv
            obtain ⟨q, e, h1, h2, h3, _⟩ := h.g8 v hv
            have hq := (Array.getElem?_eq_some_iff.1 h2).1
            refine ⟨q, e, h1, (hg.block q hq (Ne.symm (h3 v0 h0 hs))).trans h2, (fun v1 _ hh => by rw [updT_same] at hh; cases hh), fun v3 hv3 _ => ?_⟩
            rw [updT_same] at hv3
            injection hv3 with hv3
            subst hv3
            rcases hn with hn | hn
            · rw [hn]; exact h3 v0 h0 hs
            · rw [hn]
              intro e2
              injection e2 with e2
              omega }
theorem RtI.op9 (h : RtI W L x0 vals s w) (hs : s 9 = none) {v3 v8 v' : Value} {w' : World} (h3 : s 3 = some v3) (h8 : s 8 = some v8) (ho : OwnO w' W.heap.size v' (L ++ [x0])) (hg : w.grownBy w' v3.ownBlock) : RtI W L x0 vals (updT s 9 v') w' := by
  have e0 : updT s 9 v' 0 = s 0 := updT_other (by omega)
  have e3 : updT s 9 v' 3 = s 3 := updT_other (by omega)
  have e8 : updT s 9 v' 8 = s 8 := updT_other (by omega)
  have hown := h.g3 v3 h3 hs
  exact { b := h.b.grown hg h.b.size fun k hk => (hown.block hk).1, g := h.gen 9 _ (by omega)
          o3 := by rw [e0, e3]; exact h.o3
          o9 := fun hh => by rw [e3, e8, h3, h8] at hh; rcases hh with hh | hh <;> cases hh
          g0 := fun v _ hh => by rw [e3, h3] at hh; cases hh
          g3 := fun v _ hh => by rw [updT_same] at hh; cases hh
          g9 := fun v hv => by
            rw [updT_same] at hv
            injection hv with hv
            subst hv
            exact ho
          g8 := fun v hv => by
            rw [e8] at hv
            obtain ⟨q, e, h1, h2, _, h4⟩ := h.g8 v hv
            have hq := (Array.getElem?_eq_some_iff.1 h2).1
            exact ⟨q, e, h1, (hg.block q hq (Ne.symm (h4 v3 h3 hs))).trans h2, (fun v1 _ hh => by rw [e3, h3] at hh; cases hh), (fun v4 _ hh => by rw [updT_same] at hh; cases hh)⟩ }
end
end Go.Proofs.YtihbgppcacaekaaDoor
/- TABLES OF GLOBALS, appended. -/
namespace Go.Proofs.YtihbgppcacaekaaDoor
open Go.RowKit Go.BigFrame

theorem flatG_get : ∀ (v : List Gb) (j k : Nat), k < 4 → (v.flatMap glL)[j * 4 + k]? = (v[j]?).bind fun x => (glL x)[k]?
  | [], j, k, _ => by simp
  | x :: t, 0, k, hk => by
    rw [List.flatMap_cons, List.getElem?_append_left (by simp; omega)]
    simp
  | x :: t, j + 1, k, hk => by
    rw [List.flatMap_cons, List.getElem?_append_right (by simp; omega), show (j + 1) * 4 + k - (glL x).length = j * 4 + k by simp; omega, flatG_get t j k hk]
    simp
theorem flatG_one (v : List Gb) : ∀ u ∈ v.flatMap glL, u.oneCell' = true := fun u hu => by
  obtain ⟨x, _, hx⟩ := List.mem_flatMap.1 hu
  simp at hx
  rcases hx with rfl | rfl | rfl | rfl <;> rfl
def OwnG (w : World) (base : Nat) (V : Value) (l : List Gb) : Prop := w.ownsRow base 52 4 V l.length (l.flatMap glL)
theorem OwnG.later {w w' : World} {base : Nat} {V : Value} {l : List Gb} (h : OwnG w base V l) (hb : Below w.heap.size w w') : OwnG w' base V l := ownsRow_later h hb
theorem OwnG.nil (w : World) (base : Nat) : OwnG w base (.slice none 0 0) [] := World.ownsRow_nil w base 52 4
theorem OwnG.read {w : World} {base : Nat} {V : Value} {l : List Gb} (h : OwnG w base V l) : ∃ A cap, V = .slice A l.length cap ∧ RdG w A l := by
  have h0 := h
  obtain ⟨h1, h2⟩ := h
  rcases h2 with ⟨rfl, hn⟩ | ⟨g, cap, cur, rfl, hB, hg, hnc, _, hsz, htake⟩
  · refine ⟨none, 0, by rw [hn], fun j n hj => ?_⟩
    have := (List.getElem?_eq_some_iff.1 hj).1
    omega
  · have hlt := (Array.getElem?_eq_some_iff.1 hg).1
    refine ⟨_, _, rfl, fun j n hj => ⟨g, 0, rfl, hlt, fun k hk => ?_⟩⟩
    have hjl := (List.getElem?_eq_some_iff.1 hj).1
    have := World.ownsRow.cellAt h0 (j * 4 + k) (by omega)
    rw [Nat.zero_add, this, flatG_get l j k hk, hj]
    rfl
theorem info_gb : (Tryd.prog.info? 52).map (fun i => (i.zero, i.size, i.bytes)) = some (some (.agg #[.string ⟨#[]⟩, .int .i64 0, .int .i64 0, .int .i64 0]), 4, 40) := by kernel_rfl
abbrev gbObj (y : Gb) : Obj := .cells #[.string y.name, .int .i64 y.at_, .int .i64 y.size, .int .i64 y.init] 52 (0, 0)
/-- append of one global that was just built, in a statement's own order -/
theorem wpList_append_gb {ops : Array Oper} {rest : List Oper} {o : Oper} {a : Act} {w : World} {Q : Exit → Act → World → Prop} (hgd : o.guard = none) (s x : Operand)
    (ho : o.op = .call { callee := .builtin .append, args := #[s, x], argTypes := #[23, 23] }) (base : Nat) (V : Value) (k : List Gb) (hs : a.eval s = V) (hown : OwnG w base V k)
    (g : Nat) (y : Gb) (hx : a.eval x = .slice (some ⟨g, 0, none⟩) 1 1) (hg : w.heap[g]? = some (gbObj y)) (hn : k.length ≤ 1000000) (hb : base ≤ w.heap.size)
    (h : ∀ V' w', OwnG w' base V' (k ++ [y]) → w.grownBy w' V.ownBlock → wpList Tryd.prog ops Q rest (a.put o.dst V') w') :
    wpList Tryd.prog ops Q (o :: rest) a w := by
  refine wpList_plain hgd fun K hK => ?_
  obtain ⟨i0, hi, hz0, hz1, hz2⟩ := info_parts info_gb
  obtain ⟨V', w', hr, h1, h2, _, h4⟩ := run_append_own_at (P := Tryd.prog) w base 23 o.type 52 i0 (.agg #[.string ⟨#[]⟩, .int .i64 0, .int .i64 0, .int .i64 0]) 4 40 (by kernel_rfl) hi hz0 hz1 hz2 rfl (by decide) V k.length (k.flatMap glL) hown ⟨g, 0, none⟩ 1 1 (glL y) (by rfl)
    (fun j u hu => by
      have hadd : (⟨g, 0, none⟩ : Addr).add j = ⟨g, j, none⟩ := by
        unfold Addr.add; split
        · rename_i h0; rw [h0]
        · simp
      rw [hadd]
      exact cell_of_heap hg j u (by simpa using hu)) (fun u hu => flatG_one [y] u (by simpa using hu)) (by simp only [maxLen]; omega) (by omega) hb
  have hfl : (k ++ [y]).flatMap glL = k.flatMap glL ++ glL y := by simp
  unfold Oper.wp execOp
  simp only [ho, resolve, invoke, builtin, Sem.run_bind, Sem.run_pure, Result.andThen_ok, List.map_toArray, List.map_cons, List.map_nil, hs, hx, hr]
  refine hK _ _ (h V' w' ?_ h2)
  unfold OwnG
  rw [List.length_append, hfl]
  exact h1
/-- the image that is being made: its box, its globals' own memory -/
structure GvS (W w : World) (F : Option Addr) (N cF : Nat) (top : Int) (L : List Gb) (V : Value) (pb : Nat) : Prop where
  b : Below W.heap.size W w
  box : w.heap[pb]? = some (.cells #[.slice F N cF, V, .int .i64 top] 25 (0, 0))
  own : OwnG w W.heap.size V L
  lo : W.heap.size ≤ pb
  hi : pb < w.heap.size
theorem GvS.later {W w w' : World} {F : Option Addr} {N cF : Nat} {top : Int} {L : List Gb} {V : Value} {pb : Nat} (h : GvS W w F N cF top L V pb) (hb : Below w.heap.size w w') : GvS W w' F N cF top L V pb :=
  ⟨h.b.trans (hb.mono h.b.size), keepB hb h.box, h.own.later hb, h.lo, Nat.lt_of_lt_of_le h.hi hb.size⟩
theorem GvS.push {W w w' : World} {F : Option Addr} {N cF : Nat} {top : Int} {L : List Gb} {V V' : Value} {pb : Nat} (h : GvS W w F N cF top L V pb) (y : Gb) (hg : w.grownBy w' V.ownBlock) (ho : OwnG w' W.heap.size V' (L ++ [y])) :
    GvS W (w'.setCell ⟨pb, 1, none⟩ V') F N cF top (L ++ [y]) V' pb := by
  have hob : ∀ g, V.ownBlock = some g → W.heap.size ≤ g := by
    intro g hgo
    obtain ⟨_, h2⟩ := h.own
    rcases h2 with ⟨rfl, hn⟩ | ⟨g', cap, cur, rfl, hB, hg', _⟩
    · simp [Value.ownBlock] at hgo
    · simp [Value.ownBlock] at hgo
      omega
  have hbx : w'.heap[pb]? = w.heap[pb]? := hg.block pb h.hi (Ne.symm (own_ne h.own h.box (by decide)))
  have hb2 : Below W.heap.size W w' := h.b.grown hg h.b.size fun k hk => hob k hk
  refine ⟨hb2.setCell (p := ⟨pb, 1, none⟩) h.lo V', ?_, ?_, h.lo, ?_⟩
  · have := heap_setCell (j := 1) (hbx.trans h.box) V'
    exact this
  · refine ownsRow_keep ho fun g _ _ cur hcu => heap_setCell_other w' ⟨pb, 1, none⟩ g _ ?_
    exact ty_ne hcu (hbx.trans h.box) (by decide)
  · have := hg.size
    have := h.hi
    simp
    omega
end Go.Proofs.YtihbgppcacaekaaDoor
/- A REGION THAT APPENDS TWO PARTS OF A TABLE OF OBJECTS. -/
namespace Go.Proofs.YtihbgppcacaekaaDoor
open Go.RowKit Go.BigFrame

section
variable {ρ : Operand → Value} {o : Oper} {w : World}
theorem slLo (x y : Operand) (ho : o.op = .slice 22 x (some y) none none) (b j N c k : Nat) (hx : ρ x = .slice (some ⟨b, j, none⟩) N c) (hy : ρ y = .int .i64 k) (hk : k ≤ N) : (execOp ρ o).run Tryd.prog w = .ok (.value (.slice (some ⟨b, if c = k then j else j + k * 4, none⟩) (N - k) (c - k))) w := by
  unfold execOp
  simp only [ho, hx, hy, Option.map_some, Option.map_none]
  simp [go_sem, hk]
  by_cases h : c = k
  · simp [h]
  · simp [h]
theorem slHi (x y : Operand) (ho : o.op = .slice 22 x none (some y) none) (b j N c k : Nat) (hx : ρ x = .slice (some ⟨b, j, none⟩) N c) (hy : ρ y = .int .i64 k) (hc : k ≤ c) : (execOp ρ o).run Tryd.prog w = .ok (.value (.slice (some ⟨b, j, none⟩) k c)) w := by
  unfold execOp
  simp only [ho, hx, hy, Option.map_some, Option.map_none]
  have h : ¬ c < k := by omega
  simp [go_sem, h]
end
theorem run_append_ob_none (w : World) (base : Nat) (V : Value) (k : List Ox) (hown : OwnO w base V k) (c : Nat) :
    ∃ V' w', (Builtin.append_ #[22, 22] 22 #[V, .slice none 0 c]).run Tryd.prog w = .ok V' w' ∧ OwnO w' base V' (k ++ []) ∧ w.grownBy w' V.ownBlock := by
  refine ⟨V, w, ?_, by rw [List.append_nil]; exact hown, World.grownBy.refl w _⟩
  obtain ⟨i0, hi, hz0, hz1, hz2⟩ := info_parts info_ob
  have ht : Tryd.prog.underlying 22 = some (.slice 39) := by kernel_rfl
  have h2 := hown.2
  rcases h2 with ⟨rfl, hn⟩ | ⟨g, cap, cur, rfl, _, _, hnc, _⟩
  · simp [Builtin.append_, run_underlying ht, sizeOf, typeInfo, hi, Builtin.lenOf, Builtin.firstCells]
  · simp [Builtin.append_, run_underlying ht, sizeOf, typeInfo, hi, Builtin.lenOf, Builtin.firstCells, hnc, storeCells]
/-- what a part of a table is -/
theorem RdX.drop {w : World} {b o c : Nat} {L : List Ox} (h : RdX w (some ⟨b, o, none⟩) L) (k : Nat) : RdX w (some ⟨b, if c = k then o else o + k * 4, none⟩) (L.drop k) ∨ c = k := by
  by_cases hc : c = k
  · exact Or.inr hc
  · rw [if_neg hc]
    refine Or.inl fun j x hj => ?_
    rw [List.getElem?_drop] at hj
    obtain ⟨b', o', e, h1, h2, h3⟩ := h (k + j) x hj
    simp only [Option.some.injEq, Addr.mk.injEq, and_true] at e
    obtain ⟨rfl, rfl⟩ := e
    exact ⟨_, _, rfl, h1, fun q hq => by rw [show o + k * 4 + (j * 4 + q) = o + ((k + j) * 4 + q) by omega]; exact h2 q hq, h3⟩
theorem RdX.take {w : World} {F : Option Addr} {L : List Ox} (h : RdX w F L) (k : Nat) : RdX w F (L.take k) := fun j x hj => h j x (by rw [List.getElem?_take] at hj; split at hj; exact hj; cases hj)
theorem run_append_ob0 (w : World) (base : Nat) (V : Value) (k : List Ox) (hown : OwnO w base V k) (F : Option Addr) (c : Nat) (hn : k.length ≤ 1000) (hb : base ≤ w.heap.size) :
    ∃ V' w', (Builtin.append_ #[22, 22] 22 #[V, .slice F 0 c]).run Tryd.prog w = .ok V' w' ∧ OwnO w' base V' (k ++ []) ∧ w.grownBy w' V.ownBlock := by
  cases F with
  | none => exact run_append_ob_none w base V k hown c
  | some a =>
    obtain ⟨i0, hi, hz0, hz1, hz2⟩ := info_parts info_ob
    obtain ⟨V', w', hr, h1, h2, _, _⟩ := run_append_own_at (P := Tryd.prog) w base 22 22 39 i0 (.agg #[.string ⟨#[]⟩, .int .i64 0, .int .i64 0, .slice none 0 0]) 4 56 (by kernel_rfl) hi hz0 hz1 hz2 rfl (by decide) V k.length (k.flatMap oxL) hown a 0 c [] rfl (fun j u hu => by simp at hu) (fun u hu => by cases hu) (by simp only [maxLen]; omega) (by omega) hb
    refine ⟨V', w', hr, ?_, h2⟩
    rw [List.append_nil] at h1 ⊢
    exact h1
section
variable {ρ : Operand → Value} {o : Oper} {w : World}
theorem slLo0 (x y : Operand) (ho : o.op = .slice 22 x (some y) none none) (F : Option Addr) (c : Nat) (hx : ρ x = .slice F 0 c) (hy : ρ y = .int .i64 0) : (execOp ρ o).run Tryd.prog w = .ok (.value (.slice F 0 c)) w := by
  unfold execOp
  simp only [ho, hx, hy, Option.map_some, Option.map_none]
  cases F with
  | none => simp [go_sem]
  | some a => simp [go_sem]
theorem slHi0 (x y : Operand) (ho : o.op = .slice 22 x none (some y) none) (F : Option Addr) (c : Nat) (hx : ρ x = .slice F 0 c) (hy : ρ y = .int .i64 0) : (execOp ρ o).run Tryd.prog w = .ok (.value (.slice F 0 c)) w := by
  unfold execOp
  simp only [ho, hx, hy, Option.map_some, Option.map_none]
  cases F with
  | none => simp [go_sem]
  | some a => simp [go_sem]
end
/-- the two parts of a table, as the program makes and appends them -/
theorem obj_parts {w1 : World} {F : Option Addr} {L : List Ox} {N cF kk : Nat} (hX : RdX w1 F L) (hL : L.length = N) (hk : kk ≤ N) (hc : N ≤ cF) (h6 : N ≤ 6) : ∃ V1 V2 : Value,
    (∀ (ρ : Operand → Value) (o : Oper) (w : World) (x y : Operand), o.op = .slice 22 x (some y) none none → ρ x = .slice F N cF → ρ y = .int .i64 kk → (execOp ρ o).run Tryd.prog w = .ok (.value V1) w) ∧
    (∀ (ρ : Operand → Value) (o : Oper) (w : World) (x y : Operand), o.op = .slice 22 x none (some y) none → ρ x = .slice F N cF → ρ y = .int .i64 kk → (execOp ρ o).run Tryd.prog w = .ok (.value V2) w) ∧
    (∀ (w : World) (base : Nat) (v : Value) (k : List Ox), Below w1.heap.size w1 w → OwnO w base v k → k.length ≤ 10 → base ≤ w.heap.size → ∃ V' w', (Builtin.append_ #[22, 22] 22 #[v, V1]).run Tryd.prog w = .ok V' w' ∧ OwnO w' base V' (k ++ L.drop kk) ∧ w.grownBy w' v.ownBlock) ∧
    (∀ (w : World) (base : Nat) (v : Value) (k : List Ox), Below w1.heap.size w1 w → OwnO w base v k → k.length ≤ 10 → base ≤ w.heap.size → ∃ V' w', (Builtin.append_ #[22, 22] 22 #[v, V2]).run Tryd.prog w = .ok V' w' ∧ OwnO w' base V' (k ++ L.take kk) ∧ w.grownBy w' v.ownBlock) := by
  by_cases hN : N = 0
  · subst hN
    obtain rfl : kk = 0 := by omega
    have hn : L = [] := List.eq_nil_of_length_eq_zero hL
    subst hn
    exact ⟨.slice F 0 cF, .slice F 0 cF, fun ρ o w x y ho hx hy => slLo0 x y ho F cF hx hy, fun ρ o w x y ho hx hy => slHi0 x y ho F cF hx hy,
      fun w base v k _ hown hl hb => run_append_ob0 w base v k hown F cF (by omega) hb, fun w base v k _ hown hl hb => run_append_ob0 w base v k hown F cF (by omega) hb⟩
  · obtain ⟨x0, hx0⟩ : ∃ x, L[0]? = some x := ⟨_, List.getElem?_eq_getElem (by omega)⟩
    obtain ⟨fb, fo, rfl, _⟩ := hX 0 x0 hx0
    refine ⟨_, _, fun ρ o w x y ho hx hy => slLo x y ho fb fo N cF kk hx hy hk, fun ρ o w x y ho hx hy => slHi x y ho fb fo N cF kk hx hy (by omega), fun w base v k hbw hown hl hb => ?_, fun w base v k hbw hown hl hb => ?_⟩
    · obtain ⟨V', w', hr, h1, h2, _⟩ := run_append_ob w base v k (L.drop kk) hown fb (if cF = kk then fo else fo + kk * 4) (N - kk) (cF - kk) (by rw [List.length_drop, hL]) (by
        rcases (hX.below hbw).drop (c := cF) kk with h | h
        · exact Or.inl h
        · exact Or.inr (Or.inl (by rw [List.length_drop]; omega))) (by rw [List.length_drop]; omega) hb
      exact ⟨V', w', hr, h1, h2⟩
    · obtain ⟨V', w', hr, h1, h2, _⟩ := run_append_ob w base v k (L.take kk) hown fb fo kk cF (by rw [List.length_take]; omega) (Or.inl ((hX.below hbw).take kk)) (by rw [List.length_take]; omega) hb
      exact ⟨V', w', hr, h1, h2⟩
structure RtJ (W : World) (L1 L2 : List Ox) (vals : List Value) (s : Nat → Option Value) (w : World) : Prop where
  b : Below W.heap.size W w
  g : ∀ i v, s i = some v → (i ≠ 0 ∧ i ≠ 5 ∧ i ≠ 10) → vals[i]? = some v
  o5 : s 0 = none → s 5 = none
  oA : s 5 = none → s 10 = none
  g0 : ∀ v, s 0 = some v → s 5 = none → OwnO w W.heap.size v []
  g5 : ∀ v, s 5 = some v → s 10 = none → OwnO w W.heap.size v L1
  gA : ∀ v, s 10 = some v → OwnO w W.heap.size v (L1 ++ L2)
section
variable {W w : World} {L1 L2 : List Ox} {vals : List Value} {s : Nat → Option Value}
theorem RtJ.told (h : RtJ W L1 L2 vals s w) {j : Nat} {v : Value} (hj : j ≠ 0 ∧ j ≠ 5 ∧ j ≠ 10) (hv : vals[j]? = some v) (hs : (s j).isSome = true) : s j = some v := by
  cases e : s j with
  | none => rw [e] at hs; cases hs
  | some u =>
    have := h.g j u e hj
    rw [hv] at this
    exact this.symm
theorem RtJ.quiet (h : RtJ W L1 L2 vals s w) (i : Nat) (v : Value) (hi : i ≠ 0 ∧ i ≠ 5 ∧ i ≠ 10) (hv : vals[i]? = some v) : RtJ W L1 L2 vals (updT s i v) w := by
  have e0 : updT s i v 0 = s 0 := updT_other (by omega)
  have e5 : updT s i v 5 = s 5 := updT_other (by omega)
  have eA : updT s i v 10 = s 10 := updT_other (by omega)
  exact { b := h.b, g := fun j u hj hm => by
            by_cases hji : j = i
            · subst hji
              rw [updT_same] at hj
              injection hj with hj
              rw [← hj]; exact hv
            · rw [updT_other hji] at hj
              exact h.g j u hj hm
          o5 := by rw [e0, e5]; exact h.o5
          oA := by rw [e5, eA]; exact h.oA
          g0 := by rw [e0, e5]; exact h.g0
          g5 := by rw [e5, eA]; exact h.g5
          gA := by rw [eA]; exact h.gA }
theorem RtJ.op0 (h : RtJ W L1 L2 vals s w) (hs : s 0 = none) : RtJ W L1 L2 vals (updT s 0 (.slice (some ⟨w.heap.size, 0, none⟩) 0 0)) (w.alloc (.cells #[] 39 (0, 0))) := by
  have e5 : updT s 0 (.slice (some ⟨w.heap.size, 0, none⟩) 0 0) 5 = s 5 := updT_other (by omega)
  have eA : updT s 0 (.slice (some ⟨w.heap.size, 0, none⟩) 0 0) 10 = s 10 := updT_other (by omega)
  have h5 := h.o5 hs
  have hA := h.oA h5
  have hb := Below.one w (.cells #[] 39 (0, 0))
  exact { b := h.b.trans (hb.mono h.b.size), g := fun j u hj hm => h.g j u (by rw [updT_other (by omega)] at hj; exact hj) hm
          o5 := fun _ => by rw [e5]; exact h5
          oA := fun _ => by rw [eA]; exact hA
          g0 := fun v hv _ => by
            rw [updT_same] at hv
            injection hv with hv
            subst hv
            exact OwnO.made w W.heap.size h.b.size
          g5 := fun v hv => by rw [e5, h5] at hv; cases hv
          gA := fun v hv => by rw [eA, hA] at hv; cases hv }
theorem RtJ.op5 (h : RtJ W L1 L2 vals s w) (hs : s 5 = none) {v0 v' : Value} {w' : World} (h0 : s 0 = some v0) (ho : OwnO w' W.heap.size v' ([] ++ L1)) (hg : w.grownBy w' v0.ownBlock) : RtJ W L1 L2 vals (updT s 5 v') w' := by
  have e0 : updT s 5 v' 0 = s 0 := updT_other (by omega)
  have eA : updT s 5 v' 10 = s 10 := updT_other (by omega)
  have hA := h.oA hs
  have hown := h.g0 v0 h0 hs
  exact { b := h.b.grown hg h.b.size fun k hk => (hown.block hk).1, g := fun j u hj hm => h.g j u (by rw [updT_other (by omega)] at hj; exact hj) hm
          o5 := fun hh => by rw [e0, h0] at hh; cases hh
          oA := fun _ => by rw [eA]; exact hA
          g0 := fun v _ hh => by rw [updT_same] at hh; cases hh
          g5 := fun v hv _ => by
            rw [updT_same] at hv
            injection hv with hv
            subst hv
            exact ho
          gA := fun v hv => by rw [eA, hA] at hv; cases hv }
theorem RtJ.opA (h : RtJ W L1 L2 vals s w) (hs : s 10 = none) {v5 v' : Value} {w' : World} (h5 : s 5 = some v5) (ho : OwnO w' W.heap.size v' (L1 ++ L2)) (hg : w.grownBy w' v5.ownBlock) : RtJ W L1 L2 vals (updT s 10 v') w' := by
  have e0 : updT s 10 v' 0 = s 0 := updT_other (by omega)
  have e5 : updT s 10 v' 5 = s 5 := updT_other (by omega)
  have hown := h.g5 v5 h5 hs
  exact { b := h.b.grown hg h.b.size fun k hk => (hown.block hk).1, g := fun j u hj hm => h.g j u (by rw [updT_other (by omega)] at hj; exact hj) hm
          o5 := by rw [e0, e5]; exact h.o5
          oA := fun hh => by rw [e5, h5] at hh; cases hh
          g0 := fun v _ hh => by rw [e5, h5] at hh; cases hh
          g5 := fun v _ hh => by rw [updT_same] at hh; cases hh
          gA := fun v hv => by
            rw [updT_same] at hv
            injection hv with hv
            subst hv
            exact ho }
end
end Go.Proofs.YtihbgppcacaekaaDoor
/- A REGION THAT DRAWS ITS ORDER, with guards that are met (Wg's law). -/
namespace Go.Proofs.YtihbgppcacaekaaDoor
open Go Go.RowKit

section
def grownB3 (l : List Oper) (n m : Nat) : Bool :=
  Region.noSelect l.toArray && decide (n < l.length) && Region.sinkB .any l.toArray n && Region.chainB .any l.toArray n && Region.seqB .any l.toArray (l.length - n) n (fullB l.length n)
    && (List.range n).all (fun i => match l[i]? with | some o => (match o.dst with | some d => decide (d < m) && decide (whoT l n d = some i) | none => true) && o.after.all (fun e => !Region.binds .any e || decide (e.on < i)) | none => false)
/-- an operation's guard is met, whatever frame is as was told -/
def WantT (a0 : Act) (l : List Oper) (n : Nat) (o : Oper) (s : Nat → Option Value) : Prop := ∀ a, AsT a0 l n s a → Region.wanted o (yielded l.toArray a.tmps) = true
variable {P : Program} {l : List Oper} {n : Nat} {I : (Nat → Option Value) → World → Prop} {a0 : Act}
theorem wpAny_grown3 {Q : Exit → Act → World → Prop} (hB : grownB3 l n a0.tmps.size = true)
    (hstep : ∀ i o s w, i < n → l[i]? = some o → I s w → s i = none → (∀ e ∈ o.after, Region.binds .any e = true → (s e.on).isSome = true) → WantT a0 l n o s ∧ StepT2 P a0 l n I i o s w)
    (hend : ∀ s w, I s w → (∀ i, i < n → (s i).isSome = true) → wpList P l.toArray Q (l.drop n) (putsT (l.take n) s 0 a0) w) :
    ∀ (f : Nat) (s : Nat → Option Value) (listed : Array Bool) (a : Act) (w : World), ((List.range n).filter fun i => (s i).isNone).length = f → ListedT l n s listed → AsT a0 l n s a → I s w → wpAny P .any l.toArray Q (f + (l.length - n)) listed a w := by
  simp only [grownB3, Bool.and_eq_true, decide_eq_true_eq] at hB
  obtain ⟨⟨⟨⟨⟨hsel, hn⟩, hs⟩, hc⟩, hseq⟩, hops⟩ := hB
  have hall : ∀ i, i < n → ∃ o, l[i]? = some o ∧ (∀ d, o.dst = some d → d < a0.tmps.size ∧ whoT l n d = some i) ∧ ∀ e ∈ o.after, Region.binds .any e = true → e.on < i := fun i hi => by
    have h1 := List.all_eq_true.1 hops i (List.mem_range.2 hi)
    cases ho : l[i]? with
    | none => rw [ho] at h1; simp at h1
    | some o =>
      rw [ho] at h1
      simp only [Bool.and_eq_true] at h1
      obtain ⟨h3, h4⟩ := h1
      refine ⟨o, rfl, fun d hd => ?_, fun e he hb => ?_⟩
      · rw [hd] at h3
        simp only [Bool.and_eq_true, decide_eq_true_eq] at h3
        exact h3
      · have h5 := Array.all_eq_true_iff_forall_mem.1 h4 e he
        simp only [hb, Bool.not_true, Bool.false_or, decide_eq_true_eq] at h5
        exact h5
  have hdd : ∀ t j, whoT l n t = some j → t < a0.tmps.size := fun t j h => by
    obtain ⟨h1, h2⟩ := whoT_spec h
    obtain ⟨o, ho, hd, _⟩ := hall j h1
    rw [ho] at h2
    simp only [Option.bind_some] at h2
    exact (hd t h2).1
  intro f
  induction f with
  | zero =>
    intro s listed a w hf hL hA hI
    have hsome : ∀ i, i < n → (s i).isSome = true := fun i hi => by
      have h1 : i ∉ (List.range n).filter fun i => (s i).isNone := by
        rw [List.eq_nil_of_length_eq_zero hf]; simp
      simp only [List.mem_filter, List.mem_range, not_and] at h1
      have := h1 hi
      cases hsi : s i with
      | none => rw [hsi] at this; simp at this
      | some v => rfl
    have hfull : listed = fullB l.length n := by
      apply Array.ext
      · rw [hL.inv.size]; simp [fullB]
      · intro i h1 h2
        have hi : i < l.length := by have := hL.inv.size; simp at this; omega
        rcases Nat.lt_or_ge i n with hin | hin
        · have := (hL.told i hin).2 (hsome i hin)
          simp only [Array.getD, h1, dif_pos] at this
          simp [fullB, hin]
          exact this
        · have := hL.inv.tail i hin (by simpa using hi)
          simp only [Array.getD, h1, dif_pos] at this
          simp [fullB, Nat.not_lt.2 hin]
          exact this
    have hE := hend s w hI hsome
    have hA2 : AsT a0 l n s (putsT (l.take n) s 0 a0) := putsT_spec2 (l.take n) 0 a0 (fun j hj => by
        have : j < n := by simp at hj; omega
        simp [this]) (by simp; omega) (fun i hi => by obtain ⟨o, h1, h2, _⟩ := hall i hi; exact ⟨o, h1, h2⟩) hsome rfl rfl (fun t ht => by
          cases whoT l n t with
          | none => rfl
          | some j => simp)
    rw [← hA.eq hA2] at hE
    have hdl : (l.drop n).length = l.length - n := by simp
    have := wpAny_of_seq (md := .any) (Q' := Q) (l.drop n) n listed a w (fun j => by simp [List.getElem?_drop]) (by rw [hdl, hfull]; exact hseq) hE
    rw [hdl] at this
    rwa [Nat.zero_add]
  | succ f ih =>
    intro s listed a w hf hL hA hI
    have hsz : listed.size = l.length := by have := hL.inv.size; simpa using this
    obtain ⟨i1, hi1, hn1⟩ : ∃ i, i < n ∧ s i = none := by
      have h1 : ((List.range n).filter fun i => (s i).isNone) ≠ [] := fun h => by rw [h] at hf; cases hf
      obtain ⟨i, hi⟩ := List.exists_mem_of_ne_nil _ h1
      simp only [List.mem_filter, List.mem_range, Option.isNone_iff_eq_none] at hi
      exact ⟨i, hi.1, hi.2⟩
    obtain ⟨i0, hi0, hn0, hfst⟩ : ∃ i, i < n ∧ s i = none ∧ ∀ j, j < i → (s j).isSome = true := by
      have key : ∀ k i, i < k → i < n → s i = none → ∃ i, i < n ∧ s i = none ∧ ∀ j, j < i → (s j).isSome = true := by
        intro k
        induction k with
        | zero => intro i h; exact absurd h (Nat.not_lt_zero _)
        | succ k ihk =>
          intro i hik hin hsi
          by_cases hex : ∃ j, j < i ∧ s j = none
          · obtain ⟨j, hji, hsj⟩ := hex
            exact ihk j (by omega) (by omega) hsj
          · refine ⟨i, hin, hsi, fun j hj => ?_⟩
            cases h : s j with
            | none => exact absurd ⟨j, hj, h⟩ hex
            | some v => rfl
      exact key (i1 + 1) i1 (Nat.lt_succ_self _) hi1 hn1
    have hun : listed.getD i0 true = false := by
      have h1 : listed.getD i0 false = false := by
        cases h : listed.getD i0 false with
        | false => rfl
        | true => have := (hL.told i0 hi0).1 h; rw [hn0] at this; cases this
      exact getD_in (by omega) h1
    rw [show f + 1 + (l.length - n) = (f + (l.length - n)) + 1 by omega]
    have hready : Region.ready .any l.toArray listed ≠ [] := by
      obtain ⟨o, ho, _, hon⟩ := hall i0 hi0
      have hr : i0 ∈ Region.ready .any l.toArray listed := mem_ready.2 ⟨hun, o, by simpa using ho, fun e he hb => (hL.told e.on (Nat.lt_trans (hon e he hb) hi0)).2 (hfst e.on (hon e he hb))⟩
      intro h
      rw [h] at hr
      cases hr
    refine ⟨fun h0 => absurd h0 hready, fun i hi => ?_⟩
    have hin : i < n := by
      rcases Nat.lt_or_ge i n with h | h
      · exact h
      · exact absurd hi (tail_waits hs hc (by simpa using hn) hL.inv _ i0 rfl hi0 hun i h)
    obtain ⟨hiu, o', ho', haft⟩ := mem_ready.1 hi
    obtain ⟨o, ho, hd, hon⟩ := hall i hin
    obtain rfl : o' = o := by
      have : l[i]? = some o' := by simpa using ho'
      rw [ho] at this; exact (Option.some.inj this).symm
    have hsi : s i = none := by
      cases h : s i with
      | none => rfl
      | some v =>
        have := (hL.told i hin).2 (by rw [h]; rfl)
        rw [getD_both hiu] at this; cases this
    have hst0 := hstep i o' s w hin ho hI hsi (fun e he hb => (hL.told _ (Nat.lt_trans (hon e he hb) hin)).1 (haft e he hb))
    have hnext : ∀ v w', I (updT s i v) w' → wpAny P .any l.toArray Q (f + (l.length - n)) (listed.setIfInBounds i true) (a.put o'.dst v) w' := fun v w' hI' => by
      refine ih (updT s i v) _ _ _ ?_ ⟨hL.inv.set hi hin, fun j hj => ?_⟩ (hA.put2 ho (fun d h => (hd d h).2) v) hI'
      · have key : ∀ (k : List Nat), k.Nodup → i ∈ k → (k.filter fun j => (updT s i v j).isNone).length + 1 = (k.filter fun j => (s j).isNone).length := by
          intro k
          induction k with
          | nil => intro _ h; cases h
          | cons x k ihk =>
            intro hnd hik
            rw [List.nodup_cons] at hnd
            by_cases hxi : x = i
            · subst hxi
              have e : k.filter (fun j => (updT s x v j).isNone) = k.filter (fun j => (s j).isNone) := by
                apply List.filter_congr
                intro j hj
                have : j ≠ x := fun h => hnd.1 (h ▸ hj)
                simp [updT, this]
              simp [updT, hsi]
              rw [← e]
              simp [updT]
            · have hik' : i ∈ k := by
                rcases List.mem_cons.1 hik with h | h
                · exact absurd h.symm hxi
                · exact h
              have := ihk hnd.2 hik'
              have e : updT s i v x = s x := by simp [updT, hxi]
              simp only [List.filter_cons, e]
              split
              · simp only [List.length_cons]; omega
              · exact this
        have := key (List.range n) List.nodup_range (List.mem_range.2 hin)
        omega
      · by_cases hji : i = j
        · subst hji
          have : i < listed.size := by omega
          simp [updT, this]
        · have h1 : updT s i v j = s j := by simp [updT, Ne.symm hji]
          rw [getD_set_ne false hji, h1]
          exact hL.told j hj
    have hev : a.eval = evalT a0 l n s := funext (hA.eval hdd)
    unfold wpOp
    simp only [ho']
    have hwant : Region.wanted o' (yielded l.toArray a.tmps) = true := hst0.1 a hA
    have hst := hst0.2
    rw [if_pos hwant]
    refine Or.inl ?_
    unfold Oper.wp
    rw [hev]
    rcases hst with (⟨v, w', hr, hI'⟩ | ⟨fn, args, hr, hcall⟩) | ⟨w', hr, hI'⟩
    · rw [hr, Oper.upon_value]
      exact hnext v w' hI'
    · rw [hr, Oper.upon_enter]
      refine hcall.mono fun e w' ⟨v, he, hI'⟩ => ?_
      subst he
      exact hnext v w' hI'
    · rw [hr]
      exact hnext undef w' hI'
theorem wp_region_grown3 {id : Nat} {Q : Exit → Act → World → Prop} {W : World} (n : Nat) (I : (Nat → Option Value) → World → Prop) (hm : P.follows .mixedOrders = true) (hB : grownB3 l n a0.tmps.size = true)
    (h0 : I (fun _ => none) { W with drawn := W.drawn + 1 })
    (hstep : ∀ i o s w, i < n → l[i]? = some o → I s w → s i = none → (∀ e ∈ o.after, Region.binds .any e = true → (s e.on).isSome = true) → WantT a0 l n o s ∧ StepT2 P a0 l n I i o s w)
    (hend : ∀ s w, I s w → (∀ i, i < n → (s i).isSome = true) → wpList P l.toArray Q (l.drop n) (putsT (l.take n) s 0 a0) w) : (Code.region id l.toArray true).wp P Q a0 W := by
  have hn : n < l.length := by
    simp only [grownB3, Bool.and_eq_true, decide_eq_true_eq] at hB
    exact hB.1.1.1.1.2
  refine wp_region_any hm ?_
  have := wpAny_grown3 (P := P) (I := I) (Q := Q) hB hstep hend n (fun _ => none) (Array.replicate l.toArray.size false) a0 { W with drawn := W.drawn + 1 } (by show ((List.range n).filter fun _ => true).length = n; rw [List.filter_eq_self.2 (fun _ _ => rfl)]; simp)
    ⟨⟨by simp, fun j oj _ hl => (by rw [getD_replicate_false] at hl; cases hl), fun t _ ht => getD_in (by simpa using ht) (getD_replicate_false _ _)⟩, fun i hi => by rw [getD_replicate_false]; simp⟩
    ⟨rfl, rfl, fun t ht => by cases whoT l n t <;> rfl⟩ h0
  rw [show n + (l.length - n) = l.toArray.size by simp; omega] at this
  exact this
end
end Go.Proofs.YtihbgppcacaekaaDoor
namespace Go.Proofs.YtihbgppcacaekaaDoor
open Go Go.RowKit
theorem want_none {a0 : Act} {l : List Oper} {n : Nat} {o : Oper} {s : Nat → Option Value} (h : o.guard = none) : WantT a0 l n o s := fun a _ => by
  unfold Region.wanted
  rw [h]
theorem want_some {a0 : Act} {l : List Oper} {n : Nat} {o og : Oper} {s : Nat → Option Value} {g d : Nat} {b : Bool} (h : o.guard = some (g, b)) (hg : l[g]? = some og) (hd : og.dst = some d) (hw : whoT l n d = some g) (hdm : d < a0.tmps.size) (hs : s g = some (.bool b)) : WantT a0 l n o s := fun a hA => by
  have hv := hA.val d hdm
  rw [hw] at hv
  simp only [Option.bind_some, hs, Option.getD_some] at hv
  have hlt : d < a.tmps.size := by rw [hA.size]; exact hdm
  have hget : a.tmps[d]? = some (.bool b) := by
    rw [Array.getElem?_eq_getElem hlt]
    simp only [Array.getD, hlt, dif_pos] at hv
    exact congrArg some hv
  unfold Region.wanted
  rw [h]
  have hy : yielded l.toArray a.tmps g = some b := by
    unfold yielded
    have : l.toArray[g]? = some og := by simpa using hg
    rw [this]
    simp only [Option.bind_some, hd, hget]
  simp [hy]
end Go.Proofs.YtihbgppcacaekaaDoor
