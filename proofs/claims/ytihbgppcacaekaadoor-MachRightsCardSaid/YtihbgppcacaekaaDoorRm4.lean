import Derived.Test.YtihbgppcacaekaaDoorRm3
import Derived.Test.YtihbgppcacaekaaDoorQp
/- A REGION THAT APPENDS A TABLE AND ONE OBJECT. -/
namespace Go.Proofs.YtihbgppcacaekaaDoor
open Go.RowKit Go.BigFrame

section
variable {ρ : Operand → Value} {o : Oper} {w : World}
theorem ldO (x : Operand) (ho : o.op = .load 39 x) (b j : Nat) (hx : ρ x = .pointer (some ⟨b, j, none⟩)) (v0 v1 v2 v3 : Value) (c0 : w.cell? ⟨b, j, none⟩ = some v0) (c1 : w.cell? ⟨b, j + 1, none⟩ = some v1) (c2 : w.cell? ⟨b, j + 2, none⟩ = some v2) (c3 : w.cell? ⟨b, j + 3, none⟩ = some v3) :
    (execOp ρ o).run Tryd.prog w = .ok (.value (.agg #[v0, v1, v2, v3])) w := by
  unfold execOp
  simp only [ho, hx]
  have h0 : (isAgg 39).run Tryd.prog w = .ok true w := by kernel_rfl
  have h1 : ∀ w, (sizeOf 39).run Tryd.prog w = .ok 4 w := fun w => by kernel_rfl
  simp [go_sem, h0, h1, c0, c1, c2, c3]
theorem fm_0 (w : World) (b : Nat) : (Instr.fieldAt 25 (.pointer (some ⟨b, 0, none⟩)) 0).run Tryd.prog w = .ok (.pointer (some ⟨b, 0, none⟩)) w := by kernel_rfl
theorem naO (w : World) : (isAgg 22).run Tryd.prog w = .ok false w := by kernel_rfl
theorem ix_o (w : World) (b o N c : Nat) (hN : 0 < N) : (Instr.indexAt 22 (.slice (some ⟨b, o, none⟩) N c) (.int .i64 0)).run Tryd.prog w = .ok (.pointer (some ⟨b, o, none⟩)) w := by
  have h1 : ¬ N = 0 := by omega
  simp [go_sem, h1]
theorem bsl_0 (w : World) : (Instr.buildSlice 22 0 #[]).run Tryd.prog w = .ok (.slice (some ⟨w.heap.size, 0, none⟩) 0 0) (w.alloc (.cells #[] 39 (0, 0))) := by kernel_rfl
theorem bsl_1 (w : World) (x : Ox) : (Instr.buildSlice 22 1 #[(0, .agg (oxL x).toArray)]).run Tryd.prog w = .ok (.slice (some ⟨w.heap.size, 0, none⟩) 1 1) (w.alloc (.cells (oxL x).toArray 39 (0, 0))) := by kernel_rfl
end
theorem rdX_lines {W W' : World} {F : Option Addr} {L : List Ox} (h : RdX W F L) (x : Ox) (hx : x ∈ L) (hb : Below W.heap.size W W') : RdL W' x.2.1 x.1.lines := by
  obtain ⟨j, hj⟩ := List.mem_iff_getElem?.1 hx
  obtain ⟨_, _, _, _, _, h4⟩ := h j x hj
  exact h4.below hb
structure RtI (W : World) (L : List Ox) (x0 : Ox) (vals : List Value) (s : Nat → Option Value) (w : World) : Prop where
  b : Below W.heap.size W w
  g : ∀ i v, s i = some v → (i = 1 ∨ i = 2 ∨ i = 4 ∨ i = 5 ∨ i = 6 ∨ i = 7) → vals[i]? = some v
  o3 : s 0 = none → s 3 = none
  o9 : s 3 = none ∨ s 8 = none → s 9 = none
  g0 : ∀ v, s 0 = some v → s 3 = none → OwnO w W.heap.size v []
  g3 : ∀ v, s 3 = some v → s 9 = none → OwnO w W.heap.size v L
  g9 : ∀ v, s 9 = some v → OwnO w W.heap.size v (L ++ [x0])
  g8 : ∀ v, s 8 = some v → ∃ q, v = .slice (some ⟨q, 0, none⟩) 1 1 ∧ W.heap.size ≤ q ∧ w.heap[q]? = some (.cells (oxL x0).toArray 39 (0, 0)) ∧ (∀ v0, s 0 = some v0 → s 3 = none → v0.ownBlock ≠ some q) ∧ (∀ v3, s 3 = some v3 → s 9 = none → v3.ownBlock ≠ some q)
section
variable {W w : World} {L : List Ox} {x0 : Ox} {vals : List Value} {s : Nat → Option Value}
theorem updT_other {s : Nat → Option Value} {i j : Nat} {v : Value} (h : j ≠ i) : updT s i v j = s j := by unfold updT; rw [if_neg h]
theorem updT_same {s : Nat → Option Value} {i : Nat} {v : Value} : updT s i v i = some v := by unfold updT; rw [if_pos rfl]
theorem RtI.told (h : RtI W L x0 vals s w) {j : Nat} {v : Value} (hj : j = 1 ∨ j = 2 ∨ j = 4 ∨ j = 5 ∨ j = 6 ∨ j = 7) (hv : vals[j]? = some v) (hs : (s j).isSome = true) : s j = some v := by
  cases e : s j with
  | none => rw [e] at hs; cases hs
  | some u =>
    have := h.g j u e hj
    rw [hv] at this
    exact this.symm
theorem RtI.quiet (h : RtI W L x0 vals s w) (i : Nat) (v : Value) (hi : i = 1 ∨ i = 2 ∨ i = 4 ∨ i = 5 ∨ i = 6 ∨ i = 7) (hv : vals[i]? = some v) : RtI W L x0 vals (updT s i v) w := by
  have e0 : updT s i v 0 = s 0 := updT_other (by omega)
  have e3 : updT s i v 3 = s 3 := updT_other (by omega)
  have e8 : updT s i v 8 = s 8 := updT_other (by omega)
  have e9 : updT s i v 9 = s 9 := updT_other (by omega)
  exact { b := h.b, g := fun j u hj hm => by
            by_cases hji : j = i
            · subst hji
              rw [updT_same] at hj
              injection hj with hj
              rw [← hj]; exact hv
            · rw [updT_other hji] at hj
              exact h.g j u hj hm
          o3 := by rw [e0, e3]; exact h.o3
          o9 := by rw [e3, e8, e9]; exact h.o9
          g0 := by rw [e0, e3]; exact h.g0
          g3 := by rw [e3, e9]; exact h.g3
          g9 := by rw [e9]; exact h.g9
          g8 := by rw [e0, e3, e8, e9]; exact h.g8 }
theorem RtI.gen (h : RtI W L x0 vals s w) (i : Nat) (v : Value) (hi : i = 0 ∨ i = 3 ∨ i = 8 ∨ i = 9) : ∀ j u, updT s i v j = some u → (j = 1 ∨ j = 2 ∨ j = 4 ∨ j = 5 ∨ j = 6 ∨ j = 7) → vals[j]? = some u := fun j u hj hm => by
  rw [updT_other (by omega)] at hj
  exact h.g j u hj hm
theorem RtI.op0 (h : RtI W L x0 vals s w) (hs : s 0 = none) : RtI W L x0 vals (updT s 0 (.slice (some ⟨w.heap.size, 0, none⟩) 0 0)) (w.alloc (.cells #[] 39 (0, 0))) := by
  have e3 : updT s 0 (.slice (some ⟨w.heap.size, 0, none⟩) 0 0) 3 = s 3 := updT_other (by omega)
  have e8 : updT s 0 (.slice (some ⟨w.heap.size, 0, none⟩) 0 0) 8 = s 8 := updT_other (by omega)
  have e9 : updT s 0 (.slice (some ⟨w.heap.size, 0, none⟩) 0 0) 9 = s 9 := updT_other (by omega)
  have h3 := h.o3 hs
  have h9 := h.o9 (Or.inl h3)
  have hb := Below.one w (.cells #[] 39 (0, 0))
  exact { b := h.b.trans (hb.mono h.b.size), g := h.gen 0 _ (Or.inl rfl)
          o3 := fun _ => by rw [e3]; exact h3
          o9 := fun _ => by rw [e9]; exact h9
          g0 := fun v hv _ => by
            rw [updT_same] at hv
            injection hv with hv
            subst hv
            exact OwnO.made w W.heap.size h.b.size
          g3 := fun v hv => by rw [e3, h3] at hv; cases hv
          g9 := fun v hv => by rw [e9, h9] at hv; cases hv
          g8 := fun v hv => by
            rw [e8] at hv
            obtain ⟨q, e, h1, h2, _, _⟩ := h.g8 v hv
            refine ⟨q, e, h1, keepB hb h2, fun v0 hv0 _ => ?_, (fun v3 hv3 => by rw [e3, h3] at hv3; cases hv3)⟩
            rw [updT_same] at hv0
            injection hv0 with hv0
            subst hv0
            have := (Array.getElem?_eq_some_iff.1 h2).1
            simp [Value.ownBlock]
            omega }
theorem RtI.op8 (h : RtI W L x0 vals s w) (hs : s 8 = none) : RtI W L x0 vals (updT s 8 (.slice (some ⟨w.heap.size, 0, none⟩) 1 1)) (w.alloc (.cells (oxL x0).toArray 39 (0, 0))) := by
  have e0 : updT s 8 (.slice (some ⟨w.heap.size, 0, none⟩) 1 1) 0 = s 0 := updT_other (by omega)
  have e3 : updT s 8 (.slice (some ⟨w.heap.size, 0, none⟩) 1 1) 3 = s 3 := updT_other (by omega)
  have e9 : updT s 8 (.slice (some ⟨w.heap.size, 0, none⟩) 1 1) 9 = s 9 := updT_other (by omega)
  have h9 := h.o9 (Or.inr hs)
  have hb := Below.one w (.cells (oxL x0).toArray 39 (0, 0))
  exact { b := h.b.trans (hb.mono h.b.size), g := h.gen 8 _ (by omega)
          o3 := by rw [e0, e3]; exact h.o3
          o9 := fun _ => by rw [e9]; exact h9
          g0 := fun v hv h3 => by rw [e0] at hv; rw [e3] at h3; exact (h.g0 v hv h3).later hb
          g3 := fun v hv _ => by rw [e3] at hv; exact (h.g3 v hv h9).later hb
          g9 := fun v hv => by rw [e9, h9] at hv; cases hv
          g8 := fun v hv => by
            rw [updT_same] at hv
            injection hv with hv
            subst hv
            refine ⟨_, rfl, h.b.size, heap_alloc_new w _, fun v0 hv0 h3 e => ?_, fun v3 hv3 _ e => ?_⟩
            · rw [e0] at hv0
              rw [e3] at h3
              have := (h.g0 v0 hv0 h3).block e
              omega
            · rw [e3] at hv3
              have := (h.g3 v3 hv3 h9).block e
              omega }
theorem RtI.op3 (h : RtI W L x0 vals s w) (hs : s 3 = none) {v0 v' : Value} {w' : World} (h0 : s 0 = some v0) (ho : OwnO w' W.heap.size v' ([] ++ L)) (hg : w.grownBy w' v0.ownBlock) (hn : v'.ownBlock = v0.ownBlock ∨ v'.ownBlock = some w.heap.size) : RtI W L x0 vals (updT s 3 v') w' := by
  have e0 : updT s 3 v' 0 = s 0 := updT_other (by omega)
  have e8 : updT s 3 v' 8 = s 8 := updT_other (by omega)
  have e9 : updT s 3 v' 9 = s 9 := updT_other (by omega)
  have h9 := h.o9 (Or.inl hs)
  have hown := h.g0 v0 h0 hs
  exact { b := h.b.grown hg h.b.size fun k hk => (hown.block hk).1, g := h.gen 3 _ (by omega)
          o3 := fun hh => by rw [e0, h0] at hh; cases hh
          o9 := fun _ => by rw [e9]; exact h9
          g0 := fun v _ hh => by rw [updT_same] at hh; cases hh
          g3 := fun v hv _ => by
            rw [updT_same] at hv
            injection hv with hv
            subst hv
            exact ho
          g9 := fun v hv => by rw [e9, h9] at hv; cases hv
          g8 := fun v hv => by
            rw [e8] at hv
            obtain ⟨q, e, h1, h2, h3, _⟩ := h.g8 v hv
            have hq := (Array.getElem?_eq_some_iff.1 h2).1
            refine ⟨q, e, h1, (hg.block q hq (Ne.symm (h3 v0 h0 hs))).trans h2, (fun v1 _ hh => by rw [updT_same] at hh; cases hh), fun v3 hv3 _ => ?_⟩
            rw [updT_same] at hv3
            injection hv3 with hv3
            subst hv3
            rcases hn with hn | hn
            · rw [hn]; exact h3 v0 h0 hs
            · rw [hn]
              intro e2
              injection e2 with e2
              omega }
theorem RtI.op9 (h : RtI W L x0 vals s w) (hs : s 9 = none) {v3 v8 v' : Value} {w' : World} (h3 : s 3 = some v3) (h8 : s 8 = some v8) (ho : OwnO w' W.heap.size v' (L ++ [x0])) (hg : w.grownBy w' v3.ownBlock) : RtI W L x0 vals (updT s 9 v') w' := by
  have e0 : updT s 9 v' 0 = s 0 := updT_other (by omega)
  have e3 : updT s 9 v' 3 = s 3 := updT_other (by omega)
  have e8 : updT s 9 v' 8 = s 8 := updT_other (by omega)
  have hown := h.g3 v3 h3 hs
  exact { b := h.b.grown hg h.b.size fun k hk => (hown.block hk).1, g := h.gen 9 _ (by omega)
          o3 := by rw [e0, e3]; exact h.o3
          o9 := fun hh => by rw [e3, e8, h3, h8] at hh; rcases hh with hh | hh <;> cases hh
          g0 := fun v _ hh => by rw [e3, h3] at hh; cases hh
          g3 := fun v _ hh => by rw [updT_same] at hh; cases hh
          g9 := fun v hv => by
            rw [updT_same] at hv
            injection hv with hv
            subst hv
            exact ho
          g8 := fun v hv => by
            rw [e8] at hv
            obtain ⟨q, e, h1, h2, _, h4⟩ := h.g8 v hv
            have hq := (Array.getElem?_eq_some_iff.1 h2).1
            exact ⟨q, e, h1, (hg.block q hq (Ne.symm (h4 v3 h3 hs))).trans h2, (fun v1 _ hh => by rw [e3, h3] at hh; cases hh), (fun v4 _ hh => by rw [updT_same] at hh; cases hh)⟩ }
end
end Go.Proofs.YtihbgppcacaekaaDoor
