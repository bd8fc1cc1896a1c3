import Derived.Test.YtdoeinccnfggiaaDoorK
namespace Go.Proofs.YtdoeinccnfggiaaDoor
open Go.RowKit Go.BigFrame

abbrev fld0 : Value := .agg #[.string ⟨#[]⟩, .int .i64 0]
theorem info31 : (Tryd.prog.info? 31).map (fun i => (i.zero, i.size, i.bytes)) = some (some fld0, 2, 24) := by kernel_rfl
theorem fld_one (l : List Fld) : ∀ u ∈ fcells l, u.oneCell' = true := by
  intro u hu
  obtain ⟨f, _, hf⟩ := List.mem_flatMap.1 hu
  simp at hf
  rcases hf with rfl | rfl <;> rfl
/-- the slice (A, L) reads as the fields l in w, below block B -/
def FRd (w : World) (A : Option Addr) (l : List Fld) : Prop := ∀ (j : Nat) f, l[j]? = some f → ∃ b, A = some ⟨b, 0, none⟩ ∧ b < w.heap.size ∧ w.cell? ⟨b, j * 2, none⟩ = some (.string f.name) ∧ w.cell? ⟨b, j * 2 + 1, none⟩ = some (.int .i64 f.type)
theorem FRd.below {w w' : World} {A : Option Addr} {l : List Fld} (h : FRd w A l) (hb : Below w.heap.size w w') : FRd w' A l := fun j f hf => by
  obtain ⟨b, e1, e2, e3, e4⟩ := h j f hf
  exact ⟨b, e1, Nat.lt_of_lt_of_le e2 hb.size, (hb.cell (p := ⟨b, _, none⟩) e2).trans e3, (hb.cell (p := ⟨b, _, none⟩) e2).trans e4⟩
theorem append_ran {P : Program} {ops : Array Oper} {rest : List Oper} {o : Oper} {a : Act} {w w' : World} {Q : Exit → Act → World → Prop} {t : TypeId} {vs vx V : Value} (hgd : o.guard = none) (s x : Operand)
    (ho : o.op = .call { callee := .builtin .append, args := #[s, x], argTypes := #[t, t] }) (hs : a.eval s = vs) (hx : a.eval x = vx) (hr : (Builtin.append_ #[t, t] o.type #[vs, vx]).run P w = .ok V w')
    (h : wpList P ops Q rest (a.put o.dst V) w') : wpList P ops Q (o :: rest) a w := by
  refine wpList_plain hgd fun K' hK' => ?_
  unfold Oper.wp execOp
  simp only [ho, resolve, invoke, builtin, Sem.run_bind, Sem.run_pure, Result.andThen_ok, List.map_toArray, List.map_cons, List.map_nil, hs, hx, hr]
  exact hK' _ _ h
set_option maxRecDepth 1000000 in
set_option maxHeartbeats 1000000 in
theorem clone_any (w : World) (b cap : Nat) (l : List Fld) (hR : FRd w (some ⟨b, 0, none⟩) l) (h1 : 1 ≤ l.length) (h2 : l.length ≤ 1000) : Calls Tryd.prog 26 #[.slice (some ⟨b, 0, none⟩) l.length cap] w fun e w' =>
    (∃ g cap' cs, e = .returned (.slice (some ⟨g, 0, none⟩) l.length cap') ∧ w.heap.size ≤ g ∧ w'.heap[g]? = some (.cells cs 31 (0, 0)) ∧ ∀ j, j < l.length * 2 → cs[j]? = (fcells l)[j]?) ∧ Below w.heap.size w w' := by
  have hown : (w.alloc (.cells #[] 31)).ownsRow w.heap.size 31 2 (.slice (some ⟨w.heap.size, 0, none⟩) 0 0) 0 [] := World.ownsRow_made w #[] 0 (Nat.le_refl _) (by simp [maxLen]) rfl
  obtain ⟨i0, hi, hz0, hz1, hz2⟩ := info_parts info31
  have hR2 := hR.below (Below.one w (.cells #[] 31))
  obtain ⟨V', w', hr, h3, h4, _, h5⟩ := run_append_own_at (P := Tryd.prog) (w.alloc (.cells #[] 31)) w.heap.size 26 26 31 i0 fld0 2 24 (by kernel_rfl) hi hz0 hz1 hz2 rfl (by decide) _ 0 [] hown ⟨b, 0, none⟩ l.length cap (fcells l) (fcells_len l)
    (fun j u hu => by
      have hj : j < l.length * 2 := by rw [← fcells_len]; exact (List.getElem?_eq_some_iff.1 hu).1
      have hadd : (⟨b, 0, none⟩ : Addr).add j = ⟨b, j, none⟩ := by unfold Addr.add; split <;> simp_all
      rw [hadd]
      have hk : j / 2 < l.length := by omega
      obtain ⟨b', e1, _, e3, e4⟩ := hR2 (j / 2) l[j / 2] (by simp [hk])
      injection e1 with e1
      injection e1 with e1
      subst e1
      have hat := fcells_at l (j / 2) (j % 2) hk (by omega)
      rw [show j / 2 * 2 + j % 2 = j by omega, hu] at hat
      have hm : j % 2 = 0 ∨ j % 2 = 1 := by omega
      rcases hm with hm | hm
      · rw [hm] at hat
        simp at hat
        rw [show j = j / 2 * 2 by omega, e3, hat]
      · rw [hm] at hat
        simp at hat
        rw [show j = j / 2 * 2 + 1 by omega, e4, hat]) (fld_one l) (by simp only [maxLen]; omega) (by omega) (by simp)
  have hb' : Below w.heap.size w w' := (Below.one w (.cells #[] 31)).grown h4 (by simp) (fun k hk => by simp [Value.ownBlock] at hk; omega)
  obtain ⟨_, h7 | ⟨g, cap', cs, rfl, hg1, hg2, hg3, _, hg4, hg5⟩⟩ := h3
  · omega
  · obtain ⟨L, hL⟩ : ∃ L, l.length = L := ⟨_, rfl⟩
    rw [hL] at hr ⊢
    have hne : ∀ w, (binOp .eql 26 (.slice (some ⟨b, 0, none⟩) L cap) (.slice none 0 0)).run Tryd.prog w = .ok (.bool false) w := fun w => by
      have := run_equal_slice_nil (P := Tryd.prog) w 26 31 (some ⟨b, 0, none⟩) L cap (by kernel_rfl)
      simp [binOp, this, Result.andThen]
    go_enter Tryd.func26, Tryd.ntmps26
    go_wp2_with (at_builtin; refine append_ran rfl _ _ rfl rfl rfl hr ?_)
    go_returns
    have hz : 0 + l.length = L := by omega
    rw [hz] at *
    refine ⟨⟨g, cap', cs, rfl, hg1, hg2, fun j hj => ?_⟩, hb'⟩
    have h9 := congrArg (fun x : List Value => x[j]?) hg5
    simp only [List.getElem?_take, List.nil_append] at h9
    rw [if_pos (by omega)] at h9
    simpa using h9
end Go.Proofs.YtdoeinccnfggiaaDoor
