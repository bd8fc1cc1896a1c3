import Derived.Test.YtdoeinccnfggiaaDoorB
import Derived.Test.YtdoeinccnfggiaaDoorU
import Derived.OneCell
import Derived.Deep.RegionLaw
namespace Go.Proofs.YtdoeinccnfggiaaDoor
open Go.RowKit Go.BigFrame

theorem OwnT.below {w w' : World} {V : Value} {T : List Ty} (h : OwnT w V T) (hb : Below w.heap.size w w') : OwnT w' V T :=
  World.ownsRow.kept h ⟨hb.os, hb.tape, hb.output, hb.size, fun k hk _ => hb.block k hk⟩ (row := none) (by cases hv : V.ownBlock <;> simp)
theorem OwnT.alloc {w : World} {V : Value} {T : List Ty} (h : OwnT w V T) (o : Obj) : OwnT (w.alloc o) V T := World.ownsRow.alloc h o
theorem ty_one (x : Ty) : ∀ u ∈ x.l, u.oneCell' = true := by intro u hu; simp at hu; rcases hu with rfl | rfl | rfl | rfl <;> rfl
theorem info51 : (Tryd.prog.info? 51).map (fun i => (i.zero, i.size, i.bytes)) = some (some ty0.agg, 4, 40) := by kernel_rfl
/-- append of one type onto a list of the call's own -/
theorem run_append_ty (w : World) (ty : TypeId) (V : Value) (T : List Ty) (hown : OwnT w V T) (g : Nat) (x : Ty) (hx : w.heap[g]? = some (.cells x.l.toArray 51 (0, 0))) (hn : T.length ≤ 300) :
    ∃ V' w', (Builtin.append_ #[41, 41] ty #[V, .slice (some ⟨g, 0, none⟩) 1 1]).run Tryd.prog w = .ok V' w' ∧ OwnT w' V' (T ++ [x]) ∧ w.grownBy w' V.ownBlock ∧ (V'.ownBlock = V.ownBlock ∨ V'.ownBlock = some w.heap.size) := by
  obtain ⟨i0, hi, hz0, hz1, hz2⟩ := info_parts info51
  obtain ⟨V', w', hr, h1, h2, _, h4⟩ := run_append_own_at (P := Tryd.prog) w 0 41 ty 51 i0 ty0.agg 4 40 (by kernel_rfl) hi hz0 hz1 hz2 rfl (by decide) V T.length (tcells T) hown ⟨g, 0, none⟩ 1 1 x.l rfl
    (fun j u hu => by
      have hadd : (⟨g, 0, none⟩ : Addr).add j = ⟨g, j, none⟩ := by unfold Addr.add; split <;> simp_all
      rw [hadd]
      exact cell_of_heap hx j u (by simpa using hu)) (ty_one x) (by simp only [maxLen]; omega) (by omega) (Nat.zero_le _)
  exact ⟨V', w', hr, by unfold OwnT; rw [List.length_append, tcells_app]; simpa [tcells] using h1, h2, h4⟩
theorem step_append_ty {ops : Array Oper} {o : Oper} {a : Act} {w : World} {K : Act → World → Prop} {Q : Exit → Act → World → Prop} {E : Prop} (hw : Region.wanted o (yielded ops a.tmps) = true) (s x : Operand)
    (ho : o.op = .call { callee := .builtin .append, args := #[s, x], argTypes := #[41, 41] }) (V : Value) (T : List Ty) (hs : a.eval s = V) (hown : OwnT w V T)
    (g : Nat) (y : Ty) (hx : a.eval x = .slice (some ⟨g, 0, none⟩) 1 1) (hg : w.heap[g]? = some (.cells y.l.toArray 51 (0, 0))) (hn : T.length ≤ 300)
    (h : ∀ V' w', OwnT w' V' (T ++ [y]) → w.grownBy w' V.ownBlock → (V'.ownBlock = V.ownBlock ∨ V'.ownBlock = some w.heap.size) → K (a.put o.dst V') w') :
    if Region.wanted o (yielded ops a.tmps) = true then Oper.wp Tryd.prog o a w K Q else E := by
  rw [if_pos hw]
  obtain ⟨V', w', hr, h1, h2, h3⟩ := run_append_ty w o.type V T hown g y hg hn
  unfold Oper.wp execOp
  simp only [ho, resolve, invoke, builtin, Sem.run_bind, Sem.run_pure, Result.andThen_ok, List.map_toArray, List.map_cons, List.map_nil, hs, hx, hr]
  exact h V' w' h1 h2 h3
theorem append_ty {ops : Array Oper} {rest : List Oper} {o : Oper} {a : Act} {w : World} {Q : Exit → Act → World → Prop} (hgd : o.guard = none) (s x : Operand)
    (ho : o.op = .call { callee := .builtin .append, args := #[s, x], argTypes := #[41, 41] }) (V : Value) (T : List Ty) (hs : a.eval s = V) (hown : OwnT w V T)
    (g : Nat) (y : Ty) (hx : a.eval x = .slice (some ⟨g, 0, none⟩) 1 1) (hg : w.heap[g]? = some (.cells y.l.toArray 51 (0, 0))) (hn : T.length ≤ 300)
    (h : ∀ V' w', OwnT w' V' (T ++ [y]) → w.grownBy w' V.ownBlock → (V'.ownBlock = V.ownBlock ∨ V'.ownBlock = some w.heap.size) → wpList Tryd.prog ops Q rest (a.put o.dst V') w') :
    wpList Tryd.prog ops Q (o :: rest) a w := by
  refine wpList_plain hgd fun K' hK' => ?_
  obtain ⟨V', w', hr, h1, h2, h3⟩ := run_append_ty w o.type V T hown g y hg hn
  unfold Oper.wp execOp
  simp only [ho, resolve, invoke, builtin, Sem.run_bind, Sem.run_pure, Result.andThen_ok, List.map_toArray, List.map_cons, List.map_nil, hs, hx, hr]
  exact hK' _ _ (h V' w' h1 h2 h3)

/-- the table p of w has turned into T', D' of w' -/
def Turn (w w' : World) (p : Nat) (F : Nat → Prop) (T : List Ty) (D : ByteArray → Option (List Fld)) : Prop :=
  ∃ F' : Nat → Prop, Tb w' p F' T D ∧ Chg w w' F ∧ ∀ k, F' k → F k ∨ w.heap.size ≤ k
theorem Turn.of_below {w w' : World} {p : Nat} {F : Nat → Prop} {T : List Ty} {D} (h : Tb w p F T D) (hb : Below w.heap.size w w') : Turn w w' p F T D :=
  ⟨F, h.below hb, Chg.of_below hb F, fun _ hk => .inl hk⟩
theorem heap_setCell {w : World} {p j : Nat} {cs : Array Value} {t : TypeId} {fz : Nat × Nat} (h : w.heap[p]? = some (.cells cs t fz)) (v : Value) : (w.setCell ⟨p, j, none⟩ v).heap[p]? = some (.cells (cs.setIfInBounds j v) t fz) := by
  simp [World.setCell, Array.getElem?_modify, h]
theorem free_of_heap {w : World} {p : Nat} {cs : Array Value} {t : TypeId} (h : w.heap[p]? = some (.cells cs t (0, 0))) (j : Nat) : w.frozen? ⟨p, j, none⟩ = false := by simp [World.frozen?, h]
/-- what the store of the grown list makes of the table -/
theorem Turn.put {w wa w' : World} {p : Nat} {F : Nat → Prop} {T : List Ty} {D : ByteArray → Option (List Fld)} {V M : Value} {Mb n : Nat} {g : ByteArray → Option Value} (hM : M = .map (some Mb))
    (h1 : w.heap[p]? = some (.cells #[V, M] 66 (0, 0))) (h2 : OwnT w V T) (h3 : MapS w Mb n g) (h4 : F p) (h5 : F Mb) (h6 : ∀ b, V.ownBlock = some b → F b) (h7 : FOk w F g D) (h8 : T.length < 256)
    (hb : Below w.heap.size w wa) {V' : Value} {x : Ty} (ho : OwnT w' V' (T ++ [x])) (hg : wa.grownBy w' V.ownBlock) (hat : V'.ownBlock = V.ownBlock ∨ V'.ownBlock = some wa.heap.size) :
    Turn w (w'.setCell ⟨p, 0, none⟩ V') p F (T ++ [x]) D := by
  subst hM
  have hp := (Array.getElem?_eq_some_iff.1 h1).1
  obtain ⟨_, _, _, hV, _⟩ := h2.form
  have hVne : ∀ (k : Nat) o, w.heap[k]? = some o → (∀ cur, o ≠ .cells cur 51 (0, 0)) → some k ≠ V.ownBlock := fun k o hk hno e => by
    obtain ⟨cur, hc, _⟩ := hV k e.symm
    rw [hk] at hc
    injection hc with hc
    exact hno cur hc
  have hkeep : ∀ (k : Nat) o, w.heap[k]? = some o → (∀ cur, o ≠ .cells cur 51 (0, 0)) → k ≠ p → (w'.setCell ⟨p, 0, none⟩ V').heap[k]? = some o := fun k o hk hno hkp => by
    have hlt := (Array.getElem?_eq_some_iff.1 hk).1
    rw [Below.heap_setCell _ _ _ _ (by simpa using hkp), hg.block k (Nat.lt_of_lt_of_le hlt hb.size) (hVne k o hk hno), hb.block k hlt, hk]
  have hp' : w'.heap[p]? = some (.cells #[V, .map (some Mb)] 66 (0, 0)) := by
    rw [hg.block p (Nat.lt_of_lt_of_le hp hb.size) (hVne p _ h1 (by simp)), hb.block p hp, h1]
  have hV'p : V'.ownBlock ≠ some p := fun e => by
    rcases hat with hh | hh
    · exact hVne p _ h1 (by simp) (by rw [← hh, e])
    · rw [hh] at e
      injection e with e
      have := hb.size
      omega
  have hMb : Mb ≠ p := fun e => by
    obtain ⟨es, c, hm, _⟩ := h3
    rw [e, h1] at hm
    simp at hm
  refine ⟨fun k => F k ∨ V'.ownBlock = some k, ⟨V', Mb, n, g, by rw [heap_setCell hp']; rfl, ownsRow_setCell_other ho hV'p V', ?_, .inl h4, .inl h5, fun b hb => .inr hb, fun s => ⟨(h7 s).1, fun l hl => ?_⟩, by simp; omega⟩, ⟨hg.os.trans hb.os, hg.tape.trans hb.tape, hg.output.trans hb.output, ?_, fun k hk hn => ?_⟩, fun k hk => ?_⟩
  · obtain ⟨es, c, hm, hr⟩ := h3
    exact ⟨es, c, hkeep Mb _ hm (by simp) hMb, hr⟩
  · obtain ⟨b, cap, cs, e1, e2, e3, e4⟩ := (h7 s).2 l hl
    refine ⟨b, cap, cs, e1, .inl e2, hkeep b _ e3 (by simp) (fun e => ?_), e4⟩
    rw [e, h1] at e3
    simp at e3
  · have h1 := hb.size
    have h2 := hg.size
    simp [World.setCell]
    omega
  · have hkp : k ≠ p := fun e => hn (e ▸ h4)
    rw [Below.heap_setCell _ _ _ _ (by simpa using hkp), hg.block k (Nat.lt_of_lt_of_le hk hb.size) (fun e => hn (h6 k e.symm)), hb.block k hk]
  · rcases hk with hk | hk
    · exact .inl hk
    · rcases hat with hh | hh
      · exact .inl (h6 k (by rw [← hh, hk]))
      · rw [hh] at hk
        injection hk with hk
        have := hb.size
        right
        omega
end Go.Proofs.YtdoeinccnfggiaaDoor
