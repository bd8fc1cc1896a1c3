import Derived.Test.YtdoeinccnfggiaaDoorFm
import Derived.Laws.AppendOwnNone
namespace Go.Proofs.YtdoeinccnfggiaaDoor
open Go.RowKit Go.BigFrame

/-- the slice (A, length of T) reads as the types T, in blocks that F has not -/
def RdT (w : World) (F : Nat → Prop) (A : Option Addr) (T : List Ty) : Prop := ∀ (j : Nat) y, T[j]? = some y → ∃ b, A = some ⟨b, 0, none⟩ ∧ b < w.heap.size ∧ ¬ F b ∧
    w.cell? ⟨b, j * 4, none⟩ = some (.int .i64 y.kind) ∧ w.cell? ⟨b, j * 4 + 1, none⟩ = some (.int .i64 y.elem) ∧ w.cell? ⟨b, j * 4 + 2, none⟩ = some (.int .i64 y.n) ∧ w.cell? ⟨b, j * 4 + 3, none⟩ = some (.string y.name)
def RdF (w : World) (F : Nat → Prop) (A : Option Addr) (l : List Fld) : Prop := FRd w A l ∧ ∀ b o s, A = some ⟨b, o, s⟩ → ¬ F b
def RdD (w : World) (F : Nat → Prop) (A : Option Addr) (Ds : List (ByteArray × List Fld)) : Prop := ∀ (j : Nat) d, Ds[j]? = some d → ∃ b C cap, A = some ⟨b, 0, none⟩ ∧ b < w.heap.size ∧ ¬ F b ∧
    w.cell? ⟨b, j * 2, none⟩ = some (.string d.1) ∧ w.cell? ⟨b, j * 2 + 1, none⟩ = some (.slice C d.2.length cap) ∧ RdF w F C d.2
/-- the document's table: a value whose lists read so -/
def RT (w : World) (F : Nat → Prop) (v : Value) (T : List Ty) (Ds : List (ByteArray × List Fld)) : Prop := ∃ A cap B cap2, v = .agg #[.slice A T.length cap, .slice B Ds.length cap2] ∧ RdT w F A T ∧ RdD w F B Ds
theorem RdT.move {w w' : World} {F F' : Nat → Prop} {A : Option Addr} {T : List Ty} (h : RdT w F A T) (hs : w.heap.size ≤ w'.heap.size) (hb : ∀ k, k < w.heap.size → ¬ F k → w'.heap[k]? = w.heap[k]? ∧ ¬ F' k) : RdT w' F' A T := fun j y hy => by
  obtain ⟨b, e1, e2, e3, e4, e5, e6, e7⟩ := h j y hy
  obtain ⟨h1, h2⟩ := hb b e2 e3
  exact ⟨b, e1, Nat.lt_of_lt_of_le e2 hs, h2, (World.cell?_of_block (a := ⟨b, _, none⟩) h1).trans e4, (World.cell?_of_block (a := ⟨b, _, none⟩) h1).trans e5, (World.cell?_of_block (a := ⟨b, _, none⟩) h1).trans e6, (World.cell?_of_block (a := ⟨b, _, none⟩) h1).trans e7⟩
theorem RdF.move {w w' : World} {F F' : Nat → Prop} {A : Option Addr} {l : List Fld} (h : RdF w F A l) (hs : w.heap.size ≤ w'.heap.size) (hb : ∀ k, k < w.heap.size → ¬ F k → w'.heap[k]? = w.heap[k]? ∧ ¬ F' k) (hl : 0 < l.length) : RdF w' F' A l := by
  obtain ⟨h1, h2⟩ := h
  obtain ⟨b0, e0, l0, _⟩ := h1 0 (l[0]'hl) (by simp)
  refine ⟨fun j f hf => ?_, fun b o s hA => ?_⟩
  · obtain ⟨b, e1, e2, e3, e4⟩ := h1 j f hf
    obtain ⟨k1, k2⟩ := hb b e2 (h2 b 0 none e1)
    exact ⟨b, e1, Nat.lt_of_lt_of_le e2 hs, (World.cell?_of_block (a := ⟨b, _, none⟩) k1).trans e3, (World.cell?_of_block (a := ⟨b, _, none⟩) k1).trans e4⟩
  · rw [hA] at e0
    injection e0 with e0
    injection e0 with e1
    subst e1
    exact (hb b l0 (h2 b o s hA)).2
theorem RdD.move {w w' : World} {F F' : Nat → Prop} {A : Option Addr} {Ds : List (ByteArray × List Fld)} (h : RdD w F A Ds) (hne : ∀ d ∈ Ds, 0 < d.2.length) (hs : w.heap.size ≤ w'.heap.size) (hb : ∀ k, k < w.heap.size → ¬ F k → w'.heap[k]? = w.heap[k]? ∧ ¬ F' k) : RdD w' F' A Ds := fun j d hd => by
  obtain ⟨b, C, cap, e1, e2, e3, e4, e5, e6⟩ := h j d hd
  obtain ⟨h1, h2⟩ := hb b e2 e3
  exact ⟨b, C, cap, e1, Nat.lt_of_lt_of_le e2 hs, h2, (World.cell?_of_block (a := ⟨b, _, none⟩) h1).trans e4, (World.cell?_of_block (a := ⟨b, _, none⟩) h1).trans e5, e6.move hs hb (hne d (List.mem_of_getElem? hd))⟩
theorem RT.move {w w' : World} {F F' : Nat → Prop} {v : Value} {T : List Ty} {Ds : List (ByteArray × List Fld)} (h : RT w F v T Ds) (hne : ∀ d ∈ Ds, 0 < d.2.length) (hs : w.heap.size ≤ w'.heap.size) (hb : ∀ k, k < w.heap.size → ¬ F k → w'.heap[k]? = w.heap[k]? ∧ ¬ F' k) : RT w' F' v T Ds := by
  obtain ⟨A, cap, B, cap2, rfl, h1, h2⟩ := h
  exact ⟨A, cap, B, cap2, rfl, h1.move hs hb, h2.move hne hs hb⟩
theorem RT.below {w w' : World} {F : Nat → Prop} {v : Value} {T : List Ty} {Ds : List (ByteArray × List Fld)} (h : RT w F v T Ds) (hne : ∀ d ∈ Ds, 0 < d.2.length) (hb : Below w.heap.size w w') : RT w' F v T Ds := h.move hne hb.size fun k hk hn => ⟨hb.block k hk, hn⟩
theorem RdT.below {w w' : World} {F : Nat → Prop} {A : Option Addr} {T : List Ty} (h : RdT w F A T) (hb : Below w.heap.size w w') : RdT w' F A T := h.move hb.size fun k hk hn => ⟨hb.block k hk, hn⟩
/-- while the table turns -/
theorem RT.turn {w w' : World} {F F' : Nat → Prop} {v : Value} {T : List Ty} {Ds : List (ByteArray × List Fld)} (h : RT w F v T Ds) (hne : ∀ d ∈ Ds, 0 < d.2.length) (hc : Chg w w' F) (hF : ∀ k, F' k → F k ∨ w.heap.size ≤ k) : RT w' F' v T Ds :=
  h.move hne hc.size fun k hk hn => ⟨hc.block k hk hn, fun hF' => by rcases hF k hF' with h | h; exact hn h; omega⟩
theorem OwnT.rd {w : World} {V : Value} {T : List Ty} (h : OwnT w V T) (F : Nat → Prop) (hF : ∀ b, V.ownBlock = some b → ¬ F b) : ∃ A cap, V = .slice A T.length cap ∧ RdT w F A T := by
  obtain ⟨A, cap, hV, _, h3⟩ := h.form
  refine ⟨A, cap, hV, fun j y hy => ?_⟩
  obtain ⟨b, cap', hV', hlt, c0, c1, c2, c3⟩ := h.get j y hy
  have : A = some ⟨b, 0, none⟩ := by rw [hV] at hV'; injection hV'
  exact ⟨b, this, hlt, hF b (by rw [hV']; rfl), c0, c1, c2, c3⟩
/-- append of a list of types onto one of the call's own -/
theorem run_append_tys (w : World) (ty : TypeId) (V : Value) (k : List Ty) (hown : OwnT w V k) (F : Nat → Prop) (A : Option Addr) (l : List Ty) (cap : Nat) (hR : RdT w F A l) (hA : l = [] → A = none ∧ cap = 0) (hn : k.length + l.length ≤ 600) :
    ∃ V' w', (Builtin.append_ #[41, 41] ty #[V, .slice A l.length cap]).run Tryd.prog w = .ok V' w' ∧ OwnT w' V' (k ++ l) ∧ w.grownBy w' V.ownBlock ∧ (V'.ownBlock = V.ownBlock ∨ V'.ownBlock = some w.heap.size) := by
  obtain ⟨i0, hi, hz0, hz1, hz2⟩ := info_parts info51
  by_cases hl : l = []
  · obtain ⟨rfl, rfl⟩ := hA hl
    subst hl
    exact ⟨V, w, run_append_owned_none w 0 41 ty 51 i0 4 (by kernel_rfl) hi V k.length (tcells k) hown, by simpa using hown, ⟨rfl, rfl, rfl, Nat.le_refl _, fun _ _ _ => rfl⟩, .inl rfl⟩
  · have hpos : 0 < l.length := List.length_pos_iff.2 hl
    obtain ⟨b, rfl, hlt, _, _⟩ := hR 0 (l[0]'hpos) (by simp)
    obtain ⟨V', w', hr, h1, h2, _, h4⟩ := run_append_own_at (P := Tryd.prog) w 0 41 ty 51 i0 ty0.agg 4 40 (by kernel_rfl) hi hz0 hz1 hz2 rfl (by decide) V k.length (tcells k) hown ⟨b, 0, none⟩ l.length cap (tcells l) (tcells_len l)
      (fun j u hu => by
        have hj : j < l.length * 4 := by rw [← tcells_len]; exact (List.getElem?_eq_some_iff.1 hu).1
        have hadd : (⟨b, 0, none⟩ : Addr).add j = ⟨b, j, none⟩ := by unfold Addr.add; split <;> simp_all
        rw [hadd]
        have hk : j / 4 < l.length := by omega
        obtain ⟨b', e1, _, _, c0, c1, c2, c3⟩ := hR (j / 4) (l[j / 4]) (by simp [hk])
        injection e1 with e1
        injection e1 with e1
        subst e1
        have hat := tcells_at l (j / 4) (j % 4) hk (by omega)
        rw [show j / 4 * 4 + j % 4 = j by omega, hu] at hat
        have hm : j % 4 = 0 ∨ j % 4 = 1 ∨ j % 4 = 2 ∨ j % 4 = 3 := by omega
        rcases hm with hm | hm | hm | hm <;> rw [hm] at hat <;> simp at hat
        · rw [show j = j / 4 * 4 by omega, c0, hat]
        · rw [show j = j / 4 * 4 + 1 by omega, c1, hat]
        · rw [show j = j / 4 * 4 + 2 by omega, c2, hat]
        · rw [show j = j / 4 * 4 + 3 by omega, c3, hat]) (fun u hu => by
          obtain ⟨f, _, hf⟩ := List.mem_flatMap.1 hu
          exact ty_one f u hf) (by simp only [maxLen]; omega) (by omega) (Nat.zero_le _)
    exact ⟨V', w', hr, by unfold OwnT; rw [List.length_append, tcells_app]; exact h1, h2, h4⟩
theorem step_append_tys {ops : Array Oper} {o : Oper} {a : Act} {w : World} {K : Act → World → Prop} {Q : Exit → Act → World → Prop} {E : Prop} (hw : Region.wanted o (yielded ops a.tmps) = true) (s x : Operand)
    (ho : o.op = .call { callee := .builtin .append, args := #[s, x], argTypes := #[41, 41] }) (V : Value) (k : List Ty) (hs : a.eval s = V) (hown : OwnT w V k)
    (F : Nat → Prop) (A : Option Addr) (l : List Ty) (cap : Nat) (hx : a.eval x = .slice A l.length cap) (hR : RdT w F A l) (hA : l = [] → A = none ∧ cap = 0) (hn : k.length + l.length ≤ 600)
    (h : ∀ V' w', OwnT w' V' (k ++ l) → w.grownBy w' V.ownBlock → (V'.ownBlock = V.ownBlock ∨ V'.ownBlock = some w.heap.size) → K (a.put o.dst V') w') :
    if Region.wanted o (yielded ops a.tmps) = true then Oper.wp Tryd.prog o a w K Q else E := by
  rw [if_pos hw]
  obtain ⟨V', w', hr, h1, h2, h3⟩ := run_append_tys w o.type V k hown F A l cap hR hA hn
  unfold Oper.wp execOp
  simp only [ho, resolve, invoke, builtin, Sem.run_bind, Sem.run_pure, Result.andThen_ok, List.map_toArray, List.map_cons, List.map_nil, hs, hx, hr]
  exact h V' w' h1 h2 h3
end Go.Proofs.YtdoeinccnfggiaaDoor
