import Derived.Test.YtdoeinccnfggiaaDoorFz
import Derived.Laws.BytesString
namespace Go.Proofs.YtdoeinccnfggiaaDoor
open Go.RowKit Go.BigFrame

theorem Tb.same {w w' : World} {p : Nat} {F : Nat → Prop} {T : List Ty} {D : ByteArray → Option (List Fld)} (h : Tb w p F T D) (hs : ∀ k, F k → k < w.heap.size → w'.heap[k]? = w.heap[k]?) : Tb w' p F T D := by
  obtain ⟨V, M, n, g, h1, h2, h3, h4, h5, h6, h7, h8⟩ := h
  refine ⟨V, M, n, g, (hs p h4 (Array.getElem?_eq_some_iff.1 h1).1).trans h1, ?_, h3.of_block (hs M h5 h3.lt), h4, h5, h6, fun s => ⟨(h7 s).1, fun l hl => ?_⟩, h8⟩
  · obtain ⟨e1, e2 | ⟨g, cap, cur, rfl, hB, hg, hr⟩⟩ := h2
    · exact ⟨e1, .inl e2⟩
    · exact ⟨e1, .inr ⟨g, cap, cur, rfl, hB, (hs g (h6 g rfl) (Array.getElem?_eq_some_iff.1 hg).1).trans hg, hr⟩⟩
  · obtain ⟨b, cap, cs, e1, e2, e3, e4⟩ := (h7 s).2 l hl
    exact ⟨b, cap, cs, e1, e2, (hs b e2 (Array.getElem?_eq_some_iff.1 e3).1).trans e3, e4⟩
def OwnF (w : World) (V : Value) (l : List Fld) : Prop := w.ownsRow 0 31 2 V l.length (fcells l)
theorem OwnF.nil (w : World) : OwnF w (.slice none 0 0) [] := World.ownsRow_nil w 0 31 2
theorem OwnF.chg {w w' : World} {V : Value} {l : List Fld} (h : OwnF w V l) (hs : ∀ b, V.ownBlock = some b → b < w.heap.size → w'.heap[b]? = w.heap[b]?) : OwnF w' V l := by
  obtain ⟨e1, e2 | ⟨g, cap, cur, rfl, hB, hg, hr⟩⟩ := h
  · exact ⟨e1, .inl e2⟩
  · exact ⟨e1, .inr ⟨g, cap, cur, rfl, hB, (hs g rfl (Array.getElem?_eq_some_iff.1 hg).1).trans hg, hr⟩⟩
theorem OwnF.alloc {w : World} {V : Value} {l : List Fld} (h : OwnF w V l) (o : Obj) : OwnF (w.alloc o) V l := World.ownsRow.alloc h o
theorem OwnF.lt {w : World} {V : Value} {l : List Fld} (h : OwnF w V l) : ∀ b, V.ownBlock = some b → b < w.heap.size := fun b hb => (World.ownsRow.lt h b hb).2
theorem OwnF.form {w : World} {V : Value} {l : List Fld} (h : OwnF w V l) : ∃ A cap, V = .slice A l.length cap ∧ (∀ b, A = some ⟨b, 0, none⟩ → V.ownBlock = some b) ∧ FRd w A l := by
  have h0 := h
  obtain ⟨h1, h2⟩ := h
  rcases h2 with ⟨rfl, hn⟩ | ⟨g, cap, cur, rfl, hB, hg, hnc, _, hsz, htake⟩
  · refine ⟨none, 0, by rw [hn], fun b hb => by simp at hb, fun j f hf => ?_⟩
    have := (List.getElem?_eq_some_iff.1 hf).1
    omega
  · refine ⟨some ⟨g, 0, none⟩, cap, rfl, fun b hb => by injection hb with hb; injection hb with hb; subst hb; rfl, fun j f hf => ?_⟩
    obtain ⟨hj, rfl⟩ := List.getElem?_eq_some_iff.1 hf
    have hh : ∀ i, i < 2 → ∀ v, (l[j]).l[i]? = Option.some v → w.cell? ⟨g, j * 2 + i, none⟩ = Option.some v := fun i hi v hv => by
      have h5 : w.cell? ⟨g, j * 2 + i, none⟩ = (fcells l)[j * 2 + i]? := World.ownsRow.cellAt h0 (j * 2 + i) (by omega)
      rw [h5, fcells_at l j i hj hi, hv]
    exact ⟨g, rfl, (Array.getElem?_eq_some_iff.1 hg).1, hh 0 (by omega) _ rfl, hh 1 (by omega) _ rfl⟩
/-- append of one field onto a list of the call's own -/
theorem append_fld {ops : Array Oper} {rest : List Oper} {o : Oper} {a : Act} {w : World} {Q : Exit → Act → World → Prop} (hgd : o.guard = none) (s x : Operand)
    (ho : o.op = .call { callee := .builtin .append, args := #[s, x], argTypes := #[26, 26] }) (V : Value) (l : List Fld) (hs : a.eval s = V) (hown : OwnF w V l)
    (g : Nat) (y : Fld) (hx : a.eval x = .slice (some ⟨g, 0, none⟩) 1 1) (hg : w.heap[g]? = some (.cells y.l.toArray 31 (0, 0))) (hn : l.length ≤ 300)
    (h : ∀ V' w', OwnF w' V' (l ++ [y]) → w.grownBy w' V.ownBlock → (V'.ownBlock = V.ownBlock ∨ V'.ownBlock = some w.heap.size) → wpList Tryd.prog ops Q rest (a.put o.dst V') w') :
    wpList Tryd.prog ops Q (o :: rest) a w := by
  refine wpList_plain hgd fun K' hK' => ?_
  obtain ⟨i0, hi, hz0, hz1, hz2⟩ := info_parts info31
  obtain ⟨V', w', hr, h1, h2, _, h4⟩ := run_append_own_at (P := Tryd.prog) w 0 26 o.type 31 i0 fld0 2 24 (by kernel_rfl) hi hz0 hz1 hz2 rfl (by decide) V l.length (fcells l) hown ⟨g, 0, none⟩ 1 1 y.l rfl
    (fun j u hu => by
      have hadd : (⟨g, 0, none⟩ : Addr).add j = ⟨g, j, none⟩ := by unfold Addr.add; split <;> simp_all
      rw [hadd]
      exact cell_of_heap hg j u (by simpa using hu)) (by intro u hu; simp at hu; rcases hu with rfl | rfl <;> rfl) (by simp only [maxLen]; omega) (by omega) (Nat.zero_le _)
  unfold Oper.wp execOp
  simp only [ho, resolve, invoke, builtin, Sem.run_bind, Sem.run_pure, Result.andThen_ok, List.map_toArray, List.map_cons, List.map_nil, hs, hx, hr]
  exact hK' _ _ (h V' w' (by unfold OwnF; rw [List.length_append]; simpa [fcells] using h1) h2 h4)
/-- a slice of bytes that came in -/
theorem open_u8s {H : Type} {enc : TypeId × Value → H} {w : World} {v : Value} {d : DataW H} {p : List MemPlace} (h : DataW.Trod enc Tryd.prog w 0 (fun _ => true) true 22 v d p) (hv : ∃ a len cap, v = .slice a len cap) :
    ∃ (A : Option Addr) (cs : List Nat) (cap : Nat), v = .slice A cs.length cap ∧ ∀ (j c : Nat), cs[j]? = some c → c ≤ 255 ∧ ∃ b o, A = some ⟨b, o, none⟩ ∧ b < w.heap.size ∧ w.cell? ⟨b, o + j, none⟩ = some (.int .u8 (c : Int)) := by
  obtain ⟨a0, len0, cap0, rfl⟩ := hv
  obtain ⟨fuel, hf⟩ := h
  rcases Go.ChangeShapes.open_ints (e := 5) (k := .u8) (by kernel_rfl) (by kernel_rfl) (by kernel_rfl) hf with ⟨hcs, _⟩ | ⟨a, len, cap, zs, hcs, _, hlc, hcm, hzl, _, hc, hwf⟩
  · simp [Value.cells] at hcs
    obtain ⟨rfl, rfl, rfl⟩ := hcs
    exact ⟨none, [], 0, rfl, fun j c hj => by simp at hj⟩
  · simp [Value.cells] at hcs
    obtain ⟨rfl, rfl, rfl⟩ := hcs
    have hzl' : zs.length = cap0 := by simpa using hzl
    refine ⟨some a, (zs.take len0).map Int.toNat, cap0, by simp [hzl', Nat.min_eq_left hlc], fun j c hj => ?_⟩
    have hjl : j < len0 := by
      have := (List.getElem?_eq_some_iff.1 hj).1
      simp at this
      omega
    have hz : zs[j]? = some (zs[j]'(by omega)) := by simp
    have hcj := hc j (by omega)
    have hgd : zs.getD j 0 = zs[j]'(by omega) := by simp [List.getD_eq_getElem?_getD, hz]
    rw [hgd] at hcj
    have hw := hwf _ (List.mem_of_getElem? hz)
    obtain ⟨m, hm, hm2⟩ := u8_nat hw
    rw [hm] at hcj
    have hcm : c = m := by
      rw [List.getElem?_map, List.getElem?_take, if_pos hjl, hz] at hj
      simp at hj
      rw [← hj, hm]
      rfl
    subst hcm
    have hsp : a.spot = none := by
      rcases hs : a.spot with _ | s
      · rfl
      · exfalso
        have h0 := hc 0 (by omega)
        rw [show a.add 0 = a by simp [Addr.add]] at h0
        have : w.cell? a = none := by unfold World.cell?; split <;> simp [hs]
        rw [this] at h0
        simp at h0
    obtain ⟨b, o, spot⟩ := a
    simp only at hsp
    subst hsp
    have hadd : (⟨b, o, none⟩ : Addr).add j = ⟨b, o + j, none⟩ := by
      unfold Addr.add; split
      · rename_i h0; rw [h0, Nat.add_zero]
      · rfl
    rw [hadd] at hcj
    exact ⟨hm2, b, o, rfl, World.block_lt_of_cell? w _ hcj, hcj⟩
end Go.Proofs.YtdoeinccnfggiaaDoor
