import Derived.Test.YtihbgppcacaekaaDoorQk
import Derived.Test.YtihbgppcacaekaaDoorQl
/- step: a frame's cells written; the run's first part. -/
namespace Go.Proofs.YtihbgppcacaekaaDoor
open Go.RowKit Go.BigFrame
section
variable {w0 w : World} {xb mb mp : Nat} {gv : ByteArray → Option Value} {R : Rn} {iv sv ov : Value} {l : List Fb} {x : Fb}
theorem XM.set_fr {me inq ouq : List Int} (h : XM w0 w mb mp gv me inq ouq iv sv ov (l ++ [x])) (j : Nat) (v : Value) (f' : Fm) (hrow : (fL x).set j v = fL { x with f := f' }) (hil : f'.inn.length = 6) (hol : f'.out.length = 6) (hs : f'.slots = x.f.slots) (ho : f'.o = x.f.o) :
    XM w0 (w.setCell ⟨x.b, j, none⟩ v) mb mp gv me inq ouq iv sv ov (l ++ [{ x with f := f' }]) := by
  have hx := h.frs x (by simp)
  exact {
    b := h.b.setCell hx.bB _
    mem := (heap_setCell_other w ⟨x.b, j, none⟩ mb _ (ty_ne h.mem hx.fr (by decide))).trans h.mem
    ml := h.ml
    mB := h.mB
    mpk := h.mpk.of_block (heap_setCell_other w ⟨x.b, j, none⟩ mp _ (map_ne h.mpk hx.fr))
    inp := h.inp
    out := ownsRow_keep h.out fun g _ _ cur hcu => heap_setCell_other w ⟨x.b, j, none⟩ g _ (ty_ne hcu hx.fr (by decide))
    stk := by
      have h0 := ownsRow_keep (w' := w.setCell ⟨x.b, j, none⟩ v) h.stk fun g _ _ cur hcu => heap_setCell_other w ⟨x.b, j, none⟩ g _ (ty_ne hcu hx.fr (by decide))
      rw [List.length_append, List.length_singleton, List.map_append] at h0 ⊢
      exact h0
    frs := fun y hy => by
      rcases List.mem_append.1 hy with hy | hy
      · obtain ⟨q1, q2, q3, q4, q5, q6, q7, q8⟩ := h.frs y (List.mem_append_left _ hy)
        have hn : y.b ≠ x.b := fun e => by
          have hn := h.nb
          rw [List.map_append, List.nodup_append] at hn
          exact hn.2.2 y.b (List.mem_map_of_mem hy) x.b (by simp) e
        exact ⟨(heap_setCell_other w ⟨x.b, j, none⟩ y.b _ hn).trans q1, q2, (heap_setCell_other w ⟨x.b, j, none⟩ y.t _ (ty_ne q3 hx.fr (by decide))).trans q3, q4, q5, q6, q7, q8⟩
      · rw [List.mem_singleton.1 hy]
        exact ⟨by rw [heap_setCell hx.fr, List.setIfInBounds_toArray, hrow], hx.bB, (heap_setCell_other w ⟨x.b, j, none⟩ x.t _ (ty_ne hx.sl hx.fr (by decide))).trans (by show _ = some (regO f'.slots); rw [hs]; exact hx.sl), hx.tB, hx.tm, hil, hol, by show RdL w0 x.C f'.o.lines; rw [ho]; exact hx.rd⟩
    nb := by
      have := h.nb
      rw [List.map_append] at this ⊢
      exact this
    nt := by
      have := h.nt
      rw [List.map_append] at this ⊢
      exact this }
theorem XS.set_fr (h : XS w0 w xb mb mp gv R iv sv ov (l ++ [x])) (j : Nat) (v : Value) (f' : Fm) (hrow : (fL x).set j v = fL { x with f := f' }) (hil : f'.inn.length = 6) (hol : f'.out.length = 6) (hs : f'.slots = x.f.slots) (ho : f'.o = x.f.o) :
    XS w0 (w.setCell ⟨x.b, j, none⟩ v) xb mb mp gv (R.top f' R.stack.tail) iv sv ov (l ++ [{ x with f := f' }]) where
  x := (heap_setCell_other w ⟨x.b, j, none⟩ xb _ (ty_ne h.x h.fr.fr (by decide))).trans h.x
  xB := h.xB
  rl := h.rl
  st := by
    show f' :: R.stack.tail = _
    rw [h.st]
    simp
  M := h.M.set_fr j v f' hrow hil hol hs ho
/-- a slot of the frame on top -/
theorem XS.set_slot (h : XS w0 w xb mb mp gv R iv sv ov (l ++ [x])) (n : Nat) (v : Int) :
    XS w0 (w.setCell ⟨x.t, n, none⟩ (.int .i64 v)) xb mb mp gv (R.top { x.f with slots := x.f.slots.set n v } R.stack.tail) iv sv ov (l ++ [{ x with f := { x.f with slots := x.f.slots.set n v } }]) := by
  have hx := h.fr
  exact {
    x := (heap_setCell_other w ⟨x.t, n, none⟩ xb _ (ty_ne h.x hx.sl (by decide))).trans h.x
    xB := h.xB
    rl := h.rl
    st := by
      show _ :: R.stack.tail = _
      rw [h.st]
      simp
    M := {
      b := h.M.b.setCell hx.tB _
      mem := (heap_setCell_other w ⟨x.t, n, none⟩ mb _ (Ne.symm hx.tm)).trans h.M.mem
      ml := h.M.ml
      mB := h.M.mB
      mpk := h.M.mpk.of_block (heap_setCell_other w ⟨x.t, n, none⟩ mp _ (map_ne h.M.mpk hx.sl))
      inp := h.M.inp
      out := ownsRow_keep h.M.out fun g _ _ cur hcu => heap_setCell_other w ⟨x.t, n, none⟩ g _ (ty_ne hcu hx.sl (by decide))
      stk := by
        have h0 := ownsRow_keep (w' := w.setCell ⟨x.t, n, none⟩ (.int .i64 v)) h.M.stk fun g _ _ cur hcu => heap_setCell_other w ⟨x.t, n, none⟩ g _ (ty_ne hcu hx.sl (by decide))
        rw [List.length_append, List.length_singleton, List.map_append] at h0 ⊢
        exact h0
      frs := fun y hy => by
        rcases List.mem_append.1 hy with hy | hy
        · obtain ⟨q1, q2, q3, q4, q5, q6, q7, q8⟩ := h.M.frs y (List.mem_append_left _ hy)
          have hn : y.t ≠ x.t := fun e => by
            have hn := h.M.nt
            rw [List.map_append, List.nodup_append] at hn
            exact hn.2.2 y.t (List.mem_map_of_mem hy) x.t (by simp) e
          exact ⟨(heap_setCell_other w ⟨x.t, n, none⟩ y.b _ (ty_ne q1 hx.sl (by decide))).trans q1, q2, (heap_setCell_other w ⟨x.t, n, none⟩ y.t _ hn).trans q3, q4, q5, q6, q7, q8⟩
        · rw [List.mem_singleton.1 hy]
          exact ⟨(heap_setCell_other w ⟨x.t, n, none⟩ x.b _ (ty_ne hx.fr hx.sl (by decide))).trans (by rw [hx.fr]; simp [fL]), hx.bB, regs_set hx.sl n v, hx.tB, hx.tm, hx.il, hx.ol, hx.rd⟩
      nb := by
        have := h.M.nb
        rw [List.map_append] at this ⊢
        exact this
      nt := by
        have := h.M.nt
        rw [List.map_append] at this ⊢
        exact this } }
theorem fL_set_at (hil : x.f.inn.length = 6) (hol : x.f.out.length = 6) (v : Int) : (fL x).set 18 (.int .i64 v) = fL { x with f := { x.f with at_ := v } } := by
  unfold fL
  rw [List.set_append_right _ _ (by simp), List.set_append_right _ _ (by simp [hil]), List.set_append_right _ _ (by simp [hil, hol])]
  simp [hil, hol]
theorem fL_set_out (hil : x.f.inn.length = 6) (hol : x.f.out.length = 6) {k : Nat} (hk : k < 6) (v : Int) : (fL x).set (11 + k) (.int .i64 v) = fL { x with f := { x.f with out := x.f.out.set k v } } := by
  unfold fL
  rw [List.set_append_right _ _ (by simp; omega), List.set_append_right _ _ (by simp [hil]; omega), List.set_append_left _ _ (by simp [hil, hol]; omega)]
  simp only [List.length_cons, List.length_nil, List.length_map, hil]
  rw [show 11 + k - (0 + 1 + 1 + 1 + 1 + 1) - 6 = k by omega, List.map_set]
theorem XS.zero_out (h : XS w0 w xb mb mp gv R iv sv ov (l ++ [x])) (b0 b1 b2 b3 b4 b5 : Int) (hout : x.f.out = [b0, b1, b2, b3, b4, b5]) :
    XS w0 ((((((w.setCell ⟨x.b, 11, none⟩ (.int .i64 0)).setCell ⟨x.b, 12, none⟩ (.int .i64 0)).setCell ⟨x.b, 13, none⟩ (.int .i64 0)).setCell ⟨x.b, 14, none⟩ (.int .i64 0)).setCell ⟨x.b, 15, none⟩ (.int .i64 0)).setCell ⟨x.b, 16, none⟩ (.int .i64 0)) xb mb mp gv (R.top { x.f with out := zero6 } R.stack.tail) iv sv ov (l ++ [{ x with f := { x.f with out := zero6 } }]) := by
  have hil := h.fr.il
  have h0 := h.set_fr 11 (.int .i64 0) { x.f with out := [0, b1, b2, b3, b4, b5] } (by rw [fL_set_out hil (by rw [hout]; rfl) (k := 0) (by omega), hout]; rfl) hil rfl rfl rfl
  have h1 := h0.set_fr 12 (.int .i64 0) { x.f with out := [0, 0, b2, b3, b4, b5] } (by rw [fL_set_out (x := { x with f := { x.f with out := [0, b1, b2, b3, b4, b5] } }) hil rfl (k := 1) (by omega)]; rfl) hil rfl rfl rfl
  have h2 := h1.set_fr 13 (.int .i64 0) { x.f with out := [0, 0, 0, b3, b4, b5] } (by rw [fL_set_out (x := { x with f := { x.f with out := [0, 0, b2, b3, b4, b5] } }) hil rfl (k := 2) (by omega)]; rfl) hil rfl rfl rfl
  have h3 := h2.set_fr 14 (.int .i64 0) { x.f with out := [0, 0, 0, 0, b4, b5] } (by rw [fL_set_out (x := { x with f := { x.f with out := [0, 0, 0, b3, b4, b5] } }) hil rfl (k := 3) (by omega)]; rfl) hil rfl rfl rfl
  have h4 := h3.set_fr 15 (.int .i64 0) { x.f with out := [0, 0, 0, 0, 0, b5] } (by rw [fL_set_out (x := { x with f := { x.f with out := [0, 0, 0, 0, b4, b5] } }) hil rfl (k := 4) (by omega)]; rfl) hil rfl rfl rfl
  exact h4.set_fr 16 (.int .i64 0) { x.f with out := zero6 } (by rw [fL_set_out (x := { x with f := { x.f with out := [0, 0, 0, 0, 0, b5] } }) hil rfl (k := 5) (by omega)]; rfl) hil rfl rfl rfl
end
end Go.Proofs.YtihbgppcacaekaaDoor
