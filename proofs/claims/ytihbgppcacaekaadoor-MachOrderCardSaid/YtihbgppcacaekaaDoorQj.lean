import Derived.Test.YtihbgppcacaekaaDoorQi
/- back, reckon: what they do to a run. -/
namespace Go.Proofs.YtihbgppcacaekaaDoor
open Go.RowKit Go.BigFrame
section
variable {w0 w : World} {xb mb mp : Nat} {gv : ByteArray → Option Value} {R : Rn} {iv sv ov : Value} {l : List Fb} {x : Fb}

theorem XM.top {me inq ouq : List Int} (h : XM w0 w mb mp gv me inq ouq iv sv ov (l ++ [x])) : ∃ sb cap cur, sv = .slice (some ⟨sb, 0, none⟩) (l.length + 1) cap ∧ l.length + 1 ≤ cap ∧ w.cell? ⟨sb, l.length, none⟩ = some (fP x) ∧ w.heap[sb]? = some (.cells cur 86 (0, 0)) ∧ w0.heap.size ≤ sb := by
  have h0 := h.stk
  obtain ⟨h1, h2⟩ := h.stk
  rw [List.length_append, List.length_singleton] at h2 h0
  rcases h2 with ⟨_, hn⟩ | ⟨g, cap, cur, rfl, hB, hg, hnc, hcm, hsz, htake⟩
  · omega
  · refine ⟨g, cap, cur, rfl, hnc, ?_, hg, hB⟩
    have := World.ownsRow.cellAt h0 l.length (by omega)
    rw [this]
    simp
theorem XM.pop {me inq ouq : List Int} {sb cap : Nat} (h : XM w0 w mb mp gv me inq ouq iv (.slice (some ⟨sb, 0, none⟩) (l.length + 1) cap) ov (l ++ [x])) : XM w0 w mb mp gv me inq ouq iv (.slice (some ⟨sb, 0, none⟩) l.length cap) ov l where
  b := h.b
  mem := h.mem
  ml := h.ml
  mB := h.mB
  mpk := h.mpk
  inp := h.inp
  out := h.out
  stk := by
    obtain ⟨h1, h2⟩ := h.stk
    refine ⟨by simp, ?_⟩
    rw [List.length_append, List.length_singleton] at h2
    rcases h2 with ⟨e, _⟩ | ⟨g, cap', cur, e, hB, hg, hnc, hcm, hsz, htake⟩
    · cases e
    · injection e with e1 _ e3
      injection e1 with e1
      injection e1 with e1
      subst e1 e3
      refine Or.inr ⟨_, _, cur, rfl, hB, hg, by omega, hcm, hsz, ?_⟩
      have h3 := congrArg (List.take l.length) htake
      rw [List.take_take, Nat.mul_one, Nat.min_eq_left (by omega), List.map_append, List.take_append_of_le_length (by simp), List.take_of_length_le (l := l.map fP) (by simp)] at h3
      rw [Nat.mul_one]
      exact h3
  frs := fun y hy => h.frs y (List.mem_append_left _ hy)
  nb := by
    have := h.nb
    rw [List.map_append, List.nodup_append] at this
    exact this.1
  nt := by
    have := h.nt
    rw [List.map_append, List.nodup_append] at this
    exact this.1
theorem XS.pop {sb cap : Nat} (h : XS w0 w xb mb mp gv R iv (.slice (some ⟨sb, 0, none⟩) (l.length + 1) cap) ov (l ++ [x])) : XS w0 (w.setCell ⟨xb, 13, none⟩ (.slice (some ⟨sb, 0, none⟩) l.length cap)) xb mb mp gv { R with stack := R.stack.tail } iv (.slice (some ⟨sb, 0, none⟩) l.length cap) ov l where
  x := h.row 13 _ (xL_set_hi h.rl 3 _ rfl rfl)
  xB := h.xB
  rl := h.rl
  st := by
    show R.stack.tail = _
    rw [h.st]
    simp
  M := h.M.pop.other h.x h.xB (by decide) (by decide) (by decide) (by decide) _ _
theorem fr_hd {b : Nat} (h : w.heap[b]? = some (fO x)) (j : Nat) (v : Value) (hv : (fHd x)[j]? = some v) : w.cell? ⟨b, j, none⟩ = some v := by
  refine cell_of_heap h j v ?_
  rw [List.getElem?_toArray]
  unfold fL
  have hl : j < (fHd x).length := (List.getElem?_eq_some_iff.1 hv).1
  rw [List.getElem?_append_left hl]
  exact hv
theorem fr_in {b : Nat} (h : w.heap[b]? = some (fO x)) (hi : x.f.inn.length = 6) {k : Nat} (hk : k < 6) : w.cell? ⟨b, 5 + k, none⟩ = some (.int .i64 (x.f.inn.getD k 0)) := by
  refine cell_of_heap h _ _ ?_
  rw [List.getElem?_toArray]
  unfold fL
  rw [List.getElem?_append_right (by simp), List.getElem?_append_left (by simp [hi]; omega), List.getElem?_map]
  simp only [List.length_cons, List.length_nil]
  rw [show 5 + k - (0 + 1 + 1 + 1 + 1 + 1) = k by omega, List.getElem?_eq_getElem (by omega), List.getD_eq_getElem?_getD, List.getElem?_eq_getElem (by omega)]
  rfl
theorem fr_out {b : Nat} (h : w.heap[b]? = some (fO x)) (hi : x.f.inn.length = 6) (ho : x.f.out.length = 6) {k : Nat} (hk : k < 6) : w.cell? ⟨b, 11 + k, none⟩ = some (.int .i64 (x.f.out.getD k 0)) := by
  refine cell_of_heap h _ _ ?_
  rw [List.getElem?_toArray]
  unfold fL
  rw [List.getElem?_append_right (by simp; omega), List.getElem?_append_right (by simp [hi]; omega), List.getElem?_append_left (by simp [hi, ho]; omega), List.getElem?_map]
  simp only [List.length_cons, List.length_nil, List.length_map, hi]
  rw [show 11 + k - (0 + 1 + 1 + 1 + 1 + 1) - 6 = k by omega, List.getElem?_eq_getElem (by omega), List.getD_eq_getElem?_getD, List.getElem?_eq_getElem (by omega)]
  rfl
theorem fr_tl {b : Nat} (h : w.heap[b]? = some (fO x)) (hi : x.f.inn.length = 6) (ho : x.f.out.length = 6) (k : Nat) (v : Value) (hv : [Value.int .i64 x.f.base, .int .i64 x.f.at_][k]? = some v) : w.cell? ⟨b, 17 + k, none⟩ = some v := by
  refine cell_of_heap h _ _ ?_
  rw [List.getElem?_toArray]
  unfold fL
  rw [List.getElem?_append_right (by simp; omega), List.getElem?_append_right (by simp [hi]; omega), List.getElem?_append_right (by simp [hi, ho]; omega)]
  simp only [List.length_cons, List.length_nil, List.length_map, hi, ho]
  rw [show 17 + k - (0 + 1 + 1 + 1 + 1 + 1) - 6 - 6 = k by omega]
  exact hv
theorem XS.fr (h : XS w0 w xb mb mp gv R iv sv ov (l ++ [x])) : FrS w0 w mb x := h.M.frs x (by simp)
set_option maxRecDepth 1000000 in
set_option maxHeartbeats 4000000 in
theorem back_any (h : XS w0 w xb mb mp gv R iv sv ov (l ++ [x])) (v : Int) (hl : l.length ≤ 100000) (hsp : 0 ≤ R.sp ∧ R.sp ≤ 100000) (hfr : 0 ≤ x.f.o.frame ∧ x.f.o.frame ≤ 100000) :
    Calls Tryd.prog 43 #[.pointer (some ⟨xb, 0, none⟩), fP x, .int .i64 v] w fun e w' => e = .returned (.tuple #[]) ∧ ∃ sv', XS w0 w' xb mb mp gv (R.back x.f v) iv sv' ov l := by
  obtain ⟨sb, cap, cur, rfl, hnc, ht, _, _⟩ := h.M.top
  have HST : Hid (R.stack.tail = (l.map (·.f)).reverse) := Lib.hid (by rw [h.st]; simp)
  have HBK : Hid (R.back x.f v = if l.length = 0 then ({ R with told := v, sp := R.sp - x.f.o.frame, stack := R.stack.tail } : Rn).endd 1 v else { R with told := v, sp := R.sp - x.f.o.frame, stack := R.stack.tail }) := Lib.hid (by
    unfold Rn.back
    simp only [HST.out, List.isEmpty_reverse]
    cases l <;> simp)
  obtain ⟨n, hn⟩ : ∃ n, l.length = n := ⟨_, rfl⟩
  have g10 := h.c_hi 0 _ rfl
  have g11 := h.c_hi 1 _ rfl
  have g13 := h.c_hi 3 _ rfl
  have f10 := h.free 10
  have f11 := h.free 11
  have f13 := h.free 13
  have y2 := fr_hd h.fr.fr 2 _ rfl
  have hne : x.b ≠ xb := ty_ne h.fr.fr h.x (by decide)
  have HX := Lib.hid h
  have hw : wrap64 (R.sp - x.f.o.frame) = R.sp - x.f.o.frame := w64 (by omega)
  have HW := Lib.hid hw
  have hX1 := (h.set_hi 1 (.int .i64 v) (R' := { R with told := v }) rfl rfl rfl rfl rfl rfl)
  have hX2 := hX1.set_hi 0 (.int .i64 (R.sp - x.f.o.frame)) (R' := { R with told := v, sp := R.sp - x.f.o.frame }) rfl rfl rfl rfl rfl rfl
  have hX3 := hX2.pop
  have hend := fun W' hb => end_x (hX3.later (w' := W') hb) 1 v
  rw [hn] at g13 hnc HBK hX3 hend hl
  have HX3 := Lib.hid hX3
  have HEND := Lib.hid hend
  clear h hX1 hX2 hX3 hend hw ht hn hsp hfr HX
  simp only [fP]
  by_cases hz : n = 0
  · subst hz
    have q : decide ((0 : Int) = 0) = true := rfl
    go_enter Tryd.func43, Tryd.ntmps43
    go_wp2
    go_region
    go_wp2
    go_region
    go_wp2_with fail
    rw [HW.out]
    refine (HEND.out _ ((Below.refl _ _).drew.drew)).mono ?_
    rintro e w1 ⟨rfl, hx⟩
    go_wp2
    go_returns
    exact ⟨rfl, _, by rw [HBK.out]; exact hx⟩
  · have q : decide ((n : Int) = 0) = false := by simp; exact hz
    have q2 : ((n : Int) == 0) = false := by simpa using hz
    go_enter Tryd.func43, Tryd.ntmps43
    go_wp2
    go_region
    go_wp2
    go_region
    go_wp2
    go_returns
    refine ⟨rfl, .slice (some ⟨sb, 0, none⟩) n cap, ?_⟩
    rw [HBK.out, if_neg hz, HW.out]
    exact HX3.out.drew.drew
end
end Go.Proofs.YtihbgppcacaekaaDoor
