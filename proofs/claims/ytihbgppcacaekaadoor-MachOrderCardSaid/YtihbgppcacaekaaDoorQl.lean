import Derived.Test.YtihbgppcacaekaaDoorQm
import Derived.Deep.RegionLaw
import Derived.Deep.RegionHeld3
/- enter: a function is called. -/
namespace Go.Proofs.YtihbgppcacaekaaDoor
open Go.RowKit Go.BigFrame
section
variable {w0 w : World} {xb mb mp : Nat} {gv : ByteArray → Option Value} {R : Rn} {iv sv ov : Value} {l : List Fb}

abbrev inAgg (a0 a1 a2 a3 a4 a5 : Int) : Value := .agg #[.int .i64 a0, .int .i64 a1, .int .i64 a2, .int .i64 a3, .int .i64 a4, .int .i64 a5]
abbrev inObj (a0 a1 a2 a3 a4 a5 : Int) : Obj := .cells #[.int .i64 a0, .int .i64 a1, .int .i64 a2, .int .i64 a3, .int .i64 a4, .int .i64 a5] 67 (0, 0)
theorem stk_form {me inq ouq : List Int} (h : XM w0 w mb mp gv me inq ouq iv sv ov l) : ∃ A cap, sv = .slice A l.length cap := by
  obtain ⟨h1, h2⟩ := h.stk
  rcases h2 with ⟨rfl, hn⟩ | ⟨g, cap, cur, rfl, hB, hg, hnc, hcm, hsz, htake⟩
  · exact ⟨none, 0, by rw [hn]⟩
  · exact ⟨_, cap, rfl⟩
theorem info_n : (Tryd.prog.info? 3).map (fun i => (i.zero, i.size, i.bytes)) = some (some (.int .i64 0), 1, 8) := by kernel_rfl
theorem make_regs (L : Nat) (hL : L ≤ 100000) (W : World) : (Instr.makeSlice 60 (.int .i64 L) (.int .i64 L)).run Tryd.prog W = .ok (.slice (some ⟨W.heap.size, 0, none⟩) L L) (W.alloc (.cells (madeCells #[.int .i64 0] L) 3)) := by
  obtain ⟨i0, hi, hz0, hz1, hz2⟩ := info_parts info_n
  have := run_make (P := Tryd.prog) W 60 3 i0 (.int .i64 0) (by kernel_rfl) hi hz0 .i64 .i64 L L (by omega) (by omega) (by rw [hz2]; omega) (by omega)
  simpa [hz1, Value.cells] using this
theorem made_regs (L : Nat) : Obj.cells (madeCells #[.int .i64 0] L) 3 (0, 0) = regO (List.replicate L 0) := by
  unfold regO madeCells
  congr 1
  apply Array.ext
  · simp
  · intro k h1 h2
    simp [Nat.mod_one]
theorem step_append_ran {P : Program} {ops : Array Oper} {o : Oper} {a : Act} {w w' : World} {K : Act → World → Prop} {Q : Exit → Act → World → Prop} {E : Prop} {t u : TypeId} {vs vx V : Value} (hw : Region.wanted o (yielded ops a.tmps) = true) (s x : Operand)
    (ho : o.op = .call { callee := .builtin .append, args := #[s, x], argTypes := #[t, u] }) (hs : a.eval s = vs) (hx : a.eval x = vx) (hr : (Builtin.append_ #[t, u] o.type #[vs, vx]).run P w = .ok V w') (h : K (a.put o.dst V) w') :
    if Region.wanted o (yielded ops a.tmps) = true then Oper.wp P o a w K Q else E := by
  rw [if_pos hw]
  unfold Oper.wp execOp
  simp only [ho, resolve, invoke, builtin, Sem.run_bind, Sem.run_pure, Result.andThen_ok, List.map_toArray, List.map_cons, List.map_nil, hs, hx, hr]
  exact h
theorem info_pf : (Tryd.prog.info? 86).map (fun i => (i.zero, i.size, i.bytes)) = some (some (.pointer none), 1, 8) := by kernel_rfl
/-- append of one pointer to a frame that was just built -/
theorem run_append_p (w : World) (base : Nat) (V : Value) (k : List Value) (hown : w.ownsRow base 86 1 V k.length k) (g p : Nat) (hg : w.heap[g]? = some (.cells #[.pointer (some ⟨p, 0, none⟩)] 86 (0, 0))) (hn : k.length ≤ 90000) (hb : base ≤ w.heap.size) :
    ∃ V' w', (Builtin.append_ #[62, 62] 62 #[V, .slice (some ⟨g, 0, none⟩) 1 1]).run Tryd.prog w = .ok V' w' ∧ w'.ownsRow base 86 1 V' (k.length + 1) (k ++ [.pointer (some ⟨p, 0, none⟩)]) ∧ w.grownBy w' V.ownBlock := by
  obtain ⟨i0, hi, hz0, hz1, hz2⟩ := info_parts info_pf
  obtain ⟨V', w', hr, h1, h2, _, h4⟩ := run_append_own_at (P := Tryd.prog) w base 62 62 86 i0 (.pointer none) 1 8 (by kernel_rfl) hi hz0 hz1 hz2 rfl (by decide) V k.length k hown ⟨g, 0, none⟩ 1 1 [.pointer (some ⟨p, 0, none⟩)] (by simp)
    (fun j u hu => by
      cases j with
      | succ j => simp at hu
      | zero =>
        simp at hu
        subst hu
        exact cell_of_heap hg 0 _ rfl) (fun u hu => by
          obtain rfl := List.mem_singleton.1 hu
          rfl) (by simp only [maxLen]; omega) (by omega) hb
  exact ⟨V', w', hr, h1, h2⟩
theorem XM.push {me inq ouq : List Int} {w' : World} {V' : Value} (h : XM w0 w mb mp gv me inq ouq iv sv ov l) (x : Fb) (hf : FrS w0 w mb x) (hnb : ∀ y ∈ l, y.b ≠ x.b) (hnt : ∀ y ∈ l, y.t ≠ x.t) (ho : w'.ownsRow w0.heap.size 86 1 V' (l.length + 1) (l.map fP ++ [fP x])) (hg : w.grownBy w' sv.ownBlock) :
    XM w0 w' mb mp gv me inq ouq iv V' ov (l ++ [x]) := by
  have hk : ∀ (k : Nat) (cs : Array Value) (ty : TypeId), w.heap[k]? = some (.cells cs ty (0, 0)) → 86 ≠ ty → w'.heap[k]? = w.heap[k]? := fun k cs ty hc ht => hg.block k (Array.getElem?_eq_some_iff.1 hc).1 (Ne.symm (own_ne h.stk hc ht))
  have hob : ∀ g, sv.ownBlock = some g → w0.heap.size ≤ g ∧ ∃ cur, w.heap[g]? = some (.cells cur 86 (0, 0)) := by
    intro g hgo
    obtain ⟨_, h2⟩ := h.stk
    rcases h2 with ⟨rfl, hn⟩ | ⟨g', cap, cur, rfl, hB, hg', _⟩
    · simp [Value.ownBlock] at hgo
    · simp [Value.ownBlock] at hgo
      subst hgo
      exact ⟨hB, cur, hg'⟩
  have hfr : ∀ y, FrS w0 w mb y → FrS w0 w' mb y := fun y hy => ⟨(hk _ _ _ hy.fr (by decide)).trans hy.fr, hy.bB, (hk _ _ _ hy.sl (by decide)).trans hy.sl, hy.tB, hy.tm, hy.il, hy.ol, hy.rd⟩
  exact {
    b := ⟨hg.os.trans h.b.os, hg.tape.trans h.b.tape, hg.output.trans h.b.output, Nat.le_trans h.b.size hg.size, fun k hk' => (hg.block k (by have := h.b.size; omega) (fun e => by
      have := (hob k e.symm).1
      omega)).trans (h.b.block k hk')⟩
    mem := (hk _ _ _ h.mem (by decide)).trans h.mem
    ml := h.ml
    mB := h.mB
    mpk := h.mpk.of_block (hg.block _ h.mpk.lt (fun e => by
      obtain ⟨_, cur, hc⟩ := hob _ e.symm
      exact map_ne h.mpk hc rfl))
    inp := h.inp
    out := ownsRow_keep h.out fun g _ _ cur hc => hk _ _ _ hc (by decide)
    stk := by rw [List.length_append, List.length_singleton, List.map_append]; exact ho
    frs := fun y hy => by
      rcases List.mem_append.1 hy with hy | hy
      · exact hfr y (h.frs y hy)
      · rw [List.mem_singleton.1 hy]; exact hfr x hf
    nb := by
      rw [List.map_append, List.nodup_append]
      refine ⟨h.nb, by simp, fun a ha b hb => ?_⟩
      obtain ⟨y, hy, rfl⟩ := List.mem_map.1 ha
      simp at hb
      subst hb
      exact hnb y hy
    nt := by
      rw [List.map_append, List.nodup_append]
      refine ⟨h.nt, by simp, fun a ha b hb => ?_⟩
      obtain ⟨y, hy, rfl⟩ := List.mem_map.1 ha
      simp at hb
      subst hb
      exact hnt y hy }
set_option maxRecDepth 1000000 in
set_option maxHeartbeats 8000000 in
theorem enter_any (h : XS w0 w xb mb mp gv R iv sv ov l) (o : Ob) (C : Option Addr) (cap : Nat) (a0 a1 a2 a3 a4 a5 : Int) (hrd : RdL w0 C o.lines) (hsl : 0 ≤ o.slots ∧ o.slots ≤ 4096) (hfr : 0 ≤ o.frame ∧ o.frame ≤ 4096) (hsp : 0 ≤ R.sp ∧ R.sp ≤ 4096) (hl : l.length ≤ 1000) :
    Calls Tryd.prog 23 #[.pointer (some ⟨xb, 0, none⟩), obAgg o C cap, inAgg a0 a1 a2 a3 a4 a5] w fun e w' => e = .returned (.tuple #[]) ∧ ∃ sv' l', XS w0 w' xb mb mp gv (R.enter o [a0, a1, a2, a3, a4, a5]) iv sv' ov l' := by
  have b0 := heap_alloc_new w (obObj o C cap)
  have b1 := heap_alloc_new (w.alloc (obObj o C cap)) (inObj a0 a1 a2 a3 a4 a5)
  rw [show (w.alloc (obObj o C cap)).heap.size = w.heap.size + 1 by simp] at b1
  have hB0 : Below w.heap.size w ((w.alloc (obObj o C cap)).alloc (inObj a0 a1 a2 a3 a4 a5)) := (Below.one w _).alloc (by simp) _
  have b0 := alloc_keeps b0 (inObj a0 a1 a2 a3 a4 a5)
  have h1 := h.later hB0
  have hs2 : ((w.alloc (obObj o C cap)).alloc (inObj a0 a1 a2 a3 a4 a5)).heap.size = w.heap.size + 2 := by simp
  obtain ⟨N, hN⟩ : ∃ N, o.lines.length = N := ⟨_, rfl⟩
  simp only [obObj, inObj, obAgg, inAgg, hN] at b0 b1 hB0 h1 hs2 ⊢
  obtain ⟨W, hW⟩ : ∃ W, (w.alloc (.cells #[.string o.name, .int .i64 o.slots, .int .i64 o.frame, .slice C N cap] 39 (0, 0))).alloc (.cells #[.int .i64 a0, .int .i64 a1, .int .i64 a2, .int .i64 a3, .int .i64 a4, .int .i64 a5] 67 (0, 0)) = W := ⟨_, rfl⟩
  rw [hW] at b0 b1 hB0 h1 hs2
  have y0 := cell_of_heap b0 0 (.string o.name) rfl
  have y1 := cell_of_heap b0 1 (.int .i64 o.slots) rfl
  have y2 := cell_of_heap b0 2 (.int .i64 o.frame) rfl
  have y3 := cell_of_heap b0 3 (.slice C N cap) rfl
  have z0 := cell_of_heap b1 0 (.int .i64 a0) rfl
  have z1 := cell_of_heap b1 1 (.int .i64 a1) rfl
  have z2 := cell_of_heap b1 2 (.int .i64 a2) rfl
  have z3 := cell_of_heap b1 3 (.int .i64 a3) rfl
  have z4 := cell_of_heap b1 4 (.int .i64 a4) rfl
  have z5 := cell_of_heap b1 5 (.int .i64 a5) rfl
  obtain ⟨A, scap, rfl⟩ := stk_form h.M
  obtain ⟨n, hn⟩ : ∃ n, l.length = n := ⟨_, rfl⟩
  have HN := Lib.hid hN
  have HST : Hid (R.stack.length = n) := Lib.hid (by rw [h.st]; simp [hn])
  have HEN : Hid (R.enter o [a0, a1, a2, a3, a4, a5] = if 200 ≤ n ∨ 4096 < R.sp + o.frame then R.endd 3 0 else { R with stack := ⟨o, List.replicate o.slots.toNat 0, [a0, a1, a2, a3, a4, a5], zero6, R.sp, 0⟩ :: R.stack, sp := R.sp + o.frame }) := Lib.hid (by unfold Rn.enter; rw [HST.out])
  have g1 := h1.cell 1 (.slice (some ⟨mb, 0, none⟩) 4096 4096) (by rw [xL_lo 1 (by omega)]; rfl)
  have g10 := h1.c_hi 0 _ rfl
  have g13 := h1.c_hi 3 _ rfl
  have f10 := h1.free 10
  have f13 := h1.free 13
  rw [hn] at g13 hl
  have hw : wrap64 (R.sp + o.frame) = R.sp + o.frame := w64 (by omega)
  have HW := Lib.hid hw
  have hend := fun W' (hb : Below W.heap.size W W') => end_x (h1.later hb) 3 0
  have HX := Lib.hid h1
  have HB0 := Lib.hid b0
  have HB1 := Lib.hid b1
  have HEND := Lib.hid hend
  have hxl := (Array.getElem?_eq_some_iff.1 h1.x).1
  have hx1 := (Array.getElem?_eq_some_iff.1 h.x).1
  have hx2 : xb < w.heap.size + 2 := by omega
  have hx3 : xb < w.heap.size + 2 + 1 := by omega
  have hx4 : xb < w.heap.size + 2 + 1 + 1 := by omega
  clear h h1 hw hend b0 b1 hB0
  have hcase : (200 ≤ n ∧ decide ((n : Int) ≥ 200) = true ∧ decide (200 ≤ (n : Int)) = true) ∨ (n < 200 ∧ decide ((n : Int) ≥ 200) = false ∧ decide (200 ≤ (n : Int)) = false) := by
    simp only [decide_eq_true_eq, decide_eq_false_iff_not, ge_iff_le]
    omega
  have hcase2 : (4096 < R.sp + o.frame ∧ decide (wrap64 (R.sp + o.frame) > 4096) = true ∧ decide (4096 < wrap64 (R.sp + o.frame)) = true) ∨ (R.sp + o.frame ≤ 4096 ∧ decide (wrap64 (R.sp + o.frame) > 4096) = false ∧ decide (4096 < wrap64 (R.sp + o.frame)) = false) := by
    rw [HW.out]
    simp only [decide_eq_true_eq, decide_eq_false_iff_not, gt_iff_lt]
    omega
  rcases hcase with ⟨hc, q1, q2⟩ | ⟨hc, q1, q2⟩
  · have hE := HEN.out
    rw [if_pos (Or.inl hc)] at hE
    rw [hE]
    clear hE hcase2 HEN
    go_enter Tryd.func23, Tryd.ntmps23
    go_wp2
    go_region
    go_wp2_with (first
      | (go_at_call 25; refine (HEND.out _ (by first | exact (Below.refl _ _).drew | exact Below.refl _ _)).mono ?_; rintro e w7 ⟨rfl, hx7⟩))
    go_returns
    exact ⟨rfl, _, _, hx7⟩
  rcases hcase2 with ⟨hd, r1, r2⟩ | ⟨hd, r1, r2⟩
  · have hE := HEN.out
    rw [if_pos (Or.inr hd)] at hE
    rw [hE]
    clear hE HEN
    go_enter Tryd.func23, Tryd.ntmps23
    go_wp2
    go_region
    go_wp2_with (first
      | (go_at_call 25; refine (HEND.out _ (by first | exact (Below.refl _ _).drew | exact Below.refl _ _)).mono ?_; rintro e w7 ⟨rfl, hx7⟩))
    go_returns
    exact ⟨rfl, _, _, hx7⟩
  have hE := HEN.out
  rw [if_neg (by omega)] at hE
  rw [hE]
  obtain ⟨sn, hsn⟩ : ∃ sn : Nat, o.slots = sn := ⟨o.slots.toNat, by omega⟩
  have HSN := Lib.hid hsn
  rw [hsn] at y1 hsl
  clear hE HEN HEND hsn
  go_enter Tryd.func23, Tryd.ntmps23
  go_wp2
  go_region
  go_wp2
  clear q1 q2 r1 r2
  have hmk := fun W => make_regs sn (by omega) W
  have HSZ := Lib.hid hs2
  obtain ⟨O1, hO1⟩ : ∃ O1, Obj.cells (madeCells #[.int .i64 0] sn) 3 (0, 0) = O1 := ⟨_, rfl⟩
  obtain ⟨O2, hO2⟩ : ∃ O2, Obj.cells #[.string o.name, .int .i64 sn, .int .i64 o.frame, .slice C N cap, .slice (some ⟨w.heap.size + 2, 0, none⟩) sn sn, .int .i64 a0, .int .i64 a1, .int .i64 a2, .int .i64 a3, .int .i64 a4, .int .i64 a5, .int .i64 0, .int .i64 0, .int .i64 0, .int .i64 0, .int .i64 0, .int .i64 0, .int .i64 R.sp, .int .i64 0] 88 (0, 0) = O2 := ⟨_, rfl⟩
  have hBx : Below W.heap.size W (((W.alloc O1).alloc O2).alloc (.cells #[.pointer (some ⟨w.heap.size + 2 + 1, 0, none⟩)] 86 (0, 0))) := ((Below.one W O1).alloc (by simp) _).alloc (by simp; omega) _
  have k1 := heap_alloc_new W O1
  have k2 := heap_alloc_new (W.alloc O1) O2
  have k3 := heap_alloc_new ((W.alloc O1).alloc O2) (.cells #[.pointer (some ⟨w.heap.size + 2 + 1, 0, none⟩)] 86 (0, 0))
  have k1 := alloc_keeps (alloc_keeps k1 O2) (.cells #[.pointer (some ⟨w.heap.size + 2 + 1, 0, none⟩)] 86 (0, 0))
  have k2 := alloc_keeps k2 (.cells #[.pointer (some ⟨w.heap.size + 2 + 1, 0, none⟩)] 86 (0, 0))
  rw [show (W.alloc O1).heap.size = w.heap.size + 2 + 1 by simp [hs2]] at k2
  rw [show ((W.alloc O1).alloc O2).heap.size = w.heap.size + 2 + 1 + 1 by simp [hs2]] at k3
  rw [hs2] at k1
  have hXx := (HX.out.later hBx).drew.drew
  have hown := hXx.M.stk
  have hap := run_append_p ((((W.alloc O1).alloc O2).alloc (.cells #[.pointer (some ⟨w.heap.size + 2 + 1, 0, none⟩)] 86 (0, 0))).drew.drew) w0.heap.size _ (l.map fP) (by simpa using hown) (w.heap.size + 2 + 1 + 1) (w.heap.size + 2 + 1) k3 (by simp; omega) (by have := hXx.M.b.size; exact this)
  obtain ⟨V', w9, hap, ho9, hg9⟩ := hap
  rw [List.length_map] at ho9
  have hFS : FrS w0 ((((W.alloc O1).alloc O2).alloc (.cells #[.pointer (some ⟨w.heap.size + 2 + 1, 0, none⟩)] 86 (0, 0))).drew.drew) mb ⟨⟨o, List.replicate sn 0, [a0, a1, a2, a3, a4, a5], zero6, R.sp, 0⟩, w.heap.size + 2 + 1, w.heap.size + 2, C, cap⟩ := {
    fr := k2.trans (by rw [← hO2]; simp [fL, zero6, HN.out, HSN.out])
    bB := by have := HX.out.M.b.size; show w0.heap.size ≤ w.heap.size + 2 + 1; omega
    sl := k1.trans (by rw [← hO1]; exact congrArg some (made_regs sn))
    tB := by have := HX.out.M.b.size; show w0.heap.size ≤ w.heap.size + 2; omega
    tm := by have := (Array.getElem?_eq_some_iff.1 HX.out.M.mem).1; show w.heap.size + 2 ≠ mb; omega
    il := rfl
    ol := rfl
    rd := hrd }
  have hM9 := hXx.M.push _ hFS (fun y hy => by
    have := (Array.getElem?_eq_some_iff.1 (HX.out.M.frs y hy).fr).1
    show y.b ≠ w.heap.size + 2 + 1
    omega) (fun y hy => by
    have := (Array.getElem?_eq_some_iff.1 (HX.out.M.frs y hy).sl).1
    show y.t ≠ w.heap.size + 2
    omega) (by rw [hn]; rw [hn] at ho9; exact ho9) hg9
  obtain ⟨A9, cap9, hV9⟩ := stk_form hM9
  rw [List.length_append, List.length_singleton, hn] at hV9
  subst hV9
  have hxx : w9.heap[xb]? = some (xO R mp mb iv (.slice A l.length scap) ov) := (hg9.block xb (Array.getElem?_eq_some_iff.1 hXx.x).1 (Ne.symm (own_ne hXx.M.stk hXx.x (by decide)))).trans hXx.x
  have b0' := (hBx.block _ (Array.getElem?_eq_some_iff.1 HB0.out).1).trans HB0.out
  have hbb : w9.heap[w.heap.size]? = _ := (hg9.block _ (Array.getElem?_eq_some_iff.1 b0').1 (Ne.symm (own_ne hXx.M.stk b0' (by decide)))).trans b0'
  have b1x := (hBx.block _ (Array.getElem?_eq_some_iff.1 HB1.out).1).trans HB1.out
  have hbi : w9.heap[w.heap.size + 1]? = _ := (hg9.block _ (Array.getElem?_eq_some_iff.1 b1x).1 (Ne.symm (own_ne hXx.M.stk b1x (by decide)))).trans b1x
  have hS9 : XS w0 (w9.setCell ⟨xb, 13, none⟩ (.slice A9 (n + 1) cap9)) xb mb mp gv { R with stack := ⟨o, List.replicate sn 0, [a0, a1, a2, a3, a4, a5], zero6, R.sp, 0⟩ :: R.stack } iv (.slice A9 (n + 1) cap9) ov (l ++ [⟨⟨o, List.replicate sn 0, [a0, a1, a2, a3, a4, a5], zero6, R.sp, 0⟩, w.heap.size + 2 + 1, w.heap.size + 2, C, cap⟩]) := {
    x := by rw [heap_setCell hxx, List.setIfInBounds_toArray, xL_set_hi HX.out.rl 3 (.slice A9 (n + 1) cap9) (R' := { R with stack := ⟨o, List.replicate sn 0, [a0, a1, a2, a3, a4, a5], zero6, R.sp, 0⟩ :: R.stack }) (iv' := iv) (sv' := .slice A9 (n + 1) cap9) (ov' := ov) rfl rfl]
    xB := HX.out.xB
    rl := HX.out.rl
    st := by simp [HX.out.st]
    M := hM9.other hxx HX.out.xB (by decide) (by decide) (by decide) (by decide) _ _ }
  have hS10 := hS9.set_hi 0 (.int .i64 (R.sp + o.frame)) (R' := { R with stack := ⟨o, List.replicate sn 0, [a0, a1, a2, a3, a4, a5], zero6, R.sp, 0⟩ :: R.stack, sp := R.sp + o.frame }) rfl rfl rfl rfl rfl rfl
  have hE2 : o.slots.toNat = sn := by rw [HSN.out]; rfl
  have HE2 := Lib.hid hE2
  have HS10 := Lib.hid hS10
  have u13 := cell_of_heap hxx 13 (.slice A l.length scap) (by rw [List.getElem?_toArray]; exact xL_hi HX.out.rl 3)
  have u10 := cell_of_heap hxx 10 (.int .i64 R.sp) (by rw [List.getElem?_toArray]; exact xL_hi HX.out.rl 0)
  have v13 := free_of_heap hxx 13
  have v10 := free_of_heap hxx 10
  have HBB := Lib.hid hbb
  have HBI := Lib.hid hbi
  have u2 := cell_of_heap hbb 2 (.int .i64 o.frame) rfl
  rw [hn] at hap u13
  clear hM9 hFS hS9 hS10 ho9 hg9 hown hXx k1 k2 k3 hBx hbb b0' hxx hE2
  refine wp_region_noPanic ?_
  have HMK := Lib.hid hmk
  have HO1 := Lib.hid hO1
  have HO2 := Lib.hid hO2
  have G13 := Lib.hid g13
  have HAP := Lib.hid hap
  have U13 := Lib.hid u13
  have U10 := Lib.hid u10
  have V13 := Lib.hid v13
  have V10 := Lib.hid v10
  have U2 := Lib.hid u2
  have G10 := Lib.hid g10
  clear hmk hO1 hO2 g13 g10
  refine wp_region_grown 20 (Mk3 14 8 W.drew.drew w9 17 [.pointer (some ⟨xb, 0, none⟩), .pointer (some ⟨xb, 0, none⟩), .pointer (some ⟨xb, 0, none⟩), .pointer (some ⟨xb, 13, none⟩), .slice A n scap, .agg #[.string o.name, .int .i64 sn, .int .i64 o.frame, .slice C N cap], .pointer (some ⟨w.heap.size, 1, none⟩), .int .i64 sn, .slice (some ⟨w.heap.size + 2, 0, none⟩) sn sn, .agg #[.int .i64 a0, .int .i64 a1, .int .i64 a2, .int .i64 a3, .int .i64 a4, .int .i64 a5], .pointer (some ⟨xb, 0, none⟩), .pointer (some ⟨xb, 0, none⟩), .pointer (some ⟨xb, 10, none⟩), .int .i64 R.sp, .agg #[.string o.name, .int .i64 sn, .int .i64 o.frame, .slice C N cap, .slice (some ⟨w.heap.size + 2, 0, none⟩) sn sn, .int .i64 a0, .int .i64 a1, .int .i64 a2, .int .i64 a3, .int .i64 a4, .int .i64 a5, .int .i64 0, .int .i64 0, .int .i64 0, .int .i64 0, .int .i64 0, .int .i64 0, .int .i64 R.sp, .int .i64 0], .pointer (some ⟨w.heap.size + 2 + 1, 0, none⟩), .slice (some ⟨w.heap.size + 2 + 1 + 1, 0, none⟩) 1 1, .slice A9 (n + 1) cap9, .pointer (some ⟨xb, 0, none⟩), .pointer (some ⟨xb, 13, none⟩)] [8, 15, 16] [O1, O2, .cells #[.pointer (some ⟨w.heap.size + 2 + 1, 0, none⟩)] 86 (0, 0)]) (by kernel_rfl) (by kernel_rfl) ?_ ?_ ?_
  · exact ⟨⟨(fun i v h => by cases h), Or.inl ⟨rfl, 0, (by simp), rfl, (fun j i hj => by simp)⟩⟩, (fun h => by cases h)⟩
  · intro i op s wr hi ho hI0 hsi hdep
    obtain ⟨hI, H8⟩ := hI0
    have hI0 : Mk3 14 8 _ _ _ _ _ _ s wr := ⟨hI, H8⟩
    have c39 : wr.heap[w.heap.size]? = some (.cells #[.string o.name, .int .i64 o.slots, .int .i64 o.frame, .slice C N cap] 39 (0, 0)) := by
      rcases hI.below with hb | hb
      · exact ((((Below.refl _ W).drew.drew).trans hb).block _ (Array.getElem?_eq_some_iff.1 HB0.out).1).trans HB0.out
      · rw [hb]; exact HBB.out
    have c67 : wr.heap[w.heap.size + 1]? = some (.cells #[.int .i64 a0, .int .i64 a1, .int .i64 a2, .int .i64 a3, .int .i64 a4, .int .i64 a5] 67 (0, 0)) := by
      rcases hI.below with hb | hb
      · exact ((((Below.refl _ W).drew.drew).trans hb).block _ (Array.getElem?_eq_some_iff.1 HB1.out).1).trans HB1.out
      · rw [hb]; exact HBI.out
    have cx : ∀ (j : Nat) (v : Value), W.cell? ⟨xb, j, none⟩ = some v → w9.cell? ⟨xb, j, none⟩ = some v → wr.cell? ⟨xb, j, none⟩ = some v := fun j v h1 h2 => by
      rcases hI.below with hb | hb
      · exact ((((Below.refl _ W).drew.drew).trans hb).cell (p := ⟨xb, j, none⟩) hxl).trans h1
      · rw [hb]; exact h2
    rw [show o.slots = (sn : Int) from HSN.out] at c39
    rcases (by omega : i = 0 ∨ i = 1 ∨ i = 2 ∨ i = 3 ∨ i = 4 ∨ i = 5 ∨ i = 6 ∨ i = 7 ∨ i = 8 ∨ i = 9 ∨ i = 10 ∨ i = 11 ∨ i = 12 ∨ i = 13 ∨ i = 14 ∨ i = 15 ∨ i = 16 ∨ i = 17 ∨ i = 18 ∨ i = 19) with rfl | rfl | rfl | rfl | rfl | rfl | rfl | rfl | rfl | rfl | rfl | rfl | rfl | rfl | rfl | rfl | rfl | rfl | rfl | rfl
    all_goals (simp only [List.getElem?_cons_zero, List.getElem?_cons_succ] at ho; obtain rfl := Option.some.inj ho)
    · exact Or.inl ⟨_, _, (runT_move (.tmp 0) rfl).trans (by rw [evalT_old (by kernel_rfl)]; rfl), hI0.next 0 _ (hI.step 0 _ rfl (by decide) (by decide)) (Or.inl (by decide))⟩
    · exact Or.inl ⟨_, _, (runT_move (.tmp 0) rfl).trans (by rw [evalT_old (by kernel_rfl)]; rfl), hI0.next 1 _ (hI.step 1 _ rfl (by decide) (by decide)) (Or.inl (by decide))⟩
    · exact Or.inl ⟨_, _, nilT (.tmp 30) rfl _ (evalT_told 1 (by kernel_rfl) (hI.told rfl (hdep ⟨1, .data⟩ (by simp) rfl))), hI0.next 2 _ (hI.step 2 _ rfl (by decide) (by decide)) (Or.inl (by decide))⟩
    · exact Or.inl ⟨_, _, fldT _ 6 (.tmp 31) rfl _ (evalT_told 2 (by kernel_rfl) (hI.told rfl (hdep ⟨2, .data⟩ (by simp) rfl))) (fa_13 _ _), hI0.next 3 _ (hI.step 3 _ rfl (by decide) (by decide)) (Or.inl (by decide))⟩
    · exact Or.inl ⟨_, _, ldT _ (.tmp 32) rfl _ _ (evalT_told 3 (by kernel_rfl) (hI.told rfl (hdep ⟨3, .data⟩ (by simp) rfl))) (cx _ _ G13.out u13) (na62 _), hI0.next 4 _ (hI.step 4 _ rfl (by decide) (by decide)) (Or.inl (by decide))⟩
    · exact Or.inl ⟨_, _, runT_load _ (.tmp 4) rfl _ (by rw [evalT_old (by kernel_rfl)]; rfl) _ _ _ _ c39 dOb rfl dsOb, hI0.next 5 _ (hI.step 5 _ rfl (by decide) (by decide)) (Or.inl (by decide))⟩
    · exact Or.inl ⟨_, _, fldT _ 1 (.tmp 4) rfl _ (by rw [evalT_old (by kernel_rfl)]; rfl) (fa_o1 _ _), hI0.next 6 _ (hI.step 6 _ rfl (by decide) (by decide)) (Or.inl (by decide))⟩
    · exact Or.inl ⟨_, _, ldT _ (.tmp 35) rfl _ _ (evalT_told 6 (by kernel_rfl) (hI.told rfl (hdep ⟨6, .data⟩ (by simp) rfl))) (cell_of_heap c39 1 _ rfl) (na3 _), hI0.next 7 _ (hI.step 7 _ rfl (by decide) (by decide)) (Or.inl (by decide))⟩
    · obtain ⟨hz, hM⟩ := hI.make 0 8 _ O1 rfl rfl rfl (by decide) (by decide) hsi (fun j hj => by omega)
      have hzz : wr.heap.size = w.heap.size + 2 := by rw [hz]; exact HSZ.out
      refine Or.inl ⟨_, _, mkT _ (.tmp 36) (.tmp 36) rfl _ _ (evalT_told 7 (by kernel_rfl) (hI.told rfl (hdep ⟨7, .data⟩ (by simp) rfl))) (evalT_told 7 (by kernel_rfl) (hI.told rfl (hdep ⟨7, .data⟩ (by simp) rfl))) (HMK.out wr), ?_⟩
      rw [hzz, HO1.out]
      exact hI0.next 8 _ hM (Or.inl (by decide))
    · exact Or.inl ⟨_, _, runT_load _ (.tmp 5) rfl _ (by rw [evalT_old (by kernel_rfl)]; rfl) _ _ _ _ c67 dAr rfl dsAr, hI0.next 9 _ (hI.step 9 _ rfl (by decide) (by decide)) (Or.inl (by decide))⟩
    · exact Or.inl ⟨_, _, (runT_move (.tmp 0) rfl).trans (by rw [evalT_old (by kernel_rfl)]; rfl), hI0.next 10 _ (hI.step 10 _ rfl (by decide) (by decide)) (Or.inl (by decide))⟩
    · exact Or.inl ⟨_, _, nilT (.tmp 39) rfl _ (evalT_told 10 (by kernel_rfl) (hI.told rfl (hdep ⟨10, .data⟩ (by simp) rfl))), hI0.next 11 _ (hI.step 11 _ rfl (by decide) (by decide)) (Or.inl (by decide))⟩
    · exact Or.inl ⟨_, _, fldT _ 3 (.tmp 40) rfl _ (evalT_told 11 (by kernel_rfl) (hI.told rfl (hdep ⟨11, .data⟩ (by simp) rfl))) (fa_10 _ _), hI0.next 12 _ (hI.step 12 _ rfl (by decide) (by decide)) (Or.inl (by decide))⟩
    · exact Or.inl ⟨_, _, ldT _ (.tmp 41) rfl _ _ (evalT_told 12 (by kernel_rfl) (hI.told rfl (hdep ⟨12, .data⟩ (by simp) rfl))) (cx _ _ G10.out u10) (na3 _), hI0.next 13 _ (hI.step 13 _ rfl (by decide) (by decide)) (Or.inl (by decide))⟩
    · refine Or.inl ⟨_, _, bldT _ _ rfl _ ?_ (bld_fr wr o.name sn o.frame C N cap (w.heap.size + 2) sn a0 a1 a2 a3 a4 a5 R.sp), hI0.next 14 _ (hI.step 14 _ rfl (by decide) (by decide)) (Or.inr (hdep ⟨8, .data⟩ (by simp) rfl))⟩
      simp only [List.map_toArray, List.map_cons, List.map_nil]
      rw [evalT_told 5 (by kernel_rfl) (hI.told rfl (hdep ⟨5, .data⟩ (by simp) rfl)), evalT_told 8 (by kernel_rfl) (hI.told rfl (hdep ⟨8, .data⟩ (by simp) rfl)), evalT_told 9 (by kernel_rfl) (hI.told rfl (hdep ⟨9, .data⟩ (by simp) rfl)), evalT_told 13 (by kernel_rfl) (hI.told rfl (hdep ⟨13, .data⟩ (by simp) rfl))]
    · obtain ⟨hz, hM⟩ := hI.make 1 15 _ O2 rfl rfl rfl (by decide) (by decide) hsi (fun j hj => by
        obtain rfl : j = 0 := by omega
        exact ⟨8, rfl, H8 (hdep ⟨14, .data⟩ (by simp) rfl)⟩)
      have hzz : wr.heap.size = w.heap.size + 2 + 1 := by rw [hz]; exact congrArg (· + 1) HSZ.out
      refine Or.inl ⟨_, _, boxT _ (.tmp 43) rfl _ (evalT_told 14 (by kernel_rfl) (hI.told rfl (hdep ⟨14, .data⟩ (by simp) rfl))) (box_fr _ _ _ _ _ _ _ _ _ _ _ _ _ _ _ _), ?_⟩
      rw [hzz, HO2.out]
      exact hI0.next 15 _ hM (Or.inl (by decide))
    · obtain ⟨hz, hM⟩ := hI.make 2 16 _ _ rfl rfl rfl (by decide) (by decide) hsi (fun j hj => by
        obtain rfl : j = 1 := by omega
        exact ⟨15, rfl, hdep ⟨15, .data⟩ (by simp) rfl⟩)
      have hzz : wr.heap.size = w.heap.size + 2 + 1 + 1 := by rw [hz]; exact congrArg (· + 2) HSZ.out
      refine Or.inl ⟨_, _, bslT _ 1 _ rfl _ ?_ (bsl_p wr (w.heap.size + 2 + 1)), ?_⟩
      · simp only [List.map_toArray, List.map_cons, List.map_nil]
        rw [evalT_told 15 (by kernel_rfl) (hI.told rfl (hdep ⟨15, .data⟩ (by simp) rfl))]
      · rw [hzz]
        exact hI0.next 16 _ hM (Or.inl (by decide))
    · have hwr := hI.full hsi 2 16 rfl rfl (hdep ⟨16, .data⟩ (by simp) rfl)
      have hap2 := HAP.out
      rw [show (((W.alloc O1).alloc O2).alloc (.cells #[.pointer (some ⟨w.heap.size + 2 + 1, 0, none⟩)] 86 (0, 0))).drew.drew = wr from by rw [hwr]; rfl] at hap2
      exact Or.inl ⟨_, _, appT _ (.tmp 33) (.tmp 45) rfl _ _ (evalT_told 4 (by kernel_rfl) (hI.told rfl (hdep ⟨4, .data⟩ (by simp) rfl))) (evalT_told 16 (by kernel_rfl) (hI.told rfl (hdep ⟨16, .data⟩ (by simp) rfl))) hap2, hI0.next 17 _ (hI.last _ rfl hsi rfl (fun k i hk hk2 => by
        obtain rfl : k = 2 := by simpa using hk2
        injection hk with hk
        subst hk
        exact hdep ⟨16, .data⟩ (by simp) rfl) (by simp)) (Or.inl (by decide))⟩
    · exact Or.inl ⟨_, _, nilT (.tmp 29) rfl _ (evalT_told 0 (by kernel_rfl) (hI.told rfl (hdep ⟨0, .data⟩ (by simp) rfl))), hI0.next 18 _ (hI.step 18 _ rfl (by decide) (by decide)) (Or.inl (by decide))⟩
    · exact Or.inl ⟨_, _, fldT _ 6 (.tmp 47) rfl _ (evalT_told 18 (by kernel_rfl) (hI.told rfl (hdep ⟨18, .data⟩ (by simp) rfl))) (fa_13 _ _), hI0.next 19 _ (hI.step 19 _ rfl (by decide) (by decide)) (Or.inl (by decide))⟩
  · intro s wr hI0 hsome
    obtain ⟨hI, _⟩ := hI0
    have hwr : wr = w9 := by
      rcases hI.w with ⟨h0, _⟩ | ⟨_, h2, _⟩
      · have := hsome 17 (by omega)
        rw [h0] at this
        cases this
      · exact h2
    have e0 := hI.told (j := 0) rfl (hsome 0 (by omega))
    have e1 := hI.told (j := 1) rfl (hsome 1 (by omega))
    have e2 := hI.told (j := 2) rfl (hsome 2 (by omega))
    have e3 := hI.told (j := 3) rfl (hsome 3 (by omega))
    have e4 := hI.told (j := 4) rfl (hsome 4 (by omega))
    have e5 := hI.told (j := 5) rfl (hsome 5 (by omega))
    have e6 := hI.told (j := 6) rfl (hsome 6 (by omega))
    have e7 := hI.told (j := 7) rfl (hsome 7 (by omega))
    have e8 := hI.told (j := 8) rfl (hsome 8 (by omega))
    have e9 := hI.told (j := 9) rfl (hsome 9 (by omega))
    have e10 := hI.told (j := 10) rfl (hsome 10 (by omega))
    have e11 := hI.told (j := 11) rfl (hsome 11 (by omega))
    have e12 := hI.told (j := 12) rfl (hsome 12 (by omega))
    have e13 := hI.told (j := 13) rfl (hsome 13 (by omega))
    have e14 := hI.told (j := 14) rfl (hsome 14 (by omega))
    have e15 := hI.told (j := 15) rfl (hsome 15 (by omega))
    have e16 := hI.told (j := 16) rfl (hsome 16 (by omega))
    have e17 := hI.told (j := 17) rfl (hsome 17 (by omega))
    have e18 := hI.told (j := 18) rfl (hsome 18 (by omega))
    have e19 := hI.told (j := 19) rfl (hsome 19 (by omega))
    rw [hwr]
    simp only [List.take_succ_cons, List.take_zero, List.drop_succ_cons, List.drop_zero, putsT, e0, e1, e2, e3, e4, e5, e6, e7, e8, e9, e10, e11, e12, e13, e14, e15, e16, e17, e18, e19, Option.getD_some]
    clear hI hsome e0 e1 e2 e3 e4 e5 e6 e7 e8 e9 e10 e11 e12 e13 e14 e15 e16 e17 e18 e19 hwr
    go_frame
    have u13 := U13.out
    have u10 := U10.out
    have v13 := V13.out
    have v10 := V10.out
    have u2 := U2.out
    go_wp2_with fail
    refine NoPanic.normal ?_
    go_wp2
    go_region
    go_wp2
    go_returns
    exact ⟨rfl, .slice A9 (n + 1) cap9, _, by rw [HE2.out]; first | exact HS10.out.drew | (rw [HW.out]; exact HS10.out.drew)⟩
end
end Go.Proofs.YtihbgppcacaekaaDoor
