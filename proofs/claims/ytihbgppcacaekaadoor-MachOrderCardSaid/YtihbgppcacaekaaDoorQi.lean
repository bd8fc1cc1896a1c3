import Derived.Test.YtihbgppcacaekaaDoorQh
import Derived.Test.YtihbgppcacaekaaDoorWc
/- touch, end, back, reckon: what they do to a run. -/
namespace Go.Proofs.YtihbgppcacaekaaDoor
open Go.RowKit Go.BigFrame
variable {w0 w : World} {xb mb mp : Nat} {gv : ByteArray → Option Value} {R : Rn} {iv sv ov : Value} {l : List Fb}

theorem XS.drew (h : XS w0 w xb mb mp gv R iv sv ov l) : XS w0 w.drew xb mb mp gv R iv sv ov l := h.later (Below.refl _ _).drew
theorem end_x (h : XS w0 w xb mb mp gv R iv sv ov l) (how code : Int) : Calls Tryd.prog 25 #[.pointer (some ⟨xb, 0, none⟩), .int .i64 how, .int .i64 code] w fun e w' => e = .returned (.tuple #[]) ∧ XS w0 w' xb mb mp gv (R.endd how code) iv sv ov l := by
  have g14 := h.c_hi 4 _ rfl
  have g15 := h.c_hi 5 _ rfl
  have g16 := h.c_hi 6 _ rfl
  have f14 := h.free 14
  have f15 := h.free 15
  have f16 := h.free 16
  have HX := Lib.hid h
  clear h
  go_enter Tryd.func25, Tryd.ntmps25
  go_wp2
  go_returns
  refine ⟨rfl, ?_⟩
  have h1 := HX.out.set_hi 4 (.bool true) (R' := { R with over := true }) rfl rfl rfl rfl rfl rfl
  have h2 := h1.set_hi 5 (.int .i64 how) (R' := { R with over := true, how := how }) rfl rfl rfl rfl rfl rfl
  exact h2.set_hi 6 (.int .i64 code) (R' := R.endd how code) rfl rfl rfl rfl rfl rfl
theorem XM.set_mem {me inq ouq : List Int} (h : XM w0 w mb mp gv me inq ouq iv sv ov l) (n : Nat) (v : Int) : XM w0 (w.setCell ⟨mb, n, none⟩ (.int .i64 v)) mb mp gv (me.set n v) inq ouq iv sv ov l where
  b := h.b.setCell h.mB _
  mem := regs_set h.mem n v
  ml := by simp [h.ml]
  mB := h.mB
  mpk := h.mpk.of_block (heap_setCell_other w ⟨mb, n, none⟩ mp _ (map_ne h.mpk h.mem))
  inp := h.inp
  out := ownsRow_keep h.out fun g _ hg cur hcu => heap_setCell_other w ⟨mb, n, none⟩ g _ (ty_ne hcu h.mem (by decide))
  stk := ownsRow_keep h.stk fun g _ hg cur hcu => heap_setCell_other w ⟨mb, n, none⟩ g _ (ty_ne hcu h.mem (by decide))
  frs := fun x hx => by
    obtain ⟨q1, q2, q3, q4, q5, q6, q7, q8⟩ := h.frs x hx
    exact ⟨(heap_setCell_other w ⟨mb, n, none⟩ x.b _ (ty_ne q1 h.mem (by decide))).trans q1, q2, (heap_setCell_other w ⟨mb, n, none⟩ x.t _ q5).trans q3, q4, q5, q6, q7, q8⟩
  nb := h.nb
  nt := h.nt
theorem XS.set_mem (h : XS w0 w xb mb mp gv R iv sv ov l) (n : Nat) (v : Int) : XS w0 (w.setCell ⟨mb, n, none⟩ (.int .i64 v)) xb mb mp gv { R with mem := R.mem.set n v } iv sv ov l :=
  ⟨(heap_setCell_other w ⟨mb, n, none⟩ xb _ (ty_ne h.x h.M.mem (by decide))).trans h.x, h.xB, h.rl, h.st, h.M.set_mem n v⟩
theorem rg_get (R : Rn) (r : Nat) : R.rg (r : Int) = R.reg.getD r 0 := rfl
set_option maxRecDepth 1000000 in
set_option maxHeartbeats 4000000 in
theorem touch_any (h : XS w0 w xb mb mp gv R iv sv ov l) (i : Ln) (ra : Nat) (ha : i.a = ra) (hra : ra < 8) (hop : (i.op = 6 ∧ ∃ r : Nat, i.r = r ∧ r < 8) ∨ (i.op = 7 ∧ ∃ r : Nat, i.b = r ∧ r < 8)) :
    Calls Tryd.prog 42 #[.pointer (some ⟨xb, 0, none⟩), i.agg] w fun e w' => e = .returned (.tuple #[]) ∧ XS w0 w' xb mb mp gv (R.touch i) iv sv ov l := by
  have hB := Below.one w i.obj
  have b0 := heap_alloc_new w i.obj
  have h1 := h.later hB
  simp only [Ln.obj] at hB b0 h1
  obtain ⟨W, hW⟩ : ∃ W, w.alloc (.cells #[.int .i64 i.op, .int .i64 i.r, .int .i64 i.a, .int .i64 i.b, .int .i64 i.n, .string i.text] 36 (0, 0)) = W := ⟨_, rfl⟩
  rw [hW] at hB b0 h1
  have x2 := cell_of_heap b0 2 (.int .i64 i.a) rfl
  rw [ha] at x2
  have c1 := h1.c_reg hra
  obtain ⟨av, hav⟩ : ∃ av, R.reg.getD ra 0 = av := ⟨_, rfl⟩
  rw [hav] at c1
  have hpl := fun W => plain_any av W
  obtain ⟨cl, hcl⟩ : ∃ cl, pl av = cl := ⟨_, rfl⟩
  simp only [hcl] at hpl
  have hclb : 0 ≤ cl := by rw [← hcl]; exact (pl_bd av).1
  have HT : Hid (R.touch i = if cl < 1 ∨ 4096 ≤ cl then R.endd 2 1 else if i.op = 6 then R.setr i.r (R.mem.getD cl.toNat 0) else { R with mem := R.mem.set cl.toNat (R.rg i.b) }) := Lib.hid (by
    unfold Rn.touch
    rw [ha, rg_get, hav, hcl])
  have hend := fun W' (hb : Below W.heap.size W W') => end_x (h1.later hb) 2 1
  have m1 := h1.cell 1 (.slice (some ⟨mb, 0, none⟩) 4096 4096) (by rw [xL_lo 1 (by omega)]; rfl)
  have HX := Lib.hid h1
  simp only [Ln.agg, ha]
  rw [ha] at hW
  have hc : (cl < 1 ∧ decide (cl < 1) = true) ∨ (4096 ≤ cl ∧ decide (cl < 1) = false ∧ decide (cl ≥ 4096) = true ∧ decide (4096 ≤ cl) = true) ∨ ((1 ≤ cl ∧ cl < 4096) ∧ decide (cl < 1) = false ∧ decide (cl ≥ 4096) = false ∧ decide (4096 ≤ cl) = false) := by
    simp only [decide_eq_true_eq, decide_eq_false_iff_not, ge_iff_le]
    omega
  clear hB h1 h hav hcl
  rcases hc with ⟨hc, q1⟩ | ⟨hc, q1, q2, q3⟩ | ⟨hc, q1, q2, q3⟩
  iterate 2
    · have hT := HT.out
      rw [if_pos (by omega)] at hT
      rw [hT]
      clear hT hc b0 HT
      go_enter Tryd.func42, Tryd.ntmps42
      go_wp2
      go_region_with (first
        | (go_at_call 58; refine (hpl _).mono ?_; rintro e w6 ⟨rfl, hw6⟩; subst hw6))
      go_wp2_with (first
        | (go_at_call 25; refine (hend _ (by first | exact (Below.refl _ _).drew | exact Below.refl _ _)).mono ?_; rintro e w7 ⟨rfl, hw7⟩))
      go_returns
      exact ⟨rfl, hw7⟩
  obtain ⟨n, rfl⟩ : ∃ n : Nat, cl = n := ⟨cl.toNat, by omega⟩
  have hn1 : 1 ≤ n := by omega
  have hn : n < 4096 := by omega
  have hT := HT.out
  rw [if_neg (by omega)] at hT
  have hmb := HX.out.M.mem
  have hml := HX.out.M.ml
  clear HT hend
  rcases hop with ⟨hop, r, hr, hr8⟩ | ⟨hop, r, hr, hr8⟩
  · rw [if_pos hop, hr] at hT
    rw [hT]
    clear hT
    have x0 := cell_of_heap b0 0 (.int .i64 i.op) rfl
    have x1 := cell_of_heap b0 1 (.int .i64 i.r) rfl
    rw [hop] at x0
    rw [hr] at x1
    have m2 := regs_cell hmb (r := n) (by rw [hml]; exact hn)
    have c2 := HX.out.c_reg hr8
    have f2 := HX.out.free (2 + r)
    obtain ⟨mv, hmv⟩ : ∃ mv, R.mem.getD n 0 = mv := ⟨_, rfl⟩
    rw [hmv] at m2
    have HMV := Lib.hid hmv
    clear hmv hmb hml b0 hc
    rw [hop, hr] at hW
    simp only [hop, hr]
    go_enter Tryd.func42, Tryd.ntmps42
    go_wp2
    go_region_with (first
      | (go_at_call 58; refine (hpl _).mono ?_; rintro e w6 ⟨rfl, hw6⟩; subst hw6))
    go_wp2
    go_region
    go_wp2
    go_returns
    refine ⟨rfl, ?_⟩
    have hX := (HX.out.set_reg hr8 mv).drew.drew
    rw [← HMV.out] at hX ⊢
    exact hX
  · rw [if_neg (by omega), hr] at hT
    rw [hT]
    clear hT
    have x0 := cell_of_heap b0 0 (.int .i64 i.op) rfl
    have x3 := cell_of_heap b0 3 (.int .i64 i.b) rfl
    rw [hop] at x0
    rw [hr] at x3
    have m2 := regs_cell hmb (r := n) (by rw [hml]; exact hn)
    have c2 := HX.out.c_reg hr8
    have f2 := free_of_heap hmb n
    obtain ⟨mv, hmv⟩ : ∃ mv, R.mem.getD n 0 = mv := ⟨_, rfl⟩
    rw [hmv] at m2
    obtain ⟨bv, hbv⟩ : ∃ bv, R.reg.getD r 0 = bv := ⟨_, rfl⟩
    rw [hbv] at c2
    have HBV := Lib.hid hbv
    clear hmv hbv hmb hml b0 hc
    rw [hop, hr] at hW
    simp only [hop, hr]
    go_enter Tryd.func42, Tryd.ntmps42
    go_wp2
    go_region_with (first
      | (go_at_call 58; refine (hpl _).mono ?_; rintro e w6 ⟨rfl, hw6⟩; subst hw6))
    go_wp2
    go_region
    go_wp2
    go_returns
    refine ⟨rfl, ?_⟩
    have hX := (HX.out.set_mem n bv).drew.drew
    rw [← HBV.out] at hX ⊢
    exact hX
end Go.Proofs.YtihbgppcacaekaaDoor
