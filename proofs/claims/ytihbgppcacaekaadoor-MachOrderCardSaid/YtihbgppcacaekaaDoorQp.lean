import Derived.Test.YtihbgppcacaekaaDoorQn
/- step at putc. -/
namespace Go.Proofs.YtihbgppcacaekaaDoor
open Go.RowKit Go.BigFrame
section
variable {ρ : Operand → Value} {o : Oper} {w w' : World} {r : Value}
theorem idxT (t : Nat) (x y : Operand) (ho : o.op = .indexAddr t x y) (v u : Value) (hx : ρ x = v) (hy : ρ y = u) (h : (Instr.indexAt t v u).run Tryd.prog w = .ok r w) : (execOp ρ o).run Tryd.prog w = .ok (.value r) w := by
  unfold execOp
  simp only [ho, hx, hy, Sem.run_bind, h, Result.andThen_ok, Sem.run_pure]
theorem cvT (t u : Nat) (x : Operand) (ho : o.op = .convert t u x) (v : Value) (hx : ρ x = v) (h : (convert t u v).run Tryd.prog w = .ok r w) : (execOp ρ o).run Tryd.prog w = .ok (.value r) w := by
  unfold execOp
  simp only [ho, hx, Sem.run_bind, h, Result.andThen_ok, Sem.run_pure]
theorem na26 (w : World) : (isAgg 26).run Tryd.prog w = .ok false w := by kernel_rfl
theorem fa_15 (w : World) (xb : Nat) : (Instr.fieldAt 64 (.pointer (some ⟨xb, 0, none⟩)) 8).run Tryd.prog w = .ok (.pointer (some ⟨xb, 15, none⟩)) w := by kernel_rfl
theorem fa_17 (w : World) (xb : Nat) : (Instr.fieldAt 30 (.pointer (some ⟨xb, 15, none⟩)) 2).run Tryd.prog w = .ok (.pointer (some ⟨xb, 17, none⟩)) w := by kernel_rfl
theorem fa_2 (w : World) (xb : Nat) : (Instr.fieldAt 64 (.pointer (some ⟨xb, 0, none⟩)) 2).run Tryd.prog w = .ok (.pointer (some ⟨xb, 2, none⟩)) w := by kernel_rfl
theorem fa_l2 (w : World) (xb : Nat) : (Instr.fieldAt 36 (.pointer (some ⟨xb, 0, none⟩)) 2).run Tryd.prog w = .ok (.pointer (some ⟨xb, 2, none⟩)) w := by kernel_rfl
theorem ix_2 (w : World) (xb a : Nat) (ha : a < 8) : (Instr.indexAt 61 (.pointer (some ⟨xb, 2, none⟩)) (.int .i64 a)).run Tryd.prog w = .ok (.pointer (some ⟨xb, 2 + a, none⟩)) w := by
  have hc : a = 0 ∨ a = 1 ∨ a = 2 ∨ a = 3 ∨ a = 4 ∨ a = 5 ∨ a = 6 ∨ a = 7 := by omega
  rcases hc with rfl | rfl | rfl | rfl | rfl | rfl | rfl | rfl
  · exact (show (Instr.indexAt 61 (.pointer (some ⟨xb, 2, none⟩)) (.int .i64 0)).run Tryd.prog w = .ok (.pointer (some ⟨xb, 2 + 0, none⟩)) w by kernel_rfl)
  · exact (show (Instr.indexAt 61 (.pointer (some ⟨xb, 2, none⟩)) (.int .i64 1)).run Tryd.prog w = .ok (.pointer (some ⟨xb, 2 + 1, none⟩)) w by kernel_rfl)
  · exact (show (Instr.indexAt 61 (.pointer (some ⟨xb, 2, none⟩)) (.int .i64 2)).run Tryd.prog w = .ok (.pointer (some ⟨xb, 2 + 2, none⟩)) w by kernel_rfl)
  · exact (show (Instr.indexAt 61 (.pointer (some ⟨xb, 2, none⟩)) (.int .i64 3)).run Tryd.prog w = .ok (.pointer (some ⟨xb, 2 + 3, none⟩)) w by kernel_rfl)
  · exact (show (Instr.indexAt 61 (.pointer (some ⟨xb, 2, none⟩)) (.int .i64 4)).run Tryd.prog w = .ok (.pointer (some ⟨xb, 2 + 4, none⟩)) w by kernel_rfl)
  · exact (show (Instr.indexAt 61 (.pointer (some ⟨xb, 2, none⟩)) (.int .i64 5)).run Tryd.prog w = .ok (.pointer (some ⟨xb, 2 + 5, none⟩)) w by kernel_rfl)
  · exact (show (Instr.indexAt 61 (.pointer (some ⟨xb, 2, none⟩)) (.int .i64 6)).run Tryd.prog w = .ok (.pointer (some ⟨xb, 2 + 6, none⟩)) w by kernel_rfl)
  · exact (show (Instr.indexAt 61 (.pointer (some ⟨xb, 2, none⟩)) (.int .i64 7)).run Tryd.prog w = .ok (.pointer (some ⟨xb, 2 + 7, none⟩)) w by kernel_rfl)
theorem cv_8 (w : World) (v : Int) : (convert 3 5 (.int .i64 v)).run Tryd.prog w = .ok (.int .u8 (v % 256)) w := by
  rw [← IntKind.wrap_u8]
  kernel_rfl
theorem bsl_b (w : World) (v : Int) : (Instr.buildSlice 26 1 #[(0, .int .u8 v)]).run Tryd.prog w = .ok (.slice (some ⟨w.heap.size, 0, none⟩) 1 1) (w.alloc (.cells #[.int .u8 v] 5 (0, 0))) := by kernel_rfl
theorem info_by : (Tryd.prog.info? 5).map (fun i => (i.zero, i.size, i.bytes)) = some (some (.int .u8 0), 1, 1) := by kernel_rfl
theorem run_append_b (w : World) (base : Nat) (V : Value) (k : List Int) (hown : w.ownsRow base 5 1 V k.length (k.map (.int .u8))) (g : Nat) (y : Int) (hg : w.heap[g]? = some (.cells #[.int .u8 y] 5 (0, 0))) (hn : k.length ≤ 90000) (hb : base ≤ w.heap.size) :
    ∃ V' w', (Builtin.append_ #[26, 26] 26 #[V, .slice (some ⟨g, 0, none⟩) 1 1]).run Tryd.prog w = .ok V' w' ∧ w'.ownsRow base 5 1 V' (k ++ [y]).length ((k ++ [y]).map (.int .u8)) ∧ w.grownBy w' V.ownBlock := by
  obtain ⟨i0, hi, hz0, hz1, hz2⟩ := info_parts info_by
  obtain ⟨V', w', hr, h1, h2, _, h4⟩ := run_append_own_at (P := Tryd.prog) w base 26 26 5 i0 (.int .u8 0) 1 1 (by kernel_rfl) hi hz0 hz1 hz2 rfl (by decide) V k.length (k.map (.int .u8)) hown ⟨g, 0, none⟩ 1 1 [.int .u8 y] (by simp)
    (fun j u hu => by
      cases j with
      | succ j => simp at hu
      | zero =>
        simp at hu
        subst hu
        exact cell_of_heap hg 0 _ rfl) (fun u hu => by
          obtain rfl := List.mem_singleton.1 hu
          rfl) (by simp only [maxLen]; omega) (by omega) hb
  exact ⟨V', w', hr, by rw [List.length_append, List.map_append]; exact h1, h2⟩
end
section
variable {w0 w : World} {xb mb mp : Nat} {gv : ByteArray → Option Value} {R : Rn} {iv sv ov : Value} {l : List Fb} {x : Fb}
theorem out_form {me inq ouq : List Int} (h : XM w0 w mb mp gv me inq ouq iv sv ov l) : ∃ A cap, ov = .slice A ouq.length cap := by
  obtain ⟨A, cap, e, _⟩ := out_read h.out
  exact ⟨A, cap, e⟩
theorem XM.emit {me inq ouq o' : List Int} {w' : World} {V' : Value} (h : XM w0 w mb mp gv me inq ouq iv sv ov l) (ho : w'.ownsRow w0.heap.size 5 1 V' o'.length (o'.map (.int .u8))) (hg : w.grownBy w' ov.ownBlock) : XM w0 w' mb mp gv me inq o' iv sv V' l := by
  have hk : ∀ (k : Nat) (cs : Array Value) (ty : TypeId), w.heap[k]? = some (.cells cs ty (0, 0)) → 5 ≠ ty → w'.heap[k]? = w.heap[k]? := fun k cs ty hc ht => hg.block k (Array.getElem?_eq_some_iff.1 hc).1 (Ne.symm (own_ne h.out hc ht))
  obtain ⟨_, _, _, _, hob⟩ := out_read h.out
  exact {
    b := ⟨hg.os.trans h.b.os, hg.tape.trans h.b.tape, hg.output.trans h.b.output, Nat.le_trans h.b.size hg.size, fun k hk' => (hg.block k (by have := h.b.size; omega) (fun e => by
      obtain ⟨_, _, hB⟩ := hob k e.symm
      omega)).trans (h.b.block k hk')⟩
    mem := (hk _ _ _ h.mem (by decide)).trans h.mem
    ml := h.ml
    mB := h.mB
    mpk := h.mpk.of_block (hg.block _ h.mpk.lt (fun e => by
      obtain ⟨cur, hc, _⟩ := hob _ e.symm
      exact map_ne h.mpk hc rfl))
    inp := h.inp
    out := ho
    stk := ownsRow_keep h.stk fun g _ _ cur hc => hk _ _ _ hc (by decide)
    frs := fun y hy => by
      obtain ⟨q1, q2, q3, q4, q5, q6, q7, q8⟩ := h.frs y hy
      exact ⟨(hk _ _ _ q1 (by decide)).trans q1, q2, (hk _ _ _ q3 (by decide)).trans q3, q4, q5, q6, q7, q8⟩
    nb := h.nb
    nt := h.nt }
/-- what a step comes to -/
def StT (w0 : World) (xb mb mp : Nat) (gv : ByteArray → Option Value) (R : Rn) (w : World) : Prop := ∃ iv sv ov l, XS w0 w xb mb mp gv R iv sv ov l
theorem sLn : (Tryd.prog.info? 36).map (·.size) = some 6 := by kernel_rfl
theorem stack_top (h : XS w0 w xb mb mp gv R iv sv ov (l ++ [x])) : R.stack = x.f :: R.stack.tail := by
  rw [h.st]
  simp
set_option maxRecDepth 1000000 in
set_option maxHeartbeats 8000000 in
theorem step_15 (by_ : ByteArray → Option Ob) (h : XS w0 w xb mb mp gv R iv sv ov (l ++ [x])) (p : Nat) (r b n : Int) (a : Nat) (tx : ByteArray) (hat : x.f.at_ = p) (hp : p ≤ 100000) (hi : x.f.o.lines[p]? = some (Ln.mk 15 (r) (a) (b) (n) tx)) (hl : l.length ≤ 900) (ha : a < 8) (hol : R.outp.length ≤ 90000) :
    Calls Tryd.prog 24 #[.pointer (some ⟨xb, 0, none⟩)] w fun e w' => e = .returned (.tuple #[]) ∧ StT w0 xb mb mp gv (R.step by_) w' := by
  have hst := stack_top h
  obtain ⟨sb, cap, cur, rfl, hnc, htop, _, _⟩ := h.M.top
  obtain ⟨m, hm⟩ : ∃ m, l.length = m := ⟨_, rfl⟩
  have hfr := h.fr
  have hrd := hfr.rd.below h.M.b
  obtain ⟨lb, lo, hC, hlb, hcs⟩ := hrd p _ hi
  obtain ⟨x0, x1, x2, x3, x4, x5⟩ := RdL.load hcs
  simp only at x0 x1 x2 x3 x4 x5
  have y3 := fr_hd hfr.fr 3 _ rfl
  have y18 := fr_tl hfr.fr hfr.il hfr.ol 1 _ rfl
  have f18 := free_of_heap hfr.fr 18
  have g13 := h.c_hi 3 _ rfl
  rw [hat] at y18
  obtain ⟨N, hN⟩ : ∃ N, x.f.o.lines.length = N := ⟨_, rfl⟩
  have hpN : p < N := by rw [← hN]; exact (List.getElem?_eq_some_iff.1 hi).1
  rw [hC, hN] at y3
  rw [hm] at g13 hnc htop hl
  have hlx := (Array.getElem?_eq_some_iff.1 h.x).1
  have hlf := (Array.getElem?_eq_some_iff.1 hfr.fr).1
  have hne : x.b ≠ xb := ty_ne hfr.fr h.x (by decide)
  have h1 := h.set_fr 18 (.int .i64 ((p : Int) + 1)) { x.f with at_ := (p : Int) + 1 } (fL_set_at hfr.il hfr.ol _) hfr.il hfr.ol rfl rfl
  have HX := Lib.hid h1
  have HS : Hid (R.step by_ = R.stepL by_ x.f R.stack.tail (Ln.mk 15 (r) (a) (b) (n) tx)) := Lib.hid (Rn.step_is hst (by rw [hat, List.getD_eq_getElem?_getD, Int.toNat_natCast, hi]; rfl))
  have HAT := Lib.hid hat
  have HST := Lib.hid hst
  have HFI := Lib.hid hfr.il
  have HFO := Lib.hid hfr.ol
  have c1 := h.c_reg ha
  obtain ⟨v, hv⟩ : ∃ v, R.reg.getD a 0 = v := ⟨_, rfl⟩
  rw [hv] at c1
  have HV : Hid (R.rg (a : Nat) = v) := Lib.hid hv
  clear hv
  clear h1 hcs hrd hi hst hfr h hN hC hat
  rw [HS.out, show R.stepL by_ x.f R.stack.tail (Ln.mk 15 r a b n tx) = { R.top { x.f with at_ := x.f.at_ + 1 } R.stack.tail with outp := R.outp ++ [R.rg (a : Nat) % 256] } from rfl, HAT.out, HV.out]
  go_enter Tryd.func24, Tryd.ntmps24
  go_wp2
  go_region
  go_wp2
  go_region
  go_wp2
  have hz := ((HX.out.later (Below.one _ (.cells #[.int .i64 15, .int .i64 r, .int .i64 a, .int .i64 b, .int .i64 n, .string tx] 36 (0, 0)))).drew.drew)
  have k1 := heap_alloc_new (w.setCell ⟨x.b, 18, none⟩ (.int .i64 ((p : Int) + 1))) (.cells #[.int .i64 15, .int .i64 r, .int .i64 a, .int .i64 b, .int .i64 n, .string tx] 36 (0, 0))
  rw [show (w.setCell ⟨x.b, 18, none⟩ (.int .i64 ((p : Int) + 1))).heap.size = w.heap.size by simp [World.setCell]] at k1
  obtain ⟨W5, hW5⟩ : ∃ W5, W5 = ((w.setCell ⟨x.b, 18, none⟩ (.int .i64 ((p : Int) + 1))).alloc (.cells #[.int .i64 15, .int .i64 r, .int .i64 a, .int .i64 b, .int .i64 n, .string tx] 36 (0, 0))).drew.drew := ⟨_, rfl⟩
  have k1 : W5.heap[w.heap.size]? = some (.cells #[.int .i64 15, .int .i64 r, .int .i64 a, .int .i64 b, .int .i64 n, .string tx] 36 (0, 0)) := by rw [hW5]; exact k1
  rw [← hW5] at hz ⊢
  clear hW5 x0 x1 x2 x3 x4 x5 y3 y18 f18 g13 htop
  obtain ⟨A, ocap, hov⟩ := out_form hz.M
  subst hov
  have hz2 := (hz.later (Below.one _ (.cells #[.int .u8 (v % 256)] 5 (0, 0)))).drew
  obtain ⟨V', w9, hap, ho9, hg9⟩ := run_append_b ((W5.alloc (.cells #[.int .u8 (v % 256)] 5 (0, 0))).drew) w0.heap.size _ R.outp hz2.M.out W5.heap.size (v % 256) (heap_alloc_new W5 _) (by omega) hz2.M.b.size
  have hM9 := hz2.M.emit ho9 hg9
  obtain ⟨A9, cap9, hV9⟩ := out_form hM9
  rw [List.length_append, List.length_singleton] at hV9
  subst hV9
  have hxx : w9.heap[xb]? = some (xO (R.top { x.f with at_ := (p : Int) + 1 } R.stack.tail) mp mb iv (.slice (some ⟨sb, 0, none⟩) (m + 1) cap) (.slice A R.outp.length ocap)) := (hg9.block xb (Array.getElem?_eq_some_iff.1 hz2.x).1 (Ne.symm (own_ne hz2.M.out hz2.x (by decide)))).trans (by rw [← hm]; exact hz2.x)
  have hl1 : W5.heap.size ≤ (W5.alloc (.cells #[.int .u8 (v % 256)] 5 (0, 0))).heap.size := by simp
  have k1b := (((Below.one W5 (.cells #[.int .u8 (v % 256)] 5 (0, 0))).drew).block _ (Array.getElem?_eq_some_iff.1 k1).1).trans k1
  have k9 : w9.heap[w.heap.size]? = some (.cells #[.int .i64 15, .int .i64 r, .int .i64 a, .int .i64 b, .int .i64 n, .string tx] 36 (0, 0)) := (hg9.block _ (Array.getElem?_eq_some_iff.1 k1b).1 (Ne.symm (own_ne hz2.M.out k1b (by decide)))).trans k1b
  have hS9 : XS w0 (w9.setCell ⟨xb, 17, none⟩ (.slice A9 (R.outp.length + 1) cap9)) xb mb mp gv { R.top { x.f with at_ := (p : Int) + 1 } R.stack.tail with outp := R.outp ++ [v % 256] } iv (.slice (some ⟨sb, 0, none⟩) (m + 1) cap) (.slice A9 (R.outp.length + 1) cap9) (l ++ [{ x with f := { x.f with at_ := (p : Int) + 1 } }]) := {
    x := by rw [heap_setCell hxx, List.setIfInBounds_toArray, xL_set_hi hz.rl 7 (.slice A9 (R.outp.length + 1) cap9) (R' := { R.top { x.f with at_ := (p : Int) + 1 } R.stack.tail with outp := R.outp ++ [v % 256] }) (iv' := iv) (sv' := .slice (some ⟨sb, 0, none⟩) (m + 1) cap) (ov' := .slice A9 (R.outp.length + 1) cap9) rfl rfl]
    xB := hz.xB
    rl := hz.rl
    st := hz.st
    M := by
      have := hM9.other hxx hz.xB (by decide) (by decide) (by decide) (by decide) 17 (.slice A9 (R.outp.length + 1) cap9)
      rw [hm] at this
      exact this }
  have HS9 := Lib.hid hS9
  have hxl := (Array.getElem?_eq_some_iff.1 hz.x).1
  have G17 := Lib.hid (hz.c_hi 7 _ rfl)
  have GA := Lib.hid (hz.c_reg ha)
  have U17 := Lib.hid (cell_of_heap hxx 17 (.slice A R.outp.length ocap) (by rw [List.getElem?_toArray]; exact xL_hi hz.rl 7))
  have UA := Lib.hid (cell_of_heap hxx (2 + a) (.int .i64 (R.reg.getD a 0)) (by rw [List.getElem?_toArray]; exact xL_reg (R := R.top { x.f with at_ := (p : Int) + 1 } R.stack.tail) (by rw [hz.rl]; exact ha)))
  rw [show (R.top { x.f with at_ := (p : Int) + 1 } R.stack.tail).reg.getD a 0 = v from HV.out] at GA
  rw [show R.reg.getD a 0 = v from HV.out] at UA
  have V17 := Lib.hid (free_of_heap hxx 17)
  have HAP := Lib.hid hap
  have HK1 := Lib.hid k1
  have HK9 := Lib.hid k9
  have HMP := Lib.hid hz.M.b
  clear hz hz2 hap ho9 hg9 hM9 hxx k1 k1b k9 hS9 hl1 c1
  refine wp_region_noPanic ?_
  refine wp_region_grown 19 (Mk W5.drew w9 15 [.pointer (some ⟨xb, 0, none⟩), .pointer (some ⟨xb, 0, none⟩), .pointer (some ⟨xb, 0, none⟩), .pointer (some ⟨xb, 15, none⟩), .pointer (some ⟨xb, 17, none⟩), .slice A R.outp.length ocap, .pointer (some ⟨xb, 0, none⟩), .pointer (some ⟨w.heap.size, 2, none⟩), .int .i64 (a : Nat), .pointer (some ⟨xb, 0, none⟩), .pointer (some ⟨xb, 2, none⟩), .pointer (some ⟨xb, 2 + a, none⟩), .int .i64 v, .int .u8 (v % 256), .slice (some ⟨W5.heap.size, 0, none⟩) 1 1, .slice A9 (R.outp.length + 1) cap9, .pointer (some ⟨xb, 0, none⟩), .pointer (some ⟨xb, 15, none⟩), .pointer (some ⟨xb, 17, none⟩)] [14] [.cells #[.int .u8 (v % 256)] 5 (0, 0)]) (by kernel_rfl) (by kernel_rfl) ?_ ?_ ?_
  · exact ⟨(fun i v h => by cases h), Or.inl ⟨rfl, 0, (by simp), rfl, (fun j i hj => by simp)⟩⟩
  · intro i op s wr hi ho hI hsi hdep
    have cln : wr.heap[w.heap.size]? = some (.cells #[.int .i64 15, .int .i64 r, .int .i64 a, .int .i64 b, .int .i64 n, .string tx] 36 (0, 0)) := by
      rcases hI.below with hb | hb
      · exact ((((Below.refl _ W5).drew).trans hb).block _ (Array.getElem?_eq_some_iff.1 HK1.out).1).trans HK1.out
      · rw [hb]; exact HK9.out
    have cx : ∀ (j : Nat) (v : Value), W5.cell? ⟨xb, j, none⟩ = some v → w9.cell? ⟨xb, j, none⟩ = some v → wr.cell? ⟨xb, j, none⟩ = some v := fun j v h1 h2 => by
      rcases hI.below with hb | hb
      · exact ((((Below.refl _ W5).drew).trans hb).cell (p := ⟨xb, j, none⟩) hxl).trans h1
      · rw [hb]; exact h2
    rcases (by omega : i = 0 ∨ i = 1 ∨ i = 2 ∨ i = 3 ∨ i = 4 ∨ i = 5 ∨ i = 6 ∨ i = 7 ∨ i = 8 ∨ i = 9 ∨ i = 10 ∨ i = 11 ∨ i = 12 ∨ i = 13 ∨ i = 14 ∨ i = 15 ∨ i = 16 ∨ i = 17 ∨ i = 18) with rfl | rfl | rfl | rfl | rfl | rfl | rfl | rfl | rfl | rfl | rfl | rfl | rfl | rfl | rfl | rfl | rfl | rfl | rfl
    all_goals (simp only [List.getElem?_cons_zero, List.getElem?_cons_succ] at ho; obtain rfl := Option.some.inj ho)
    · exact Or.inl ⟨_, _, (runT_move (.tmp 0) rfl).trans (by rw [evalT_old (by kernel_rfl)]; rfl), hI.step 0 _ rfl (by decide) (by decide)⟩
    · exact Or.inl ⟨_, _, (runT_move (.tmp 0) rfl).trans (by rw [evalT_old (by kernel_rfl)]; rfl), hI.step 1 _ rfl (by decide) (by decide)⟩
    · exact Or.inl ⟨_, _, nilT (.tmp 101) rfl _ (evalT_told 1 (by kernel_rfl) (hI.told rfl (hdep ⟨1, .data⟩ (by simp) rfl))), hI.step 2 _ rfl (by decide) (by decide)⟩
    · exact Or.inl ⟨_, _, fldT _ 8 (.tmp 102) rfl _ (evalT_told 2 (by kernel_rfl) (hI.told rfl (hdep ⟨2, .data⟩ (by simp) rfl))) (fa_15 _ _), hI.step 3 _ rfl (by decide) (by decide)⟩
    · exact Or.inl ⟨_, _, fldT _ 2 (.tmp 103) rfl _ (evalT_told 3 (by kernel_rfl) (hI.told rfl (hdep ⟨3, .data⟩ (by simp) rfl))) (fa_17 _ _), hI.step 4 _ rfl (by decide) (by decide)⟩
    · exact Or.inl ⟨_, _, ldT _ (.tmp 104) rfl _ _ (evalT_told 4 (by kernel_rfl) (hI.told rfl (hdep ⟨4, .data⟩ (by simp) rfl))) (cx _ _ G17.out U17.out) (na26 _), hI.step 5 _ rfl (by decide) (by decide)⟩
    · exact Or.inl ⟨_, _, (runT_move (.tmp 0) rfl).trans (by rw [evalT_old (by kernel_rfl)]; rfl), hI.step 6 _ rfl (by decide) (by decide)⟩
    · exact Or.inl ⟨_, _, fldT _ 2 (.tmp 3) rfl _ (by rw [evalT_old (by kernel_rfl)]; rfl) (fa_l2 _ _), hI.step 7 _ rfl (by decide) (by decide)⟩
    · exact Or.inl ⟨_, _, ldT _ (.tmp 107) rfl _ _ (evalT_told 7 (by kernel_rfl) (hI.told rfl (hdep ⟨7, .data⟩ (by simp) rfl))) (cell_of_heap cln 2 _ rfl) (na3 _), hI.step 8 _ rfl (by decide) (by decide)⟩
    · exact Or.inl ⟨_, _, nilT (.tmp 106) rfl _ (evalT_told 6 (by kernel_rfl) (hI.told rfl (hdep ⟨6, .data⟩ (by simp) rfl))), hI.step 9 _ rfl (by decide) (by decide)⟩
    · exact Or.inl ⟨_, _, fldT _ 2 (.tmp 109) rfl _ (evalT_told 9 (by kernel_rfl) (hI.told rfl (hdep ⟨9, .data⟩ (by simp) rfl))) (fa_2 _ _), hI.step 10 _ rfl (by decide) (by decide)⟩
    · exact Or.inl ⟨_, _, idxT _ (.tmp 110) (.tmp 108) rfl _ _ (evalT_told 10 (by kernel_rfl) (hI.told rfl (hdep ⟨10, .data⟩ (by simp) rfl))) (evalT_told 8 (by kernel_rfl) (hI.told rfl (hdep ⟨8, .data⟩ (by simp) rfl))) (ix_2 _ _ _ ha), hI.step 11 _ rfl (by decide) (by decide)⟩
    · exact Or.inl ⟨_, _, ldT _ (.tmp 111) rfl _ _ (evalT_told 11 (by kernel_rfl) (hI.told rfl (hdep ⟨11, .data⟩ (by simp) rfl))) (cx _ _ GA.out UA.out) (na3 _), hI.step 12 _ rfl (by decide) (by decide)⟩
    · exact Or.inl ⟨_, _, cvT _ _ (.tmp 112) rfl _ (evalT_told 12 (by kernel_rfl) (hI.told rfl (hdep ⟨12, .data⟩ (by simp) rfl))) (cv_8 _ _), hI.step 13 _ rfl (by decide) (by decide)⟩
    · obtain ⟨hz, hM⟩ := hI.make 0 14 _ _ rfl rfl rfl (by decide) (by decide) hsi (fun j hj => by omega)
      refine Or.inl ⟨_, _, bslT _ 1 _ rfl _ ?_ (bsl_b wr (v % 256)), ?_⟩
      · simp only [List.map_toArray, List.map_cons, List.map_nil]
        rw [evalT_told 13 (by kernel_rfl) (hI.told rfl (hdep ⟨13, .data⟩ (by simp) rfl))]
      · have hzz : wr.heap.size = W5.heap.size := hz
        rw [hzz]
        exact hM
    · have hwr := hI.full hsi 0 14 rfl rfl (hdep ⟨14, .data⟩ (by simp) rfl)
      have hap2 := HAP.out
      rw [show (W5.alloc (.cells #[.int .u8 (v % 256)] 5 (0, 0))).drew = wr from by rw [hwr]; rfl] at hap2
      exact Or.inl ⟨_, _, appT _ (.tmp 105) (.tmp 114) rfl _ _ (evalT_told 5 (by kernel_rfl) (hI.told rfl (hdep ⟨5, .data⟩ (by simp) rfl))) (evalT_told 14 (by kernel_rfl) (hI.told rfl (hdep ⟨14, .data⟩ (by simp) rfl))) hap2, hI.last _ rfl hsi rfl (fun k i hk hk2 => by
        obtain rfl : k = 0 := by simpa using hk2
        injection hk with hk
        subst hk
        exact hdep ⟨14, .data⟩ (by simp) rfl) (by simp)⟩
    · exact Or.inl ⟨_, _, nilT (.tmp 100) rfl _ (evalT_told 0 (by kernel_rfl) (hI.told rfl (hdep ⟨0, .data⟩ (by simp) rfl))), hI.step 16 _ rfl (by decide) (by decide)⟩
    · exact Or.inl ⟨_, _, fldT _ 8 (.tmp 116) rfl _ (evalT_told 16 (by kernel_rfl) (hI.told rfl (hdep ⟨16, .data⟩ (by simp) rfl))) (fa_15 _ _), hI.step 17 _ rfl (by decide) (by decide)⟩
    · exact Or.inl ⟨_, _, fldT _ 2 (.tmp 117) rfl _ (evalT_told 17 (by kernel_rfl) (hI.told rfl (hdep ⟨17, .data⟩ (by simp) rfl))) (fa_17 _ _), hI.step 18 _ rfl (by decide) (by decide)⟩
  · intro s wr hI hsome
    have hwr : wr = w9 := by
      rcases hI.w with ⟨h0, _⟩ | ⟨_, h2, _⟩
      · have := hsome 15 (by omega)
        rw [h0] at this
        cases this
      · exact h2
    have e0 := hI.told (j := 0) rfl (hsome 0 (by omega))
    have e1 := hI.told (j := 1) rfl (hsome 1 (by omega))
    have e2 := hI.told (j := 2) rfl (hsome 2 (by omega))
    have e3 := hI.told (j := 3) rfl (hsome 3 (by omega))
    have e4 := hI.told (j := 4) rfl (hsome 4 (by omega))
    have e5 := hI.told (j := 5) rfl (hsome 5 (by omega))
    have e6 := hI.told (j := 6) rfl (hsome 6 (by omega))
    have e7 := hI.told (j := 7) rfl (hsome 7 (by omega))
    have e8 := hI.told (j := 8) rfl (hsome 8 (by omega))
    have e9 := hI.told (j := 9) rfl (hsome 9 (by omega))
    have e10 := hI.told (j := 10) rfl (hsome 10 (by omega))
    have e11 := hI.told (j := 11) rfl (hsome 11 (by omega))
    have e12 := hI.told (j := 12) rfl (hsome 12 (by omega))
    have e13 := hI.told (j := 13) rfl (hsome 13 (by omega))
    have e14 := hI.told (j := 14) rfl (hsome 14 (by omega))
    have e15 := hI.told (j := 15) rfl (hsome 15 (by omega))
    have e16 := hI.told (j := 16) rfl (hsome 16 (by omega))
    have e17 := hI.told (j := 17) rfl (hsome 17 (by omega))
    have e18 := hI.told (j := 18) rfl (hsome 18 (by omega))
    rw [hwr]
    simp only [List.take_succ_cons, List.take_zero, List.drop_succ_cons, List.drop_zero, putsT, e0, e1, e2, e3, e4, e5, e6, e7, e8, e9, e10, e11, e12, e13, e14, e15, e16, e17, e18, Option.getD_some]
    clear hI hsome e0 e1 e2 e3 e4 e5 e6 e7 e8 e9 e10 e11 e12 e13 e14 e15 e16 e17 e18 hwr
    go_frame
    have u17 := U17.out
    have v17 := V17.out
    go_wp2_with fail
    refine NoPanic.normal ?_
    go_wp2
    go_returns
    exact ⟨rfl, iv, _, _, _, HS9.out⟩
end
end Go.Proofs.YtihbgppcacaekaaDoor
