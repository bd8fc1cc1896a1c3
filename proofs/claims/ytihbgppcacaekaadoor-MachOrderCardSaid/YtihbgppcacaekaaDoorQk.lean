import Derived.Test.YtihbgppcacaekaaDoorQj
/- reckon: what it does to a run. -/
namespace Go.Proofs.YtihbgppcacaekaaDoor
open Go.RowKit Go.BigFrame
section
variable {w0 w : World} {xb mb mp : Nat} {gv : ByteArray → Option Value} {R : Rn} {iv sv ov : Value} {l : List Fb} {x : Fb}

theorem XS.set_in (h : XS w0 w xb mb mp gv R iv sv ov l) (rest : List Int) (A : Option Addr) (cap : Nat) (hrd : RdB w0 A rest) (hle : rest.length ≤ cap) (hby : ∀ a ∈ rest, 0 ≤ a ∧ a ≤ 255) :
    XS w0 (w.setCell ⟨xb, 12, none⟩ (.slice A rest.length cap)) xb mb mp gv { R with input := rest } (.slice A rest.length cap) sv ov l where
  x := h.row 12 _ (xL_set_hi h.rl 2 _ rfl rfl)
  xB := h.xB
  rl := h.rl
  st := h.st
  M := { h.M.other h.x h.xB (by decide) (by decide) (by decide) (by decide) 12 (.slice A rest.length cap) with inp := ⟨A, cap, rfl, hrd, hle, hby⟩ }
set_option maxRecDepth 1000000 in
set_option maxHeartbeats 4000000 in
theorem reckon_1 (h : XS w0 w xb mb mp gv R iv sv ov (l ++ [x])) (r : Nat) (a b n : Int) (tx : ByteArray) (hr : r < 8) :
    Calls Tryd.prog 44 #[.pointer (some ⟨xb, 0, none⟩), fP x, (Ln.mk 1 ((r : Nat)) (a) (b) (n) tx).agg] w fun e w' => e = .returned (.tuple #[]) ∧ ∃ iv', XS w0 w' xb mb mp gv (R.reckon x.f (Ln.mk 1 ((r : Nat)) (a) (b) (n) tx)) iv' sv ov (l ++ [x]) := by
  have hB := Below.one w (Ln.mk 1 ((r : Nat)) (a) (b) (n) tx).obj
  have b0 := heap_alloc_new w (Ln.mk 1 ((r : Nat)) (a) (b) (n) tx).obj
  have h1 := h.later hB
  simp only [Ln.obj] at hB b0 h1
  simp only [Ln.agg, fP]
  obtain ⟨W, hW⟩ : ∃ W, w.alloc (.cells #[.int .i64 1, .int .i64 ((r : Nat)), .int .i64 (a), .int .i64 (b), .int .i64 (n), .string tx] 36 (0, 0)) = W := ⟨_, rfl⟩
  rw [hW] at hB b0 h1
  have x0 := cell_of_heap b0 0 (.int .i64 1) rfl
  have x1 := cell_of_heap b0 1 (.int .i64 ((r : Nat))) rfl
  have x2 := cell_of_heap b0 2 (.int .i64 (a)) rfl
  have x3 := cell_of_heap b0 3 (.int .i64 (b)) rfl
  have x4 := cell_of_heap b0 4 (.int .i64 (n)) rfl
  have hfr := h1.fr
  have hsz := hB.size
  have HX := Lib.hid h1
  have c1 := h1.c_reg hr
  have f1 := h1.free (2 + r)
  clear h h1 hB b0 hfr
  go_enter Tryd.func44, Tryd.ntmps44
  go_wp2
  go_region
  go_wp2
  go_returns
  refine ⟨rfl, iv, ?_⟩
  exact (HX.out.set_reg hr (n)).drew
set_option maxRecDepth 1000000 in
set_option maxHeartbeats 4000000 in
theorem reckon_4 (h : XS w0 w xb mb mp gv R iv sv ov (l ++ [x])) (r a : Nat) (b n : Int) (tx : ByteArray) (hr : r < 8) (ha : a < 8) :
    Calls Tryd.prog 44 #[.pointer (some ⟨xb, 0, none⟩), fP x, (Ln.mk 4 ((r : Nat)) ((a : Nat)) (b) (n) tx).agg] w fun e w' => e = .returned (.tuple #[]) ∧ ∃ iv', XS w0 w' xb mb mp gv (R.reckon x.f (Ln.mk 4 ((r : Nat)) ((a : Nat)) (b) (n) tx)) iv' sv ov (l ++ [x]) := by
  have hB := Below.one w (Ln.mk 4 ((r : Nat)) ((a : Nat)) (b) (n) tx).obj
  have b0 := heap_alloc_new w (Ln.mk 4 ((r : Nat)) ((a : Nat)) (b) (n) tx).obj
  have h1 := h.later hB
  simp only [Ln.obj] at hB b0 h1
  simp only [Ln.agg, fP]
  obtain ⟨W, hW⟩ : ∃ W, w.alloc (.cells #[.int .i64 4, .int .i64 ((r : Nat)), .int .i64 ((a : Nat)), .int .i64 (b), .int .i64 (n), .string tx] 36 (0, 0)) = W := ⟨_, rfl⟩
  rw [hW] at hB b0 h1
  have x0 := cell_of_heap b0 0 (.int .i64 4) rfl
  have x1 := cell_of_heap b0 1 (.int .i64 ((r : Nat))) rfl
  have x2 := cell_of_heap b0 2 (.int .i64 ((a : Nat))) rfl
  have x3 := cell_of_heap b0 3 (.int .i64 (b)) rfl
  have x4 := cell_of_heap b0 4 (.int .i64 (n)) rfl
  have hfr := h1.fr
  have hsz := hB.size
  have HX := Lib.hid h1
  have c1 := h1.c_reg hr
  have f1 := h1.free (2 + r)
  have c2 := h1.c_reg ha
  obtain ⟨v, hv⟩ : ∃ v, R.reg.getD a 0 = v := ⟨_, rfl⟩
  rw [hv] at c2
  have HV := Lib.hid hv
  clear hv
  clear h h1 hB b0 hfr
  go_enter Tryd.func44, Tryd.ntmps44
  go_wp2
  go_region
  go_wp2
  go_returns
  refine ⟨rfl, iv, ?_⟩
  have hX := (HX.out.set_reg hr v).drew
  rw [← HV.out] at hX ⊢
  exact hX
set_option maxRecDepth 1000000 in
set_option maxHeartbeats 4000000 in
theorem reckon_13 (h : XS w0 w xb mb mp gv R iv sv ov (l ++ [x])) (r : Nat) (a b n : Int) (tx : ByteArray) (hr : r < 8) :
    Calls Tryd.prog 44 #[.pointer (some ⟨xb, 0, none⟩), fP x, (Ln.mk 13 ((r : Nat)) (a) (b) (n) tx).agg] w fun e w' => e = .returned (.tuple #[]) ∧ ∃ iv', XS w0 w' xb mb mp gv (R.reckon x.f (Ln.mk 13 ((r : Nat)) (a) (b) (n) tx)) iv' sv ov (l ++ [x]) := by
  have hB := Below.one w (Ln.mk 13 ((r : Nat)) (a) (b) (n) tx).obj
  have b0 := heap_alloc_new w (Ln.mk 13 ((r : Nat)) (a) (b) (n) tx).obj
  have h1 := h.later hB
  simp only [Ln.obj] at hB b0 h1
  simp only [Ln.agg, fP]
  obtain ⟨W, hW⟩ : ∃ W, w.alloc (.cells #[.int .i64 13, .int .i64 ((r : Nat)), .int .i64 (a), .int .i64 (b), .int .i64 (n), .string tx] 36 (0, 0)) = W := ⟨_, rfl⟩
  rw [hW] at hB b0 h1
  have x0 := cell_of_heap b0 0 (.int .i64 13) rfl
  have x1 := cell_of_heap b0 1 (.int .i64 ((r : Nat))) rfl
  have x2 := cell_of_heap b0 2 (.int .i64 (a)) rfl
  have x3 := cell_of_heap b0 3 (.int .i64 (b)) rfl
  have x4 := cell_of_heap b0 4 (.int .i64 (n)) rfl
  have hfr := h1.fr
  have hsz := hB.size
  have HX := Lib.hid h1
  have c1 := h1.c_reg hr
  have f1 := h1.free (2 + r)
  have g11 := h1.c_hi 1 _ rfl
  clear h h1 hB b0 hfr
  go_enter Tryd.func44, Tryd.ntmps44
  go_wp2
  go_region
  go_wp2
  go_returns
  refine ⟨rfl, iv, ?_⟩
  exact (HX.out.set_reg hr (R.told)).drew
set_option maxRecDepth 1000000 in
set_option maxHeartbeats 4000000 in
theorem reckon_8 (h : XS w0 w xb mb mp gv R iv sv ov (l ++ [x])) (r n : Nat) (a b : Int) (tx : ByteArray) (hr : r < 8) (hn : n < x.f.slots.length) :
    Calls Tryd.prog 44 #[.pointer (some ⟨xb, 0, none⟩), fP x, (Ln.mk 8 ((r : Nat)) (a) (b) ((n : Nat)) tx).agg] w fun e w' => e = .returned (.tuple #[]) ∧ ∃ iv', XS w0 w' xb mb mp gv (R.reckon x.f (Ln.mk 8 ((r : Nat)) (a) (b) ((n : Nat)) tx)) iv' sv ov (l ++ [x]) := by
  have hB := Below.one w (Ln.mk 8 ((r : Nat)) (a) (b) ((n : Nat)) tx).obj
  have b0 := heap_alloc_new w (Ln.mk 8 ((r : Nat)) (a) (b) ((n : Nat)) tx).obj
  have h1 := h.later hB
  simp only [Ln.obj] at hB b0 h1
  simp only [Ln.agg, fP]
  obtain ⟨W, hW⟩ : ∃ W, w.alloc (.cells #[.int .i64 8, .int .i64 ((r : Nat)), .int .i64 (a), .int .i64 (b), .int .i64 ((n : Nat)), .string tx] 36 (0, 0)) = W := ⟨_, rfl⟩
  rw [hW] at hB b0 h1
  have x0 := cell_of_heap b0 0 (.int .i64 8) rfl
  have x1 := cell_of_heap b0 1 (.int .i64 ((r : Nat))) rfl
  have x2 := cell_of_heap b0 2 (.int .i64 (a)) rfl
  have x3 := cell_of_heap b0 3 (.int .i64 (b)) rfl
  have x4 := cell_of_heap b0 4 (.int .i64 ((n : Nat))) rfl
  have hfr := h1.fr
  have hsz := hB.size
  have HX := Lib.hid h1
  have c1 := h1.c_reg hr
  have f1 := h1.free (2 + r)
  have y4 := fr_hd hfr.fr 4 _ rfl
  have c2 := regs_cell hfr.sl hn
  obtain ⟨v, hv⟩ : ∃ v, x.f.slots.getD n 0 = v := ⟨_, rfl⟩
  rw [hv] at c2
  have HV := Lib.hid hv
  obtain ⟨sl, hsl⟩ : ∃ sl, x.f.slots.length = sl := ⟨_, rfl⟩
  rw [hsl] at y4 hn
  clear hv hsl
  clear h h1 hB b0 hfr
  go_enter Tryd.func44, Tryd.ntmps44
  go_wp2
  go_region
  go_wp2
  go_returns
  refine ⟨rfl, iv, ?_⟩
  have hX := (HX.out.set_reg hr v).drew
  rw [← HV.out] at hX ⊢
  exact hX
set_option maxRecDepth 1000000 in
set_option maxHeartbeats 4000000 in
theorem reckon_11 (h : XS w0 w xb mb mp gv R iv sv ov (l ++ [x])) (r n : Nat) (a b : Int) (tx : ByteArray) (hr : r < 8) (hn : n < 6) :
    Calls Tryd.prog 44 #[.pointer (some ⟨xb, 0, none⟩), fP x, (Ln.mk 11 ((r : Nat)) (a) (b) ((n : Nat)) tx).agg] w fun e w' => e = .returned (.tuple #[]) ∧ ∃ iv', XS w0 w' xb mb mp gv (R.reckon x.f (Ln.mk 11 ((r : Nat)) (a) (b) ((n : Nat)) tx)) iv' sv ov (l ++ [x]) := by
  have hB := Below.one w (Ln.mk 11 ((r : Nat)) (a) (b) ((n : Nat)) tx).obj
  have b0 := heap_alloc_new w (Ln.mk 11 ((r : Nat)) (a) (b) ((n : Nat)) tx).obj
  have h1 := h.later hB
  simp only [Ln.obj] at hB b0 h1
  simp only [Ln.agg, fP]
  obtain ⟨W, hW⟩ : ∃ W, w.alloc (.cells #[.int .i64 11, .int .i64 ((r : Nat)), .int .i64 (a), .int .i64 (b), .int .i64 ((n : Nat)), .string tx] 36 (0, 0)) = W := ⟨_, rfl⟩
  rw [hW] at hB b0 h1
  have x0 := cell_of_heap b0 0 (.int .i64 11) rfl
  have x1 := cell_of_heap b0 1 (.int .i64 ((r : Nat))) rfl
  have x2 := cell_of_heap b0 2 (.int .i64 (a)) rfl
  have x3 := cell_of_heap b0 3 (.int .i64 (b)) rfl
  have x4 := cell_of_heap b0 4 (.int .i64 ((n : Nat))) rfl
  have hfr := h1.fr
  have hsz := hB.size
  have HX := Lib.hid h1
  have c1 := h1.c_reg hr
  have f1 := h1.free (2 + r)
  have c2 := fr_in hfr.fr hfr.il hn
  obtain ⟨v, hv⟩ : ∃ v, x.f.inn.getD n 0 = v := ⟨_, rfl⟩
  rw [hv] at c2
  have HV := Lib.hid hv
  clear hv
  clear h h1 hB b0 hfr
  go_enter Tryd.func44, Tryd.ntmps44
  go_wp2
  go_region
  go_wp2
  go_returns
  refine ⟨rfl, iv, ?_⟩
  have hX := (HX.out.set_reg hr v).drew
  rw [← HV.out] at hX ⊢
  exact hX
set_option maxRecDepth 1000000 in
set_option maxHeartbeats 4000000 in
theorem reckon_5 (h : XS w0 w xb mb mp gv R iv sv ov (l ++ [x])) (r : Nat) (a b n : Int) (tx : ByteArray) (hr : r < 8) (hn : -100000 ≤ n ∧ n ≤ 100000) (hbs : 0 ≤ x.f.base ∧ x.f.base ≤ 100000) :
    Calls Tryd.prog 44 #[.pointer (some ⟨xb, 0, none⟩), fP x, (Ln.mk 5 ((r : Nat)) (a) (b) (n) tx).agg] w fun e w' => e = .returned (.tuple #[]) ∧ ∃ iv', XS w0 w' xb mb mp gv (R.reckon x.f (Ln.mk 5 ((r : Nat)) (a) (b) (n) tx)) iv' sv ov (l ++ [x]) := by
  have hB := Below.one w (Ln.mk 5 ((r : Nat)) (a) (b) (n) tx).obj
  have b0 := heap_alloc_new w (Ln.mk 5 ((r : Nat)) (a) (b) (n) tx).obj
  have h1 := h.later hB
  simp only [Ln.obj] at hB b0 h1
  simp only [Ln.agg, fP]
  obtain ⟨W, hW⟩ : ∃ W, w.alloc (.cells #[.int .i64 5, .int .i64 ((r : Nat)), .int .i64 (a), .int .i64 (b), .int .i64 (n), .string tx] 36 (0, 0)) = W := ⟨_, rfl⟩
  rw [hW] at hB b0 h1
  have x0 := cell_of_heap b0 0 (.int .i64 5) rfl
  have x1 := cell_of_heap b0 1 (.int .i64 ((r : Nat))) rfl
  have x2 := cell_of_heap b0 2 (.int .i64 (a)) rfl
  have x3 := cell_of_heap b0 3 (.int .i64 (b)) rfl
  have x4 := cell_of_heap b0 4 (.int .i64 (n)) rfl
  have hfr := h1.fr
  have hsz := hB.size
  have HX := Lib.hid h1
  have c1 := h1.c_reg hr
  have f1 := h1.free (2 + r)
  have g17 := fr_tl hfr.fr hfr.il hfr.ol 0 _ rfl
  have hw : wrap64 (x.f.base + n) = x.f.base + n := w64 (by omega)
  obtain ⟨bs, hbb⟩ : ∃ bs, x.f.base = bs := ⟨_, rfl⟩
  rw [hbb] at g17 hw
  have hwr := fun W => wrap_any (IntKind.i64.wrap (bs + n)) W
  have HW : Hid (wr (wrap64 (bs + n)) = wr (bs + n)) := Lib.hid (by rw [hw])
  obtain ⟨v, hv⟩ : ∃ v, wr (wrap64 (bs + n)) = v := ⟨_, rfl⟩
  rw [← k64] at hv
  simp only [hv] at hwr
  rw [← k64, hv] at HW
  have Hb := Lib.hid hbb
  clear hw hbb hn hbs hv
  clear h h1 hB b0 hfr
  go_enter Tryd.func44, Tryd.ntmps44
  go_wp2
  go_region_with (first
    | (go_at_call 55; refine (hwr _).mono ?_; rintro e w6 ⟨rfl, hw6⟩; subst hw6))
  all_goals
    go_wp2
    go_returns
    refine ⟨rfl, iv, ?_⟩
    have hX := (HX.out.set_reg hr v).drew
    have e : (R.reckon x.f (Ln.mk 5 (r : Nat) a b n tx)) = { R with reg := R.reg.set r v } := by
      show R.setr (r : Nat) (wr (x.f.base + n)) = _
      rw [Hb.out, ← HW.out]
      rfl
    rw [e]
    exact hX
set_option maxRecDepth 1000000 in
set_option maxHeartbeats 4000000 in
theorem reckon_2 (h : XS w0 w xb mb mp gv R iv sv ov (l ++ [x])) (r a b : Nat) (n : Int) (tx : ByteArray) (hr : r < 8) (ha : a < 8) (hb : b < 8) :
    Calls Tryd.prog 44 #[.pointer (some ⟨xb, 0, none⟩), fP x, (Ln.mk 2 ((r : Nat)) ((a : Nat)) ((b : Nat)) (n) tx).agg] w fun e w' => e = .returned (.tuple #[]) ∧ ∃ iv', XS w0 w' xb mb mp gv (R.reckon x.f (Ln.mk 2 ((r : Nat)) ((a : Nat)) ((b : Nat)) (n) tx)) iv' sv ov (l ++ [x]) := by
  have hB := Below.one w (Ln.mk 2 ((r : Nat)) ((a : Nat)) ((b : Nat)) (n) tx).obj
  have b0 := heap_alloc_new w (Ln.mk 2 ((r : Nat)) ((a : Nat)) ((b : Nat)) (n) tx).obj
  have h1 := h.later hB
  simp only [Ln.obj] at hB b0 h1
  simp only [Ln.agg, fP]
  obtain ⟨W, hW⟩ : ∃ W, w.alloc (.cells #[.int .i64 2, .int .i64 ((r : Nat)), .int .i64 ((a : Nat)), .int .i64 ((b : Nat)), .int .i64 (n), .string tx] 36 (0, 0)) = W := ⟨_, rfl⟩
  rw [hW] at hB b0 h1
  have x0 := cell_of_heap b0 0 (.int .i64 2) rfl
  have x1 := cell_of_heap b0 1 (.int .i64 ((r : Nat))) rfl
  have x2 := cell_of_heap b0 2 (.int .i64 ((a : Nat))) rfl
  have x3 := cell_of_heap b0 3 (.int .i64 ((b : Nat))) rfl
  have x4 := cell_of_heap b0 4 (.int .i64 (n)) rfl
  have hfr := h1.fr
  have hsz := hB.size
  have HX := Lib.hid h1
  have c2 := h1.c_reg ha
  have c3 := h1.c_reg hb
  obtain ⟨va, hva⟩ : ∃ va, R.reg.getD a 0 = va := ⟨_, rfl⟩
  obtain ⟨vb, hvb⟩ : ∃ vb, R.reg.getD b 0 = vb := ⟨_, rfl⟩
  have HRK : Hid (R.reckon x.f (Ln.mk 2 (r : Nat) (a : Nat) (b : Nat) n tx) = if (dov n (R.reg.getD a 0) (R.reg.getD b 0)).2 then { R with reg := R.reg.set r (dov n (R.reg.getD a 0) (R.reg.getD b 0)).1 } else R.endd 2 2) := Lib.hid rfl
  rw [hva] at c2
  rw [hvb] at c3
  rw [hva, hvb] at HRK
  have hdo := fun W => do_any n va vb W
  obtain ⟨v, hv⟩ : ∃ v, (dov n va vb).1 = v := ⟨_, rfl⟩
  obtain ⟨t, ht⟩ : ∃ t, (dov n va vb).2 = t := ⟨_, rfl⟩
  rw [hv, ht] at HRK
  simp only [hv, ht] at hdo
  have HDO := Lib.hid hdo
  have HB0 := Lib.hid b0
  have hWl := (Array.getElem?_eq_some_iff.1 b0).1
  clear hv ht hva hvb hdo
  clear h h1 hB b0 hfr
  go_enter Tryd.func44, Tryd.ntmps44
  go_wp2
  have e0 := fun s : Later W => Later.cell c2 s
  have e1 := fun s : Later W => Later.cell c3 s
  have e2 := fun s : Later W => Later.cell x2 s
  have e3 := fun s : Later W => Later.cell x3 s
  have e4 := fun s : Later W => Later.cell x4 s
  refine wp_region_later (by kernel_rfl) (by kernel_rfl) ?_
  iterate 22 (go_big_quiet_step ((go_at_call 59; exact Calls.later (HDO.out _))))
  refine wpQuiet_nil ?_
  rintro w6 ⟨s', rfl⟩
  have hb7 := s'.h
  generalize s'.w = w6 at *
  have hX6 := HX.out.later hb7
  have b6 := (hb7.block _ hWl).trans HB0.out
  have z1 := cell_of_heap b6 1 (.int .i64 (r : Nat)) rfl
  have c1 := hX6.c_reg hr
  have f1 := hX6.free (2 + r)
  have hend := fun W' hb => end_x (hX6.later (w' := W') hb) 2 2
  have HX6 := Lib.hid hX6
  clear hX6 b6 x0 x1 x2 x3 x4 c2 c3 hb7 e0 e1 e2 e3 e4
  cases t
  · go_wp2_with (first
      | (go_at_call 25; refine (hend _ (by first | exact (Below.refl _ _).drew | exact Below.refl _ _)).mono ?_; rintro e w7 ⟨rfl, hx7⟩))
    go_returns
    exact ⟨rfl, iv, by rw [HRK.out]; exact hx7⟩
  · go_wp2
    go_region
    go_wp2
    go_returns
    refine ⟨rfl, iv, ?_⟩
    rw [HRK.out]
    first
      | exact (HX6.out.set_reg hr v).drew
      | exact (HX6.out.set_reg hr v).drew.drew
set_option maxRecDepth 1000000 in
set_option maxHeartbeats 4000000 in
theorem reckon_3 (h : XS w0 w xb mb mp gv R iv sv ov (l ++ [x])) (r a b : Nat) (n : Int) (tx : ByteArray) (hr : r < 8) (ha : a < 8) (hb : b < 8) :
    Calls Tryd.prog 44 #[.pointer (some ⟨xb, 0, none⟩), fP x, (Ln.mk 3 ((r : Nat)) ((a : Nat)) ((b : Nat)) (n) tx).agg] w fun e w' => e = .returned (.tuple #[]) ∧ ∃ iv', XS w0 w' xb mb mp gv (R.reckon x.f (Ln.mk 3 ((r : Nat)) ((a : Nat)) ((b : Nat)) (n) tx)) iv' sv ov (l ++ [x]) := by
  have hB := Below.one w (Ln.mk 3 ((r : Nat)) ((a : Nat)) ((b : Nat)) (n) tx).obj
  have b0 := heap_alloc_new w (Ln.mk 3 ((r : Nat)) ((a : Nat)) ((b : Nat)) (n) tx).obj
  have h1 := h.later hB
  simp only [Ln.obj] at hB b0 h1
  simp only [Ln.agg, fP]
  obtain ⟨W, hW⟩ : ∃ W, w.alloc (.cells #[.int .i64 3, .int .i64 ((r : Nat)), .int .i64 ((a : Nat)), .int .i64 ((b : Nat)), .int .i64 (n), .string tx] 36 (0, 0)) = W := ⟨_, rfl⟩
  rw [hW] at hB b0 h1
  have x0 := cell_of_heap b0 0 (.int .i64 3) rfl
  have x1 := cell_of_heap b0 1 (.int .i64 ((r : Nat))) rfl
  have x2 := cell_of_heap b0 2 (.int .i64 ((a : Nat))) rfl
  have x3 := cell_of_heap b0 3 (.int .i64 ((b : Nat))) rfl
  have x4 := cell_of_heap b0 4 (.int .i64 (n)) rfl
  have hfr := h1.fr
  have hsz := hB.size
  have HX := Lib.hid h1
  have c2 := h1.c_reg ha
  have c3 := h1.c_reg hb
  obtain ⟨va, hva⟩ : ∃ va, R.reg.getD a 0 = va := ⟨_, rfl⟩
  obtain ⟨vb, hvb⟩ : ∃ vb, R.reg.getD b 0 = vb := ⟨_, rfl⟩
  have HRK : Hid (R.reckon x.f (Ln.mk 3 (r : Nat) (a : Nat) (b : Nat) n tx) = if (dov n (R.reg.getD a 0) (R.reg.getD b 0)).2 then { R with reg := R.reg.set r (dov n (R.reg.getD a 0) (R.reg.getD b 0)).1 } else R.endd 2 2) := Lib.hid rfl
  rw [hva] at c2
  rw [hvb] at c3
  rw [hva, hvb] at HRK
  have hdo := fun W => do_any n va vb W
  obtain ⟨v, hv⟩ : ∃ v, (dov n va vb).1 = v := ⟨_, rfl⟩
  obtain ⟨t, ht⟩ : ∃ t, (dov n va vb).2 = t := ⟨_, rfl⟩
  rw [hv, ht] at HRK
  simp only [hv, ht] at hdo
  have HDO := Lib.hid hdo
  have HB0 := Lib.hid b0
  have hWl := (Array.getElem?_eq_some_iff.1 b0).1
  clear hv ht hva hvb hdo
  clear h h1 hB b0 hfr
  go_enter Tryd.func44, Tryd.ntmps44
  go_wp2
  have e0 := fun s : Later W => Later.cell c2 s
  have e1 := fun s : Later W => Later.cell c3 s
  have e2 := fun s : Later W => Later.cell x2 s
  have e3 := fun s : Later W => Later.cell x3 s
  have e4 := fun s : Later W => Later.cell x4 s
  refine wp_region_later (by kernel_rfl) (by kernel_rfl) ?_
  iterate 22 (go_big_quiet_step ((go_at_call 59; exact Calls.later (HDO.out _))))
  refine wpQuiet_nil ?_
  rintro w6 ⟨s', rfl⟩
  have hb7 := s'.h
  generalize s'.w = w6 at *
  have hX6 := HX.out.later hb7
  have b6 := (hb7.block _ hWl).trans HB0.out
  have z1 := cell_of_heap b6 1 (.int .i64 (r : Nat)) rfl
  have c1 := hX6.c_reg hr
  have f1 := hX6.free (2 + r)
  have hend := fun W' hb => end_x (hX6.later (w' := W') hb) 2 2
  have HX6 := Lib.hid hX6
  clear hX6 b6 x0 x1 x2 x3 x4 c2 c3 hb7 e0 e1 e2 e3 e4
  cases t
  · go_wp2_with (first
      | (go_at_call 25; refine (hend _ (by first | exact (Below.refl _ _).drew | exact Below.refl _ _)).mono ?_; rintro e w7 ⟨rfl, hx7⟩))
    go_returns
    exact ⟨rfl, iv, by rw [HRK.out]; exact hx7⟩
  · go_wp2
    go_region
    go_wp2
    go_returns
    refine ⟨rfl, iv, ?_⟩
    rw [HRK.out]
    first
      | exact (HX6.out.set_reg hr v).drew
      | exact (HX6.out.set_reg hr v).drew.drew
set_option maxRecDepth 1000000 in
set_option maxHeartbeats 4000000 in
theorem reckon_14 (h : XS w0 w xb mb mp gv R iv sv ov (l ++ [x])) (r : Nat) (a b n : Int) (tx : ByteArray) (hr : r < 8) :
    Calls Tryd.prog 44 #[.pointer (some ⟨xb, 0, none⟩), fP x, (Ln.mk 14 ((r : Nat)) (a) (b) (n) tx).agg] w fun e w' => e = .returned (.tuple #[]) ∧ ∃ iv', XS w0 w' xb mb mp gv (R.reckon x.f (Ln.mk 14 ((r : Nat)) (a) (b) (n) tx)) iv' sv ov (l ++ [x]) := by
  have hB := Below.one w (Ln.mk 14 ((r : Nat)) (a) (b) (n) tx).obj
  have b0 := heap_alloc_new w (Ln.mk 14 ((r : Nat)) (a) (b) (n) tx).obj
  have h1 := h.later hB
  simp only [Ln.obj] at hB b0 h1
  simp only [Ln.agg, fP]
  obtain ⟨W, hW⟩ : ∃ W, w.alloc (.cells #[.int .i64 14, .int .i64 ((r : Nat)), .int .i64 (a), .int .i64 (b), .int .i64 (n), .string tx] 36 (0, 0)) = W := ⟨_, rfl⟩
  rw [hW] at hB b0 h1
  have x0 := cell_of_heap b0 0 (.int .i64 14) rfl
  have x1 := cell_of_heap b0 1 (.int .i64 ((r : Nat))) rfl
  have x2 := cell_of_heap b0 2 (.int .i64 (a)) rfl
  have x3 := cell_of_heap b0 3 (.int .i64 (b)) rfl
  have x4 := cell_of_heap b0 4 (.int .i64 (n)) rfl
  have hfr := h1.fr
  have hsz := hB.size
  have HX := Lib.hid h1
  have c1 := h1.c_reg hr
  have f1 := h1.free (2 + r)
  have f12 := h1.free 12
  have g12 := h1.c_hi 2 _ rfl
  obtain ⟨A, cap, rfl, hrd, hle, hby⟩ := h1.M.inp
  have hrd2 : RdB W A R.input := hrd.below h1.M.b
  obtain ⟨inq, hin⟩ : ∃ inq, R.input = inq := ⟨_, rfl⟩
  have HR0 : Hid (inq = [] → R.reckon x.f (Ln.mk 14 (r : Nat) a b n tx) = R.setr (r : Nat) (-1)) := Lib.hid (fun h0 => by rw [h0] at hin; simp [Rn.reckon, hin])
  have HR1 : Hid (∀ c rest, inq = c :: rest → R.reckon x.f (Ln.mk 14 (r : Nat) a b n tx) = { R.setr (r : Nat) c with input := rest }) := Lib.hid (fun c rest h0 => by rw [h0] at hin; simp [Rn.reckon, hin])
  rw [hin] at hrd2 hle hby g12 hrd
  have HIN := Lib.hid hin
  clear hin
  clear h h1 hB b0 hfr
  cases inq with
  | nil =>
    clear hrd hrd2 hle hby
    simp only [List.length_nil] at g12
    go_enter Tryd.func44, Tryd.ntmps44
    go_wp2
    go_region
    go_wp2
    go_returns
    refine ⟨rfl, .slice A R.input.length cap, ?_⟩
    rw [HR0.out (by first | rfl | trivial)]
    exact (HX.out.set_reg hr (-1)).drew
  | cons c rest =>
    obtain ⟨ab, ao, rfl, hab, hc⟩ := hrd2 0 c rfl
    rw [Nat.add_zero] at hc
    have hb := hby c (by simp)
    have hne : ab ≠ xb := by
      obtain ⟨b', o', e1, e2, _⟩ := hrd 0 c rfl
      injection e1 with e1
      injection e1 with e1 _
      have := HX.out.xB
      omega
    have HRD := Lib.hid hrd
    have HBY := Lib.hid hby
    obtain ⟨ln, hln⟩ : ∃ ln, rest.length = ln := ⟨_, rfl⟩
    simp only [List.length_cons, hln] at g12 hle
    have HLN := Lib.hid hln
    have HLE := Lib.hid hle
    clear hrd hby hrd2 hln
    have hXx := (HX.out.set_reg hr (-1)).set_reg hr c
    have HX2 := Lib.hid hXx
    have hle2 : ln ≤ cap - 1 := by have := HLE.out; omega
    have hset := HX2.out.set_in rest (if cap = 1 then some ⟨ab, ao, none⟩ else some ⟨ab, ao + 1, none⟩) (cap - 1) (fun j m hj => by
      have hjl := (List.getElem?_eq_some_iff.1 hj).1
      have := HLN.out
      rw [if_neg (by omega)]
      obtain ⟨b', o', e1, e2, e3⟩ := HRD.out (j + 1) m hj
      injection e1 with e1
      injection e1 with e1 e4
      subst e1 e4
      exact ⟨_, _, rfl, e2, by rw [show ao + 1 + j = ao + (j + 1) by omega]; exact e3⟩) (by rw [HLN.out]; exact hle2) (fun y hy => HBY.out y (by simp [hy]))
    rw [HLN.out] at hset
    simp only [List.set_set] at hset
    have HSET : Hid (∀ (A2 : Option Addr) (cap2 : Nat), A2 = (if cap = 1 then some ⟨ab, ao, none⟩ else some ⟨ab, ao + 1, none⟩) → cap2 = cap - 1 → XS w0 (((W.setCell ⟨xb, 2 + r, none⟩ (.int .i64 (-1))).setCell ⟨xb, 2 + r, none⟩ (.int .i64 c)).setCell ⟨xb, 12, none⟩ (.slice A2 ln cap2)) xb mb mp gv { R.setr (r : Nat) c with input := rest } (.slice A2 ln cap2) sv ov (l ++ [x])) := Lib.hid (fun A2 cap2 e1 e2 => by subst e1 e2; exact hset)
    clear hset hle2
    rw [HR1.out c rest (by first | rfl | trivial)]
    clear HR0 HR1
    clear hXx
    go_enter Tryd.func44, Tryd.ntmps44
    go_wp2
    go_region
    go_wp2
    go_region
    all_goals go_wp2
    all_goals
      go_returns
      exact ⟨rfl, _, (HSET.out _ _ (by first | rfl | (simp_all; done) | (split <;> simp_all; done)) (by omega)).drew.drew⟩
end
end Go.Proofs.YtihbgppcacaekaaDoor
