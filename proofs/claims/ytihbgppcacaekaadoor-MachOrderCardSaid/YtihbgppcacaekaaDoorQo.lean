import Derived.Test.YtihbgppcacaekaaDoorQp
import Derived.StillTailTactics
/- step: what a line does to a run, operation by operation. -/
namespace Go.Proofs.YtihbgppcacaekaaDoor
open Go.RowKit Go.BigFrame
section
variable {w0 w : World} {xb mb mp : Nat} {gv : ByteArray → Option Value} {R : Rn} {iv sv ov : Value} {l : List Fb} {x : Fb}
set_option maxRecDepth 1000000 in
set_option maxHeartbeats 8000000 in
theorem step_16 (by_ : ByteArray → Option Ob) (h : XS w0 w xb mb mp gv R iv sv ov (l ++ [x])) (p : Nat) (r a b n : Int) (tx : ByteArray) (hat : x.f.at_ = p) (hp : p ≤ 100000) (hi : x.f.o.lines[p]? = some (Ln.mk 16 (r) (a) (b) (n) tx)) (hl : l.length ≤ 900)  :
    Calls Tryd.prog 24 #[.pointer (some ⟨xb, 0, none⟩)] w fun e w' => e = .returned (.tuple #[]) ∧ StT w0 xb mb mp gv (R.step by_) w' := by
  have hst := stack_top h
  obtain ⟨sb, cap, cur, rfl, hnc, htop, _, _⟩ := h.M.top
  obtain ⟨m, hm⟩ : ∃ m, l.length = m := ⟨_, rfl⟩
  have hfr := h.fr
  have hrd := hfr.rd.below h.M.b
  obtain ⟨lb, lo, hC, hlb, hcs⟩ := hrd p _ hi
  obtain ⟨x0, x1, x2, x3, x4, x5⟩ := RdL.load hcs
  simp only at x0 x1 x2 x3 x4 x5
  have y3 := fr_hd hfr.fr 3 _ rfl
  have y18 := fr_tl hfr.fr hfr.il hfr.ol 1 _ rfl
  have f18 := free_of_heap hfr.fr 18
  have g13 := h.c_hi 3 _ rfl
  rw [hat] at y18
  obtain ⟨N, hN⟩ : ∃ N, x.f.o.lines.length = N := ⟨_, rfl⟩
  have hpN : p < N := by rw [← hN]; exact (List.getElem?_eq_some_iff.1 hi).1
  rw [hC, hN] at y3
  rw [hm] at g13 hnc htop hl
  have hlx := (Array.getElem?_eq_some_iff.1 h.x).1
  have hlf := (Array.getElem?_eq_some_iff.1 hfr.fr).1
  have hne : x.b ≠ xb := ty_ne hfr.fr h.x (by decide)
  have h1 := h.set_fr 18 (.int .i64 ((p : Int) + 1)) { x.f with at_ := (p : Int) + 1 } (fL_set_at hfr.il hfr.ol _) hfr.il hfr.ol rfl rfl
  have HX := Lib.hid h1
  have HS : Hid (R.step by_ = R.stepL by_ x.f R.stack.tail (Ln.mk 16 (r) (a) (b) (n) tx)) := Lib.hid (Rn.step_is hst (by rw [hat, List.getD_eq_getElem?_getD, Int.toNat_natCast, hi]; rfl))
  have HAT := Lib.hid hat
  have HST := Lib.hid hst
  have HFI := Lib.hid hfr.il
  have HFO := Lib.hid hfr.ol

  clear h1 hcs hrd hi hst hfr h hN hC hat
  rw [HS.out, show R.stepL by_ x.f R.stack.tail (Ln.mk 16 r a b n tx) = R.top { x.f with at_ := n } R.stack.tail from rfl]
  go_enter Tryd.func24, Tryd.ntmps24
  go_wp2
  go_region
  go_wp2
  go_region
  go_wp2
  go_returns
  exact ⟨rfl, iv, _, ov, _, (((HX.out.set_fr 18 (.int .i64 n) { x.f with at_ := n } (fL_set_at (x := { x with f := { x.f with at_ := (p : Int) + 1 } }) HFI.out HFO.out n) HFI.out HFO.out rfl rfl).later (Below.one _ _)).drew.drew)⟩
set_option maxRecDepth 1000000 in
set_option maxHeartbeats 8000000 in
theorem step_17 (by_ : ByteArray → Option Ob) (h : XS w0 w xb mb mp gv R iv sv ov (l ++ [x])) (p : Nat) (r b n : Int) (a : Nat) (tx : ByteArray) (hat : x.f.at_ = p) (hp : p ≤ 100000) (hi : x.f.o.lines[p]? = some (Ln.mk 17 (r) (a) (b) (n) tx)) (hl : l.length ≤ 900) (ha : a < 8) :
    Calls Tryd.prog 24 #[.pointer (some ⟨xb, 0, none⟩)] w fun e w' => e = .returned (.tuple #[]) ∧ StT w0 xb mb mp gv (R.step by_) w' := by
  have hst := stack_top h
  obtain ⟨sb, cap, cur, rfl, hnc, htop, _, _⟩ := h.M.top
  obtain ⟨m, hm⟩ : ∃ m, l.length = m := ⟨_, rfl⟩
  have hfr := h.fr
  have hrd := hfr.rd.below h.M.b
  obtain ⟨lb, lo, hC, hlb, hcs⟩ := hrd p _ hi
  obtain ⟨x0, x1, x2, x3, x4, x5⟩ := RdL.load hcs
  simp only at x0 x1 x2 x3 x4 x5
  have y3 := fr_hd hfr.fr 3 _ rfl
  have y18 := fr_tl hfr.fr hfr.il hfr.ol 1 _ rfl
  have f18 := free_of_heap hfr.fr 18
  have g13 := h.c_hi 3 _ rfl
  rw [hat] at y18
  obtain ⟨N, hN⟩ : ∃ N, x.f.o.lines.length = N := ⟨_, rfl⟩
  have hpN : p < N := by rw [← hN]; exact (List.getElem?_eq_some_iff.1 hi).1
  rw [hC, hN] at y3
  rw [hm] at g13 hnc htop hl
  have hlx := (Array.getElem?_eq_some_iff.1 h.x).1
  have hlf := (Array.getElem?_eq_some_iff.1 hfr.fr).1
  have hne : x.b ≠ xb := ty_ne hfr.fr h.x (by decide)
  have h1 := h.set_fr 18 (.int .i64 ((p : Int) + 1)) { x.f with at_ := (p : Int) + 1 } (fL_set_at hfr.il hfr.ol _) hfr.il hfr.ol rfl rfl
  have HX := Lib.hid h1
  have HS : Hid (R.step by_ = R.stepL by_ x.f R.stack.tail (Ln.mk 17 (r) (a) (b) (n) tx)) := Lib.hid (Rn.step_is hst (by rw [hat, List.getD_eq_getElem?_getD, Int.toNat_natCast, hi]; rfl))
  have HAT := Lib.hid hat
  have HST := Lib.hid hst
  have HFI := Lib.hid hfr.il
  have HFO := Lib.hid hfr.ol
  have c1 := h.c_reg ha
  obtain ⟨v, hv⟩ : ∃ v, R.reg.getD a 0 = v := ⟨_, rfl⟩
  rw [hv] at c1
  have HV : Hid (R.rg (a : Nat) = v) := Lib.hid hv
  clear hv
  clear h1 hcs hrd hi hst hfr h hN hC hat
  by_cases hz : v = 0
  · subst hz
    rw [HS.out, show R.stepL by_ x.f R.stack.tail (Ln.mk 17 r a b n tx) = R.top { x.f with at_ := x.f.at_ + 1 } R.stack.tail from by show (if R.rg (a : Nat) = 0 then _ else _) = _; rw [if_pos HV.out], HAT.out]
    go_enter Tryd.func24, Tryd.ntmps24
    go_wp2
    go_region
    go_wp2
    go_region
    go_wp2
    go_region
    go_wp2
    go_returns
    exact ⟨rfl, iv, _, ov, _, ((HX.out.later (Below.one _ _)).drew.drew.drew)⟩
  · have q1 : (v == 0) = false := by simpa using hz
    have q2 : (v != 0) = true := by simpa using hz
    rw [HS.out, show R.stepL by_ x.f R.stack.tail (Ln.mk 17 r a b n tx) = R.top { x.f with at_ := n } R.stack.tail from by show (if R.rg (a : Nat) = 0 then _ else _) = _; rw [if_neg (by rw [HV.out]; exact hz)]]
    go_enter Tryd.func24, Tryd.ntmps24
    go_wp2
    go_region
    go_wp2
    go_region
    go_wp2
    go_region
    go_wp2
    go_returns
    exact ⟨rfl, iv, _, ov, _, (((HX.out.set_fr 18 (.int .i64 n) { x.f with at_ := n } (fL_set_at (x := { x with f := { x.f with at_ := (p : Int) + 1 } }) HFI.out HFO.out n) HFI.out HFO.out rfl rfl).later (Below.one _ _)).drew.drew.drew)⟩
set_option maxRecDepth 1000000 in
set_option maxHeartbeats 8000000 in
theorem step_6 (by_ : ByteArray → Option Ob) (h : XS w0 w xb mb mp gv R iv sv ov (l ++ [x])) (p : Nat) (r : Nat) (a : Nat) (b : Int) (n : Int) (tx : ByteArray) (hat : x.f.at_ = p) (hp : p ≤ 100000) (hi : x.f.o.lines[p]? = some (Ln.mk 6 (r) (a) (b) (n) tx)) (hl : l.length ≤ 900) (ha : a < 8) (hr : r < 8) :
    Calls Tryd.prog 24 #[.pointer (some ⟨xb, 0, none⟩)] w fun e w' => e = .returned (.tuple #[]) ∧ StT w0 xb mb mp gv (R.step by_) w' := by
  have hst := stack_top h
  obtain ⟨sb, cap, cur, rfl, hnc, htop, _, _⟩ := h.M.top
  obtain ⟨m, hm⟩ : ∃ m, l.length = m := ⟨_, rfl⟩
  have hfr := h.fr
  have hrd := hfr.rd.below h.M.b
  obtain ⟨lb, lo, hC, hlb, hcs⟩ := hrd p _ hi
  obtain ⟨x0, x1, x2, x3, x4, x5⟩ := RdL.load hcs
  simp only at x0 x1 x2 x3 x4 x5
  have y3 := fr_hd hfr.fr 3 _ rfl
  have y18 := fr_tl hfr.fr hfr.il hfr.ol 1 _ rfl
  have f18 := free_of_heap hfr.fr 18
  have g13 := h.c_hi 3 _ rfl
  rw [hat] at y18
  obtain ⟨N, hN⟩ : ∃ N, x.f.o.lines.length = N := ⟨_, rfl⟩
  have hpN : p < N := by rw [← hN]; exact (List.getElem?_eq_some_iff.1 hi).1
  rw [hC, hN] at y3
  rw [hm] at g13 hnc htop hl
  have hlx := (Array.getElem?_eq_some_iff.1 h.x).1
  have hlf := (Array.getElem?_eq_some_iff.1 hfr.fr).1
  have hne : x.b ≠ xb := ty_ne hfr.fr h.x (by decide)
  have h1 := h.set_fr 18 (.int .i64 ((p : Int) + 1)) { x.f with at_ := (p : Int) + 1 } (fL_set_at hfr.il hfr.ol _) hfr.il hfr.ol rfl rfl
  have HX := Lib.hid h1
  have HS : Hid (R.step by_ = R.stepL by_ x.f R.stack.tail (Ln.mk 6 (r) (a) (b) (n) tx)) := Lib.hid (Rn.step_is hst (by rw [hat, List.getD_eq_getElem?_getD, Int.toNat_natCast, hi]; rfl))
  have HAT := Lib.hid hat
  have HST := Lib.hid hst
  have HFI := Lib.hid hfr.il
  have HFO := Lib.hid hfr.ol

  clear h1 hcs hrd hi hst hfr h hN hC hat
  rw [HS.out, show R.stepL by_ x.f R.stack.tail (Ln.mk 6 r a b n tx) = (R.top { x.f with at_ := x.f.at_ + 1 } R.stack.tail).touch (Ln.mk 6 r a b n tx) from rfl, HAT.out]
  go_enter Tryd.func24, Tryd.ntmps24
  go_wp2
  go_region
  go_wp2
  go_region
  go_wp2_with fail
  refine (touch_any ((HX.out.later (Below.one _ _)).drew.drew) (Ln.mk 6 r a b n tx) a rfl ha (Or.inl ⟨rfl, r, rfl, hr⟩)).mono ?_
  rintro e w7 ⟨rfl, hx7⟩
  go_wp2
  go_returns
  exact ⟨rfl, iv, _, ov, _, hx7⟩
set_option maxRecDepth 1000000 in
set_option maxHeartbeats 8000000 in
theorem step_7 (by_ : ByteArray → Option Ob) (h : XS w0 w xb mb mp gv R iv sv ov (l ++ [x])) (p : Nat) (r : Int) (a : Nat) (b : Nat) (n : Int) (tx : ByteArray) (hat : x.f.at_ = p) (hp : p ≤ 100000) (hi : x.f.o.lines[p]? = some (Ln.mk 7 (r) (a) (b) (n) tx)) (hl : l.length ≤ 900) (ha : a < 8) (hb : b < 8) :
    Calls Tryd.prog 24 #[.pointer (some ⟨xb, 0, none⟩)] w fun e w' => e = .returned (.tuple #[]) ∧ StT w0 xb mb mp gv (R.step by_) w' := by
  have hst := stack_top h
  obtain ⟨sb, cap, cur, rfl, hnc, htop, _, _⟩ := h.M.top
  obtain ⟨m, hm⟩ : ∃ m, l.length = m := ⟨_, rfl⟩
  have hfr := h.fr
  have hrd := hfr.rd.below h.M.b
  obtain ⟨lb, lo, hC, hlb, hcs⟩ := hrd p _ hi
  obtain ⟨x0, x1, x2, x3, x4, x5⟩ := RdL.load hcs
  simp only at x0 x1 x2 x3 x4 x5
  have y3 := fr_hd hfr.fr 3 _ rfl
  have y18 := fr_tl hfr.fr hfr.il hfr.ol 1 _ rfl
  have f18 := free_of_heap hfr.fr 18
  have g13 := h.c_hi 3 _ rfl
  rw [hat] at y18
  obtain ⟨N, hN⟩ : ∃ N, x.f.o.lines.length = N := ⟨_, rfl⟩
  have hpN : p < N := by rw [← hN]; exact (List.getElem?_eq_some_iff.1 hi).1
  rw [hC, hN] at y3
  rw [hm] at g13 hnc htop hl
  have hlx := (Array.getElem?_eq_some_iff.1 h.x).1
  have hlf := (Array.getElem?_eq_some_iff.1 hfr.fr).1
  have hne : x.b ≠ xb := ty_ne hfr.fr h.x (by decide)
  have h1 := h.set_fr 18 (.int .i64 ((p : Int) + 1)) { x.f with at_ := (p : Int) + 1 } (fL_set_at hfr.il hfr.ol _) hfr.il hfr.ol rfl rfl
  have HX := Lib.hid h1
  have HS : Hid (R.step by_ = R.stepL by_ x.f R.stack.tail (Ln.mk 7 (r) (a) (b) (n) tx)) := Lib.hid (Rn.step_is hst (by rw [hat, List.getD_eq_getElem?_getD, Int.toNat_natCast, hi]; rfl))
  have HAT := Lib.hid hat
  have HST := Lib.hid hst
  have HFI := Lib.hid hfr.il
  have HFO := Lib.hid hfr.ol

  clear h1 hcs hrd hi hst hfr h hN hC hat
  rw [HS.out, show R.stepL by_ x.f R.stack.tail (Ln.mk 7 r a b n tx) = (R.top { x.f with at_ := x.f.at_ + 1 } R.stack.tail).touch (Ln.mk 7 r a b n tx) from rfl, HAT.out]
  go_enter Tryd.func24, Tryd.ntmps24
  go_wp2
  go_region
  go_wp2
  go_region
  go_wp2_with fail
  refine (touch_any ((HX.out.later (Below.one _ _)).drew.drew) (Ln.mk 7 r a b n tx) a rfl ha (Or.inr ⟨rfl, b, rfl, hb⟩)).mono ?_
  rintro e w7 ⟨rfl, hx7⟩
  go_wp2
  go_returns
  exact ⟨rfl, iv, _, ov, _, hx7⟩
set_option maxRecDepth 1000000 in
set_option maxHeartbeats 8000000 in
theorem step_9 (by_ : ByteArray → Option Ob) (h : XS w0 w xb mb mp gv R iv sv ov (l ++ [x])) (p : Nat) (r b : Int) (a n : Nat) (tx : ByteArray) (hat : x.f.at_ = p) (hp : p ≤ 100000) (hi : x.f.o.lines[p]? = some (Ln.mk 9 (r) (a) (b) (n) tx)) (hl : l.length ≤ 900) (ha : a < 8) (hn : n < x.f.slots.length) :
    Calls Tryd.prog 24 #[.pointer (some ⟨xb, 0, none⟩)] w fun e w' => e = .returned (.tuple #[]) ∧ StT w0 xb mb mp gv (R.step by_) w' := by
  have hst := stack_top h
  obtain ⟨sb, cap, cur, rfl, hnc, htop, _, _⟩ := h.M.top
  obtain ⟨m, hm⟩ : ∃ m, l.length = m := ⟨_, rfl⟩
  have hfr := h.fr
  have hrd := hfr.rd.below h.M.b
  obtain ⟨lb, lo, hC, hlb, hcs⟩ := hrd p _ hi
  obtain ⟨x0, x1, x2, x3, x4, x5⟩ := RdL.load hcs
  simp only at x0 x1 x2 x3 x4 x5
  have y3 := fr_hd hfr.fr 3 _ rfl
  have y18 := fr_tl hfr.fr hfr.il hfr.ol 1 _ rfl
  have f18 := free_of_heap hfr.fr 18
  have g13 := h.c_hi 3 _ rfl
  rw [hat] at y18
  obtain ⟨N, hN⟩ : ∃ N, x.f.o.lines.length = N := ⟨_, rfl⟩
  have hpN : p < N := by rw [← hN]; exact (List.getElem?_eq_some_iff.1 hi).1
  rw [hC, hN] at y3
  rw [hm] at g13 hnc htop hl
  have hlx := (Array.getElem?_eq_some_iff.1 h.x).1
  have hlf := (Array.getElem?_eq_some_iff.1 hfr.fr).1
  have hne : x.b ≠ xb := ty_ne hfr.fr h.x (by decide)
  have h1 := h.set_fr 18 (.int .i64 ((p : Int) + 1)) { x.f with at_ := (p : Int) + 1 } (fL_set_at hfr.il hfr.ol _) hfr.il hfr.ol rfl rfl
  have HX := Lib.hid h1
  have HS : Hid (R.step by_ = R.stepL by_ x.f R.stack.tail (Ln.mk 9 (r) (a) (b) (n) tx)) := Lib.hid (Rn.step_is hst (by rw [hat, List.getD_eq_getElem?_getD, Int.toNat_natCast, hi]; rfl))
  have HAT := Lib.hid hat
  have HST := Lib.hid hst
  have HFI := Lib.hid hfr.il
  have HFO := Lib.hid hfr.ol
  have y4 := fr_hd hfr.fr 4 _ rfl
  have c2 := regs_cell hfr.sl hn
  have f2 := free_of_heap hfr.sl n
  have hne2 : x.t ≠ x.b := ty_ne hfr.sl hfr.fr (by decide)
  have hne3 : x.t ≠ xb := ty_ne hfr.sl h.x (by decide)
  have hlt := (Array.getElem?_eq_some_iff.1 hfr.sl).1
  obtain ⟨sl, hsl⟩ : ∃ sl, x.f.slots.length = sl := ⟨_, rfl⟩
  rw [hsl] at y4 hn
  clear hsl
  have c1 := h.c_reg ha
  obtain ⟨v, hv⟩ : ∃ v, R.reg.getD a 0 = v := ⟨_, rfl⟩
  rw [hv] at c1
  have HV : Hid (R.rg (a : Nat) = v) := Lib.hid hv
  clear hv
  clear h1 hcs hrd hi hst hfr h hN hC hat
  rw [HS.out, show R.stepL by_ x.f R.stack.tail (Ln.mk 9 r a b n tx) = R.top { x.f with at_ := x.f.at_ + 1, slots := x.f.slots.set n (R.rg (a : Nat)) } R.stack.tail from rfl, HAT.out, HV.out]
  go_enter Tryd.func24, Tryd.ntmps24
  go_wp2
  go_region
  go_wp2
  go_region
  go_wp2
  go_region
  go_wp2
  go_returns
  exact ⟨rfl, iv, _, ov, _, (((HX.out.set_slot n v).later (Below.one _ _)).drew.drew.drew)⟩
set_option maxRecDepth 1000000 in
set_option maxHeartbeats 8000000 in
theorem step_10 (by_ : ByteArray → Option Ob) (h : XS w0 w xb mb mp gv R iv sv ov (l ++ [x])) (p : Nat) (r b : Int) (a n : Nat) (tx : ByteArray) (hat : x.f.at_ = p) (hp : p ≤ 100000) (hi : x.f.o.lines[p]? = some (Ln.mk 10 (r) (a) (b) (n) tx)) (hl : l.length ≤ 900) (ha : a < 8) (hn : n < 6) :
    Calls Tryd.prog 24 #[.pointer (some ⟨xb, 0, none⟩)] w fun e w' => e = .returned (.tuple #[]) ∧ StT w0 xb mb mp gv (R.step by_) w' := by
  have hst := stack_top h
  obtain ⟨sb, cap, cur, rfl, hnc, htop, _, _⟩ := h.M.top
  obtain ⟨m, hm⟩ : ∃ m, l.length = m := ⟨_, rfl⟩
  have hfr := h.fr
  have hrd := hfr.rd.below h.M.b
  obtain ⟨lb, lo, hC, hlb, hcs⟩ := hrd p _ hi
  obtain ⟨x0, x1, x2, x3, x4, x5⟩ := RdL.load hcs
  simp only at x0 x1 x2 x3 x4 x5
  have y3 := fr_hd hfr.fr 3 _ rfl
  have y18 := fr_tl hfr.fr hfr.il hfr.ol 1 _ rfl
  have f18 := free_of_heap hfr.fr 18
  have g13 := h.c_hi 3 _ rfl
  rw [hat] at y18
  obtain ⟨N, hN⟩ : ∃ N, x.f.o.lines.length = N := ⟨_, rfl⟩
  have hpN : p < N := by rw [← hN]; exact (List.getElem?_eq_some_iff.1 hi).1
  rw [hC, hN] at y3
  rw [hm] at g13 hnc htop hl
  have hlx := (Array.getElem?_eq_some_iff.1 h.x).1
  have hlf := (Array.getElem?_eq_some_iff.1 hfr.fr).1
  have hne : x.b ≠ xb := ty_ne hfr.fr h.x (by decide)
  have h1 := h.set_fr 18 (.int .i64 ((p : Int) + 1)) { x.f with at_ := (p : Int) + 1 } (fL_set_at hfr.il hfr.ol _) hfr.il hfr.ol rfl rfl
  have HX := Lib.hid h1
  have HS : Hid (R.step by_ = R.stepL by_ x.f R.stack.tail (Ln.mk 10 (r) (a) (b) (n) tx)) := Lib.hid (Rn.step_is hst (by rw [hat, List.getD_eq_getElem?_getD, Int.toNat_natCast, hi]; rfl))
  have HAT := Lib.hid hat
  have HST := Lib.hid hst
  have HFI := Lib.hid hfr.il
  have HFO := Lib.hid hfr.ol
  have c2 := fr_out hfr.fr hfr.il hfr.ol hn
  have f2 := free_of_heap hfr.fr (11 + n)
  have c1 := h.c_reg ha
  obtain ⟨v, hv⟩ : ∃ v, R.reg.getD a 0 = v := ⟨_, rfl⟩
  rw [hv] at c1
  have HV : Hid (R.rg (a : Nat) = v) := Lib.hid hv
  clear hv
  clear h1 hcs hrd hi hst hfr h hN hC hat
  rw [HS.out, show R.stepL by_ x.f R.stack.tail (Ln.mk 10 r a b n tx) = R.top { x.f with at_ := x.f.at_ + 1, out := x.f.out.set n (R.rg (a : Nat)) } R.stack.tail from rfl, HAT.out, HV.out]
  go_enter Tryd.func24, Tryd.ntmps24
  go_wp2
  go_region
  go_wp2
  go_region
  go_wp2
  go_region
  go_wp2
  go_returns
  exact ⟨rfl, iv, _, ov, _, (((HX.out.set_fr (11 + n) (.int .i64 v) { x.f with at_ := (p : Int) + 1, out := x.f.out.set n v } (fL_set_out (x := { x with f := { x.f with at_ := (p : Int) + 1 } }) HFI.out HFO.out hn v) HFI.out (by simpa using HFO.out) rfl rfl).later (Below.one _ _)).drew.drew.drew)⟩
set_option maxRecDepth 1000000 in
set_option maxHeartbeats 8000000 in
theorem step_18 (by_ : ByteArray → Option Ob) (h : XS w0 w xb mb mp gv R iv sv ov (l ++ [x])) (p : Nat) (r b n : Int) (a : Nat) (tx : ByteArray) (hat : x.f.at_ = p) (hp : p ≤ 100000) (hi : x.f.o.lines[p]? = some (Ln.mk 18 (r) (a) (b) (n) tx)) (hl : l.length ≤ 900) (ha : a < 8) (hsp : 0 ≤ R.sp ∧ R.sp ≤ 100000) (hfrm : 0 ≤ x.f.o.frame ∧ x.f.o.frame ≤ 100000) :
    Calls Tryd.prog 24 #[.pointer (some ⟨xb, 0, none⟩)] w fun e w' => e = .returned (.tuple #[]) ∧ StT w0 xb mb mp gv (R.step by_) w' := by
  have hst := stack_top h
  obtain ⟨sb, cap, cur, rfl, hnc, htop, _, _⟩ := h.M.top
  obtain ⟨m, hm⟩ : ∃ m, l.length = m := ⟨_, rfl⟩
  have hfr := h.fr
  have hrd := hfr.rd.below h.M.b
  obtain ⟨lb, lo, hC, hlb, hcs⟩ := hrd p _ hi
  obtain ⟨x0, x1, x2, x3, x4, x5⟩ := RdL.load hcs
  simp only at x0 x1 x2 x3 x4 x5
  have y3 := fr_hd hfr.fr 3 _ rfl
  have y18 := fr_tl hfr.fr hfr.il hfr.ol 1 _ rfl
  have f18 := free_of_heap hfr.fr 18
  have g13 := h.c_hi 3 _ rfl
  rw [hat] at y18
  obtain ⟨N, hN⟩ : ∃ N, x.f.o.lines.length = N := ⟨_, rfl⟩
  have hpN : p < N := by rw [← hN]; exact (List.getElem?_eq_some_iff.1 hi).1
  rw [hC, hN] at y3
  rw [hm] at g13 hnc htop hl
  have hlx := (Array.getElem?_eq_some_iff.1 h.x).1
  have hlf := (Array.getElem?_eq_some_iff.1 hfr.fr).1
  have hne : x.b ≠ xb := ty_ne hfr.fr h.x (by decide)
  have h1 := h.set_fr 18 (.int .i64 ((p : Int) + 1)) { x.f with at_ := (p : Int) + 1 } (fL_set_at hfr.il hfr.ol _) hfr.il hfr.ol rfl rfl
  have HX := Lib.hid h1
  have HS : Hid (R.step by_ = R.stepL by_ x.f R.stack.tail (Ln.mk 18 (r) (a) (b) (n) tx)) := Lib.hid (Rn.step_is hst (by rw [hat, List.getD_eq_getElem?_getD, Int.toNat_natCast, hi]; rfl))
  have HAT := Lib.hid hat
  have HST := Lib.hid hst
  have HFI := Lib.hid hfr.il
  have HFO := Lib.hid hfr.ol
  have c1 := h.c_reg ha
  obtain ⟨v, hv⟩ : ∃ v, R.reg.getD a 0 = v := ⟨_, rfl⟩
  rw [hv] at c1
  have HV : Hid (R.rg (a : Nat) = v) := Lib.hid hv
  clear hv
  clear h1 hcs hrd hi hst hfr h hN hC hat
  rw [HS.out, show R.stepL by_ x.f R.stack.tail (Ln.mk 18 r a b n tx) = (R.top { x.f with at_ := x.f.at_ + 1 } R.stack.tail).back { x.f with at_ := x.f.at_ + 1 } (R.rg (a : Nat)) from rfl, HAT.out, HV.out]
  go_enter Tryd.func24, Tryd.ntmps24
  go_wp2
  go_region
  go_wp2
  go_region
  go_wp2
  go_region_with (first
    | (go_at_call 43; refine (back_any ((HX.out.later (Below.one _ _)).drew.drew.drew) v (by omega) hsp hfrm).mono ?_; rintro e w7 ⟨rfl, sv', hx7⟩))
  all_goals
    go_wp2
    go_returns
    exact ⟨rfl, iv, _, ov, _, hx7⟩
set_option maxRecDepth 1000000 in
set_option maxHeartbeats 8000000 in
theorem step_rk (by_ : ByteArray → Option Ob) (h : XS w0 w xb mb mp gv R iv sv ov (l ++ [x])) (p : Nat) (k r a b n : Int) (tx : ByteArray) (hat : x.f.at_ = p) (hp : p ≤ 100000) (hi : x.f.o.lines[p]? = some (Ln.mk k (r) (a) (b) (n) tx)) (hl : l.length ≤ 900) (n6 : k ≠ 6) (n7 : k ≠ 7) (n9 : k ≠ 9) (n10 : k ≠ 10) (n12 : k ≠ 12) (n15 : k ≠ 15) (n16 : k ≠ 16) (n17 : k ≠ 17) (n18 : k ≠ 18) (hrk : ∀ (W' : World) (x' : Fb), x'.b = x.b → x'.f = { x.f with at_ := (p : Int) + 1 } → XS w0 W' xb mb mp gv (R.top { x.f with at_ := (p : Int) + 1 } R.stack.tail) iv sv ov (l ++ [x']) → Calls Tryd.prog 44 #[.pointer (some ⟨xb, 0, none⟩), fP x', (Ln.mk k r a b n tx).agg] W' fun e w' => e = .returned (.tuple #[]) ∧ ∃ iv', XS w0 w' xb mb mp gv ((R.top { x.f with at_ := (p : Int) + 1 } R.stack.tail).reckon { x.f with at_ := (p : Int) + 1 } (Ln.mk k r a b n tx)) iv' sv ov (l ++ [x'])) :
    Calls Tryd.prog 24 #[.pointer (some ⟨xb, 0, none⟩)] w fun e w' => e = .returned (.tuple #[]) ∧ StT w0 xb mb mp gv (R.step by_) w' := by
  have hst := stack_top h
  obtain ⟨sb, cap, cur, rfl, hnc, htop, _, _⟩ := h.M.top
  obtain ⟨m, hm⟩ : ∃ m, l.length = m := ⟨_, rfl⟩
  have hfr := h.fr
  have hrd := hfr.rd.below h.M.b
  obtain ⟨lb, lo, hC, hlb, hcs⟩ := hrd p _ hi
  obtain ⟨x0, x1, x2, x3, x4, x5⟩ := RdL.load hcs
  simp only at x0 x1 x2 x3 x4 x5
  have y3 := fr_hd hfr.fr 3 _ rfl
  have y18 := fr_tl hfr.fr hfr.il hfr.ol 1 _ rfl
  have f18 := free_of_heap hfr.fr 18
  have g13 := h.c_hi 3 _ rfl
  rw [hat] at y18
  obtain ⟨N, hN⟩ : ∃ N, x.f.o.lines.length = N := ⟨_, rfl⟩
  have hpN : p < N := by rw [← hN]; exact (List.getElem?_eq_some_iff.1 hi).1
  rw [hC, hN] at y3
  rw [hm] at g13 hnc htop hl
  have hlx := (Array.getElem?_eq_some_iff.1 h.x).1
  have hlf := (Array.getElem?_eq_some_iff.1 hfr.fr).1
  have hne : x.b ≠ xb := ty_ne hfr.fr h.x (by decide)
  have h1 := h.set_fr 18 (.int .i64 ((p : Int) + 1)) { x.f with at_ := (p : Int) + 1 } (fL_set_at hfr.il hfr.ol _) hfr.il hfr.ol rfl rfl
  have HX := Lib.hid h1
  have HS : Hid (R.step by_ = R.stepL by_ x.f R.stack.tail (Ln.mk k (r) (a) (b) (n) tx)) := Lib.hid (Rn.step_is hst (by rw [hat, List.getD_eq_getElem?_getD, Int.toNat_natCast, hi]; rfl))
  have HAT := Lib.hid hat
  have HST := Lib.hid hst
  have HFI := Lib.hid hfr.il
  have HFO := Lib.hid hfr.ol
  have q6 : (k == 6) = false := by simpa using n6
  have q7 : (k == 7) = false := by simpa using n7
  have q9 : (k == 9) = false := by simpa using n9
  have q10 : (k == 10) = false := by simpa using n10
  have q12 : (k == 12) = false := by simpa using n12
  have q15 : (k == 15) = false := by simpa using n15
  have q16 : (k == 16) = false := by simpa using n16
  have q17 : (k == 17) = false := by simpa using n17
  have q18 : (k == 18) = false := by simpa using n18
  have hrk2 := hrk _ { x with f := { x.f with at_ := (p : Int) + 1 } } rfl rfl ((HX.out.later (Below.one _ (.cells #[.int .i64 k, .int .i64 r, .int .i64 a, .int .i64 b, .int .i64 n, .string tx] 36 (0, 0)))).drew.drew)
  have HRK := Lib.hid hrk2
  clear hrk hrk2
  clear h1 hcs hrd hi hst hfr h hN hC hat
  rw [HS.out, show R.stepL by_ x.f R.stack.tail (Ln.mk k r a b n tx) = (R.top { x.f with at_ := x.f.at_ + 1 } R.stack.tail).reckon { x.f with at_ := x.f.at_ + 1 } (Ln.mk k r a b n tx) from by unfold Rn.stepL; simp only [n6, n7, n9, n10, n12, n15, n16, n17, n18, or_self, if_false], HAT.out]
  clear n6 n7 n9 n10 n12 n15 n16 n17 n18
  go_enter Tryd.func24, Tryd.ntmps24
  go_wp2
  go_region
  go_wp2
  go_region
  go_wp2_with fail
  refine HRK.out.mono ?_
  rintro e w7 ⟨rfl, iv', hx7⟩
  go_wp2
  go_returns
  exact ⟨rfl, iv', _, ov, _, hx7⟩
set_option maxRecDepth 1000000 in
set_option maxHeartbeats 8000000 in
theorem step_12 (by_ : ByteArray → Option Ob) (h : XS w0 w xb mb mp gv R iv sv ov (l ++ [x])) (p : Nat) (r a b n : Int) (tx : ByteArray) (hat : x.f.at_ = p) (hp : p ≤ 100000) (hi : x.f.o.lines[p]? = some (Ln.mk 12 (r) (a) (b) (n) tx)) (hl : l.length ≤ 900) (o : Ob) (C : Option Addr) (oc : Nat) (hby : by_ tx = some o) (hgv : gv tx = some (obAgg o C oc)) (hrdo : RdL w0 C o.lines) (hsl : 0 ≤ o.slots ∧ o.slots ≤ 4096) (hfrm : 0 ≤ o.frame ∧ o.frame ≤ 4096) (hsp : 0 ≤ R.sp ∧ R.sp ≤ 4096) :
    Calls Tryd.prog 24 #[.pointer (some ⟨xb, 0, none⟩)] w fun e w' => e = .returned (.tuple #[]) ∧ StT w0 xb mb mp gv (R.step by_) w' := by
  have hst := stack_top h
  obtain ⟨sb, cap, cur, rfl, hnc, htop, _, _⟩ := h.M.top
  obtain ⟨m, hm⟩ : ∃ m, l.length = m := ⟨_, rfl⟩
  have hfr := h.fr
  have hrd := hfr.rd.below h.M.b
  obtain ⟨lb, lo, hC, hlb, hcs⟩ := hrd p _ hi
  obtain ⟨x0, x1, x2, x3, x4, x5⟩ := RdL.load hcs
  simp only at x0 x1 x2 x3 x4 x5
  have y3 := fr_hd hfr.fr 3 _ rfl
  have y18 := fr_tl hfr.fr hfr.il hfr.ol 1 _ rfl
  have f18 := free_of_heap hfr.fr 18
  have g13 := h.c_hi 3 _ rfl
  rw [hat] at y18
  obtain ⟨N, hN⟩ : ∃ N, x.f.o.lines.length = N := ⟨_, rfl⟩
  have hpN : p < N := by rw [← hN]; exact (List.getElem?_eq_some_iff.1 hi).1
  rw [hC, hN] at y3
  rw [hm] at g13 hnc htop hl
  have hlx := (Array.getElem?_eq_some_iff.1 h.x).1
  have hlf := (Array.getElem?_eq_some_iff.1 hfr.fr).1
  have hne : x.b ≠ xb := ty_ne hfr.fr h.x (by decide)
  have h1 := h.set_fr 18 (.int .i64 ((p : Int) + 1)) { x.f with at_ := (p : Int) + 1 } (fL_set_at hfr.il hfr.ol _) hfr.il hfr.ol rfl rfl
  have HX := Lib.hid h1
  have HS : Hid (R.step by_ = R.stepL by_ x.f R.stack.tail (Ln.mk 12 (r) (a) (b) (n) tx)) := Lib.hid (Rn.step_is hst (by rw [hat, List.getD_eq_getElem?_getD, Int.toNat_natCast, hi]; rfl))
  have HAT := Lib.hid hat
  have HST := Lib.hid hst
  have HFI := Lib.hid hfr.il
  have HFO := Lib.hid hfr.ol
  obtain ⟨b0, b1, b2, b3, b4, b5, hout⟩ : ∃ b0 b1 b2 b3 b4 b5, x.f.out = [b0, b1, b2, b3, b4, b5] := by
    have hol := hfr.ol
    match x.f.out, hol with
    | [b0, b1, b2, b3, b4, b5], _ => exact ⟨b0, b1, b2, b3, b4, b5, rfl⟩
  have c0 := fr_out hfr.fr hfr.il hfr.ol (k := 0) (by omega)
  have c1 := fr_out hfr.fr hfr.il hfr.ol (k := 1) (by omega)
  have c2 := fr_out hfr.fr hfr.il hfr.ol (k := 2) (by omega)
  have c3 := fr_out hfr.fr hfr.il hfr.ol (k := 3) (by omega)
  have c4 := fr_out hfr.fr hfr.il hfr.ol (k := 4) (by omega)
  have c5 := fr_out hfr.fr hfr.il hfr.ol (k := 5) (by omega)
  rw [hout] at c0 c1 c2 c3 c4 c5
  simp only [List.getD_eq_getElem?_getD, List.getElem?_cons_zero, List.getElem?_cons_succ, Option.getD_some] at c0 c1 c2 c3 c4 c5
  have u11 := free_of_heap hfr.fr 11
  have u12 := free_of_heap hfr.fr 12
  have u13 := free_of_heap hfr.fr 13
  have u14 := free_of_heap hfr.fr 14
  have u15 := free_of_heap hfr.fr 15
  have u16 := free_of_heap hfr.fr 16
  have g0 := h.cell 0 (.map (some mp)) (by rw [xL_lo 0 (by omega)]; rfl)
  have HOUT := Lib.hid hout
  have HBY := Lib.hid hby
  have HGV := Lib.hid hgv
  have HRO := Lib.hid hrdo
  clear hout hby hgv hrdo
  clear h1 hcs hrd hi hst hfr h hN hC hat
  rw [HS.out, show R.stepL by_ x.f R.stack.tail (Ln.mk 12 r a b n tx) = (R.top { x.f with at_ := x.f.at_ + 1, out := zero6 } R.stack.tail).enter o x.f.out from by show (match by_ tx with | some o => _ | none => _) = _; rw [HBY.out], HAT.out, HOUT.out]
  go_enter Tryd.func24, Tryd.ntmps24
  go_wp2
  go_region
  go_wp2
  go_region
  go_wp2
  obtain ⟨S, hS⟩ : ∃ S, S = ((((((w.setCell ⟨x.b, 18, none⟩ (.int .i64 ((p : Int) + 1))).setCell ⟨x.b, 11, none⟩ (.int .i64 0)).setCell ⟨x.b, 12, none⟩ (.int .i64 0)).setCell ⟨x.b, 13, none⟩ (.int .i64 0)).setCell ⟨x.b, 14, none⟩ (.int .i64 0)).setCell ⟨x.b, 15, none⟩ (.int .i64 0)).setCell ⟨x.b, 16, none⟩ (.int .i64 0) := ⟨_, rfl⟩
  have hzz := HX.out.zero_out b0 b1 b2 b3 b4 b5 HOUT.out
  have hSs : S.heap.size = w.heap.size := by rw [hS]; simp [World.setCell]
  rw [← hS] at hzz ⊢
  clear hS
  have k1 := heap_alloc_new S (.cells #[.int .i64 12, .int .i64 r, .int .i64 a, .int .i64 b, .int .i64 n, .string tx] 36 (0, 0))
  have k2 := heap_alloc_new (S.alloc (.cells #[.int .i64 12, .int .i64 r, .int .i64 a, .int .i64 b, .int .i64 n, .string tx] 36 (0, 0))) (.cells #[.int .i64 b0, .int .i64 b1, .int .i64 b2, .int .i64 b3, .int .i64 b4, .int .i64 b5] 67 (0, 0))
  have k1 := alloc_keeps k1 (.cells #[.int .i64 b0, .int .i64 b1, .int .i64 b2, .int .i64 b3, .int .i64 b4, .int .i64 b5] 67 (0, 0))
  rw [hSs] at k1
  rw [show (S.alloc (.cells #[.int .i64 12, .int .i64 r, .int .i64 a, .int .i64 b, .int .i64 n, .string tx] 36 (0, 0))).heap.size = w.heap.size + 1 by simp [hSs]] at k2
  have hz := ((hzz.later (Below.one _ (.cells #[.int .i64 12, .int .i64 r, .int .i64 a, .int .i64 b, .int .i64 n, .string tx] 36 (0, 0)))).later (Below.one _ (.cells #[.int .i64 b0, .int .i64 b1, .int .i64 b2, .int .i64 b3, .int .i64 b4, .int .i64 b5] 67 (0, 0)))).drew.drew
  clear hzz hSs
  obtain ⟨W5, hW5⟩ : ∃ W5, W5 = ((S.alloc (.cells #[.int .i64 12, .int .i64 r, .int .i64 a, .int .i64 b, .int .i64 n, .string tx] 36 (0, 0))).alloc (.cells #[.int .i64 b0, .int .i64 b1, .int .i64 b2, .int .i64 b3, .int .i64 b4, .int .i64 b5] 67 (0, 0))).drew.drew := ⟨_, rfl⟩
  have k1 : W5.heap[w.heap.size]? = some (.cells #[.int .i64 12, .int .i64 r, .int .i64 a, .int .i64 b, .int .i64 n, .string tx] 36 (0, 0)) := by rw [hW5]; exact k1
  have k2 : W5.heap[w.heap.size + 1]? = some (.cells #[.int .i64 b0, .int .i64 b1, .int .i64 b2, .int .i64 b3, .int .i64 b4, .int .i64 b5] 67 (0, 0)) := by rw [hW5]; exact k2
  rw [← hW5] at hz ⊢
  clear hW5
  clear x0 x1 x2 x3 x4 x5 y3 y18 f18 g13 c0 c1 c2 c3 c4 c5 u11 u12 u13 u14 u15 u16 g0 htop
  have c5 := cell_of_heap k1 5 (.string tx) rfl
  have d0 := cell_of_heap k2 0 (.int .i64 b0) rfl
  have d1 := cell_of_heap k2 1 (.int .i64 b1) rfl
  have d2 := cell_of_heap k2 2 (.int .i64 b2) rfl
  have d3 := cell_of_heap k2 3 (.int .i64 b3) rfl
  have d4 := cell_of_heap k2 4 (.int .i64 b4) rfl
  have d5 := cell_of_heap k2 5 (.int .i64 b5) rfl
  have g0 := hz.cell 0 (.map (some mp)) (by rw [xL_lo 0 (by omega)]; rfl)
  have hlk := MapK.lookup kvStr hz.drew.M.mpk (t := 59) (e := 39) (by kernel_rfl) (z := .agg #[.string ⟨#[]⟩, .int .i64 0, .int .i64 0, .slice none 0 0]) (by kernel_rfl) tx false
  rw [HGV.out] at hlk
  simp only [Bool.false_eq_true, if_false, Option.getD_some] at hlk
  have hen := enter_any hz.drew o C oc b0 b1 b2 b3 b4 b5 HRO.out hsl hfrm hsp (by simp; omega)
  have HEN := Lib.hid hen
  clear hz hen k1 k2
  go_still_tail 9, (by kernel_rfl)
  go_wp2_with fail
  refine HEN.out.mono ?_
  rintro e w7 ⟨rfl, sv', l', hx7⟩
  go_wp2
  go_returns
  exact ⟨rfl, iv, sv', ov, l', hx7⟩
end
end Go.Proofs.YtihbgppcacaekaaDoor
