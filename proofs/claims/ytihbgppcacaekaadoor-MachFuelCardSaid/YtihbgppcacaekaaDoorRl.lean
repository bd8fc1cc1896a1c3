import Derived.Test.YtihbgppcacaekaaDoorRj
import Derived.Test.YtihbgppcacaekaaDoorQx
import Derived.Test.YtihbgppcacaekaaDoorPe
/- MachFuel. -/
namespace Go.Proofs.YtihbgppcacaekaaDoor
open Go.RowKit Go.BigFrame

theorem sIm : (Tryd.prog.info? 25).map (·.size) = some 3 := by kernel_rfl
theorem uIm : Tryd.prog.underlying 25 = some (.struct (Tryd.prog.fieldsOf 25)) := by kernel_rfl
/-- what two runs have told -/
def FuG (w0 : World) (im inp f g : Value) (rA rB : Rs) : Nat → Value → World → Prop
  | 0, v, _ => v = im
  | 1, v, _ => v = inp
  | 2, v, _ => v = f
  | 3, v, w => ∃ A cap, v = reAgg rA A cap ∧ RdBc w A rA.outp cap
  | 4, v, _ => v = im
  | 5, v, _ => v = inp
  | 6, v, _ => v = g
  | 7, v, w => ∃ A cap, v = reAgg rB A cap ∧ RdBc w A rB.outp cap
  | 8, v, w => ∃ p, v = .pointer (some ⟨p, 0, none⟩) ∧ w0.heap.size ≤ p ∧ w.heap[p]? = some (.cells #[.int .i64 0, .int .i64 0, .slice none 0 0] 30 (0, 0))
  | 9, v, w => ∃ p, v = .pointer (some ⟨p, 0, none⟩) ∧ w0.heap.size ≤ p ∧ w.heap[p]? = some (.cells #[.int .i64 0, .int .i64 0, .slice none 0 0] 30 (0, 0))
  | _, _, _ => True
theorem FuG.grow {w0 : World} {im inp f g : Value} {rA rB : Rs} : ∀ i v w w', Below w.heap.size w w' → FuG w0 im inp f g rA rB i v w → FuG w0 im inp f g rA rB i v w'
  | 0, _, _, _, _, h => h
  | 1, _, _, _, _, h => h
  | 2, _, _, _, _, h => h
  | 3, _, _, _, hb, ⟨A, cap, e, hr⟩ => ⟨A, cap, e, hr.below hb⟩
  | 4, _, _, _, _, h => h
  | 5, _, _, _, _, h => h
  | 6, _, _, _, _, h => h
  | 7, _, _, _, hb, ⟨A, cap, e, hr⟩ => ⟨A, cap, e, hr.below hb⟩
  | 8, _, _, _, hb, ⟨p, e, h1, h2⟩ => ⟨p, e, h1, keepB hb h2⟩
  | 9, _, _, _, hb, ⟨p, e, h1, h2⟩ => ⟨p, e, h1, keepB hb h2⟩
  | _ + 10, _, _, _, _, _ => trivial
/-- and the two boxes are two -/
structure FuI (w0 W : World) (im inp f g : Value) (rA rB : Rs) (s : Nat → Option Value) (w : World) : Prop where
  i : IG W (FuG w0 im inp f g rA rB) s w
  n : ∀ p q, s 8 = some p → s 9 = some q → p ≠ q
theorem FuI.step {w0 W w w' : World} {im inp f g : Value} {rA rB : Rs} {s : Nat → Option Value} (h : FuI w0 W im inp f g rA rB s w) (hb : Below w.heap.size w w') (i : Nat) (v : Value) (h8 : i ≠ 8) (h9 : i ≠ 9) (hv : FuG w0 im inp f g rA rB i v w') : FuI w0 W im inp f g rA rB (updT s i v) w' :=
  ⟨h.i.step FuG.grow hb i v hv, fun p q e1 e2 => h.n p q (by simpa [updT, Ne.symm h8] using e1) (by simpa [updT, Ne.symm h9] using e2)⟩
theorem FuI.box8 {w0 W w : World} {im inp f g : Value} {rA rB : Rs} {s : Nat → Option Value} (h : FuI w0 W im inp f g rA rB s w) (h0 : w0.heap.size ≤ w.heap.size) : FuI w0 W im inp f g rA rB (updT s 8 (.pointer (some ⟨w.heap.size, 0, none⟩))) (w.alloc (.cells #[.int .i64 0, .int .i64 0, .slice none 0 0] 30 (0, 0))) :=
  ⟨h.i.step FuG.grow (Below.one w _) 8 _ ⟨_, rfl, h0, heap_alloc_new w _⟩, fun p q e1 e2 => by
    have e1' : p = .pointer (some ⟨w.heap.size, 0, none⟩) := by simpa [updT] using e1.symm
    have e2' : s 9 = some q := by simpa [updT] using e2
    obtain ⟨b, rfl, _, hh⟩ := h.i.g 9 _ e2'
    have := (Array.getElem?_eq_some_iff.1 hh).1
    subst e1'
    intro e
    injection e with e
    injection e with e
    injection e with e
    omega⟩
theorem FuI.box9 {w0 W w : World} {im inp f g : Value} {rA rB : Rs} {s : Nat → Option Value} (h : FuI w0 W im inp f g rA rB s w) (h0 : w0.heap.size ≤ w.heap.size) : FuI w0 W im inp f g rA rB (updT s 9 (.pointer (some ⟨w.heap.size, 0, none⟩))) (w.alloc (.cells #[.int .i64 0, .int .i64 0, .slice none 0 0] 30 (0, 0))) :=
  ⟨h.i.step FuG.grow (Below.one w _) 9 _ ⟨_, rfl, h0, heap_alloc_new w _⟩, fun p q e1 e2 => by
    have e1' : s 8 = some p := by simpa [updT] using e1
    have e2' : q = .pointer (some ⟨w.heap.size, 0, none⟩) := by simpa [updT] using e2.symm
    obtain ⟨b, rfl, _, hh⟩ := h.i.g 8 _ e1'
    have := (Array.getElem?_eq_some_iff.1 hh).1
    subst e2'
    intro e
    injection e with e
    injection e with e
    injection e with e
    omega⟩
theorem rd_not {w : World} {b j : Nat} {n : Int} (h : w.heap[b]? = some (.cells #[.int .i64 0, .int .i64 0, .slice none 0 0] 30 (0, 0))) (hc : w.cell? ⟨b, j, none⟩ = some (.int .u8 n)) : False := by
  simp only [World.cell?, h] at hc
  match j, hc with
  | 0, hc => simp at hc
  | 1, hc => simp at hc
  | 2, hc => simp at hc
  | j + 3, hc => simp at hc
abbrev boxed (wr : World) (p : Nat) (r : Rs) (A : Option Addr) (c : Nat) : World := ((wr.setCell ⟨p, 0, none⟩ (.int .i64 r.how)).setCell ⟨p, 1, none⟩ (.int .i64 r.code)).setCell ⟨p, 2, none⟩ (.slice A r.outp.length c)
theorem two_boxes {w : World} (wr : World) (p q : Nat) (hpq : p ≠ q) (hp : wr.heap[p]? = some (.cells #[.int .i64 0, .int .i64 0, .slice none 0 0] 30 (0, 0))) (hq : wr.heap[q]? = some (.cells #[.int .i64 0, .int .i64 0, .slice none 0 0] 30 (0, 0))) (rA rB : Rs) (A B : Option Addr) (ca cb : Nat) (hA : RdBc wr A rA.outp ca) (hB : RdBc wr B rB.outp cb) (hp0 : w.heap.size ≤ p) (hq0 : w.heap.size ≤ q) (hb : Below w.heap.size w wr) :
    ∀ wf, wf = boxed (boxed wr p rA A ca) q rB B cb → Below w.heap.size w wf ∧ wf.heap[p]? = some (reObj rA A ca) ∧ wf.heap[q]? = some (reObj rB B cb) ∧ RdBc wf A rA.outp ca ∧ RdBc wf B rB.outp cb := by
  rintro wf rfl
  have h1 : (boxed wr p rA A ca).heap[p]? = some (reObj rA A ca) := heap_setCell (j := 2) (heap_setCell (j := 1) (heap_setCell (j := 0) hp _) _) _
  have o1 : ∀ (W : World) (b k : Nat) (r : Rs) (A : Option Addr) (c : Nat), k ≠ b → (boxed W b r A c).heap[k]? = W.heap[k]? := fun W b k r A c hk =>
    (heap_setCell_other _ ⟨b, 2, none⟩ k _ hk).trans ((heap_setCell_other _ ⟨b, 1, none⟩ k _ hk).trans (heap_setCell_other _ ⟨b, 0, none⟩ k _ hk))
  have h2 : (boxed (boxed wr p rA A ca) q rB B cb).heap[q]? = some (reObj rB B cb) := heap_setCell (j := 2) (heap_setCell (j := 1) (heap_setCell (j := 0) ((o1 wr p q rA A ca (Ne.symm hpq)).trans hq) _) _) _
  have rd : ∀ (X : Option Addr) (l : List Int), RdB wr X l → RdB (boxed (boxed wr p rA A ca) q rB B cb) X l := fun X l hX j n hn => by
    obtain ⟨b, o, e1, e2, e3⟩ := hX j n hn
    have hbp : b ≠ p := by
      rintro rfl
      have := rd_not hp e3
      exact this
    have hbq : b ≠ q := by
      rintro rfl
      have := rd_not hq e3
      exact this
    have hh := (o1 (boxed wr p rA A ca) q b rB B cb hbq).trans (o1 wr p b rA A ca hbp)
    refine ⟨b, o, e1, ?_, ?_⟩
    · have h3 : (boxed (boxed wr p rA A ca) q rB B cb).heap[b]? = some wr.heap[b] := hh.trans (Array.getElem?_eq_getElem e2)
      exact (Array.getElem?_eq_some_iff.1 h3).1
    · rw [← e3]
      unfold World.cell?
      rw [hh]
  exact ⟨(((((hb.setCell (p := ⟨p, 0, none⟩) hp0 _).setCell (p := ⟨p, 1, none⟩) hp0 _).setCell (p := ⟨p, 2, none⟩) hp0 _).setCell (p := ⟨q, 0, none⟩) hq0 _).setCell (p := ⟨q, 1, none⟩) hq0 _).setCell (p := ⟨q, 2, none⟩) hq0 _,
    (o1 _ q p rB B cb hpq).trans h1, h2, ⟨rd _ _ hA.1, hA.2⟩, ⟨rd _ _ hB.1, hB.2⟩⟩
set_option maxRecDepth 1000000 in
set_option maxHeartbeats 16000000 in
theorem machFuel_any (u : Im) (F G : Option Addr) (cF cG : Nat) (I : Option Addr) (icap : Nat) (inp : List Int) (fuel more : Int) (w : World) (hT : Tabs w) (h : RdU w F G u) (hI : RdB w I inp) (hic : inp.length ≤ icap) (hby : ∀ a ∈ inp, 0 ≤ a ∧ a ≤ 255) (htop : u.top ≤ 9223372036854775807) :
    Calls Tryd.prog 3 #[imAgg u F G cF cG, .slice I inp.length icap, .int .i64 fuel, .int .i64 more] w fun e w' => e = .returned (.bool true) ∧ Below w.heap.size w w' := by
  have HT := Lib.hid hT
  obtain ⟨N, hN⟩ : ∃ N, u.objs.length = N := ⟨_, rfl⟩
  obtain ⟨M, hM⟩ : ∃ M, u.globs.length = M := ⟨_, rfl⟩
  obtain ⟨n, hn⟩ : ∃ n, inp.length = n := ⟨_, rfl⟩
  have hb0 := Below.one w (imObj u F G cF cG)
  have hx := heap_alloc_new w (imObj u F G cF cG)
  have hfew := Few_any u F G cF cG (w.alloc (imObj u F G cF cG)) (h.below hb0)
  have hU := h.below hb0
  have hI0 := hI.below hb0
  obtain ⟨W, hW⟩ : ∃ W, w.alloc (imObj u F G cF cG) = W := ⟨_, rfl⟩
  rw [hW] at hb0 hx hfew hU hI0
  simp only [imObj, imAgg, hN, hM] at hx hW hfew ⊢
  rw [hn]
  have HB0 := Lib.hid hb0
  have HX := Lib.hid hx
  have HU := Lib.hid hU
  have HI := Lib.hid hI0
  have HN := Lib.hid hN
  have HM := Lib.hid hM
  have HNL := Lib.hid hn
  have HIC := Lib.hid hic
  have HBY := Lib.hid hby
  have HTOP := Lib.hid htop
  have hlt : w.heap.size < W.heap.size := (Array.getElem?_eq_some_iff.1 hx).1
  have g0 := cell_of_heap hx 0 _ rfl
  have g1 := cell_of_heap hx 1 _ rfl
  have g2 := cell_of_heap hx 2 _ rfl
  clear hT hb0 hx hU hI0 h hI hic hby htop hN hM hn
  go_enter Tryd.func3, Tryd.ntmps3
  go_wp2_with fail
  refine hfew.mono ?_
  rintro e w1 ⟨⟨ok, rfl, hok⟩, hb1⟩
  have HB6 := Lib.hid (HB0.out.trans (hb1.mono HB0.out.size))
  have HX1 := Lib.hid (keepB hb1 HX.out)
  have HU1 := Lib.hid (HU.out.below hb1)
  have HI1 := Lib.hid (HI.out.below hb1)
  have hT6 := HT.out.below HB6.out
  have hlt1 : w.heap.size < w1.heap.size := Nat.lt_of_lt_of_le hlt hb1.size
  have HOK := Lib.hid hok
  clear hfew g0 g1 g2 hok hb1 hW
  cases ok
  case false =>
    go_wp2_with (first
      | (go_at_call 12; refine (awake_any _ hT6).mono ?_; rintro e w7 ⟨rfl, hb7⟩; have HB7 := Lib.hid (HB6.out.trans (hb7.mono HB6.out.size)); clear hb7))
    go_returns
    exact ⟨rfl, HB7.out⟩
  have HFEW : Hid (FewM u) := Lib.hid (HOK.out.1 rfl)
  have hcase : (200 < (n : Int) ∧ decide ((n : Int) > 200) = true ∧ decide (200 < (n : Int)) = true) ∨ (more < fuel ∧ decide ((n : Int) > 200) = false ∧ decide (200 < (n : Int)) = false ∧ decide (more < fuel) = true) ∨ (5000 < more ∧ decide ((n : Int) > 200) = false ∧ decide (200 < (n : Int)) = false ∧ decide (more < fuel) = false ∧ decide (more > 5000) = true ∧ decide (5000 < more) = true) ∨ ((n ≤ 200 ∧ fuel ≤ more ∧ more ≤ 5000) ∧ decide ((n : Int) > 200) = false ∧ decide (200 < (n : Int)) = false ∧ decide (more < fuel) = false ∧ decide (more > 5000) = false ∧ decide (5000 < more) = false) := by
    simp only [decide_eq_true_eq, decide_eq_false_iff_not, gt_iff_lt]
    omega
  rcases hcase with ⟨hc, q1, q2⟩ | ⟨hc, q1, q2, q3⟩ | ⟨hc, q1, q2, q3, q4, q5⟩ | ⟨hc, q1, q2, q3, q4, q5⟩
  iterate 3
    · clear hc
      go_wp2_with (first
        | (go_at_call 12; refine (awake_any _ hT6).mono ?_; rintro e w7 ⟨rfl, hb7⟩; have HB7 := Lib.hid (HB6.out.trans (hb7.mono HB6.out.size)); clear hb7))
      go_returns
      exact ⟨rfl, HB7.out⟩
  have HC := Lib.hid hc
  have hx := HX1.out
  have HRA : Hid (∀ W', Below w1.heap.size w1 W' → Calls Tryd.prog 13 #[.agg #[.slice F N cF, .slice G M cG, .int .i64 u.top], .slice I n icap, .int .i64 fuel] W' fun e w' => RunT (runM u inp fuel) e w' ∧ Below W'.heap.size W' w') := Lib.hid (fun W' hb => by
    have := Run_any u F G cF cG I icap inp fuel W' (hT6.below hb) (HU1.out.below hb) (HI1.out.below hb) HIC.out HBY.out (by have := HFEW.out.1; omega) (by have := HFEW.out.2.1; omega) (fun o ho => by have := (HFEW.out.2.2 o ho).2.1; omega) HTOP.out (by have := HC.out; omega)
    simp only [imAgg, HN.out, HM.out, HNL.out] at this
    exact this)
  have HRB : Hid (∀ W', Below w1.heap.size w1 W' → Calls Tryd.prog 13 #[.agg #[.slice F N cF, .slice G M cG, .int .i64 u.top], .slice I n icap, .int .i64 more] W' fun e w' => RunT (runM u inp more) e w' ∧ Below W'.heap.size W' w') := Lib.hid (fun W' hb => by
    have := Run_any u F G cF cG I icap inp more W' (hT6.below hb) (HU1.out.below hb) (HI1.out.below hb) HIC.out HBY.out (by have := HFEW.out.1; omega) (by have := HFEW.out.2.1; omega) (fun o ho => by have := (HFEW.out.2.2 o ho).2.1; omega) HTOP.out (by have := HC.out; omega)
    simp only [imAgg, HN.out, HM.out, HNL.out] at this
    exact this)
  have HMO := Lib.hid (fuel_more u inp hc.2.1)
  have HLA : Hid ((runM u inp fuel).outp.length ≤ 5000) := Lib.hid (run_len u inp (n := 5000) (by omega))
  have HLB : Hid ((runM u inp more).outp.length ≤ 5000) := Lib.hid (run_len u inp (n := 5000) (by omega))
  obtain ⟨rA, hrA⟩ : ∃ r, runM u inp fuel = r := ⟨_, rfl⟩
  obtain ⟨rB, hrB⟩ : ∃ r, runM u inp more = r := ⟨_, rfl⟩
  rw [hrA] at HRA HMO HLA
  rw [hrB] at HRB HMO HLB
  clear hx hc hrA hrB
  go_upto_region 3 with fail
  clear q1 q2 q3 q4 q5
  refine wp_region_noPanic ?_
  refine wp_region_grown 10 (FuI w w1.drew (.agg #[.slice F N cF, .slice G M cG, .int .i64 u.top]) (.slice I n icap) (.int .i64 fuel) (.int .i64 more) rA rB) (by kernel_rfl) (by kernel_rfl) ?_ ?_ ?_
  · exact ⟨⟨Below.refl _ _, fun i v h => by cases h⟩, fun p q h => by cases h⟩
  · intro i op s wr hi ho hI hsi hdep
    have hb : Below w1.heap.size w1 wr := ((Below.refl _ w1).drew).trans hI.i.b
    have c0 := (hb.block _ hlt1).trans HX1.out
    have hr := Below.refl wr.heap.size wr
    have hw0 : w.heap.size ≤ wr.heap.size := Nat.le_trans (Nat.le_of_lt hlt1) hb.size
    rcases (by omega : i = 0 ∨ i = 1 ∨ i = 2 ∨ i = 3 ∨ i = 4 ∨ i = 5 ∨ i = 6 ∨ i = 7 ∨ i = 8 ∨ i = 9) with rfl | rfl | rfl | rfl | rfl | rfl | rfl | rfl | rfl | rfl
    all_goals (simp only [List.getElem?_cons_zero, List.getElem?_cons_succ] at ho; obtain rfl := Option.some.inj ho)
    · exact Or.inl ⟨_, _, runT_load 25 (.tmp 4) rfl _ (by rw [evalT_old (by kernel_rfl)]; rfl) _ _ _ _ c0 uIm rfl sIm, hI.step hr 0 _ (by omega) (by omega) rfl⟩
    · exact Or.inl ⟨_, _, (runT_move (.tmp 1) rfl).trans (by rw [evalT_old (by kernel_rfl)]; rfl), hI.step hr 1 _ (by omega) (by omega) rfl⟩
    · exact Or.inl ⟨_, _, (runT_move (.tmp 2) rfl).trans (by rw [evalT_old (by kernel_rfl)]; rfl), hI.step hr 2 _ (by omega) (by omega) rfl⟩
    · obtain ⟨v0, e0⟩ := some_of (hdep ⟨0, .data⟩ (by simp) rfl)
      obtain ⟨v1, e1⟩ := some_of (hdep ⟨1, .data⟩ (by simp) rfl)
      obtain ⟨v2, e2⟩ := some_of (hdep ⟨2, .data⟩ (by simp) rfl)
      obtain rfl := hI.i.g 0 _ e0
      obtain rfl := hI.i.g 1 _ e1
      obtain rfl := hI.i.g 2 _ e2
      refine Or.inr ⟨13, #[.agg #[.slice F N cF, .slice G M cG, .int .i64 u.top], .slice I n icap, .int .i64 fuel], runT_call 13 _ _ rfl rfl _ ?_ Tryd.func13 (by kernel_rfl) rfl, ?_⟩
      · simp only [List.map_toArray, List.map_cons, List.map_nil]
        rw [evalT_told 0 (by kernel_rfl) e0, evalT_told 1 (by kernel_rfl) e1, evalT_told 2 (by kernel_rfl) e2]
      · exact (HRA.out wr hb).mono fun e w' ⟨⟨A, cap, he, hr'⟩, hb'⟩ => ⟨_, he, hI.step hb' 3 _ (by omega) (by omega) ⟨A, cap, rfl, hr'⟩⟩
    · exact Or.inl ⟨_, _, runT_load 25 (.tmp 4) rfl _ (by rw [evalT_old (by kernel_rfl)]; rfl) _ _ _ _ c0 uIm rfl sIm, hI.step hr 4 _ (by omega) (by omega) rfl⟩
    · exact Or.inl ⟨_, _, (runT_move (.tmp 1) rfl).trans (by rw [evalT_old (by kernel_rfl)]; rfl), hI.step hr 5 _ (by omega) (by omega) rfl⟩
    · exact Or.inl ⟨_, _, (runT_move (.tmp 3) rfl).trans (by rw [evalT_old (by kernel_rfl)]; rfl), hI.step hr 6 _ (by omega) (by omega) rfl⟩
    · obtain ⟨v4, e4⟩ := some_of (hdep ⟨4, .data⟩ (by simp) rfl)
      obtain ⟨v5, e5⟩ := some_of (hdep ⟨5, .data⟩ (by simp) rfl)
      obtain ⟨v6, e6⟩ := some_of (hdep ⟨6, .data⟩ (by simp) rfl)
      obtain rfl := hI.i.g 4 _ e4
      obtain rfl := hI.i.g 5 _ e5
      obtain rfl := hI.i.g 6 _ e6
      refine Or.inr ⟨13, #[.agg #[.slice F N cF, .slice G M cG, .int .i64 u.top], .slice I n icap, .int .i64 more], runT_call 13 _ _ rfl rfl _ ?_ Tryd.func13 (by kernel_rfl) rfl, ?_⟩
      · simp only [List.map_toArray, List.map_cons, List.map_nil]
        rw [evalT_told 4 (by kernel_rfl) e4, evalT_told 5 (by kernel_rfl) e5, evalT_told 6 (by kernel_rfl) e6]
      · exact (HRB.out wr hb).mono fun e w' ⟨⟨A, cap, he, hr'⟩, hb'⟩ => ⟨_, he, hI.step hb' 7 _ (by omega) (by omega) ⟨A, cap, rfl, hr'⟩⟩
    · exact Or.inl ⟨_, _, runT_alloc _ rfl _ zero_re, hI.box8 hw0⟩
    · exact Or.inl ⟨_, _, runT_alloc _ rfl _ zero_re, hI.box9 hw0⟩
  · intro s wr hI hsome
    obtain ⟨v0, e0⟩ := some_of (hsome 0 (by omega))
    obtain ⟨v1, e1⟩ := some_of (hsome 1 (by omega))
    obtain ⟨v2, e2⟩ := some_of (hsome 2 (by omega))
    obtain ⟨v3, e3⟩ := some_of (hsome 3 (by omega))
    obtain ⟨v4, e4⟩ := some_of (hsome 4 (by omega))
    obtain ⟨v5, e5⟩ := some_of (hsome 5 (by omega))
    obtain ⟨v6, e6⟩ := some_of (hsome 6 (by omega))
    obtain ⟨v7, e7⟩ := some_of (hsome 7 (by omega))
    obtain ⟨v8, e8⟩ := some_of (hsome 8 (by omega))
    obtain ⟨v9, e9⟩ := some_of (hsome 9 (by omega))
    have hne := hI.n _ _ e8 e9
    obtain rfl := hI.i.g 0 _ e0
    obtain rfl := hI.i.g 1 _ e1
    obtain rfl := hI.i.g 2 _ e2
    obtain rfl := hI.i.g 4 _ e4
    obtain rfl := hI.i.g 5 _ e5
    obtain rfl := hI.i.g 6 _ e6
    obtain ⟨A, ca, rfl, hA⟩ := hI.i.g 3 _ e3
    obtain ⟨B, cb, rfl, hB⟩ := hI.i.g 7 _ e7
    obtain ⟨p, rfl, hp0, hp⟩ := hI.i.g 8 _ e8
    obtain ⟨q, rfl, hq0, hq⟩ := hI.i.g 9 _ e9
    have hpq : p ≠ q := fun e => hne (by rw [e])
    have HBW : Hid (Below w.heap.size w wr) := Lib.hid (HB6.out.trans ((((Below.refl _ w1).drew).trans hI.i.b).mono HB6.out.size))
    obtain ⟨LA, hLA⟩ : ∃ x, rA.outp.length = x := ⟨_, rfl⟩
    obtain ⟨LB, hLB⟩ : ∃ x, rB.outp.length = x := ⟨_, rfl⟩
    have HLAe := Lib.hid hLA
    have HLBe := Lib.hid hLB
    simp only [List.take_succ_cons, List.take_zero, List.drop_succ_cons, List.drop_zero, putsT, e0, e1, e2, e3, e4, e5, e6, e7, e8, e9, Option.getD_some, reAgg, hLA, hLB]
    have p0 := cell_of_heap hp 0 _ rfl
    have p1 := cell_of_heap hp 1 _ rfl
    have p2 := cell_of_heap hp 2 _ rfl
    have s0 := cell_of_heap hq 0 _ rfl
    have s1 := cell_of_heap hq 1 _ rfl
    have s2 := cell_of_heap hq 2 _ rfl
    have f0 := free_of_heap hp 0
    have f1 := free_of_heap hp 1
    have f2 := free_of_heap hp 2
    have k0 := free_of_heap hq 0
    have k1 := free_of_heap hq 1
    have k2 := free_of_heap hq 2
    have HPQ := two_boxes wr p q hpq hp hq rA rB A B ca cb hA hB hp0 hq0 HBW.out
    have HPQ := Lib.hid HPQ
    clear hI hsome e0 e1 e2 e3 e4 e5 e6 e7 e8 e9 hne hA hB hp hq hLA hLB
    go_frame
    go_wp2_with fail
    refine NoPanic.normal ?_
    generalize hwf : (((((wr.setCell ⟨p, 0, none⟩ (.int .i64 rA.how)).setCell ⟨p, 1, none⟩ (.int .i64 rA.code)).setCell ⟨p, 2, none⟩ (.slice A LA ca)).setCell ⟨q, 0, none⟩ (.int .i64 rB.how)).setCell ⟨q, 1, none⟩ (.int .i64 rB.code)).setCell ⟨q, 2, none⟩ (.slice B LB cb) = wf
    obtain ⟨hbf, hpo, hqo, hA, hB⟩ := HPQ.out wf (by rw [← hwf]; simp only [boxed, HLAe.out, HLBe.out])
    clear HPQ hwf p0 p1 p2 s0 s1 s2 f0 f1 f2 k0 k1 k2
    obtain ⟨t0, t1, t2⟩ := re_cells3 hpo
    obtain ⟨u0, u1, u2⟩ := re_cells3 hqo
    rw [HLAe.out] at t2
    rw [HLBe.out] at u2
    have HBF := Lib.hid hbf
    have HTF := Lib.hid (HT.out.below hbf)
    have HAF := Lib.hid hA
    have HBBF := Lib.hid hB
    clear hbf hpo hqo hA hB
    by_cases hhow : rA.how = 4
    case neg =>
      have hsame := HMO.out.1 hhow
      have c1 : (rA.how != 4) = true := by simpa using hhow
      have c2 : (rA.how == 4) = false := by simpa using hhow
      have hres := Result7_any rA rB A B ca cb (by have := HLA.out; omega) (by have := HLB.out; omega) wf HAF.out.1 HBBF.out.1
      rw [decide_eq_true hsame.symm] at hres
      simp only [reAgg, HLAe.out, HLBe.out] at hres
      clear hsame hhow
      go_wp2_with (first
        | (go_at_call 14; refine hres.mono ?_; rintro e w8 ⟨rfl, hb8⟩; have HB8 := Lib.hid (HBF.out.trans (hb8.mono HBF.out.size)); have hT8 := HT.out.below HB8.out; clear hb8)
        | (go_at_call 12; refine (awake_any _ hT8).mono ?_; rintro e w9 ⟨rfl, hb9⟩; have HB9 := Lib.hid (HB8.out.trans (hb9.mono HB8.out.size)); clear hb9))
      go_returns
      exact ⟨rfl, HB9.out⟩
    case pos =>
      have c1 : (rA.how != 4) = false := by simpa using hhow
      have c2 : (rA.how == 4) = true := by simpa using hhow
      have hpre := HMO.out.2
      have hle : LA ≤ LB := by have := hpre.length_le; rw [HLAe.out, HLBe.out] at this; exact this
      have htk : rB.outp.take LA = rA.outp := by have := List.prefix_iff_eq_take.1 hpre; rw [HLAe.out] at this; exact this.symm
      have d1 : decide ((LA : Int) ≤ LB) = true := by simp; omega
      have hcb : LB ≤ cb := by have := HBBF.out.2; rw [HLBe.out] at this; exact this
      have hlb : LB ≤ 5000 := by have := HLB.out; rw [HLBe.out] at this; exact this
      have HRB2 : Hid (RdB wf B rA.outp) := Lib.hid (fun j n hn => HBBF.out.1 j n (by rw [← htk] at hn; rw [List.getElem?_take] at hn; split at hn; exact hn; cases hn))
      have hres := fun cb' W (hb : Below wf.heap.size wf W) => Result7_any ⟨0, 0, rA.outp⟩ ⟨0, 0, rA.outp⟩ A B ca cb' (by have := HLA.out; show rA.outp.length ≤ _; omega) (by have := HLA.out; show rA.outp.length ≤ _; omega) W (HAF.out.1.below hb) (HRB2.out.below hb)
      simp only [decide_true, reAgg, HLAe.out] at hres
      have HRES := Lib.hid hres
      clear hres hpre htk hhow
      have hnil : B = none → LB = 0 := fun hB => by
        subst hB
        rw [← HLBe.out]
        cases e : rB.outp with
        | nil => rfl
        | cons a t =>
          obtain ⟨b, o, h1, _⟩ := HBBF.out.1 0 a (by rw [e]; rfl)
          cases h1
      have HNIL := Lib.hid hnil
      clear hnil
      go_upto_region 6 with fail
      rcases B with _ | ⟨bb, bo, bs⟩
      · have h0 : LB = 0 := HNIL.out rfl
        subst h0
        have h1 : LA = 0 := by omega
        subst h1
        go_still_tail 18, (by kernel_rfl)
        go_wp2_with (first
          | (go_at_call 14; refine (HRES.out _ _ ((Below.refl _ wf).drew)).mono ?_; rintro e w8 ⟨rfl, hb8⟩; have HB8 := Lib.hid (HBF.out.trans (((Below.refl _ wf).drew.trans hb8).mono HBF.out.size)); have hT8 := HT.out.below HB8.out; clear hb8)
          | (go_at_call 12; refine (awake_any _ hT8).mono ?_; rintro e w9 ⟨rfl, hb9⟩; have HB9 := Lib.hid (HB8.out.trans (hb9.mono HB8.out.size)); clear hb9))
        go_returns
        exact ⟨rfl, HB9.out⟩
      · have d2 : (LA : Int) ≤ (cb : Int) := by omega
        have d3 : LA ≤ cb := by omega
        go_still_tail 18, (by kernel_rfl)
        go_wp2_with (first
          | (go_at_call 14; refine (HRES.out _ _ ((Below.refl _ wf).drew)).mono ?_; rintro e w8 ⟨rfl, hb8⟩; have HB8 := Lib.hid (HBF.out.trans (((Below.refl _ wf).drew.trans hb8).mono HBF.out.size)); have hT8 := HT.out.below HB8.out; clear hb8)
          | (go_at_call 12; refine (awake_any _ hT8).mono ?_; rintro e w9 ⟨rfl, hb9⟩; have HB9 := Lib.hid (HB8.out.trans (hb9.mono HB8.out.size)); clear hb9))
        go_returns
        exact ⟨rfl, HB9.out⟩
end Go.Proofs.YtihbgppcacaekaaDoor
