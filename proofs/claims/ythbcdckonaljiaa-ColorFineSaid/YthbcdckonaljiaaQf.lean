import Derived.Test.YthbcdckonaljiaaQe
import Derived.Test.YthbcdckonaljiaaQt
namespace Go.Proofs.Ythbcdckonaljiaa
open Go.RowKit Go.BigFrame

theorem info_cx : (Try.prog.info? 69).map (fun i => (i.zero, i.size, i.bytes)) = some (some (.complex .f64 0 0), 1, 16) := by kernel_rfl
theorem make_cx (L : Nat) (hL : L ≤ 100000) (W : World) : (Instr.makeSlice 70 (.int .i64 L) (.int .i64 L)).run Try.prog W = .ok (.slice (some ⟨W.heap.size, 0, none⟩) L L) (W.alloc (.cells (madeCells #[.complex .f64 0 0] L) 69)) := by
  obtain ⟨i0, hi, hz0, hz1, hz2⟩ := info_parts info_cx
  have := run_make (P := Try.prog) W 70 69 i0 (.complex .f64 0 0) (by kernel_rfl) hi hz0 .i64 .i64 L L (by omega) (by omega) (by rw [hz2]; omega) (by omega)
  simpa [hz1, Value.cells] using this
theorem made_cx (W : World) (N : Nat) : PX (W.alloc (.cells (madeCells #[.complex .f64 0 0] N) 69)) W.heap.size (List.replicate N (0, 0)) := by
  have h := made_pre (g := gX) (d := 1) (t := 69) W #[.complex .f64 0 0] N (0, 0) rfl (fun k hk => by
    obtain rfl : k = 0 := by omega
    simp [gX, fW_zero])
  rwa [Nat.mul_one] at h
theorem Weights_no (f : Fn7) (hf : ¬ OkF f) (C : Option Addr) (cap : Nat) (w : World) (hC : RdI w C f.code) :
    Calls Try.prog 38 #[funcAgg f.nm f.ps f.R f.Fr C f.code.length cap] w fun e w' => e = .returned (.slice none 0 0) ∧ Below w.heap.size w w' := by
  have hB := Below.one w (funcObj f.nm f.ps f.R f.Fr C f.code.length cap)
  have bx := heap_alloc_new w (funcObj f.nm f.ps f.R f.Fr C f.code.length cap)
  have hR := Lib.hid (RightFunc_no f hf C cap _ (hC.below hB))
  simp only [funcObj, funcAgg] at hB bx hR ⊢
  clear hf hC
  go_enter Try.func38, Try.ntmps38
  go_wp2_with (first
    | (refine hR.out.mono ?_; rintro e w3 ⟨rfl, hb3⟩))
  go_returns
  exact ⟨rfl, hB.trans (hb3.mono hB.size)⟩
def WtT (base R : Nat) (ws : List (Nat × Nat)) (e : Ending) (w : World) : Prop := ∃ xb, e = .returned (.slice (some ⟨xb, 0, none⟩) R R) ∧ base ≤ xb ∧ PX w xb ws
set_option maxRecDepth 1000000 in
set_option maxHeartbeats 16000000 in
theorem Weights_yes (f : Fn7) (hf : OkF f) (hN60 : f.code.length ≤ 60) (C : Option Addr) (cap : Nat) (w : World) (hC : RdI w C f.code) :
    Calls Try.prog 38 #[funcAgg f.nm f.ps f.R f.Fr C f.code.length cap] w fun e w' => WtT w.heap.size f.R.toNat (wtsL f) e w' ∧ Below w.heap.size w w' := by
  obtain ⟨N, hN⟩ : ∃ N, f.code.length = N := ⟨_, rfl⟩
  obtain ⟨R, hRR⟩ : ∃ R, f.R.toNat = R := ⟨_, rfl⟩
  have hR0 : f.R = (R : Int) := by have := hf.R; have := hf.ps; omega
  have hR2 : R ≤ 4096 := by have := hf.R; omega
  have hN2 : N ≤ 60 := by omega
  have hB := Below.one w (funcObj f.nm f.ps f.R f.Fr C f.code.length cap)
  have bx := heap_alloc_new w (funcObj f.nm f.ps f.R f.Fr C f.code.length cap)
  have hC1 := hC.below hB
  have hR := RightFunc_yes f hf C cap _ hC1
  have hH := fun W h => gHeads_yes f hf C cap W h
  rw [hN] at hR hH hB bx hC1 ⊢
  rw [hRR]
  simp only [funcObj, funcAgg] at hR hB bx hC1 hH ⊢
  rw [hR0] at hR hB bx hC1 hH ⊢
  have HR := Lib.hid hR
  have HH := Lib.hid hH
  have HC1 := Lib.hid hC1
  have HB := Lib.hid hB
  have HF := Lib.hid hf
  have HN := Lib.hid hN
  have HRR := Lib.hid hRR
  have HR0 := Lib.hid hR0
  obtain ⟨H, hHl⟩ : ∃ H, upL N (IsHd (Eg f.code)) = H := ⟨_, rfl⟩
  have HHL : Hid (hdL f = H ∧ H.length ≤ N) := Lib.hid ⟨by unfold hdL; rw [HN.out]; exact hHl, by rw [← hHl]; exact upL_len _ _⟩
  rw [hHl] at HH
  clear hHl
  obtain ⟨W, hW⟩ : ∃ W, w.alloc (.cells #[.string f.nm, .int .i64 f.ps, .int .i64 (R : Int), .int .i64 f.Fr, .slice C N cap] 26) = W := ⟨_, rfl⟩
  have hwW : W.heap.size = w.heap.size + 1 := by rw [← hW]; simp
  rw [hW] at bx HR HC1 HB
  have HWW := Lib.hid hwW
  clear hwW
  have HBX := Lib.hid bx
  have hBl := (Array.getElem?_eq_some_iff.1 bx).1
  have hmk := fun W => make_ints N (by omega) W
  have hmx := fun W => make_cx R (by omega) W
  have g0 := cell_of_heap bx 0 _ rfl
  have g1 := cell_of_heap bx 1 _ rfl
  have g2 := cell_of_heap bx 2 _ rfl
  have g3 := cell_of_heap bx 3 _ rfl
  have g4 := cell_of_heap bx 4 _ rfl
  clear hf hN hC hB hR hH hC1 bx hRR hR0 hN60
  go_enter Try.func38, Try.ntmps38
  go_wp2_with (first
    | (refine HR.out.mono ?_; rintro e w3 ⟨rfl, hb3⟩; have hx3 := (hb3.block _ hBl).trans HBX.out; have h0 := cell_of_heap hx3 0 _ rfl; have h1 := cell_of_heap hx3 1 _ rfl; have h2 := cell_of_heap hx3 2 _ rfl; have h3 := cell_of_heap hx3 3 _ rfl; have h4 := cell_of_heap hx3 4 _ rfl; have hl3 := (Array.getElem?_eq_some_iff.1 hx3).1; have hk3 := alloc_keeps hx3 (.cells (madeCells #[.int .i64 0] N) 3); have k0 := cell_of_heap hk3 0 _ rfl; have k1 := cell_of_heap hk3 1 _ rfl; have k2 := cell_of_heap hk3 2 _ rfl; have k3 := cell_of_heap hk3 3 _ rfl; have k4 := cell_of_heap hk3 4 _ rfl; have HX3 := Lib.hid hk3; have HB3 := Lib.hid hb3; clear hx3 hk3 hb3 hW)
    | (go_at_call 56; refine (HH.out _ (HC1.out.below (HB3.out.alloc HB3.out.size _))).mono ?_; rintro e w5 ⟨⟨V5, rfl, ho5, hf5⟩, hb5⟩; obtain ⟨A5, c5, hV5, hl5, hr5⟩ := ho5.form; subst hV5; have HR5 := Lib.hid hr5; have HF5 := Lib.hid hf5; have HB5 := Lib.hid hb5; clear ho5 hl5 hr5 hf5 hb5))
  have hs3 : w.heap.size < w3.heap.size := by have := HB3.out.size; have := HWW.out; omega
  have hs5 : w3.heap.size < w5.heap.size := by have := HB5.out.size; simp at this; omega
  have HX5 := Lib.hid ((HB5.out.block w.heap.size (by simp; omega)).trans HX3.out)
  have HBW5 : Hid (Below W.heap.size W w5) := Lib.hid ((HB3.out.alloc HB3.out.size _).trans (HB5.out.mono (Nat.le_trans HB3.out.size (Below.one w3 _).size)))
  have HFO : Hid (funcObj f.nm f.ps f.R f.Fr C N cap = .cells #[.string f.nm, .int .i64 f.ps, .int .i64 (R : Int), .int .i64 f.Fr, .slice C N cap] 26) := Lib.hid (by unfold funcObj; rw [HR0.out])
  refine wl0_any f HF.out (by rw [HN.out]; exact hN2) w3.heap.size N HN.out H A5 H.length c5 rfl HHL.out.2 W w5 w.heap.size cap C (by rw [HFO.out]; exact HX5.out) (by omega) HC1.out HBW5.out HB3.out.size HR5.out (fun b o e => by have := HF5.out b (by rw [e]; rfl); simp at this; omega) (Pre.later (made_ints w3 N) HB5.out) _ _ _ _ _ _ _ _ _ _ _ _ _ _ _ _ _ _ _ _ _ _ _ _ _ _ _ _ _ _ _ _ _ _ _ _ _ _ _ _ _ _ _ _ _ _ _ _ _ _ _ _ _ _ _ _ _ _ _ _ _ _ _ _ _ _ _ _ _ _ _ _ _ _ _ _ _ _ _ _ _ _ _ ?_
  intro v5 v7 v25 v26 v27 v28 v29 v30 v31 v32 v33 v34 v35 v36 v37 v38 v39 v40 v41 v42 v43 v44 w6 hp6 ho6
  have hx6 := (ho6.blk w.heap.size (by omega) (by omega)).trans HX5.out
  have hk6 := alloc_keeps hx6 (.cells (madeCells #[.complex .f64 0 0] R) 69)
  have hs6 := ho6.size
  have q0 := cell_of_heap hx6 0 _ rfl
  have q1 := cell_of_heap hx6 1 _ rfl
  have q2 := cell_of_heap hx6 2 _ rfl
  have q3 := cell_of_heap hx6 3 _ rfl
  have q4 := cell_of_heap hx6 4 _ rfl
  have r0 := cell_of_heap hk6 0 _ rfl
  have r1 := cell_of_heap hk6 1 _ rfl
  have r2 := cell_of_heap hk6 2 _ rfl
  have r3 := cell_of_heap hk6 3 _ rfl
  have r4 := cell_of_heap hk6 4 _ rfl
  have HP6 := Lib.hid hp6
  have HBW6 : Hid (Below W.heap.size W w6) := Lib.hid (HBW5.out.trans (ho6.toBelow HB3.out.size HBW5.out.size))
  clear hx6 hk6 hp6 ho6 hmk
  go_wp2
  refine wl4_any f HF.out (by rw [HN.out]; exact hN2) (dpt f H) w6.heap.size w3.heap.size N R HN.out HRR.out (by rw [dpt_len, HN.out]) (dpt_bd2 (by rw [HN.out]; exact hN2) (by rw [HN.out]; exact HHL.out.2)) (by omega) C cap W _ HC1.out (HBW6.out.alloc HBW6.out.size _) HBW6.out.size (made_cx w6 R) (Pre.later HP6.out (Below.one w6 _)) _ _ _ _ _ _ _ _ _ _ _ _ _ _ _ _ _ _ _ _ _ _ _ _ _ _ _ _ _ _ _ _ _ _ _ _ _ _ _ _ _ _ _ _ _ _ _ _ _ _ _ _ _ _ _ _ _ _ _ _ _ _ _ _ _ _ _ _ _ _ _ _ _ _ _ _ _ _ _ _ _ _ _ ?_
  intro v9 v10 v11 v12 v14 v51 v52 v53 v54 v55 v56 v57 v58 v59 v60 v61 v62 v63 v64 v65 v66 v67 v68 v69 v70 v71 v72 v73 v74 v75 v76 v77 v78 v79 v80 v81 v82 v83 v84 v85 w8 hp8 ho8
  have HQ : Hid (WtT w.heap.size R (wtsL f) (.returned (.slice (some ⟨w6.heap.size, 0, none⟩) R R)) w8 ∧ Below w.heap.size w w8) := Lib.hid (by
    refine ⟨⟨w6.heap.size, rfl, by omega, ?_⟩, ?_⟩
    · unfold wtsL
      rw [HHL.out.1, HRR.out, HN.out]
      exact hp8
    · have h1 := ho8.toBelow (base := w.heap.size) (by omega) (by simp; omega)
      have h2 : Below w.heap.size W (w6.alloc (.cells (madeCells #[.complex .f64 0 0] R) 69)) := ((HBW6.out.alloc HBW6.out.size _).mono (by have := HWW.out; omega))
      exact HB.out.trans (h2.trans h1))
  clear hp8 ho8
  go_wp2
  go_returns
  exact HQ.out
open Go.RowKit Go.BigFrame

def RowsC (w : World) (ob N : Nat) (P : Nat → Int → Prop) : Prop := ob < w.heap.size ∧ ∀ p, p < N → ∃ A l cap, w.cell? ⟨ob, p, none⟩ = some (.slice A l.length cap) ∧ RdN w A l ∧ l.Pairwise (· < ·) ∧ ∀ x, x ∈ l ↔ P p x
theorem RowsK.toC {w : World} {ob N : Nat} {P : Nat → Int → Prop} (h : RowsK w ob N N P) : RowsC w ob N P := ⟨h.lt, fun p hp => by
  obtain ⟨v, hc, A, l, cap, rfl, h1, h2, h3⟩ := h.done hp
  exact ⟨A, l, cap, hc, h1, h2, h3⟩⟩
theorem RowsC.below {w w' : World} {ob N : Nat} {P : Nat → Int → Prop} (h : RowsC w ob N P) (hb : Below w.heap.size w w') : RowsC w' ob N P := ⟨Nat.lt_of_lt_of_le h.1 hb.size, fun p hp => by
  obtain ⟨A, l, cap, hc, h1, h2, h3⟩ := h.2 p hp
  exact ⟨A, l, cap, (hb.cell (p := ⟨ob, p, none⟩) h.1).trans hc, h1.below hb, h2, h3⟩⟩
theorem RowsC.store {w : World} {ob N : Nat} {P : Nat → Int → Prop} (h : RowsC w ob N P) {xb k : Nat} {v0 : Value} (hc : w.cell? ⟨xb, k, none⟩ = some v0) (h1 : ∀ n, v0 ≠ .int .i64 n) (h2 : ∀ A n c, v0 ≠ .slice A n c) (v : Value) : RowsC (w.setCell ⟨xb, k, none⟩ v) ob N P := ⟨by simpa using h.1, fun p hp => by
  obtain ⟨A, l, cap, hq, hr, h3, h4⟩ := h.2 p hp
  refine ⟨A, l, cap, ?_, hr.store_other hc h1 v, h3, h4⟩
  rw [World.cell?_setCell_other]
  · exact hq
  · intro e
    injection e with e4 e5
    subst e4 e5
    rw [hc] at hq
    injection hq with hq
    exact h2 _ _ _ hq⟩
abbrev PB (W : World) (b : Nat) (l : List Bool) : Prop := Pre gB 1 4 W b l
def WaA (f : Fn7) (p : Nat) (r : Int) : Prop := ∃ i, f.code[p]? = some i ∧ i.kind = 8 ∧ r ≠ i.dst ∧ Bh f.code p r
def WaP (f : Fn7) (r : Int) : Prop := ∃ p, WaA f p r
def WaL (f : Fn7) (R k : Nat) (Q : Int → Prop) (L : List Bool) : Prop := L.length = R ∧ ∀ r, r < R → (L[r]? = some true ↔ (∃ p, p < k ∧ WaA f p r) ∨ Q r)
theorem WaL.skip {f : Fn7} {R k : Nat} {Q Q' : Int → Prop} {L : List Bool} (h : WaL f R k Q L) (hq : ∀ r, Q r ↔ Q' r) : WaL f R k Q' L := ⟨h.1, fun r hr => (h.2 r hr).trans (by rw [hq])⟩
theorem WaL.mark {f : Fn7} {R k : Nat} {Q Q' : Int → Prop} {L : List Bool} {j : Nat} (h : WaL f R k Q L) (hj : j < R) (hq : ∀ r : Int, Q' r ↔ Q r ∨ r = j) : WaL f R k Q' (L.set j true) := ⟨by rw [List.length_set]; exact h.1, fun r hr => by
  rw [List.getElem?_set]
  by_cases hjr : j = r
  · subst hjr
    rw [if_pos rfl, if_pos (by rw [h.1]; exact hj)]
    simp [hq]
  · rw [if_neg hjr, h.2 r hr, hq]
    constructor
    · rintro (h | h)
      · exact Or.inl h
      · exact Or.inr (Or.inl h)
    · rintro (h | h | h)
      · exact Or.inl h
      · exact Or.inr h
      · omega⟩
def WaQ (kd dst : Int) (l : List Int) (r : Int) : Prop := kd = 8 ∧ r ≠ dst ∧ r ∈ l
noncomputable def wt0 : Code := ((((Try.f20.body).map loopsOf).getD [])[0]?).getD .skip
noncomputable def wt2 : Code := ((loopsOf (inLoop wt0))[0]?).getD .skip
set_option maxRecDepth 1000000 in
set_option maxHeartbeats 16000000 in
theorem wt2_any (f : Fn7) (R N k at_ B c0 ob : Nat) (hatN : at_ < N) (i : Ins) (hi : f.code[at_]? = some i) (l : List Int) (A : Option Addr) (Ln cap xb : Nat) (hLn : l.length = Ln) (hLn2 : Ln ≤ 100000) (hin : ∀ x ∈ l, 0 ≤ x ∧ x < (R : Int)) (W0 w : World) (C : Option Addr) (hB : w.heap[B]? = some (funcObj f.nm f.ps f.R f.Fr C N c0)) (hBx : B ≠ xb) (hC : RdI W0 C f.code) (hW0 : Below W0.heap.size W0 w) (hxb : W0.heap.size ≤ xb) (P : Nat → Int → Prop) (hRC : RowsC w ob N P) (hR : RdN w A l) (L0 : List Bool) (hP : PB w xb L0) (hL : WaL f R k (fun _ => False) L0)
    (x0 x2 x5 x6 x7 x8 x9 x10 x11 x12 x13 x14 x15 x16 x17 x18 x19 x20 x21 x22 x26 x27 x28 x29 x30 x31 x32 x33 x34 x35 x36 x37 x38 x39 x40 x41 x42 x43 x44 x45 x46 x47 x48 : Value) (Q : Exit → Act → World → Prop)
    (hQ : ∀ (y7 y8 y25 y26 y27 y28 y29 y30 y31 y32 y33 y34 y35 y36 y37 y38 y39 y40 y41 y42 y43 y44 y45 y46 : Value) (w' : World) (L : List Bool), PB w' xb L → WaL f R k (WaQ i.kind i.dst l) L → OnlyC w w' xb → RowsC w' ob N P → Q (.exit 2) ⟨(x0::.pointer (some ⟨B, 0, none⟩)::x2::.slice (some ⟨xb, 0, none⟩) R R::.int .i64 (at_ : Int)::x5::x6::y7::y8::x9::x10::x11::x12::x13::x14::x15::x16::x17::x18::x19::x20::x21::x22::.slice A Ln cap::.int .i64 (Ln : Int)::y25::y26::y27::y28::y29::y30::y31::y32::y33::y34::y35::y36::y37::y38::y39::y40::y41::y42::y43::y44::y45::y46::x47::x48::[]).toArray, []⟩ w') :
    Code.wp Try.prog wt2 Q ⟨(x0::.pointer (some ⟨B, 0, none⟩)::x2::.slice (some ⟨xb, 0, none⟩) R R::.int .i64 (at_ : Int)::x5::x6::x7::x8::x9::x10::x11::x12::x13::x14::x15::x16::x17::x18::x19::x20::x21::x22::.slice A Ln cap::.int .i64 (Ln : Int)::.int .i64 (0)::x26::x27::x28::x29::x30::x31::x32::x33::x34::x35::x36::x37::x38::x39::x40::x41::x42::x43::x44::x45::x46::x47::x48::[]).toArray, []⟩ w := by
  conv => arg 2; whnf
  have HQ := Lib.hid hQ
  have HP := Lib.hid hP
  have HL0 := Lib.hid hL
  have HR := Lib.hid hR
  have HRC := Lib.hid hRC
  have HI := Lib.hid hin
  have HLN := Lib.hid hLn
  have HB := Lib.hid hB
  have HC := Lib.hid hC
  have HW0 := Lib.hid hW0
  have HII := Lib.hid hi
  have hBl := (Array.getElem?_eq_some_iff.1 hB).1
  have hati : (at_ : Int) < N := by omega
  clear hQ hP hR hin hLn hB hC hW0 hi hL hRC hatN
  go_loopw [25] (fun ix wr => ∃ (j : Nat) (L : List Bool), j ≤ Ln ∧ ix = .int .i64 j ∧ PB wr xb L ∧ WaL f R k (WaQ i.kind i.dst (l.take j)) L ∧ OnlyC w wr xb ∧ RowsC wr ob N P ∧ RdN wr A l) (fun ix _ => Ln - (intOf ix).toNat)
  case atStart => exact ⟨0, L0, by omega, rfl, HP.out, HL0.out.skip (fun r => by simp [WaQ]), OnlyC.refl _ _, HRC.out, HR.out⟩
  case round =>
    obtain ⟨j, L, hj, rfl, hp, hwl, ho, hrc, hrd⟩ := hrel
    have HO := Lib.hid ho
    have HPP := Lib.hid hp
    have HWL := Lib.hid hwl
    have HRC2 := Lib.hid hrc
    have HRD := Lib.hid hrd
    by_cases hlt : j < Ln
    · have hji : (j : Int) < Ln := by omega
      obtain ⟨x, hx⟩ : ∃ x, l[j]? = some x := ⟨_, List.getElem?_eq_getElem (by rw [HLN.out]; exact hlt)⟩
      have hxb2 := HI.out x (List.mem_of_getElem? hx)
      obtain ⟨y, rfl⟩ : ∃ y : Nat, x = y := ⟨x.toNat, by omega⟩
      obtain ⟨b, o, rfl, hbl, hc⟩ := hrd j _ hx
      have hyR : y < R := by omega
      have hyi : (y : Int) < R := by omega
      have hbw : Below W0.heap.size W0 wr := HW0.out.trans (ho.toBelow hxb HW0.out.size)
      obtain ⟨bb, oo, rfl, hbl2, hcs⟩ := (HC.out.below hbw) at_ i HII.out
      obtain ⟨x0, x1, x2, x3, x4, x5, x6, x7, x8, x9, x10, x11, x12, x13, x14⟩ := RdI.load hcs
      have hbx : wr.heap[B]? = _ := (ho.blk B hBl hBx).trans HB.out
      have g4 := cell_of_heap hbx 4 _ rfl
      have hBl2 := (Array.getElem?_eq_some_iff.1 hbx).1
      have kx := heap_alloc_new wr i.obj
      have HTK : Hid (∀ r, r ∈ l.take (j + 1) ↔ r ∈ l.take j ∨ r = (y : Int)) := Lib.hid fun r => by rw [take_more hx, List.mem_append, List.mem_singleton]
      have hxl := Pre.lt hp
      obtain ⟨bv, hbv⟩ : ∃ bv, L[y]? = some bv := ⟨_, List.getElem?_eq_getElem (by rw [hwl.1]; exact hyR)⟩
      have s0 := PreB.cell hp hbv
      have hb1 := Below.one wr i.obj
      have s1 := PreB.cell (Pre.later hp hb1) hbv
      have f1 := Pre.free (Pre.later hp hb1) y
      have HS := Lib.hid (Pre.later (PreB.set hp (j := y) (by rw [hwl.1]; exact hyR) true) (Below.one (wr.setCell ⟨xb, y, none⟩ (.bool true)) i.obj))
      have HO1 := Lib.hid (ho.trans (OnlyC.below xb hb1))
      have HO2 := Lib.hid ((ho.setCell y (.bool true)).trans (OnlyC.below xb (Below.one (wr.setCell ⟨xb, y, none⟩ (.bool true)) i.obj)))
      have HP1 := Lib.hid (Pre.later hp hb1)
      have HRC1 := Lib.hid (hrc.below hb1)
      have HRD1 := Lib.hid (hrd.below hb1)
      have HRC3 := Lib.hid ((hrc.store s0 (fun n e => by cases e) (fun A n c e => by cases e) (.bool true)).below (Below.one (wr.setCell ⟨xb, y, none⟩ (.bool true)) i.obj))
      have HRD3 := Lib.hid ((hrd.store_other s0 (fun n e => by cases e) (.bool true)).below (Below.one (wr.setCell ⟨xb, y, none⟩ (.bool true)) i.obj))
      have HLT := Lib.hid hlt
      have HHI := HII
      clear HII
      obtain ⟨kk, op, dst, a, b', n, text, r0, r1, r2, r3, r4, r5, to_, els⟩ := i
      have ⟨d0, d1, d2, d3, d4, d5, d6, d7, d8, d9, d10, d11, d12, d13, d14⟩ := Ins.cells (i := ⟨kk, op, dst, a, b', n, text, r0, r1, r2, r3, r4, r5, to_, els⟩) kx
      simp only [Ins.obj] at kx d0 d1 d2 d3 d4 d5 d6 d7 d8 d9 d10 d11 d12 d13 d14 s1 f1 HS HO1 HO2 HP1 HRC1 HRD1 HRC3 HRD3
      simp only at x0 x1 x2 x3 x4 x5 x6 x7 x8 x9 x10 x11 x12 x13 x14 HWL
      clear hlt hj hp ho hcs kx hbw hbx hwl hrc hrd hx hbv hb1 hxb2 hyR d1 d3 d4 d5 d6 d7 d8 d9 d10 d11 d12 d13 d14
      by_cases h8 : kk = 8
      · subst h8
        by_cases hd : (y : Int) = dst
        · have hde : ((y : Int) == dst) = true := by rw [beq_iff_eq]; exact hd
          have HE : Hid (WaL f R k (WaQ 8 dst (l.take (j + 1))) L) := Lib.hid (HWL.out.skip fun r => by
            unfold WaQ
            rw [HTK.out]
            constructor
            · rintro ⟨h1, h2, h3⟩; exact ⟨h1, h2, Or.inl h3⟩
            · rintro ⟨h1, h2, h3 | h3⟩
              · exact ⟨h1, h2, h3⟩
              · exact absurd (h3.trans hd) h2)
          clear hd
          go_wp2
          have := HLT.out
          exact ⟨⟨j + 1, L, by omega, by go_num, HP1.out, HE.out, HO1.out, HRC1.out, HRD1.out⟩, by simp [intOf]; omega⟩
        · have hde : ((y : Int) == dst) = false := by rw [beq_eq_false_iff_ne]; exact hd
          have HE : Hid (WaL f R k (WaQ 8 dst (l.take (j + 1))) (L.set y true)) := Lib.hid (HWL.out.mark (by omega) fun r => by
            unfold WaQ
            rw [HTK.out]
            constructor
            · rintro ⟨h1, h2, h3 | h3⟩
              · exact Or.inl ⟨h1, h2, h3⟩
              · exact Or.inr h3
            · rintro (⟨h1, h2, h3⟩ | h3)
              · exact ⟨h1, h2, Or.inl h3⟩
              · exact ⟨rfl, by rw [h3]; exact hd, Or.inr h3⟩)
          clear hd
          go_wp2
          have := HLT.out
          exact ⟨⟨j + 1, L.set y true, by omega, by go_num, HS.out, HE.out, HO2.out, HRC3.out, HRD3.out⟩, by simp [intOf]; omega⟩
      · have h8b : (kk == 8) = false := by rw [beq_eq_false_iff_ne]; exact h8
        have HE : Hid (WaL f R k (WaQ kk dst (l.take (j + 1))) L) := Lib.hid (HWL.out.skip fun r => ⟨fun (h : WaQ _ _ _ _) => absurd h.1 h8, fun (h : WaQ _ _ _ _) => absurd h.1 h8⟩)
        clear h8
        go_wp2
        have := HLT.out
        exact ⟨⟨j + 1, L, by omega, by go_num, HP1.out, HE.out, HO1.out, HRC1.out, HRD1.out⟩, by simp [intOf]; omega⟩
    · obtain rfl : j = Ln := by omega
      have hki : ¬ (j : Int) < (j : Int) := by omega
      have HE : Hid (WaL f R k (WaQ i.kind i.dst l) L) := Lib.hid (by rw [List.take_of_length_le (by rw [HLN.out]; exact Nat.le_refl _)] at hwl; exact hwl)
      clear hp ho hj hlt hwl hrc hrd
      go_wp2
      exact HQ.out _ _ _ _ _ _ _ _ _ _ _ _ _ _ _ _ _ _ _ _ _ _ _ _ wr L HPP.out HE.out HO.out HRC2.out
open Go.RowKit Go.BigFrame

theorem up_len : ∀ {l : List Int} {R : Nat}, l.Pairwise (· < ·) → (∀ x ∈ l, 0 ≤ x ∧ x < (R : Int)) → l.length ≤ R := fun {l R} hp hb => by
  have h : ∀ (l : List Int) (a : Int), l.Pairwise (· < ·) → (∀ x ∈ l, a ≤ x ∧ x < (R : Int)) → l = [] ∨ (l.length : Int) ≤ R - a := by
    intro l
    induction l with
    | nil => exact fun a _ _ => Or.inl rfl
    | cons x l ih =>
      intro a hp hb
      rw [List.pairwise_cons] at hp
      have hx := hb x (List.mem_cons_self ..)
      have := ih (x + 1) hp.2 (fun y hy => by have := hp.1 y hy; have := hb y (List.mem_cons_of_mem _ hy); omega)
      rw [List.length_cons]
      rcases this with rfl | h
      · right; simp; omega
      · right; omega
  rcases h l 0 hp hb with rfl | h
  · exact Nat.zero_le _
  · omega
theorem Bh.bd {f : Fn7} (hf : OkF f) {p : Nat} {r : Int} (h : Bh f.code p r) : 0 ≤ r ∧ r < (f.R.toNat : Int) := by
  obtain ⟨i, _, n, _, h⟩ := h
  have := (h.bound hf).1
  omega
theorem WaL.next {f : Fn7} {R k : Nat} {Q : Int → Prop} {L : List Bool} (h : WaL f R k Q L) (hq : ∀ r, Q r ↔ WaA f k r) : WaL f R (k + 1) (fun _ => False) L := ⟨h.1, fun r hr => (h.2 r hr).trans (by
  rw [hq]
  constructor
  · rintro (⟨p, h1, h2⟩ | h)
    · exact Or.inl ⟨p, by omega, h2⟩
    · exact Or.inl ⟨k, by omega, h⟩
  · rintro (⟨p, h1, h2⟩ | h)
    · by_cases hpk : p = k
      · subst hpk; exact Or.inr h2
      · exact Or.inl ⟨p, by omega, h2⟩
    · exact h.elim)⟩
set_option maxRecDepth 1000000 in
set_option maxHeartbeats 16000000 in
theorem wt0_any (f : Fn7) (hf : OkF f) (R N B c0 ob : Nat) (hN : f.code.length = N) (hRR : f.R.toNat = R) (xb : Nat) (W0 w : World) (C : Option Addr) (hB : w.heap[B]? = some (funcObj f.nm f.ps f.R f.Fr C N c0)) (hBx : B ≠ xb) (hC : RdI W0 C f.code) (hW0 : Below W0.heap.size W0 w) (hxb : W0.heap.size ≤ xb) (hRC : RowsC w ob N (Bh f.code)) (L0 : List Bool) (hP : PB w xb L0) (hL : WaL f R 0 (fun _ => False) L0)
    (x0 x2 x4 x5 x6 x7 x8 x9 x10 x11 x12 x13 x14 x15 x19 x20 x21 x22 x23 x24 x25 x26 x27 x28 x29 x30 x31 x32 x33 x34 x35 x36 x37 x38 x39 x40 x41 x42 x43 x44 x45 x46 x47 x48 : Value) (Q : Exit → Act → World → Prop)
    (hQ : ∀ (y4 y5 y7 y8 y18 y19 y20 y21 y22 y23 y24 y25 y26 y27 y28 y29 y30 y31 y32 y33 y34 y35 y36 y37 y38 y39 y40 y41 y42 y43 y44 y45 y46 y47 : Value) (w' : World) (L : List Bool), PB w' xb L → WaL f R N (fun _ => False) L → OnlyC w w' xb → Q (.exit 0) ⟨(x0::.pointer (some ⟨B, 0, none⟩)::x2::.slice (some ⟨xb, 0, none⟩) R R::y4::y5::x6::y7::y8::x9::x10::x11::x12::x13::x14::x15::.slice (some ⟨ob, 0, none⟩) N N::.int .i64 (N : Int)::y18::y19::y20::y21::y22::y23::y24::y25::y26::y27::y28::y29::y30::y31::y32::y33::y34::y35::y36::y37::y38::y39::y40::y41::y42::y43::y44::y45::y46::y47::x48::[]).toArray, []⟩ w') :
    Code.wp Try.prog wt0 Q ⟨(x0::.pointer (some ⟨B, 0, none⟩)::x2::.slice (some ⟨xb, 0, none⟩) R R::x4::x5::x6::x7::x8::x9::x10::x11::x12::x13::x14::x15::.slice (some ⟨ob, 0, none⟩) N N::.int .i64 (N : Int)::.int .i64 (0)::x19::x20::x21::x22::x23::x24::x25::x26::x27::x28::x29::x30::x31::x32::x33::x34::x35::x36::x37::x38::x39::x40::x41::x42::x43::x44::x45::x46::x47::x48::[]).toArray, []⟩ w := by
  conv => arg 2; whnf
  have HQ := Lib.hid hQ
  have HP := Lib.hid hP
  have HL0 := Lib.hid hL
  have HRC := Lib.hid hRC
  have HB := Lib.hid hB
  have HC := Lib.hid hC
  have HW0 := Lib.hid hW0
  have HF := Lib.hid hf
  have HN := Lib.hid hN
  have HRR := Lib.hid hRR
  have hN2 : N ≤ 8192 := by rw [← hN]; exact hf.len.2
  have hR2 : R ≤ 4096 := by have := hf.R; omega
  have hBl := (Array.getElem?_eq_some_iff.1 hB).1
  clear hQ hP hB hC hW0 hL hRC hf hN hRR
  go_loopw [18] (fun ix wr => ∃ (k : Nat) (L : List Bool), k ≤ N ∧ ix = .int .i64 k ∧ PB wr xb L ∧ WaL f R k (fun _ => False) L ∧ OnlyC w wr xb ∧ RowsC wr ob N (Bh f.code)) (fun ix _ => N - (intOf ix).toNat)
  case atStart => exact ⟨0, L0, by omega, rfl, HP.out, HL0.out, OnlyC.refl _ _, HRC.out⟩
  case round =>
    obtain ⟨k, L, hk, rfl, hp, hwl, ho, hrc⟩ := hrel
    have HO := Lib.hid ho
    have HPP := Lib.hid hp
    have HWL := Lib.hid hwl
    have HRC2 := Lib.hid hrc
    by_cases hlt : k < N
    · have hki : (k : Int) < N := by omega
      obtain ⟨i, hi⟩ : ∃ i, f.code[k]? = some i := ⟨_, List.getElem?_eq_getElem (by rw [HN.out]; exact hlt)⟩
      obtain ⟨A, l, cap, hc, hrd, hpw, hm⟩ := hrc.2 k hlt
      have hin : ∀ x ∈ l, 0 ≤ x ∧ x < (R : Int) := fun x hx => by have := ((hm x).1 hx).bd HF.out; rw [HRR.out] at this; exact this
      have hll := up_len hpw hin
      obtain ⟨Ln, hLn⟩ : ∃ Ln, l.length = Ln := ⟨_, rfl⟩
      rw [hLn] at hc hll
      have HLn := Lib.hid hLn
      have HIN := Lib.hid hin
      have HRD := Lib.hid hrd
      have HQW : Hid (∀ r, WaQ i.kind i.dst l r ↔ WaA f k r) := Lib.hid fun r => by
        unfold WaQ WaA
        rw [hm]
        constructor
        · rintro ⟨h1, h2, h3⟩; exact ⟨i, hi, h1, h2, h3⟩
        · rintro ⟨i', h0, h1, h2, h3⟩
          rw [hi] at h0
          injection h0 with h0
          subst h0
          exact ⟨h1, h2, h3⟩
      have HI := Lib.hid hi
      have hbx : wr.heap[B]? = _ := (ho.blk B hBl hBx).trans HB.out
      have HBX := Lib.hid hbx
      have HBW := Lib.hid (HW0.out.trans (ho.toBelow hxb HW0.out.size))
      have HLT := Lib.hid hlt
      clear hlt hk hp hwl ho hrc hi hrd hpw hm hin hLn hbx
      go_wp2
      refine wt2_any f R N k k B c0 ob HLT.out i HI.out l A Ln cap xb HLn.out (by omega) HIN.out W0 wr C HBX.out hBx HC.out HBW.out hxb (Bh f.code) HRC2.out HRD.out L HPP.out HWL.out _ _ _ _ _ _ _ _ _ _ _ _ _ _ _ _ _ _ _ _ _ _ _ _ _ _ _ _ _ _ _ _ _ _ _ _ _ _ _ _ _ _ _ _ ?_
      intro v7 v8 v25 v26 v27 v28 v29 v30 v31 v32 v33 v34 v35 v36 v37 v38 v39 v40 v41 v42 v43 v44 v45 v46 w4 L4 hp4 hl4 ho4 hrc4
      have HP4 := Lib.hid hp4
      have HL4 := Lib.hid (hl4.next HQW.out)
      have HO4 := Lib.hid (HO.out.trans ho4)
      have HRC4 := Lib.hid hrc4
      clear hp4 hl4 ho4 hrc4
      go_wp2
      have := HLT.out
      exact ⟨⟨k + 1, L4, by omega, by go_num, HP4.out, HL4.out, HO4.out, HRC4.out⟩, by simp [intOf]; omega⟩
    · obtain rfl : k = N := by omega
      have hki : ¬ (k : Int) < (k : Int) := by omega
      clear hlt hk hp hwl ho hrc
      go_wp2
      exact HQ.out _ _ _ _ _ _ _ _ _ _ _ _ _ _ _ _ _ _ _ _ _ _ _ _ _ _ _ _ _ _ _ _ _ _ wr L HPP.out HWL.out HO.out
theorem Waits_no (f : Fn7) (hf : ¬ OkF f) (C : Option Addr) (cap : Nat) (w : World) (hC : RdI w C f.code) :
    Calls Try.prog 20 #[funcAgg f.nm f.ps f.R f.Fr C f.code.length cap] w fun e w' => e = .returned (.slice none 0 0) ∧ Below w.heap.size w w' := by
  have hB := Below.one w (funcObj f.nm f.ps f.R f.Fr C f.code.length cap)
  have bx := heap_alloc_new w (funcObj f.nm f.ps f.R f.Fr C f.code.length cap)
  have hR := Lib.hid (RightFunc_no f hf C cap _ (hC.below hB))
  simp only [funcObj, funcAgg] at hB bx hR ⊢
  clear hf hC
  go_enter Try.func20, Try.ntmps20
  go_wp2_with (first
    | (refine hR.out.mono ?_; rintro e w3 ⟨rfl, hb3⟩))
  go_returns
  exact ⟨rfl, hB.trans (hb3.mono hB.size)⟩
def WaT (base R : Nat) (f : Fn7) (e : Ending) (w : World) : Prop := ∃ xb L, e = .returned (.slice (some ⟨xb, 0, none⟩) R R) ∧ base ≤ xb ∧ PB w xb L ∧ L.length = R ∧ ∀ r : Nat, r < R → (L[r]? = some true ↔ WaP f r)
set_option maxRecDepth 1000000 in
set_option maxHeartbeats 16000000 in
theorem Waits_yes (f : Fn7) (hf : OkF f) (C : Option Addr) (cap : Nat) (w : World) (hC : RdI w C f.code) :
    Calls Try.prog 20 #[funcAgg f.nm f.ps f.R f.Fr C f.code.length cap] w fun e w' => WaT w.heap.size f.R.toNat f e w' ∧ Below w.heap.size w w' := by
  obtain ⟨N, hN⟩ : ∃ N, f.code.length = N := ⟨_, rfl⟩
  obtain ⟨R, hRR⟩ : ∃ R, f.R.toNat = R := ⟨_, rfl⟩
  have hR0 : f.R = (R : Int) := by have := hf.R; have := hf.ps; omega
  have hR2 : R ≤ 4096 := by have := hf.R; omega
  have hN2 : N ≤ 8192 := by rw [← hN]; exact hf.len.2
  have hB := Below.one w (funcObj f.nm f.ps f.R f.Fr C f.code.length cap)
  have bx := heap_alloc_new w (funcObj f.nm f.ps f.R f.Fr C f.code.length cap)
  have hC1 := hC.below hB
  have hR := RightFunc_yes f hf C cap _ hC1
  have hH := fun W h => Behind_yes f hf C cap W h
  rw [hN] at hR hH hB bx hC1 ⊢
  rw [hRR]
  simp only [funcObj, funcAgg] at hR hB bx hC1 hH ⊢
  rw [hR0] at hR hB bx hC1 hH ⊢
  have HR := Lib.hid hR
  have HH := Lib.hid hH
  have HC1 := Lib.hid hC1
  have HB := Lib.hid hB
  have HF := Lib.hid hf
  have HN := Lib.hid hN
  have HRR := Lib.hid hRR
  have HR0 := Lib.hid hR0
  have HAL : Hid (∀ p r, WaA f p r → p < N) := Lib.hid fun p r ⟨i, hi, _⟩ => by rw [← hN]; exact (List.getElem?_eq_some_iff.1 hi).1
  obtain ⟨W, hW⟩ : ∃ W, w.alloc (.cells #[.string f.nm, .int .i64 f.ps, .int .i64 (R : Int), .int .i64 f.Fr, .slice C N cap] 26) = W := ⟨_, rfl⟩
  have hwW : W.heap.size = w.heap.size + 1 := by rw [← hW]; simp
  rw [hW] at bx HR HC1 HB
  have HWW := Lib.hid hwW
  clear hwW
  have HBX := Lib.hid bx
  have hBl := (Array.getElem?_eq_some_iff.1 bx).1
  have hmk := fun W => make_bools R (by omega) W
  have g0 := cell_of_heap bx 0 _ rfl
  have g1 := cell_of_heap bx 1 _ rfl
  have g2 := cell_of_heap bx 2 _ rfl
  have g3 := cell_of_heap bx 3 _ rfl
  have g4 := cell_of_heap bx 4 _ rfl
  clear hf hN hC hB hR hH hC1 bx hRR hR0
  go_enter Try.func20, Try.ntmps20
  go_wp2_with (first
    | (refine HR.out.mono ?_; rintro e w3 ⟨rfl, hb3⟩; have hx3 := (hb3.block _ hBl).trans HBX.out; have h0 := cell_of_heap hx3 0 _ rfl; have h1 := cell_of_heap hx3 1 _ rfl; have h2 := cell_of_heap hx3 2 _ rfl; have h3 := cell_of_heap hx3 3 _ rfl; have h4 := cell_of_heap hx3 4 _ rfl; have hl3 := (Array.getElem?_eq_some_iff.1 hx3).1; have hk3 := alloc_keeps hx3 (.cells (madeCells #[.bool false] R) 4); have k0 := cell_of_heap hk3 0 _ rfl; have k1 := cell_of_heap hk3 1 _ rfl; have k2 := cell_of_heap hk3 2 _ rfl; have k3 := cell_of_heap hk3 3 _ rfl; have k4 := cell_of_heap hk3 4 _ rfl; have HX3 := Lib.hid hk3; have HB3 := Lib.hid hb3; clear hx3 hk3 hb3 hW)
    | (go_at_call 46; refine (HH.out _ (HC1.out.below (HB3.out.alloc HB3.out.size _))).mono ?_; rintro e w5 ⟨⟨ob, rfl, hrk⟩, hb5⟩; have HRC := Lib.hid hrk.toC; have HB5 := Lib.hid hb5; clear hrk hb5))
  have hs3 : w.heap.size < w3.heap.size := by have := HB3.out.size; have := HWW.out; omega
  have HX5 := Lib.hid ((HB5.out.block w.heap.size (by simp; omega)).trans HX3.out)
  have HBW5 : Hid (Below W.heap.size W w5) := Lib.hid ((HB3.out.alloc HB3.out.size _).trans (HB5.out.mono (Nat.le_trans HB3.out.size (Below.one w3 _).size)))
  have HFO : Hid (funcObj f.nm f.ps f.R f.Fr C N cap = .cells #[.string f.nm, .int .i64 f.ps, .int .i64 (R : Int), .int .i64 f.Fr, .slice C N cap] 26) := Lib.hid (by unfold funcObj; rw [HR0.out])
  have hmade : PB (w3.alloc (.cells (madeCells #[.bool false] R) 4)) w3.heap.size (List.replicate R false) := by
    have h := made_pre (g := gB) (d := 1) (t := 4) w3 #[.bool false] R false rfl (fun k hk => by
      obtain rfl : k = 0 := by omega
      rfl)
    rwa [Nat.mul_one] at h
  have HM5 := Lib.hid (Pre.later hmade HB5.out)
  clear hmade
  refine wt0_any f HF.out R N w.heap.size cap ob HN.out HRR.out w3.heap.size W w5 C (by rw [HFO.out]; exact HX5.out) (by omega) HC1.out HBW5.out HB3.out.size HRC.out (List.replicate R false) HM5.out ⟨by simp, fun r hr => ⟨fun h => (by rw [List.getElem?_replicate, if_pos hr] at h; cases h), fun h => (by rcases h with ⟨p, h, _⟩ | h; exact absurd h (Nat.not_lt_zero _); exact h.elim)⟩⟩ _ _ _ _ _ _ _ _ _ _ _ _ _ _ _ _ _ _ _ _ _ _ _ _ _ _ _ _ _ _ _ _ _ _ _ _ _ _ _ _ _ _ _ _ _ ?_
  intro v4 v5 v7 v8 v18 v19 v20 v21 v22 v23 v24 v25 v26 v27 v28 v29 v30 v31 v32 v33 v34 v35 v36 v37 v38 v39 v40 v41 v42 v43 v44 v45 v46 v47 w6 L hp6 hl6 ho6
  have HQ : Hid (WaT w.heap.size R f (.returned (.slice (some ⟨w3.heap.size, 0, none⟩) R R)) w6 ∧ Below w.heap.size w w6) := Lib.hid (by
    refine ⟨⟨w3.heap.size, L, rfl, by omega, hp6, hl6.1, fun r hr => (hl6.2 r hr).trans ⟨fun h => ?_, fun ⟨p, h⟩ => Or.inl ⟨p, HAL.out p r h, h⟩⟩⟩, ?_⟩
    · rcases h with ⟨p, _, h⟩ | h
      · exact ⟨p, h⟩
      · exact h.elim
    · have h1 := ho6.toBelow (base := w.heap.size) (by omega) (by have := HBW5.out.size; have := HWW.out; omega)
      exact HB.out.trans ((HBW5.out.mono (by have := HWW.out; omega)).trans h1))
  clear hp6 hl6 ho6
  go_wp2
  go_returns
  exact HQ.out
open Go.RowKit Go.BigFrame Go.MapKept

def EntX (w : World) (b : Nat) (S : Int → Bool) (s : Int) (c : Nat) : Prop := HalfI w b S s c ∨ (S s = true ∧ ∃ (es : Array MapEntry) (ck j : Nat) (e0 : MapEntry), w.heap[b]? = some (.map es ck) ∧ Ents es ck S ∧ es[j]? = some e0 ∧ e0.born = c)
theorem EntX.of_block {w w' : World} {b : Nat} {S : Int → Bool} {s : Int} {c : Nat} (h : EntX w b S s c) (hb : w'.heap[b]? = w.heap[b]?) : EntX w' b S s c := by
  rcases h with ⟨es, h1, h2⟩ | ⟨h0, es, ck, j, e0, h1, h2⟩
  · exact Or.inl ⟨es, hb.trans h1, h2⟩
  · exact Or.inr ⟨h0, es, ck, j, e0, hb.trans h1, h2⟩
section
variable {P : Program}
theorem grow_set (w : World) (b : Nat) (o : Obj) : w.grownBy { w with heap := w.heap.setIfInBounds b o } (some b) := ⟨rfl, rfl, rfl, by simp, fun i _ hi => by
  have : b ≠ i := fun e => hi (by rw [e])
  simp [this]⟩
theorem SetI.entryX {w : World} {b : Nat} {S} (h : SetI w b S) {t k e : TypeId} (ht : P.underlying t = some (.map k e)) (hk : P.underlying k = some (.int .i64)) (hz : (zeroValue e).run P w = .ok (.bool false) w) (s : Int) :
    ∃ (w' : World) (c : Nat) (d : Value), (Instr.mapEntry t (.map (some b)) (.int .i64 s)).run P w = .ok (.tuple #[d, .int .i64 c]) w' ∧ EntX w' b S s c ∧ w.grownBy w' (some b) ∧ w'.heap.size = w.heap.size := by
  cases hs : S s with
  | false =>
    obtain ⟨w', c, h1, h2, h3, h4⟩ := h.entry ht hk hz s hs
    exact ⟨w', c, _, h1, Or.inl h2, h3, h4⟩
  | true =>
    obtain ⟨es, clock, hb, hE, hf⟩ := h.find s
    have hck := run_checkKey (w := w) hk (d := .int .i64) (k := .int .i64 s) rfl false 9999
    have hlt : b < w.heap.size := (Array.getElem?_eq_some_iff.1 hb).1
    rcases hf with ⟨ha, hg, hno⟩ | ⟨j, e0, ha, hj, hkey, hg, hv⟩
    · rw [hs] at hg; cases hg
    · have hst := run_keyThatStays (P := P) (w := w) (k := .int .i64 s) (d := .int .i64) rfl
      have hsame : (es.modify j fun e => { e with key := .int .i64 s }) = es := by
        apply Array.ext
        · simp
        · intro i h1 h2
          rw [Array.getElem_modify]
          split
          · rename_i hji
            subst hji
            have : es[j] = e0 := by rw [Array.getElem?_eq_getElem h2] at hj; injection hj
            rw [this]
            cases e0
            simp only at hkey
            rw [hkey]
          · rfl
      refine ⟨{ w with heap := w.heap.setIfInBounds b (.map es clock) }, e0.born, .bool true, ?_, Or.inr ⟨hs, es, clock, j, e0, by simp [hlt], hE, hj, rfl⟩, grow_set w b _, by simp⟩
      simp [Instr.mapEntry, run_underlying ht, MapKept.run_getObj_map hb, hck, run_findKey (w := w) hk ha, Result.andThen, hj, hkey, hst, MapKept.run_setObj_map _ hb, hsame, goInt]
theorem EntX.store {w : World} {b : Nat} {S} {s : Int} {c : Nat} (h : EntX w b S s c) (t : TypeId) :
    ∃ w', (Instr.entryStore t (.map (some b)) (.int .i64 c) (.bool true)).run P w = .ok () w' ∧ SetI w' b (insS_ S s) ∧ w.grownBy w' (some b) ∧ w'.heap.size = w.heap.size := by
  rcases h with h | ⟨hs, es, ck, j, e0, hb, hE, hj, rfl⟩
  · exact h.store t
  · have hlt : b < w.heap.size := (Array.getElem?_eq_some_iff.1 hb).1
    have hjl : j < es.size := (Array.getElem?_eq_some_iff.1 hj).1
    have hj2 : es[j] = e0 := by rw [Array.getElem?_eq_getElem hjl] at hj; injection hj
    have hfi : es.findIdx? (fun e => (e.born : Int) == (e0.born : Int)) = some j := by
      rw [Array.findIdx?_eq_some_iff_getElem]
      refine ⟨hjl, by rw [hj2]; simp, fun i hi => ?_⟩
      have hil : i < es.size := Nat.lt_trans hi hjl
      have hne : es[i].born ≠ e0.born := fun e => by
        have := hE.born i j es[i] e0 (Array.getElem?_eq_getElem hil) hj e
        omega
      simp
      omega
    have hval : e0.val = .bool true := by
      obtain ⟨_, _, _, h3⟩ := hE.form j e0 hj
      exact h3
    have hmod : (es.modify j fun e => { e with val := .bool true }) = es := by
      apply Array.ext
      · simp
      · intro i h1 h2
        rw [Array.getElem_modify]
        split
        · rename_i hji
          subst hji
          rw [hj2]
          cases e0
          simp only at hval
          rw [hval]
        · rfl
    refine ⟨{ w with heap := w.heap.setIfInBounds b (.map es ck) }, ?_, ⟨es, ck, by simp [hlt], by rw [insS_same hs]; exact hE⟩, grow_set w b _, by simp⟩
    simp [Instr.entryStore, MapKept.run_getObj_map hb, Result.andThen, asInt, asIntOf, hfi, hmod, MapKept.run_setObj_map _ hb]
end
section
variable {P : Program} (w : World) {ops : Array Oper} {rest : List Oper} {o : Oper} {a : Act} {Q : Exit → Act → World → Prop}
theorem wpList_entryStore_x (hg : o.guard = none) (m x v : Operand) (t : TypeId) (hop : o.op = Op.entryStore t m x v) (b : Nat) (S : Int → Bool) (s : Int) (c : Nat) (hm : a.eval m = .map (some b)) (h : EntX w b S s c) (hx : a.eval x = .int .i64 c) (hv : a.eval v = .bool true)
    (hK : ∀ w', SetI w' b (insS_ S s) → w.grownBy w' (some b) → w'.heap.size = w.heap.size → wpList P ops Q rest (a.put o.dst undef) w') : wpList P ops Q (o::rest) a w := by
  refine wpList_plain hg fun K' hK' => ?_
  obtain ⟨w', hrun, r1, r2, r3⟩ := h.store (P := P) t
  unfold Oper.wp
  simp [execOp, hop, hm, hx, hv, hrun, Result.andThen]
  exact hK' _ _ (hK w' r1 r2 r3)
end
section
variable {P : Program} {ρ : Operand → Value} {o : Oper} {w w' : World}
theorem meT {t : TypeId} {b : Nat} {s : Int} {v : Value} (p r : Operand) (ho : o.op = .mapEntry t p r) (hp : ρ p = .map (some b)) (hr : ρ r = .int .i64 s) (hrun : (Instr.mapEntry t (.map (some b)) (.int .i64 s)).run P w = .ok v w') : (execOp ρ o).run P w = .ok (.value v) w' := by
  unfold execOp
  simp only [ho, hp, hr]
  simp [hrun, Result.andThen]
theorem exT {d v : Value} (p : Operand) (ho : o.op = .extract p 1) (hp : ρ p = .tuple #[d, v]) : (execOp ρ o).run P w = .ok (.value v) w := by
  unfold execOp
  simp only [ho, hp]
  simp [go_sem]
theorem esT {t : TypeId} {b c : Nat} (p r q : Operand) (ho : o.op = .entryStore t p r q) (hp : ρ p = .map (some b)) (hr : ρ r = .int .i64 c) (hq : ρ q = .bool true) (hrun : (Instr.entryStore t (.map (some b)) (.int .i64 c) (.bool true)).run P w = .ok () w') : (execOp ρ o).run P w = .ok .skip w' := by
  unfold execOp
  simp only [ho, hp, hr, hq]
  simp [hrun, Result.andThen]
theorem ldX {ty : TypeId} {b j : Nat} {v : Value} (x : Operand) (ho : o.op = .load ty x) (hx : ρ x = .pointer (some ⟨b, j, none⟩)) (hl : (Instr.loadAt ty (.pointer (some ⟨b, j, none⟩))).run P w = .ok v w) : (execOp ρ o).run P w = .ok (.value v) w := by
  unfold execOp
  simp only [ho, hx]
  simp [hl, Result.andThen]
end
theorem ixM {ρ : Operand → Value} {o : Oper} {w : World} {b n c : Nat} {j : Nat} (hj : j < n) (x y : Operand) (ho : o.op = .indexAddr 77 x y) (hx : ρ x = .slice (some ⟨b, 0, none⟩) n c) (hy : ρ y = .int .i64 j) : (execOp ρ o).run Try.prog w = .ok (.value (.pointer (some ⟨b, j, none⟩))) w := by
  unfold execOp
  simp only [ho, hx, hy]
  simp [go_sem, hj]
theorem ldS {ρ : Operand → Value} {o : Oper} {w : World} {b j : Nat} {v : Value} (h : w.cell? ⟨b, j, none⟩ = some v) (x : Operand) (ho : o.op = .load 77 x) (hx : ρ x = .pointer (some ⟨b, j, none⟩)) : (execOp ρ o).run Try.prog w = .ok (.value v) w := by
  unfold execOp
  simp only [ho, hx]
  simp [go_sem, h]
theorem ldM {ρ : Operand → Value} {o : Oper} {w : World} {b j : Nat} {v : Value} (h : w.cell? ⟨b, j, none⟩ = some v) (x : Operand) (ho : o.op = .load 73 x) (hx : ρ x = .pointer (some ⟨b, j, none⟩)) : (execOp ρ o).run Try.prog w = .ok (.value v) w := by
  unfold execOp
  simp only [ho, hx]
  simp [go_sem, h]
open Go.RowKit Go.BigFrame

structure Mb (W1 W0 w : World) (sb N : Nat) : Prop where
  h : Pre g1 1 73 w sb ((List.range N).map fun p => .map (some (sb + 2 + p)))
  bx : w.heap[sb + 1]? = some (.cells #[.slice (some ⟨sb, 0, none⟩) N N] 77 (0, 0))
  b : Below sb W1 w
  k : ∀ r, r < W0.heap.size → (r < sb + 2 ∨ sb + 2 + N ≤ r) → w.heap[r]? = W0.heap[r]?
  z : W0.heap.size ≤ w.heap.size
  l : sb + 2 + N ≤ W0.heap.size
structure Mm (W1 W0 w : World) (sb N : Nat) (S : Sets) : Prop where
  m : Mb W1 W0 w sb N
  r : ∀ p, p < N → SetI w (sb + 2 + p) (S p)
structure Me (W1 W0 w : World) (sb N p : Nat) (q : Int) (c : Nat) (S : Sets) : Prop where
  m : Mb W1 W0 w sb N
  r : ∀ p', p' < N → p' ≠ p → SetI w (sb + 2 + p') (S p')
  x : EntX w (sb + 2 + p) (S p) q c
theorem Mb.turn {W1 W0 w w' : World} {sb N p : Nat} (h : Mb W1 W0 w sb N) (hp : p < N) (hg : w.grownBy w' (some (sb + 2 + p))) : Mb W1 W0 w' sb N := by
  have hl := h.l
  have hz := h.z
  have hk : ∀ r, r < w.heap.size → r ≠ sb + 2 + p → w'.heap[r]? = w.heap[r]? := fun r hr hne => hg.block r hr (fun e => hne (by injection e))
  exact ⟨Pre.of_heap h.h (hk _ (by omega) (by omega)), (hk _ (by omega) (by omega)).trans h.bx, Below.grown h.b hg (by omega) (fun k hk => by injection hk; omega), fun r hr ho => (hk r (by omega) (by omega)).trans (h.k r hr ho), Nat.le_trans hz hg.size, hl⟩
theorem Mb.kc {W1 W0 w : World} {sb N a b : Nat} (h : Mb W1 W0 w sb N) (ha : a < N) (hb : b < N) : w.cell? ⟨sb + 1, 0, none⟩ = some (.slice (some ⟨sb, 0, none⟩) N N) ∧ w.cell? ⟨sb, a, none⟩ = some (.map (some (sb + 2 + a))) ∧ w.cell? ⟨sb, b, none⟩ = some (.map (some (sb + 2 + b))) :=
  ⟨cell_of_heap h.bx 0 _ rfl, Pre1.cell h.h (by simp [ha]), Pre1.cell h.h (by simp [hb])⟩
theorem Mm.entry {W1 W0 w w' : World} {sb N p c : Nat} {q : Int} {S : Sets} (h : Mm W1 W0 w sb N S) (hp : p < N) (hx : EntX w' (sb + 2 + p) (S p) q c) (hg : w.grownBy w' (some (sb + 2 + p))) : Me W1 W0 w' sb N p q c S :=
  ⟨h.m.turn hp hg, fun p' hp' hne => (h.r p' hp').kept hg (fun e => hne (by injection e; omega)), hx⟩
theorem Me.store {W1 W0 w w' : World} {sb N p c : Nat} {q : Int} {S : Sets} (h : Me W1 W0 w sb N p q c S) (hp : p < N) (hx : SetI w' (sb + 2 + p) (insS_ (S p) q)) (hg : w.grownBy w' (some (sb + 2 + p))) : Mm W1 W0 w' sb N (upd2 S p q) :=
  ⟨h.m.turn hp hg, fun p' hp' => by
    by_cases hpp : p' = p
    · subst hpp
      have e : upd2 S p' q p' = insS_ (S p') q := by funext x; simp [upd2, insS_]
      rw [e]; exact hx
    · rw [upd2_other hpp]
      exact (h.r p' hp' hpp).kept hg (fun e => hpp (by injection e; omega))⟩
def pvL (sb N a b c1 c2 : Nat) (d1 d2 : Value) : List Value := [.slice (some ⟨sb, 0, none⟩) N N, .int .i64 ((a : Int)), .pointer (some ⟨sb, a, none⟩), .map (some (sb + 2 + a)), .int .i64 ((b : Int)), .slice (some ⟨sb, 0, none⟩) N N, .int .i64 ((b : Int)), .pointer (some ⟨sb, b, none⟩), .map (some (sb + 2 + b)), .int .i64 ((a : Int)), .tuple #[d1, .int .i64 (c1 : Int)], .int .i64 ((c1 : Int)), undef, .tuple #[d2, .int .i64 (c2 : Int)], .int .i64 ((c2 : Int))]
def Ip (W1 W0 : World) (sb N a b : Nat) (S : Sets) (s : Nat → Option Value) (w : World) : Prop :=
  ∃ c1 c2 d1 d2, (∀ j v, s j = some v → (pvL sb N a b c1 c2 d1 d2)[j]? = some v) ∧
    ((s 10 = none ∧ s 11 = none ∧ s 12 = none ∧ s 13 = none ∧ s 14 = none ∧ Mm W1 W0 w sb N S) ∨
     (s 10 ≠ none ∧ s 12 = none ∧ s 13 = none ∧ s 14 = none ∧ Me W1 W0 w sb N a b c1 S) ∨
     (s 10 ≠ none ∧ s 12 ≠ none ∧ s 13 = none ∧ s 14 = none ∧ Mm W1 W0 w sb N (upd2 S a b)) ∨
     (s 10 ≠ none ∧ s 12 ≠ none ∧ s 13 ≠ none ∧ Me W1 W0 w sb N b a c2 (upd2 S a b)))
section
variable {W1 W0 : World} {sb N a b : Nat} {S : Sets} {s : Nat → Option Value} {w w2 : World}
theorem updT_ne {s : Nat → Option Value} {j k : Nat} {v : Value} (h : k ≠ j) : updT s j v k = s k := by unfold updT; rw [if_neg h]
theorem updT_eq {s : Nat → Option Value} {j : Nat} {v : Value} : updT s j v j = some v := by unfold updT; rw [if_pos rfl]
theorem Ip.mb (h : Ip W1 W0 sb N a b S s w) : Mb W1 W0 w sb N := by
  obtain ⟨_, _, _, _, _, h | h | h | h⟩ := h
  · exact h.2.2.2.2.2.m
  · exact h.2.2.2.2.m
  · exact h.2.2.2.2.m
  · exact h.2.2.2.m
theorem Ip.plain (h : Ip W1 W0 sb N a b S s w) (j : Nat) (v : Value) (hv : (pvL sb N a b 0 0 undef undef)[j]? = some v) (hj : j < 10) : Ip W1 W0 sb N a b S (updT s j v) w := by
  obtain ⟨c1, c2, d1, d2, h1, h2⟩ := h
  refine ⟨c1, c2, d1, d2, fun k u hu => ?_, ?_⟩
  · by_cases hkj : k = j
    · subst hkj
      rw [updT_eq] at hu
      rw [← hu, ← hv]
      rcases (by omega : k = 0 ∨ k = 1 ∨ k = 2 ∨ k = 3 ∨ k = 4 ∨ k = 5 ∨ k = 6 ∨ k = 7 ∨ k = 8 ∨ k = 9) with rfl | rfl | rfl | rfl | rfl | rfl | rfl | rfl | rfl | rfl <;> rfl
    · rw [updT_ne hkj] at hu; exact h1 k u hu
  · rw [updT_ne (show 10 ≠ j by omega), updT_ne (show 11 ≠ j by omega), updT_ne (show 12 ≠ j by omega), updT_ne (show 13 ≠ j by omega), updT_ne (show 14 ≠ j by omega)]
    exact h2
theorem Ip.plain11 {d : Value} {c : Nat} (h : Ip W1 W0 sb N a b S s w) (he : s 10 = some (.tuple #[d, .int .i64 (c : Int)])) : Ip W1 W0 sb N a b S (updT s 11 (.int .i64 (c : Int))) w := by
  obtain ⟨c1, c2, d1, d2, h1, h2⟩ := h
  have e := h1 10 _ he
  refine ⟨c1, c2, d1, d2, fun k u hu => ?_, ?_⟩
  · by_cases hkj : k = 11
    · subst hkj
      rw [updT_eq] at hu
      rw [← hu]
      simp [pvL] at e ⊢
      exact e.2
    · rw [updT_ne hkj] at hu; exact h1 k u hu
  · rw [updT_ne (show 10 ≠ 11 by omega), updT_ne (show 12 ≠ 11 by omega), updT_ne (show 13 ≠ 11 by omega), updT_ne (show 14 ≠ 11 by omega)]
    rcases h2 with h2 | h2
    · rw [he] at h2; exact absurd h2.1 (by simp)
    · exact Or.inr h2
theorem Ip.plain14 {d : Value} {c : Nat} (h : Ip W1 W0 sb N a b S s w) (he : s 13 = some (.tuple #[d, .int .i64 (c : Int)])) : Ip W1 W0 sb N a b S (updT s 14 (.int .i64 (c : Int))) w := by
  obtain ⟨c1, c2, d1, d2, h1, h2⟩ := h
  have e := h1 13 _ he
  refine ⟨c1, c2, d1, d2, fun k u hu => ?_, ?_⟩
  · by_cases hkj : k = 14
    · subst hkj
      rw [updT_eq] at hu
      rw [← hu]
      simp [pvL] at e ⊢
      exact e.2
    · rw [updT_ne hkj] at hu; exact h1 k u hu
  · rw [updT_ne (show 10 ≠ 14 by omega), updT_ne (show 11 ≠ 14 by omega), updT_ne (show 12 ≠ 14 by omega), updT_ne (show 13 ≠ 14 by omega)]
    rcases h2 with h2 | h2 | h2 | h2
    · rw [he] at h2; exact absurd h2.2.2.2.1 (by simp)
    · rw [he] at h2; exact absurd h2.2.2.1 (by simp)
    · rw [he] at h2; exact absurd h2.2.2.1 (by simp)
    · exact Or.inr (Or.inr (Or.inr h2))
theorem Ip.at0 (h : Ip W1 W0 sb N a b S s w) (haN : a < N) (hs : s 10 = none) : SetI w (sb + 2 + a) (S a) := by
  obtain ⟨_, _, _, _, _, h | h | h | h⟩ := h
  · exact h.2.2.2.2.2.r a haN
  all_goals exact absurd hs h.1
theorem Ip.entry1 {c : Nat} {d : Value} (h : Ip W1 W0 sb N a b S s w) (haN : a < N) (hs : s 10 = none) (hx : EntX w2 (sb + 2 + a) (S a) b c) (hg : w.grownBy w2 (some (sb + 2 + a))) : Ip W1 W0 sb N a b S (updT s 10 (.tuple #[d, .int .i64 (c : Int)])) w2 := by
  obtain ⟨c1, c2, d1, d2, h1, h2⟩ := h
  rcases h2 with h2 | h2 | h2 | h2
  rotate_left
  all_goals first | exact absurd hs h2.1 | skip
  refine ⟨c, c2, d, d2, fun k u hu => ?_, Or.inr (Or.inl ?_)⟩
  · by_cases hkj : k = 10
    · subst hkj
      rw [updT_eq] at hu
      rw [← hu]; rfl
    · rw [updT_ne hkj] at hu
      have h3 := h1 k u hu
      have hk : k < 15 := (List.getElem?_eq_some_iff.1 h3).1
      have h11 : k ≠ 11 := fun e => by subst e; rw [h2.2.1] at hu; cases hu
      rw [← h3]
      rcases (by omega : k = 0 ∨ k = 1 ∨ k = 2 ∨ k = 3 ∨ k = 4 ∨ k = 5 ∨ k = 6 ∨ k = 7 ∨ k = 8 ∨ k = 9 ∨ k = 12 ∨ k = 13 ∨ k = 14) with rfl | rfl | rfl | rfl | rfl | rfl | rfl | rfl | rfl | rfl | rfl | rfl | rfl <;> rfl
  · rw [updT_eq, updT_ne (by omega), updT_ne (by omega), updT_ne (by omega)]
    exact ⟨by simp, h2.2.2.1, h2.2.2.2.1, h2.2.2.2.2.1, h2.2.2.2.2.2.entry haN hx hg⟩
theorem Ip.at2 (h : Ip W1 W0 sb N a b S s w) {d : Value} {c : Nat} (hs : s 10 = some (.tuple #[d, .int .i64 (c : Int)])) (h12 : s 12 = none) : EntX w (sb + 2 + a) (S a) b c := by
  obtain ⟨c1, c2, d1, d2, h1, h | h | h | h⟩ := h
  · rw [hs] at h; exact absurd h.1 (by simp)
  · have e := h1 10 _ hs
    simp [pvL] at e
    have := h.2.2.2.2.x
    rw [show c = c1 by omega]
    exact this
  all_goals exact absurd h12 h.2.1
theorem Ip.store1 (h : Ip W1 W0 sb N a b S s w) (haN : a < N) (hs : s 10 ≠ none) (h12 : s 12 = none) (hx : SetI w2 (sb + 2 + a) (insS_ (S a) b)) (hg : w.grownBy w2 (some (sb + 2 + a))) : Ip W1 W0 sb N a b S (updT s 12 undef) w2 := by
  obtain ⟨c1, c2, d1, d2, h1, h2⟩ := h
  refine ⟨c1, c2, d1, d2, fun k u hu => ?_, Or.inr (Or.inr (Or.inl ?_))⟩
  · by_cases hkj : k = 12
    · subst hkj
      rw [updT_eq] at hu
      rw [← hu]; rfl
    · rw [updT_ne hkj] at hu; exact h1 k u hu
  · rw [updT_eq, updT_ne (by omega), updT_ne (by omega), updT_ne (by omega)]
    rcases h2 with h2 | h2 | h2 | h2
    · exact absurd h2.1 hs
    · exact ⟨hs, by simp, h2.2.2.1, h2.2.2.2.1, h2.2.2.2.2.store haN hx hg⟩
    · exact absurd h12 h2.2.1
    · exact absurd h12 h2.2.1
theorem Ip.at3 (h : Ip W1 W0 sb N a b S s w) (hbN : b < N) (h12 : s 12 ≠ none) (h13 : s 13 = none) : SetI w (sb + 2 + b) (upd2 S a b b) := by
  obtain ⟨_, _, _, _, _, h | h | h | h⟩ := h
  · exact absurd h.2.2.1 h12
  · exact absurd h.2.1 h12
  · exact h.2.2.2.2.r b hbN
  · exact absurd h13 h.2.2.1
theorem Ip.entry2 {c : Nat} {d : Value} (h : Ip W1 W0 sb N a b S s w) (hbN : b < N) (h12 : s 12 ≠ none) (h13 : s 13 = none) (hx : EntX w2 (sb + 2 + b) (upd2 S a b b) a c) (hg : w.grownBy w2 (some (sb + 2 + b))) : Ip W1 W0 sb N a b S (updT s 13 (.tuple #[d, .int .i64 (c : Int)])) w2 := by
  obtain ⟨c1, c2, d1, d2, h1, h2⟩ := h
  rcases h2 with h2 | h2 | h2 | h2
  · exact absurd h2.2.2.1 h12
  · exact absurd h2.2.1 h12
  · refine ⟨c1, c, d1, d, fun k u hu => ?_, Or.inr (Or.inr (Or.inr ?_))⟩
    · by_cases hkj : k = 13
      · subst hkj
        rw [updT_eq] at hu
        rw [← hu]; rfl
      · rw [updT_ne hkj] at hu
        have h3 := h1 k u hu
        have hk : k < 15 := (List.getElem?_eq_some_iff.1 h3).1
        have h14 : k ≠ 14 := fun e => by subst e; rw [h2.2.2.2.1] at hu; cases hu
        rw [← h3]
        rcases (by omega : k = 0 ∨ k = 1 ∨ k = 2 ∨ k = 3 ∨ k = 4 ∨ k = 5 ∨ k = 6 ∨ k = 7 ∨ k = 8 ∨ k = 9 ∨ k = 10 ∨ k = 11 ∨ k = 12) with rfl | rfl | rfl | rfl | rfl | rfl | rfl | rfl | rfl | rfl | rfl | rfl | rfl <;> rfl
    · rw [updT_eq, updT_ne (by omega), updT_ne (by omega)]
      exact ⟨h2.1, h2.2.1, by simp, h2.2.2.2.2.entry hbN hx hg⟩
  · exact absurd h13 h2.2.2.1
theorem Ip.told (h : Ip W1 W0 sb N a b S s w) {j : Nat} {v : Value} (hj : j < 10) (hv : (pvL sb N a b 0 0 undef undef)[j]? = some v) (hs : (s j).isSome = true) : s j = some v := by
  obtain ⟨c1, c2, d1, d2, h1, _⟩ := h
  obtain ⟨u, hu⟩ := Option.isSome_iff_exists.1 hs
  have h3 := h1 j u hu
  rw [hu, ← hv, ← h3]
  rcases (by omega : j = 0 ∨ j = 1 ∨ j = 2 ∨ j = 3 ∨ j = 4 ∨ j = 5 ∨ j = 6 ∨ j = 7 ∨ j = 8 ∨ j = 9) with rfl | rfl | rfl | rfl | rfl | rfl | rfl | rfl | rfl | rfl <;> rfl
theorem Ip.told10 (h : Ip W1 W0 sb N a b S s w) (hs : (s 10).isSome = true) : ∃ (d : Value) (c : Nat), s 10 = some (.tuple #[d, .int .i64 (c : Int)]) := by
  obtain ⟨c1, c2, d1, d2, h1, _⟩ := h
  obtain ⟨u, hu⟩ := Option.isSome_iff_exists.1 hs
  exact ⟨d1, c1, by rw [hu, ← h1 10 u hu]; rfl⟩
theorem Ip.told11 {d : Value} {c : Nat} (h : Ip W1 W0 sb N a b S s w) (he : s 10 = some (.tuple #[d, .int .i64 (c : Int)])) (hs : (s 11).isSome = true) : s 11 = some (.int .i64 (c : Int)) := by
  obtain ⟨c1, c2, d1, d2, h1, _⟩ := h
  obtain ⟨u, hu⟩ := Option.isSome_iff_exists.1 hs
  have h3 := h1 11 u hu
  have h4 := h1 10 _ he
  simp [pvL] at h4
  rw [hu, ← h3, show c = c1 by omega]
  rfl
theorem Ip.told12 (h : Ip W1 W0 sb N a b S s w) (hs : (s 12).isSome = true) : s 12 = some undef := by
  obtain ⟨c1, c2, d1, d2, h1, _⟩ := h
  obtain ⟨u, hu⟩ := Option.isSome_iff_exists.1 hs
  rw [hu, ← h1 12 u hu]; rfl
theorem Ip.told13 (h : Ip W1 W0 sb N a b S s w) (hs : (s 13).isSome = true) : ∃ (d : Value) (c : Nat), s 13 = some (.tuple #[d, .int .i64 (c : Int)]) := by
  obtain ⟨c1, c2, d1, d2, h1, _⟩ := h
  obtain ⟨u, hu⟩ := Option.isSome_iff_exists.1 hs
  exact ⟨d2, c2, by rw [hu, ← h1 13 u hu]; rfl⟩
theorem Ip.end_ (h : Ip W1 W0 sb N a b S s w) (hall : ∀ j, j < 15 → (s j).isSome = true) : ∃ c1 c2 d1 d2, (∀ j, j < 15 → s j = (pvL sb N a b c1 c2 d1 d2)[j]?) ∧ Me W1 W0 w sb N b a c2 (upd2 S a b) := by
  obtain ⟨c1, c2, d1, d2, h1, h2⟩ := h
  have n13 : s 13 ≠ none := fun e => by have := hall 13 (by omega); rw [e] at this; cases this
  refine ⟨c1, c2, d1, d2, fun j hj => ?_, ?_⟩
  · obtain ⟨v, hv⟩ := Option.isSome_iff_exists.1 (hall j hj)
    rw [hv, h1 j v hv]
  · rcases h2 with h2 | h2 | h2 | h2
    · exact absurd h2.2.2.2.1 n13
    · exact absurd h2.2.2.1 n13
    · exact absurd h2.2.2.1 n13
    · exact h2.2.2.2
end
def prS (S : Sets) (a b : Nat) : Sets := if a = b then S else upd2 (upd2 S a b) b a
theorem Mm.drew {W1 w : World} {sb N : Nat} {S : Sets} {W0 : World} (h : Mm W1 W0 w sb N S) : Mm W1 W0 w.drew sb N S :=
  ⟨⟨Pre.of_heap h.m.h rfl, h.m.bx, ⟨h.m.b.os, h.m.b.tape, h.m.b.output, h.m.b.size, h.m.b.block⟩, h.m.k, h.m.z, h.m.l⟩, fun p hp => (h.r p hp).of_block rfl⟩
set_option maxRecDepth 1000000 in
set_option maxHeartbeats 16000000 in
theorem pair_any (W1 W0 : World) (sb N a b : Nat) (S : Sets) (haN : a < N) (hbN : b < N) (w : World) (hm : Mm W1 W0 w sb N S) :
    Calls Try.prog 45 #[.int .i64 a, .int .i64 b, .pointer (some ⟨sb + 1, 0, none⟩)] w fun e w' => e = .returned (.tuple #[]) ∧ Mm W1 W0 w' sb N (prS S a b) := by
  have HM := Lib.hid hm
  clear hm
  by_cases hab : a = b
  · subst hab
    unfold prS
    rw [if_pos rfl]
    go_enter Try.func45, Try.ntmps45
    go_wp2
    go_returns
    exact ⟨rfl, HM.out⟩
  · have hne : ((a : Int) == (b : Int)) = false := by rw [beq_eq_false_iff_ne]; omega
    have hab2 : ¬ (a : Int) = (b : Int) := by omega
    have hpr : prS S a b = upd2 (upd2 S a b) b a := by unfold prS; rw [if_neg hab]
    rw [hpr]
    clear hpr
    go_enter Try.func45, Try.ntmps45
    go_upto_region 1 with fail
    refine wp_region_noPanic ?_
    refine wp_region_grown2 15 (Ip W1 W0 sb N a b S) (by kernel_rfl) (by kernel_rfl) ?_ ?_ ?_
    · exact Exists.intro 0 (Exists.intro 0 (Exists.intro undef (Exists.intro undef (And.intro (fun j v h => by cases h) (Or.inl ⟨rfl, rfl, rfl, rfl, rfl, HM.out.drew⟩)))))
    · intro i o s wq hi ho hI hsi hdep
      have hm := hI.mb
      rcases (by omega : i = 0 ∨ i = 1 ∨ i = 2 ∨ i = 3 ∨ i = 4 ∨ i = 5 ∨ i = 6 ∨ i = 7 ∨ i = 8 ∨ i = 9 ∨ i = 10 ∨ i = 11 ∨ i = 12 ∨ i = 13 ∨ i = 14) with rfl | rfl | rfl | rfl | rfl | rfl | rfl | rfl | rfl | rfl | rfl | rfl | rfl | rfl | rfl
      all_goals (simp only [List.getElem?_cons_zero, List.getElem?_cons_succ] at ho; obtain rfl := Option.some.inj ho)
      · have KC := hm.kc haN hbN
        exact Or.inl (Or.inl ⟨_, _, ldS KC.1 (.tmp 2) rfl (evalT_old (by kernel_rfl)), hI.plain 0 _ rfl (by decide)⟩)
      · have KC := hm.kc haN hbN
        exact Or.inl (Or.inl ⟨_, _, runT_move (.tmp 0) rfl, hI.plain 1 _ rfl (by decide)⟩)
      · have KC := hm.kc haN hbN
        have e0 := hI.told (j := 0) (by omega) rfl (hdep ⟨0, .data⟩ (by simp) rfl)
        have e1 := hI.told (j := 1) (by omega) rfl (hdep ⟨1, .data⟩ (by simp) rfl)
        exact Or.inl (Or.inl ⟨_, _, ixM haN (.tmp 8) (.tmp 9) rfl (evalT_told 0 (by kernel_rfl) e0) (evalT_told 1 (by kernel_rfl) e1), hI.plain 2 _ rfl (by decide)⟩)
      · have KC := hm.kc haN hbN
        have e2 := hI.told (j := 2) (by omega) rfl (hdep ⟨2, .data⟩ (by simp) rfl)
        exact Or.inl (Or.inl ⟨_, _, ldM KC.2.1 (.tmp 10) rfl (evalT_told 2 (by kernel_rfl) e2), hI.plain 3 _ rfl (by decide)⟩)
      · have KC := hm.kc haN hbN
        exact Or.inl (Or.inl ⟨_, _, runT_move (.tmp 1) rfl, hI.plain 4 _ rfl (by decide)⟩)
      · have KC := hm.kc haN hbN
        exact Or.inl (Or.inl ⟨_, _, ldS KC.1 (.tmp 2) rfl (evalT_old (by kernel_rfl)), hI.plain 5 _ rfl (by decide)⟩)
      · have KC := hm.kc haN hbN
        exact Or.inl (Or.inl ⟨_, _, runT_move (.tmp 1) rfl, hI.plain 6 _ rfl (by decide)⟩)
      · have KC := hm.kc haN hbN
        have e5 := hI.told (j := 5) (by omega) rfl (hdep ⟨5, .data⟩ (by simp) rfl)
        have e6 := hI.told (j := 6) (by omega) rfl (hdep ⟨6, .data⟩ (by simp) rfl)
        exact Or.inl (Or.inl ⟨_, _, ixM hbN (.tmp 13) (.tmp 14) rfl (evalT_told 5 (by kernel_rfl) e5) (evalT_told 6 (by kernel_rfl) e6), hI.plain 7 _ rfl (by decide)⟩)
      · have KC := hm.kc haN hbN
        have e7 := hI.told (j := 7) (by omega) rfl (hdep ⟨7, .data⟩ (by simp) rfl)
        exact Or.inl (Or.inl ⟨_, _, ldM KC.2.2 (.tmp 15) rfl (evalT_told 7 (by kernel_rfl) e7), hI.plain 8 _ rfl (by decide)⟩)
      · have KC := hm.kc haN hbN
        exact Or.inl (Or.inl ⟨_, _, runT_move (.tmp 0) rfl, hI.plain 9 _ rfl (by decide)⟩)
      · have e3 := hI.told (j := 3) (by omega) rfl (hdep ⟨3, .data⟩ (by simp) rfl)
        have e4 := hI.told (j := 4) (by omega) rfl (hdep ⟨4, .data⟩ (by simp) rfl)
        obtain ⟨w2, c, d, hr, hx, hg, hz⟩ := (hI.at0 haN hsi).entryX umap uint (zbool wq) (b : Int)
        exact Or.inl (Or.inl ⟨_, _, meT (.tmp 11) (.tmp 12) rfl (evalT_told 3 (by kernel_rfl) e3) (evalT_told 4 (by kernel_rfl) e4) hr, hI.entry1 haN hsi hx hg⟩)
      · obtain ⟨d1, c1, e10⟩ := hI.told10 (hdep ⟨10, .data⟩ (by simp) rfl)
        exact Or.inl (Or.inl ⟨_, _, exT (.tmp 18) rfl (evalT_told 10 (by kernel_rfl) e10), hI.plain11 e10⟩)
      · have e3 := hI.told (j := 3) (by omega) rfl (hdep ⟨3, .data⟩ (by simp) rfl)
        obtain ⟨d1, c1, e10⟩ := hI.told10 (hdep ⟨10, .chain⟩ (by simp) rfl)
        have e11 := hI.told11 e10 (hdep ⟨11, .data⟩ (by simp) rfl)
        obtain ⟨w2, hr, hx, hg, hz⟩ := (hI.at2 e10 hsi).store (P := Try.prog) 73
        exact Or.inr ⟨_, esT (.tmp 11) (.tmp 19) (.const (.bool true)) rfl (evalT_told 3 (by kernel_rfl) e3) (evalT_told 11 (by kernel_rfl) e11) rfl hr, hI.store1 haN (by rw [e10]; simp) hsi hx hg⟩
      · have e8 := hI.told (j := 8) (by omega) rfl (hdep ⟨8, .data⟩ (by simp) rfl)
        have e9 := hI.told (j := 9) (by omega) rfl (hdep ⟨9, .data⟩ (by simp) rfl)
        have e12 := hI.told12 (hdep ⟨12, .chain⟩ (by simp) rfl)
        obtain ⟨w2, c, d, hr, hx, hg, hz⟩ := (hI.at3 hbN (by rw [e12]; simp) hsi).entryX umap uint (zbool wq) (a : Int)
        exact Or.inl (Or.inl ⟨_, _, meT (.tmp 16) (.tmp 17) rfl (evalT_told 8 (by kernel_rfl) e8) (evalT_told 9 (by kernel_rfl) e9) hr, hI.entry2 hbN (by rw [e12]; simp) hsi hx hg⟩)
      · obtain ⟨d2, c2, e13⟩ := hI.told13 (hdep ⟨13, .data⟩ (by simp) rfl)
        exact Or.inl (Or.inl ⟨_, _, exT (.tmp 20) rfl (evalT_told 13 (by kernel_rfl) e13), hI.plain14 e13⟩)
    · intro s wq hI hsome
      obtain ⟨c1, c2, d1, d2, he, hme⟩ := hI.end_ hsome
      have e0 : s 0 = some (.slice (some ⟨sb, 0, none⟩) N N) := he 0 (by omega)
      have e1 : s 1 = some (.int .i64 ((a : Int))) := he 1 (by omega)
      have e2 : s 2 = some (.pointer (some ⟨sb, a, none⟩)) := he 2 (by omega)
      have e3 : s 3 = some (.map (some (sb + 2 + a))) := he 3 (by omega)
      have e4 : s 4 = some (.int .i64 ((b : Int))) := he 4 (by omega)
      have e5 : s 5 = some (.slice (some ⟨sb, 0, none⟩) N N) := he 5 (by omega)
      have e6 : s 6 = some (.int .i64 ((b : Int))) := he 6 (by omega)
      have e7 : s 7 = some (.pointer (some ⟨sb, b, none⟩)) := he 7 (by omega)
      have e8 : s 8 = some (.map (some (sb + 2 + b))) := he 8 (by omega)
      have e9 : s 9 = some (.int .i64 ((a : Int))) := he 9 (by omega)
      have e10 : s 10 = some (.tuple #[d1, .int .i64 (c1 : Int)]) := he 10 (by omega)
      have e11 : s 11 = some (.int .i64 ((c1 : Int))) := he 11 (by omega)
      have e12 : s 12 = some (undef) := he 12 (by omega)
      have e13 : s 13 = some (.tuple #[d2, .int .i64 (c2 : Int)]) := he 13 (by omega)
      have e14 : s 14 = some (.int .i64 ((c2 : Int))) := he 14 (by omega)
      have HME := Lib.hid hme
      simp only [List.take_succ_cons, List.take_zero, List.drop_succ_cons, List.drop_zero, putsT, e0, e1, e2, e3, e4, e5, e6, e7, e8, e9, e10, e11, e12, e13, e14, Option.getD_some]
      clear hI hsome he hme e0 e1 e2 e3 e4 e5 e6 e7 e8 e9 e10 e11 e12 e13 e14
      go_frame
      refine wpList_entryStore_x _ rfl (.tmp 16) (.tmp 21) (.const (.bool true)) 73 rfl (sb + 2 + b) (upd2 S a b b) a c2 rfl HME.out.x rfl rfl ?_
      intro w3 hs3 hg3 hz3
      have HR := Lib.hid (HME.out.store hbN hs3 hg3)
      clear hs3 hg3 hz3
      go_wp2_with fail
      refine NoPanic.normal ?_
      go_wp2
      go_returns
      exact ⟨rfl, HR.out⟩
end Go.Proofs.Ythbcdckonaljiaa
