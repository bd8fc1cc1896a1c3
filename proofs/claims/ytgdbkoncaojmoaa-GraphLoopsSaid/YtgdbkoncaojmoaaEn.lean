import Derived.Test.YtgdbkoncaojmoaaEl
import Derived.Test.YtgdbkoncaojmoaaEe
import Derived.Test.YtgdbkoncaojmoaaEa
/- GraphLoops. -/
namespace Go.Proofs.Ytgdbkoncaojmoaa
open Go.RowKit Go.BigFrame

theorem RdN.past {w w' : World} {o : Obj} {row : Option Nat} {A : Option Addr} {l : List Int} (h : RdN w A l) (hg : (w.alloc o).grownBy w' row) (hA : ∀ b o', A = some ⟨b, o', none⟩ → row ≠ some b) : RdN w' A l := fun j n hn => by
  obtain ⟨b, o1, e1, e2, e3⟩ := h j n hn
  have hlt : b < (w.alloc o).heap.size := by simp; omega
  have hs := hg.size
  refine ⟨b, o1, e1, Nat.lt_of_lt_of_le hlt hs, ?_⟩
  rw [hg.cell_far ⟨b, o1 + j, none⟩ hlt (Ne.symm (hA b o1 e1))]
  exact ((Below.one w o).cell (p := ⟨b, _, none⟩) e2).trans e3
theorem lpL_pos {f : Fn7} (hf : OkF f) (n : Nat) : 0 < (lpL f (n : Int)).length ↔ IsHd (Eg f.code) n := by
  by_cases h : IsHd (Eg f.code) n
  · refine ⟨fun _ => h, fun _ => ?_⟩
    have hm : (n : Int) ∈ lpL f (n : Int) := upL_mem.2 ⟨n, rfl, R0.ltN hf h.1, by omega, h, Or.inl rfl⟩
    exact List.length_pos_of_mem hm
  · rw [lpL_no (fun g => h g.2)]
    simp [h]
theorem lpL_far {f : Fn7} (hf : OkF f) {hd : Int} (h : hd < 0 ∨ (f.code.length : Int) ≤ hd) : lpL f hd = [] :=
  lpL_no fun g => by have := R0.ltN hf g.2.1; omega
set_option maxRecDepth 1000000 in
set_option maxHeartbeats 8000000 in
theorem loops_few (f : Fn7) (hf : ¬ Fw9 f) (hd : Int) (C : Option Addr) (cap : Nat) (hl9 : f.code.length ≤ 9223372036854775807) (w : World) (hC : RdI w C f.code) :
    Calls Try.prog 5 #[funcAgg f.nm f.ps f.R f.Fr C f.code.length cap, .int .i64 hd] w fun e w' => e = .returned (.bool true) ∧ Below w.heap.size w w' := by
  have hB := Below.one w (funcObj f.nm f.ps f.R f.Fr C f.code.length cap)
  have bx := heap_alloc_new w (funcObj f.nm f.ps f.R f.Fr C f.code.length cap)
  have hC1 := hC.below hB
  have hA := fun W => awake9_any W
  have hF := fun W h => few9_no f hf C cap hl9 W h
  obtain ⟨N, hN⟩ : ∃ N, f.code.length = N := ⟨_, rfl⟩
  rw [hN] at hB bx hC1 hF ⊢
  simp only [funcObj, funcAgg] at hB bx hC1 hF ⊢
  obtain ⟨W, hW⟩ : ∃ W, w.alloc (.cells #[.string f.nm, .int .i64 f.ps, .int .i64 f.R, .int .i64 f.Fr, .slice C N cap] 24) = W := ⟨_, rfl⟩
  rw [hW] at bx hC1 hB
  have HC0 := Lib.hid hC1
  have HB0 := Lib.hid hB
  have HX0 := Lib.hid bx
  have hl0 := (Array.getElem?_eq_some_iff.1 bx).1
  have HAW := Lib.hid hA
  have c00 := cell_of_heap bx 0 _ rfl
  have c01 := cell_of_heap bx 1 _ rfl
  have c02 := cell_of_heap bx 2 _ rfl
  have c03 := cell_of_heap bx 3 _ rfl
  have c04 := cell_of_heap bx 4 _ rfl
  have HF := Lib.hid hF
  clear hf hN hC hC1 hB bx hF hA
  go_enter Try.func5, Try.ntmps5
  go_wp2_with fail
  refine (HF.out _ HC0.out).mono ?_
  rintro e w1 ⟨rfl, hb1⟩
  have kx1 := (hb1.block _ hl0).trans HX0.out
  have c10 := cell_of_heap kx1 0 _ rfl
  have c11 := cell_of_heap kx1 1 _ rfl
  have c12 := cell_of_heap kx1 2 _ rfl
  have c13 := cell_of_heap kx1 3 _ rfl
  have c14 := cell_of_heap kx1 4 _ rfl
  have hl1 := (Array.getElem?_eq_some_iff.1 kx1).1
  have HX1 := Lib.hid kx1
  have HC1 := Lib.hid (HC0.out.below hb1)
  have HB1 := Lib.hid (HB0.out.trans (hb1.mono HB0.out.size))
  have HL1 := Lib.hid hb1
  clear kx1 hb1 c00 c01 c02 c03 c04
  go_wp2_with fail
  refine (HAW.out _).mono ?_
  rintro e w2 ⟨rfl, hb2⟩
  go_wp2
  go_returns
  exact ⟨rfl, HB1.out.trans (hb2.mono HB1.out.size)⟩
set_option maxRecDepth 1000000 in
set_option maxHeartbeats 8000000 in
theorem loops_bad (f : Fn7) (hf : Fw9 f) (hok : ¬ OkF f) (hd : Int) (C : Option Addr) (cap : Nat) (hl9 : f.code.length ≤ 9223372036854775807) (w : World) (hC : RdI w C f.code) :
    Calls Try.prog 5 #[funcAgg f.nm f.ps f.R f.Fr C f.code.length cap, .int .i64 hd] w fun e w' => e = .returned (.bool true) ∧ Below w.heap.size w w' := by
  have hB := Below.one w (funcObj f.nm f.ps f.R f.Fr C f.code.length cap)
  have bx := heap_alloc_new w (funcObj f.nm f.ps f.R f.Fr C f.code.length cap)
  have hC1 := hC.below hB
  have hA := fun W => awake9_any W
  have hF := fun W h => few9_yes f hf C cap hl9 W h
  have hH := fun W h => gHeads_no f hok C cap W h
  have hR := fun W h => rr9_no f hok C cap W h
  have hG := fun W h => gLoop_no f hok hd C cap W h
  obtain ⟨N, hN⟩ : ∃ N, f.code.length = N := ⟨_, rfl⟩
  rw [hN] at hB bx hC1 hF hH hR hG ⊢
  simp only [funcObj, funcAgg] at hB bx hC1 hF hH hR hG ⊢
  obtain ⟨W, hW⟩ : ∃ W, w.alloc (.cells #[.string f.nm, .int .i64 f.ps, .int .i64 f.R, .int .i64 f.Fr, .slice C N cap] 24) = W := ⟨_, rfl⟩
  rw [hW] at bx hC1 hB
  have HC0 := Lib.hid hC1
  have HB0 := Lib.hid hB
  have HX0 := Lib.hid bx
  have hl0 := (Array.getElem?_eq_some_iff.1 bx).1
  have HAW := Lib.hid hA
  have c00 := cell_of_heap bx 0 _ rfl
  have c01 := cell_of_heap bx 1 _ rfl
  have c02 := cell_of_heap bx 2 _ rfl
  have c03 := cell_of_heap bx 3 _ rfl
  have c04 := cell_of_heap bx 4 _ rfl
  have HF := Lib.hid hF
  have HH := Lib.hid hH
  have HR := Lib.hid hR
  have HG := Lib.hid hG
  clear hf hN hC hC1 hB bx hF hA hH hR hG hok
  go_enter Try.func5, Try.ntmps5
  go_wp2_with fail
  refine (HF.out _ HC0.out).mono ?_
  rintro e w1 ⟨rfl, hb1⟩
  have kx1 := (hb1.block _ hl0).trans HX0.out
  have c10 := cell_of_heap kx1 0 _ rfl
  have c11 := cell_of_heap kx1 1 _ rfl
  have c12 := cell_of_heap kx1 2 _ rfl
  have c13 := cell_of_heap kx1 3 _ rfl
  have c14 := cell_of_heap kx1 4 _ rfl
  have hl1 := (Array.getElem?_eq_some_iff.1 kx1).1
  have HX1 := Lib.hid kx1
  have HC1 := Lib.hid (HC0.out.below hb1)
  have HB1 := Lib.hid (HB0.out.trans (hb1.mono HB0.out.size))
  have HL1 := Lib.hid hb1
  clear kx1 hb1 c00 c01 c02 c03 c04
  go_wp2_with fail
  refine (HH.out _ HC1.out).mono ?_
  rintro e w2 ⟨rfl, hb2⟩
  have kx2 := (hb2.block _ hl1).trans HX1.out
  have c20 := cell_of_heap kx2 0 _ rfl
  have c21 := cell_of_heap kx2 1 _ rfl
  have c22 := cell_of_heap kx2 2 _ rfl
  have c23 := cell_of_heap kx2 3 _ rfl
  have c24 := cell_of_heap kx2 4 _ rfl
  have hl2 := (Array.getElem?_eq_some_iff.1 kx2).1
  have HX2 := Lib.hid kx2
  have HC2 := Lib.hid (HC1.out.below hb2)
  have HB2 := Lib.hid (HB1.out.trans (hb2.mono HB1.out.size))
  have HL2 := Lib.hid hb2
  clear kx2 hb2 c10 c11 c12 c13 c14
  go_wp2_with fail
  refine (HR.out _ HC2.out).mono ?_
  rintro e w3 ⟨rfl, hb3⟩
  have kx3 := (hb3.block _ hl2).trans HX2.out
  have c30 := cell_of_heap kx3 0 _ rfl
  have c31 := cell_of_heap kx3 1 _ rfl
  have c32 := cell_of_heap kx3 2 _ rfl
  have c33 := cell_of_heap kx3 3 _ rfl
  have c34 := cell_of_heap kx3 4 _ rfl
  have hl3 := (Array.getElem?_eq_some_iff.1 kx3).1
  have HX3 := Lib.hid kx3
  have HC3 := Lib.hid (HC2.out.below hb3)
  have HB3 := Lib.hid (HB2.out.trans (hb3.mono HB2.out.size))
  have HL3 := Lib.hid hb3
  clear kx3 hb3 c20 c21 c22 c23 c24
  go_wp2_with fail
  refine (HG.out _ HC3.out).mono ?_
  rintro e w4 ⟨rfl, hb4⟩
  have kx4 := (hb4.block _ hl3).trans HX3.out
  have c40 := cell_of_heap kx4 0 _ rfl
  have c41 := cell_of_heap kx4 1 _ rfl
  have c42 := cell_of_heap kx4 2 _ rfl
  have c43 := cell_of_heap kx4 3 _ rfl
  have c44 := cell_of_heap kx4 4 _ rfl
  have hl4 := (Array.getElem?_eq_some_iff.1 kx4).1
  have HX4 := Lib.hid kx4
  have HC4 := Lib.hid (HC3.out.below hb4)
  have HB4 := Lib.hid (HB3.out.trans (hb4.mono HB3.out.size))
  have HL4 := Lib.hid hb4
  clear kx4 hb4 c30 c31 c32 c33 c34
  go_wp2_with fail
  refine (HAW.out _).mono ?_
  rintro e w5 ⟨rfl, hb5⟩
  go_wp2
  go_returns
  exact ⟨rfl, HB4.out.trans (hb5.mono HB4.out.size)⟩
set_option maxRecDepth 1000000 in
set_option maxHeartbeats 16000000 in
theorem loops_good (f : Fn7) (hf : Fw9 f) (hok : OkF f) (hd : Int) (C : Option Addr) (cap : Nat) (hl9 : f.code.length ≤ 9223372036854775807) (w : World) (hC : RdI w C f.code) :
    Calls Try.prog 5 #[funcAgg f.nm f.ps f.R f.Fr C f.code.length cap, .int .i64 hd] w fun e w' => e = .returned (.bool true) ∧ Below w.heap.size w w' := by
  have hB := Below.one w (funcObj f.nm f.ps f.R f.Fr C f.code.length cap)
  have bx := heap_alloc_new w (funcObj f.nm f.ps f.R f.Fr C f.code.length cap)
  have hC1 := hC.below hB
  have hA := fun W => awake9_any W
  obtain ⟨LH, hLH⟩ : ∃ LH, upL f.code.length (IsHd (Eg f.code)) = LH := ⟨_, rfl⟩
  obtain ⟨M, hM⟩ : ∃ M, LH.length = M := ⟨_, rfl⟩
  have hMN : M ≤ f.code.length := by rw [← hM, ← hLH]; exact upL_len _ _
  have hF := fun W h => few9_yes f hf C cap hl9 W h
  have hR := fun W h => rr9_yes f hok C cap W h
  have hH : ∀ W, RdI W C f.code → Calls Try.prog 23 #[funcAgg f.nm f.ps f.R f.Fr C f.code.length cap] W fun e w' => (∃ A c, e = .returned (.slice A M c) ∧ RdN w' A LH) ∧ Below W.heap.size W w' := fun W h => (gHeads_yes f hok C cap W h).mono fun e w' ⟨h1, h2⟩ => ⟨by
    obtain ⟨A, c, h3, h4, _⟩ := h1.slf
    rw [hLH] at h3 h4
    rw [hM] at h3
    exact ⟨A, c, h3, h4⟩, h2⟩
  have hG := fun (n : Int) W h => gLoop_yes f hok n C cap W h
  have hL := fun (n : Nat) W h => rLoop_any f hok n C cap W h
  have hN2 := hok.len.2
  have HPOS := Lib.hid fun n => lpL_pos hok n
  have hFAR := fun (hd : Int) h => lpL_far hok (hd := hd) h
  have hLL : ∀ n : Int, (lpL f n).length ≤ f.code.length := fun n => upL_len _ _
  obtain ⟨N, hN⟩ : ∃ N, f.code.length = N := ⟨_, rfl⟩
  rw [hN] at hB bx hC1 hF hH hR hG hL hN2 hMN hLH hFAR hLL ⊢
  simp only [funcObj, funcAgg] at hB bx hC1 hF hH hR hG hL hN2 hMN hLH hFAR hLL ⊢
  obtain ⟨W, hW⟩ : ∃ W, w.alloc (.cells #[.string f.nm, .int .i64 f.ps, .int .i64 f.R, .int .i64 f.Fr, .slice C N cap] 24) = W := ⟨_, rfl⟩
  rw [hW] at bx hC1 hB
  have HC0 := Lib.hid hC1
  have HB0 := Lib.hid hB
  have HX0 := Lib.hid bx
  have hl0 := (Array.getElem?_eq_some_iff.1 bx).1
  have HAW := Lib.hid hA
  have c00 := cell_of_heap bx 0 _ rfl
  have c01 := cell_of_heap bx 1 _ rfl
  have c02 := cell_of_heap bx 2 _ rfl
  have c03 := cell_of_heap bx 3 _ rfl
  have c04 := cell_of_heap bx 4 _ rfl
  have HF := Lib.hid hF
  have HH := Lib.hid hH
  have HR := Lib.hid hR
  have HG := Lib.hid hG
  have HL := Lib.hid hL
  have HFAR := Lib.hid hFAR
  have HLL := Lib.hid hLL
  have HLH := Lib.hid hLH
  have HM := Lib.hid hM
  clear hf hN hC hC1 hB bx hF hA hH hR hG hL hok hl9 hFAR hLL hLH hM
  go_enter Try.func5, Try.ntmps5
  go_wp2_with fail
  refine (HF.out _ HC0.out).mono ?_
  rintro e w1 ⟨rfl, hb1⟩
  have kx1 := (hb1.block _ hl0).trans HX0.out
  have c10 := cell_of_heap kx1 0 _ rfl
  have c11 := cell_of_heap kx1 1 _ rfl
  have c12 := cell_of_heap kx1 2 _ rfl
  have c13 := cell_of_heap kx1 3 _ rfl
  have c14 := cell_of_heap kx1 4 _ rfl
  have hl1 := (Array.getElem?_eq_some_iff.1 kx1).1
  have HX1 := Lib.hid kx1
  have HC1 := Lib.hid (HC0.out.below hb1)
  have HB1 := Lib.hid (HB0.out.trans (hb1.mono HB0.out.size))
  have HL1 := Lib.hid hb1
  clear kx1 hb1 c00 c01 c02 c03 c04
  go_wp2_with fail
  refine (HH.out _ HC1.out).mono ?_
  rintro e w2 ⟨⟨A5, c5, rfl, hrd5⟩, hb2⟩
  have kx2 := (hb2.block _ hl1).trans HX1.out
  have c20 := cell_of_heap kx2 0 _ rfl
  have c21 := cell_of_heap kx2 1 _ rfl
  have c22 := cell_of_heap kx2 2 _ rfl
  have c23 := cell_of_heap kx2 3 _ rfl
  have c24 := cell_of_heap kx2 4 _ rfl
  have hl2 := (Array.getElem?_eq_some_iff.1 kx2).1
  have HX2 := Lib.hid kx2
  have HC2 := Lib.hid (HC1.out.below hb2)
  have HB2 := Lib.hid (HB1.out.trans (hb2.mono HB1.out.size))
  have HL2 := Lib.hid hb2
  clear kx2 hb2 c10 c11 c12 c13 c14
  have HRD5 := Lib.hid hrd5
  clear hrd5
  go_wp2_with fail
  refine (HR.out _ HC2.out).mono ?_
  rintro e w3 ⟨rfl, hb3⟩
  have kx3 := (hb3.block _ hl2).trans HX2.out
  have c30 := cell_of_heap kx3 0 _ rfl
  have c31 := cell_of_heap kx3 1 _ rfl
  have c32 := cell_of_heap kx3 2 _ rfl
  have c33 := cell_of_heap kx3 3 _ rfl
  have c34 := cell_of_heap kx3 4 _ rfl
  have hl3 := (Array.getElem?_eq_some_iff.1 kx3).1
  have HX3 := Lib.hid kx3
  have HC3 := Lib.hid (HC2.out.below hb3)
  have HB3 := Lib.hid (HB2.out.trans (hb3.mono HB2.out.size))
  have HL3 := Lib.hid hb3
  clear kx3 hb3 c20 c21 c22 c23 c24
  have HR5 := Lib.hid (HRD5.out.below HL3.out)
  go_wp2
  clear c30 c31 c32 c33 c34
  go_loopw [6, 34] (fun V ix wr => ∃ k : Nat, k ≤ N ∧ ix = .int .i64 k ∧ OwnN wr V (upL k (IsHd (Eg f.code))) ∧ (∀ x, V.ownBlock = some x → w3.heap.size ≤ x) ∧ Below w3.heap.size w3 wr) (fun _ ix _ => N - (intOf ix).toNat)
  case atStart => exact ⟨0, by omega, rfl, OwnN.nil _, (fun x hx => by simp [Value.ownBlock] at hx), Below.refl _ _⟩
  case round =>
    obtain ⟨k, hk, rfl, hown, hV, hb⟩ := hrel
    obtain ⟨w4, rfl⟩ : ∃ w4 : World, w4 = wr := ⟨_, rfl⟩
    have HB4 := Lib.hid hb
    have HOWN := Lib.hid hown
    have HV := Lib.hid hV
    have kx4 := (HB4.out.block _ hl3).trans HX3.out; have c40 := cell_of_heap kx4 0 _ rfl; have c41 := cell_of_heap kx4 1 _ rfl; have c42 := cell_of_heap kx4 2 _ rfl; have c43 := cell_of_heap kx4 3 _ rfl; have c44 := cell_of_heap kx4 4 _ rfl; have hl4 := (Array.getElem?_eq_some_iff.1 kx4).1; clear kx4
    have HC4 := Lib.hid (HC3.out.below hb)
    have hsz := hb.size
    have HVL : Hid (∀ x, u6.ownBlock = some x → x < w4.heap.size) := Lib.hid (by obtain ⟨A, c, e, h1, _⟩ := hown.form; exact h1)
    clear hown hV hb
    by_cases hlt : k < N
    · have hki : (k : Int) < N := by omega
      have hq1 := fun W h => HG.out (k : Int) W h
      have hq2 := fun W h => HL.out k W h
      have hpos := HPOS.out k
      have hll := HLL.out (k : Int)
      obtain ⟨l, hl⟩ : ∃ l, lpL f (k : Int) = l := ⟨_, rfl⟩
      rw [hl] at hq1 hq2 hpos hll
      obtain ⟨Ln, hLn⟩ : ∃ Ln, l.length = Ln := ⟨_, rfl⟩
      unfold SlN at hq1
      unfold SlF at hq2
      rw [hLn] at hq1 hq2 hpos hll
      have HQ1 := Lib.hid hq1
      have HQ2 := Lib.hid hq2
      have HPS := Lib.hid hpos
      have HS : Hid (∀ A A' c c' X, RdN X A l → RdN X A' l → Calls Try.prog 15 #[.slice A Ln c, .slice A' Ln c'] X fun e w' => e = .returned (.bool true) ∧ Below X.heap.size X w') := Lib.hid fun A A' c c' X h1 h2 => by
        have := same9_self A A' l c c' X h1 h2 (by omega)
        rw [hLn] at this
        exact this
      have hul := upL_len k (IsHd (Eg f.code))
      have HUL := Lib.hid hul
      clear hq1 hq2 hpos hl hLn hul
      by_cases h0 : Ln = 0
      · subst h0
        go_wp2_with (first
          | (refine (HS.out _ _ _ _ _ HR8.out (HR7.out.below HL8.out)).mono ?_; rintro e w9 ⟨rfl, hb9⟩)
          | (refine (HQ1.out _ (HC4.out.below HL7.out)).mono ?_; rintro e w8 ⟨⟨A8, c8, rfl, hr8⟩, hb8⟩; have HR8 := Lib.hid hr8; have HL8 := Lib.hid hb8; have HB8 := Lib.hid (HB7.out.trans (hb8.mono HB7.out.size)); clear hr8 hb8)
          | (refine (HQ2.out _ HC4.out).mono ?_; rintro e w7 ⟨⟨A7, c7, rfl, hr7, hf7⟩, hb7⟩; have HR7 := Lib.hid hr7; have HF7 := Lib.hid hf7; have HL7 := Lib.hid hb7; have HB7 := Lib.hid (HB4.out.trans (hb7.mono HB4.out.size)); have kx7 := (HB7.out.block _ hl3).trans HX3.out; have c70 := cell_of_heap kx7 0 _ rfl; have c71 := cell_of_heap kx7 1 _ rfl; have c72 := cell_of_heap kx7 2 _ rfl; have c73 := cell_of_heap kx7 3 _ rfl; have c74 := cell_of_heap kx7 4 _ rfl; have hl7 := (Array.getElem?_eq_some_iff.1 kx7).1; clear kx7; clear hr7 hb7 hf7 c40 c41 c42 c43 c44))
        refine ⟨⟨k + 1, by omega, by go_num, ?_, HV.out, HB8.out.trans (hb9.mono HB8.out.size)⟩, by simp [intOf]; omega⟩
        rw [upL_skip k _ (fun g => by have := HPS.out.2 g; omega)]
        exact ((HOWN.out.later HL7.out).later HL8.out).later hb9
      · have hpi : (0 : Int) < (Ln : Int) := by omega
        have hpn : 0 < Ln := by omega
        go_wp2_with (first
          | (refine (HS.out _ _ _ _ _ HR8.out (HRX.out.below HL8.out)).mono ?_; rintro e w9 ⟨rfl, hb9⟩)
          | (refine (HQ1.out _ (HC3.out.below HB6.out)).mono ?_; rintro e w8 ⟨⟨A8, c8, rfl, hr8⟩, hb8⟩; have HR8 := Lib.hid hr8; have HL8 := Lib.hid hb8; have HB8 := Lib.hid (HB6.out.trans (hb8.mono HB6.out.size)); clear hr8 hb8)
          | (at_builtin; refine append_one rfl (.tmp 43) (.tmp 45) rfl _ (upL k (IsHd (Eg f.code))) rfl ((HOWN.out.later HL7.out).alloc _) w7.heap.size k rfl (heap_alloc_new _ _) (by have := HUL.out; omega) ?_; intro V6 w6 ho6 hg6 hv6; have HO6 := Lib.hid ho6; have HB6 := Lib.hid (Below.grown (HB7.out.alloc HB7.out.size _) hg6 (by have := HB7.out.size; simp; omega) (fun x hx => HV.out x hx)); have HRX := Lib.hid (HR7.out.past hg6 (fun b o e hrow => by have h1 := HF7.out b o e; have h2 := HVL.out b hrow; omega)); have HV6 : Hid (∀ x, V6.ownBlock = some x → w3.heap.size ≤ x) := Lib.hid (fun x hx => (by have hs7 := HB7.out.size; rcases hv6 with e | e; (rw [e] at hx; exact HV.out x hx); (rw [e] at hx; injection hx with hx; simp at hx; omega))); have kx6 := (HB6.out.block _ hl3).trans HX3.out; have c60 := cell_of_heap kx6 0 _ rfl; have c61 := cell_of_heap kx6 1 _ rfl; have c62 := cell_of_heap kx6 2 _ rfl; have c63 := cell_of_heap kx6 3 _ rfl; have c64 := cell_of_heap kx6 4 _ rfl; have hl6 := (Array.getElem?_eq_some_iff.1 kx6).1; clear kx6; clear ho6 hg6 hv6 c70 c71 c72 c73 c74)
          | (refine (HQ2.out _ HC4.out).mono ?_; rintro e w7 ⟨⟨A7, c7, rfl, hr7, hf7⟩, hb7⟩; have HR7 := Lib.hid hr7; have HF7 := Lib.hid hf7; have HL7 := Lib.hid hb7; have HB7 := Lib.hid (HB4.out.trans (hb7.mono HB4.out.size)); have kx7 := (HB7.out.block _ hl3).trans HX3.out; have c70 := cell_of_heap kx7 0 _ rfl; have c71 := cell_of_heap kx7 1 _ rfl; have c72 := cell_of_heap kx7 2 _ rfl; have c73 := cell_of_heap kx7 3 _ rfl; have c74 := cell_of_heap kx7 4 _ rfl; have hl7 := (Array.getElem?_eq_some_iff.1 kx7).1; clear kx7; clear hr7 hb7 hf7 c40 c41 c42 c43 c44))
        refine ⟨⟨k + 1, by omega, by go_num, ?_, HV6.out, HB8.out.trans (hb9.mono HB8.out.size)⟩, by simp [intOf]; omega⟩
        rw [upL_next k _ (HPS.out.1 hpn)]
        exact (HO6.out.later HL8.out).later hb9
    · obtain rfl : N = k := by omega
      have hown := HOWN.out
      rw [HLH.out] at hown
      obtain ⟨A6, c6, rfl, _, hr6⟩ := hown.form
      rw [HM.out]
      have HR6 := Lib.hid hr6
      have HS : Hid (∀ A A' c c' X, RdN X A LH → RdN X A' LH → Calls Try.prog 15 #[.slice A M c, .slice A' M c'] X fun e w' => e = .returned (.bool true) ∧ Below X.heap.size X w') := Lib.hid fun A A' c c' X h1 h2 => by
        have := same9_self A A' LH c c' X h1 h2 (by rw [HM.out]; omega)
        rw [HM.out] at this
        exact this
      have hq := fun h => HG.out hd h
      unfold SlN at hq
      have hfar := fun h => HFAR.out hd h
      clear hown hr6
      by_cases h1 : hd < 0
      · rw [hfar (Or.inl h1)] at hq
        have HQ := Lib.hid hq
        clear hq hfar
        go_wp2_with (first
          | (refine (HAW.out _).mono ?_; rintro e w9 ⟨rfl, hb9⟩)
          | (refine (HQ.out _ (HC4.out.below HL7.out)).mono ?_; rintro e w8 ⟨⟨A8, c8, rfl, _⟩, hb8⟩; have HB8 := Lib.hid (HB7.out.trans (hb8.mono HB7.out.size)); clear hb8)
          | (refine (HS.out _ _ _ _ _ (HR5.out.below HB4.out) HR6.out).mono ?_; rintro e w7 ⟨rfl, hb7⟩; have HL7 := Lib.hid hb7; have HB7 := Lib.hid (HB4.out.trans (hb7.mono HB4.out.size)); have kx7 := (HB7.out.block _ hl3).trans HX3.out; have c70 := cell_of_heap kx7 0 _ rfl; have c71 := cell_of_heap kx7 1 _ rfl; have c72 := cell_of_heap kx7 2 _ rfl; have c73 := cell_of_heap kx7 3 _ rfl; have c74 := cell_of_heap kx7 4 _ rfl; have hl7 := (Array.getElem?_eq_some_iff.1 kx7).1; clear kx7; clear hb7 c40 c41 c42 c43 c44))
        go_returns
        exact ⟨rfl, HB3.out.trans ((HB8.out.trans (hb9.mono HB8.out.size)).mono HB3.out.size)⟩
      · by_cases h2 : hd < N
        · clear hq hfar
          go_wp2_with (first
            | (refine (HAW.out _).mono ?_; rintro e w9 ⟨rfl, hb9⟩)
            | (refine (HS.out _ _ _ _ _ (HR5.out.below HB4.out) HR6.out).mono ?_; rintro e w7 ⟨rfl, hb7⟩; have HL7 := Lib.hid hb7; have HB7 := Lib.hid (HB4.out.trans (hb7.mono HB4.out.size)); have kx7 := (HB7.out.block _ hl3).trans HX3.out; have c70 := cell_of_heap kx7 0 _ rfl; have c71 := cell_of_heap kx7 1 _ rfl; have c72 := cell_of_heap kx7 2 _ rfl; have c73 := cell_of_heap kx7 3 _ rfl; have c74 := cell_of_heap kx7 4 _ rfl; have hl7 := (Array.getElem?_eq_some_iff.1 kx7).1; clear kx7; clear hb7 c40 c41 c42 c43 c44))
          go_returns
          exact ⟨rfl, HB3.out.trans ((HB7.out.trans (hb9.mono HB7.out.size)).mono HB3.out.size)⟩
        · rw [hfar (Or.inr (by omega))] at hq
          have HQ := Lib.hid hq
          clear hq hfar
          go_wp2_with (first
            | (refine (HAW.out _).mono ?_; rintro e w9 ⟨rfl, hb9⟩)
            | (refine (HQ.out _ (HC4.out.below HL7.out)).mono ?_; rintro e w8 ⟨⟨A8, c8, rfl, _⟩, hb8⟩; have HB8 := Lib.hid (HB7.out.trans (hb8.mono HB7.out.size)); clear hb8)
            | (refine (HS.out _ _ _ _ _ (HR5.out.below HB4.out) HR6.out).mono ?_; rintro e w7 ⟨rfl, hb7⟩; have HL7 := Lib.hid hb7; have HB7 := Lib.hid (HB4.out.trans (hb7.mono HB4.out.size)); have kx7 := (HB7.out.block _ hl3).trans HX3.out; have c70 := cell_of_heap kx7 0 _ rfl; have c71 := cell_of_heap kx7 1 _ rfl; have c72 := cell_of_heap kx7 2 _ rfl; have c73 := cell_of_heap kx7 3 _ rfl; have c74 := cell_of_heap kx7 4 _ rfl; have hl7 := (Array.getElem?_eq_some_iff.1 kx7).1; clear kx7; clear hb7 c40 c41 c42 c43 c44))
          go_returns
          exact ⟨rfl, HB3.out.trans ((HB8.out.trans (hb9.mono HB8.out.size)).mono HB3.out.size)⟩
theorem GraphLoops_any (f : Fn7) (C : Option Addr) (cap : Nat) (hl9 : f.code.length ≤ 9223372036854775807) (hd : Int) (w : World) (hC : RdI w C f.code) :
    Calls Try.prog 5 #[funcAgg f.nm f.ps f.R f.Fr C f.code.length cap, .int .i64 hd] w fun e w' => e = .returned (.bool true) ∧ Below w.heap.size w w' := by
  by_cases hf : Fw9 f
  · by_cases hok : OkF f
    · exact loops_good f hf hok hd C cap hl9 w hC
    · exact loops_bad f hf hok hd C cap hl9 w hC
  · exact loops_few f hf hd C cap hl9 w hC
end Go.Proofs.Ytgdbkoncaojmoaa
