import Derived.Test.YtgdbkoncaojmoaaEa
/- GraphLine. -/
namespace Go.Proofs.Ytgdbkoncaojmoaa
open Go.RowKit Go.BigFrame

def NoB (v : Value) : Prop := v = .bool false
theorem NoB.f : NoB (.bool false) := rfl

theorem Dom.lines {E : Nat → Nat → Prop} {a b c : Nat} (h1 : Dom E a c) (h2 : Dom E b c) : Dom E a b ∨ Dom E b a := by
  by_cases hab : Dom E a b
  · exact Or.inl hab
  · by_cases hba : Dom E b a
    · exact Or.inr hba
    · exfalso
      have ra := h1.left
      have rb := h2.left
      have ab : Av E a b := by
        by_cases h : Av E a b
        · exact h
        · exact absurd ⟨rb, h⟩ hab
      have ba : Av E b a := by
        by_cases h : Av E b a
        · exact h
        · exact absurd ⟨ra, h⟩ hba
      have key : ∀ q, R0 E q → Av E a q ∨ Av E b q := fun q hq => by
        induction hq with
        | zero =>
          by_cases h0 : 0 = a
          · by_cases h0b : 0 = b
            · exact absurd (h0.symm.trans h0b) (fun e => ab.ne e.symm)
            · exact Or.inr (Av.zero h0b)
          · exact Or.inl (Av.zero h0)
        | @step p q _ he ih =>
          rcases ih with ih | ih
          · by_cases e : q = a
            · subst e; exact Or.inr ba
            · exact Or.inl (Av.step ih he e)
          · by_cases e : q = b
            · subst e; exact Or.inl ab
            · exact Or.inr (Av.step ih he e)
      rcases key c h1.1 with h | h
      · exact h1.2 h
      · exact h2.2 h
theorem dmB_lines {f : Fn7} {a b c : Int} (h1 : dmB f a c = true) (h2 : dmB f b c = true) (h3 : dmB f a b = false) : dmB f b a = true := by
  have g1 := tb_true.1 h1
  have g2 := tb_true.1 h2
  rcases Dom.lines g1.2.2 g2.2.2 with h | h
  · exact absurd ⟨g1.1, g2.1, h⟩ (tb_false.1 h3)
  · exact tb_true.2 ⟨g2.1, g1.1, h⟩
theorem dmB_zero (f : Fn7) (n : Nat) : dmB f 0 (n : Int) = tb (R0 (Eg f.code) n) := by
  unfold dmB
  rw [Bool.eq_iff_iff, tb_true, tb_true]
  simp only [Int.toNat_natCast]
  exact ⟨fun h => h.2.2.1, fun h => ⟨by omega, by omega, Dom.zero h⟩⟩
theorem dmB_self (f : Fn7) (n : Nat) : dmB f (n : Int) (n : Int) = tb (R0 (Eg f.code) n) := by
  rw [dmB_nat, Bool.eq_iff_iff, tb_true, tb_true]
  exact ⟨fun h => h.1, fun h => Dom.refl h⟩
set_option maxRecDepth 1000000 in
set_option maxHeartbeats 8000000 in
theorem line_few (f : Fn7) (hf : ¬ Fw9 f) (a b c : Int) (C : Option Addr) (cap : Nat) (hl9 : f.code.length ≤ 9223372036854775807) (w : World) (hC : RdI w C f.code) :
    Calls Try.prog 6 #[funcAgg f.nm f.ps f.R f.Fr C f.code.length cap, .int .i64 a, .int .i64 b, .int .i64 c] w fun e w' => e = .returned (.bool true) ∧ Below w.heap.size w w' := by
  have hB := Below.one w (funcObj f.nm f.ps f.R f.Fr C f.code.length cap)
  have bx := heap_alloc_new w (funcObj f.nm f.ps f.R f.Fr C f.code.length cap)
  have hC1 := hC.below hB
  have hA := fun W => awake9_any W
  have hF := fun W h => few9_no f hf C cap hl9 W h
  obtain ⟨N, hN⟩ : ∃ N, f.code.length = N := ⟨_, rfl⟩
  rw [hN] at hB bx hC1 hF ⊢
  simp only [funcObj, funcAgg] at hB bx hC1 hF ⊢
  obtain ⟨W, hW⟩ : ∃ W, w.alloc (.cells #[.string f.nm, .int .i64 f.ps, .int .i64 f.R, .int .i64 f.Fr, .slice C N cap] 24) = W := ⟨_, rfl⟩
  rw [hW] at bx hC1 hB
  have HC0 := Lib.hid hC1
  have HB0 := Lib.hid hB
  have HX0 := Lib.hid bx
  have hl0 := (Array.getElem?_eq_some_iff.1 bx).1
  have HAW := Lib.hid hA
  have c00 := cell_of_heap bx 0 _ rfl
  have c01 := cell_of_heap bx 1 _ rfl
  have c02 := cell_of_heap bx 2 _ rfl
  have c03 := cell_of_heap bx 3 _ rfl
  have c04 := cell_of_heap bx 4 _ rfl
  have HF := Lib.hid hF
  clear hf hN hC hC1 hB bx hF hA
  go_enter Try.func6, Try.ntmps6
  go_wp2_with fail
  refine (HF.out _ HC0.out).mono ?_
  rintro e w1 ⟨rfl, hb1⟩
  have kx1 := (hb1.block _ hl0).trans HX0.out
  have c10 := cell_of_heap kx1 0 _ rfl
  have c11 := cell_of_heap kx1 1 _ rfl
  have c12 := cell_of_heap kx1 2 _ rfl
  have c13 := cell_of_heap kx1 3 _ rfl
  have c14 := cell_of_heap kx1 4 _ rfl
  have hl1 := (Array.getElem?_eq_some_iff.1 kx1).1
  have HX1 := Lib.hid kx1
  have HC1 := Lib.hid (HC0.out.below hb1)
  have HB1 := Lib.hid (HB0.out.trans (hb1.mono HB0.out.size))
  clear kx1 hb1 c00 c01 c02 c03 c04
  go_wp2_with fail
  refine (HAW.out _).mono ?_
  rintro e w2 ⟨rfl, hb2⟩
  go_wp2
  go_returns
  exact ⟨rfl, HB1.out.trans (hb2.mono HB1.out.size)⟩
set_option maxRecDepth 1000000 in
set_option maxHeartbeats 8000000 in
theorem line_bad (f : Fn7) (hf : Fw9 f) (hok : ¬ OkF f) (a b c : Int) (C : Option Addr) (cap : Nat) (hl9 : f.code.length ≤ 9223372036854775807) (w : World) (hC : RdI w C f.code) :
    Calls Try.prog 6 #[funcAgg f.nm f.ps f.R f.Fr C f.code.length cap, .int .i64 a, .int .i64 b, .int .i64 c] w fun e w' => e = .returned (.bool true) ∧ Below w.heap.size w w' := by
  have hB := Below.one w (funcObj f.nm f.ps f.R f.Fr C f.code.length cap)
  have bx := heap_alloc_new w (funcObj f.nm f.ps f.R f.Fr C f.code.length cap)
  have hC1 := hC.below hB
  have hA := fun W => awake9_any W
  have hF := fun W h => few9_yes f hf C cap hl9 W h
  have hD := fun a b W h => gDominates_no f hok a b C cap W h
  have hR := fun W h => gReached_no f hok C cap W h
  obtain ⟨N, hN⟩ : ∃ N, f.code.length = N := ⟨_, rfl⟩
  rw [hN] at hB bx hC1 hF hD hR ⊢
  simp only [funcObj, funcAgg] at hB bx hC1 hF hD hR ⊢
  obtain ⟨W, hW⟩ : ∃ W, w.alloc (.cells #[.string f.nm, .int .i64 f.ps, .int .i64 f.R, .int .i64 f.Fr, .slice C N cap] 24) = W := ⟨_, rfl⟩
  rw [hW] at bx hC1 hB
  have HC0 := Lib.hid hC1
  have HB0 := Lib.hid hB
  have HX0 := Lib.hid bx
  have hl0 := (Array.getElem?_eq_some_iff.1 bx).1
  have HAW := Lib.hid hA
  have c00 := cell_of_heap bx 0 _ rfl
  have c01 := cell_of_heap bx 1 _ rfl
  have c02 := cell_of_heap bx 2 _ rfl
  have c03 := cell_of_heap bx 3 _ rfl
  have c04 := cell_of_heap bx 4 _ rfl
  have HF := Lib.hid hF
  have HD := Lib.hid hD
  have HR := Lib.hid hR
  clear hf hN hC hC1 hB bx hF hA hD hR hok
  go_enter Try.func6, Try.ntmps6
  go_wp2_with fail
  refine (HF.out _ HC0.out).mono ?_
  rintro e w1 ⟨rfl, hb1⟩
  have kx1 := (hb1.block _ hl0).trans HX0.out
  have c10 := cell_of_heap kx1 0 _ rfl
  have c11 := cell_of_heap kx1 1 _ rfl
  have c12 := cell_of_heap kx1 2 _ rfl
  have c13 := cell_of_heap kx1 3 _ rfl
  have c14 := cell_of_heap kx1 4 _ rfl
  have hl1 := (Array.getElem?_eq_some_iff.1 kx1).1
  have HX1 := Lib.hid kx1
  have HC1 := Lib.hid (HC0.out.below hb1)
  have HB1 := Lib.hid (HB0.out.trans (hb1.mono HB0.out.size))
  clear kx1 hb1 c00 c01 c02 c03 c04
  go_wp2_with fail
  refine (HD.out _ _ _ HC1.out).mono ?_
  rintro e w2 ⟨rfl, hb2⟩
  have kx2 := (hb2.block _ hl1).trans HX1.out
  have c20 := cell_of_heap kx2 0 _ rfl
  have c21 := cell_of_heap kx2 1 _ rfl
  have c22 := cell_of_heap kx2 2 _ rfl
  have c23 := cell_of_heap kx2 3 _ rfl
  have c24 := cell_of_heap kx2 4 _ rfl
  have hl2 := (Array.getElem?_eq_some_iff.1 kx2).1
  have HX2 := Lib.hid kx2
  have HC2 := Lib.hid (HC1.out.below hb2)
  have HB2 := Lib.hid (HB1.out.trans (hb2.mono HB1.out.size))
  clear kx2 hb2 c10 c11 c12 c13 c14
  go_wp2_with fail
  refine (HR.out _ HC2.out).mono ?_
  rintro e w3 ⟨rfl, hb3⟩
  have kx3 := (hb3.block _ hl2).trans HX2.out
  have c30 := cell_of_heap kx3 0 _ rfl
  have c31 := cell_of_heap kx3 1 _ rfl
  have c32 := cell_of_heap kx3 2 _ rfl
  have c33 := cell_of_heap kx3 3 _ rfl
  have c34 := cell_of_heap kx3 4 _ rfl
  have hl3 := (Array.getElem?_eq_some_iff.1 kx3).1
  have HX3 := Lib.hid kx3
  have HC3 := Lib.hid (HC2.out.below hb3)
  have HB3 := Lib.hid (HB2.out.trans (hb3.mono HB2.out.size))
  clear kx3 hb3 c20 c21 c22 c23 c24
  go_wp2_with fail
  refine wp_loop_rounds 1 ?_
  rw [rounds_succ]
  go_wp2_with fail
  refine (HAW.out _).mono ?_
  rintro e w4 ⟨rfl, hb4⟩
  go_wp2
  go_returns
  exact ⟨rfl, HB3.out.trans (hb4.mono HB3.out.size)⟩
set_option maxRecDepth 1000000 in
set_option maxHeartbeats 16000000 in
theorem line_good (f : Fn7) (hf : Fw9 f) (hok : OkF f) (a b c : Int) (C : Option Addr) (cap : Nat) (hl9 : f.code.length ≤ 9223372036854775807) (w : World) (hC : RdI w C f.code) :
    Calls Try.prog 6 #[funcAgg f.nm f.ps f.R f.Fr C f.code.length cap, .int .i64 a, .int .i64 b, .int .i64 c] w fun e w' => e = .returned (.bool true) ∧ Below w.heap.size w w' := by
  have hB := Below.one w (funcObj f.nm f.ps f.R f.Fr C f.code.length cap)
  have bx := heap_alloc_new w (funcObj f.nm f.ps f.R f.Fr C f.code.length cap)
  have hC1 := hC.below hB
  have hA := fun W => awake9_any W
  have hF := fun W h => few9_yes f hf C cap hl9 W h
  have hD := fun a b W h => gDominates_yes f hok a b C cap W h
  have hR := fun W h => gReached_yes f hok C cap W h
  have hN2 := hok.len.2
  obtain ⟨y1, e1⟩ : ∃ y, dmB f a c = y := ⟨_, rfl⟩
  obtain ⟨y2, e2⟩ : ∃ y, dmB f b c = y := ⟨_, rfl⟩
  obtain ⟨y3, e3⟩ : ∃ y, dmB f a b = y := ⟨_, rfl⟩
  have hy : y1 = true → y2 = true → y3 = false → dmB f b a = true := fun h1 h2 h3 => dmB_lines (e1.trans h1) (e2.trans h2) (e3.trans h3)
  have hD1 := fun W h => hD a c W h
  have hD2 := fun W h => hD b c W h
  have hD3 := fun W h => hD a b W h
  simp only [e1] at hD1
  simp only [e2] at hD2
  simp only [e3] at hD3
  obtain ⟨N, hN⟩ : ∃ N, f.code.length = N := ⟨_, rfl⟩
  rw [hN] at hB bx hC1 hF hD hR hD1 hD2 hD3 hN2 ⊢
  simp only [funcObj, funcAgg] at hB bx hC1 hF hD hR hD1 hD2 hD3 hN2 ⊢
  obtain ⟨W, hW⟩ : ∃ W, w.alloc (.cells #[.string f.nm, .int .i64 f.ps, .int .i64 f.R, .int .i64 f.Fr, .slice C N cap] 24) = W := ⟨_, rfl⟩
  rw [hW] at bx hC1 hB
  have HC0 := Lib.hid hC1
  have HB0 := Lib.hid hB
  have HX0 := Lib.hid bx
  have hl0 := (Array.getElem?_eq_some_iff.1 bx).1
  have HAW := Lib.hid hA
  have c00 := cell_of_heap bx 0 _ rfl
  have c01 := cell_of_heap bx 1 _ rfl
  have c02 := cell_of_heap bx 2 _ rfl
  have c03 := cell_of_heap bx 3 _ rfl
  have c04 := cell_of_heap bx 4 _ rfl
  have HF := Lib.hid hF
  have HD := Lib.hid hD
  have HR := Lib.hid hR
  have HD1 := Lib.hid hD1
  have HD2 := Lib.hid hD2
  have HD3 := Lib.hid hD3
  have HY := Lib.hid hy
  clear hf hC hC1 hB bx hF hA hD hR hok hD1 hD2 hD3 hy e1 e2 e3 hl9
  -- the loop over what is reached, from any world
  go_enter Try.func6, Try.ntmps6
  go_wp2_with fail
  refine (HF.out _ HC0.out).mono ?_
  rintro e w1 ⟨rfl, hb1⟩
  have kx1 := (hb1.block _ hl0).trans HX0.out
  have c10 := cell_of_heap kx1 0 _ rfl
  have c11 := cell_of_heap kx1 1 _ rfl
  have c12 := cell_of_heap kx1 2 _ rfl
  have c13 := cell_of_heap kx1 3 _ rfl
  have c14 := cell_of_heap kx1 4 _ rfl
  have hl1 := (Array.getElem?_eq_some_iff.1 kx1).1
  have HX1 := Lib.hid kx1
  have HC1 := Lib.hid (HC0.out.below hb1)
  have HB1 := Lib.hid (HB0.out.trans (hb1.mono HB0.out.size))
  clear kx1 hb1 c00 c01 c02 c03 c04
  have HZ1 := Lib.hid (Below.refl w1.heap.size w1)
  go_upto_region 3 with fail
  go_cut [38] from 18 to 38 (fun s wx => NoB s ∧ Below w1.heap.size w1 wx)
  case first =>
    cases y1 with
    | false =>
      go_wp2_with fail
      refine (HD1.out _ HC1.out).mono ?_
      rintro e w2 ⟨rfl, hb2⟩
      have kx2 := (hb2.block _ hl1).trans HX1.out
      have c20 := cell_of_heap kx2 0 _ rfl
      have c21 := cell_of_heap kx2 1 _ rfl
      have c22 := cell_of_heap kx2 2 _ rfl
      have c23 := cell_of_heap kx2 3 _ rfl
      have c24 := cell_of_heap kx2 4 _ rfl
      have hl2 := (Array.getElem?_eq_some_iff.1 kx2).1
      have HX2 := Lib.hid kx2
      have HC2 := Lib.hid (HC1.out.below hb2)
      have HB2 := Lib.hid (HZ1.out.trans (hb2.mono HZ1.out.size))
      clear kx2 hb2 c10 c11 c12 c13 c14
      go_wp2
      go_meet
      exact ⟨NoB.f, HB2.out⟩
    | true =>
      cases y2 with
      | false =>
        go_wp2_with fail
        refine (HD1.out _ HC1.out).mono ?_
        rintro e w2 ⟨rfl, hb2⟩
        have kx2 := (hb2.block _ hl1).trans HX1.out
        have c20 := cell_of_heap kx2 0 _ rfl
        have c21 := cell_of_heap kx2 1 _ rfl
        have c22 := cell_of_heap kx2 2 _ rfl
        have c23 := cell_of_heap kx2 3 _ rfl
        have c24 := cell_of_heap kx2 4 _ rfl
        have hl2 := (Array.getElem?_eq_some_iff.1 kx2).1
        have HX2 := Lib.hid kx2
        have HC2 := Lib.hid (HC1.out.below hb2)
        have HB2 := Lib.hid (HZ1.out.trans (hb2.mono HZ1.out.size))
        clear kx2 hb2 c10 c11 c12 c13 c14
        go_wp2_with fail
        refine (HD2.out _ HC2.out).mono ?_
        rintro e w3 ⟨rfl, hb3⟩
        have kx3 := (hb3.block _ hl2).trans HX2.out
        have c30 := cell_of_heap kx3 0 _ rfl
        have c31 := cell_of_heap kx3 1 _ rfl
        have c32 := cell_of_heap kx3 2 _ rfl
        have c33 := cell_of_heap kx3 3 _ rfl
        have c34 := cell_of_heap kx3 4 _ rfl
        have hl3 := (Array.getElem?_eq_some_iff.1 kx3).1
        have HX3 := Lib.hid kx3
        have HC3 := Lib.hid (HC2.out.below hb3)
        have HB3 := Lib.hid (HB2.out.trans (hb3.mono HB2.out.size))
        clear kx3 hb3 c20 c21 c22 c23 c24
        go_wp2
        go_meet
        exact ⟨NoB.f, HB3.out⟩
      | true =>
        cases y3 with
        | true =>
          go_wp2_with fail
          refine (HD1.out _ HC1.out).mono ?_
          rintro e w2 ⟨rfl, hb2⟩
          have kx2 := (hb2.block _ hl1).trans HX1.out
          have c20 := cell_of_heap kx2 0 _ rfl
          have c21 := cell_of_heap kx2 1 _ rfl
          have c22 := cell_of_heap kx2 2 _ rfl
          have c23 := cell_of_heap kx2 3 _ rfl
          have c24 := cell_of_heap kx2 4 _ rfl
          have hl2 := (Array.getElem?_eq_some_iff.1 kx2).1
          have HX2 := Lib.hid kx2
          have HC2 := Lib.hid (HC1.out.below hb2)
          have HB2 := Lib.hid (HZ1.out.trans (hb2.mono HZ1.out.size))
          clear kx2 hb2 c10 c11 c12 c13 c14
          go_wp2_with fail
          refine (HD2.out _ HC2.out).mono ?_
          rintro e w3 ⟨rfl, hb3⟩
          have kx3 := (hb3.block _ hl2).trans HX2.out
          have c30 := cell_of_heap kx3 0 _ rfl
          have c31 := cell_of_heap kx3 1 _ rfl
          have c32 := cell_of_heap kx3 2 _ rfl
          have c33 := cell_of_heap kx3 3 _ rfl
          have c34 := cell_of_heap kx3 4 _ rfl
          have hl3 := (Array.getElem?_eq_some_iff.1 kx3).1
          have HX3 := Lib.hid kx3
          have HC3 := Lib.hid (HC2.out.below hb3)
          have HB3 := Lib.hid (HB2.out.trans (hb3.mono HB2.out.size))
          clear kx3 hb3 c20 c21 c22 c23 c24
          go_wp2_with fail
          refine (HD3.out _ HC3.out).mono ?_
          rintro e w4 ⟨rfl, hb4⟩
          have kx4 := (hb4.block _ hl3).trans HX3.out
          have c40 := cell_of_heap kx4 0 _ rfl
          have c41 := cell_of_heap kx4 1 _ rfl
          have c42 := cell_of_heap kx4 2 _ rfl
          have c43 := cell_of_heap kx4 3 _ rfl
          have c44 := cell_of_heap kx4 4 _ rfl
          have hl4 := (Array.getElem?_eq_some_iff.1 kx4).1
          have HX4 := Lib.hid kx4
          have HC4 := Lib.hid (HC3.out.below hb4)
          have HB4 := Lib.hid (HB3.out.trans (hb4.mono HB3.out.size))
          clear kx4 hb4 c30 c31 c32 c33 c34
          go_wp2
          go_meet
          exact ⟨NoB.f, HB4.out⟩
        | false =>
          have HD4 := Lib.hid fun W h => HD.out b a W h
          rw [HY.out rfl rfl rfl] at HD4
          go_wp2_with fail
          refine (HD1.out _ HC1.out).mono ?_
          rintro e w2 ⟨rfl, hb2⟩
          have kx2 := (hb2.block _ hl1).trans HX1.out
          have c20 := cell_of_heap kx2 0 _ rfl
          have c21 := cell_of_heap kx2 1 _ rfl
          have c22 := cell_of_heap kx2 2 _ rfl
          have c23 := cell_of_heap kx2 3 _ rfl
          have c24 := cell_of_heap kx2 4 _ rfl
          have hl2 := (Array.getElem?_eq_some_iff.1 kx2).1
          have HX2 := Lib.hid kx2
          have HC2 := Lib.hid (HC1.out.below hb2)
          have HB2 := Lib.hid (HZ1.out.trans (hb2.mono HZ1.out.size))
          clear kx2 hb2 c10 c11 c12 c13 c14
          go_wp2_with fail
          refine (HD2.out _ HC2.out).mono ?_
          rintro e w3 ⟨rfl, hb3⟩
          have kx3 := (hb3.block _ hl2).trans HX2.out
          have c30 := cell_of_heap kx3 0 _ rfl
          have c31 := cell_of_heap kx3 1 _ rfl
          have c32 := cell_of_heap kx3 2 _ rfl
          have c33 := cell_of_heap kx3 3 _ rfl
          have c34 := cell_of_heap kx3 4 _ rfl
          have hl3 := (Array.getElem?_eq_some_iff.1 kx3).1
          have HX3 := Lib.hid kx3
          have HC3 := Lib.hid (HC2.out.below hb3)
          have HB3 := Lib.hid (HB2.out.trans (hb3.mono HB2.out.size))
          clear kx3 hb3 c20 c21 c22 c23 c24
          go_wp2_with fail
          refine (HD3.out _ HC3.out).mono ?_
          rintro e w4 ⟨rfl, hb4⟩
          have kx4 := (hb4.block _ hl3).trans HX3.out
          have c40 := cell_of_heap kx4 0 _ rfl
          have c41 := cell_of_heap kx4 1 _ rfl
          have c42 := cell_of_heap kx4 2 _ rfl
          have c43 := cell_of_heap kx4 3 _ rfl
          have c44 := cell_of_heap kx4 4 _ rfl
          have hl4 := (Array.getElem?_eq_some_iff.1 kx4).1
          have HX4 := Lib.hid kx4
          have HC4 := Lib.hid (HC3.out.below hb4)
          have HB4 := Lib.hid (HB3.out.trans (hb4.mono HB3.out.size))
          clear kx4 hb4 c30 c31 c32 c33 c34
          go_wp2_with fail
          refine (HD4.out _ HC4.out).mono ?_
          rintro e w5 ⟨rfl, hb5⟩
          have kx5 := (hb5.block _ hl4).trans HX4.out
          have c50 := cell_of_heap kx5 0 _ rfl
          have c51 := cell_of_heap kx5 1 _ rfl
          have c52 := cell_of_heap kx5 2 _ rfl
          have c53 := cell_of_heap kx5 3 _ rfl
          have c54 := cell_of_heap kx5 4 _ rfl
          have hl5 := (Array.getElem?_eq_some_iff.1 kx5).1
          have HX5 := Lib.hid kx5
          have HC5 := Lib.hid (HC4.out.below hb5)
          have HB5 := Lib.hid (HB4.out.trans (hb5.mono HB4.out.size))
          clear kx5 hb5 c40 c41 c42 c43 c44
          go_wp2
          go_meet
          exact ⟨NoB.f, HB5.out⟩
  case rest =>
    obtain ⟨hs, hbc⟩ := hcut
    obtain rfl := hs
    have kxc := (hbc.block _ hl1).trans HX1.out
    have d0 := cell_of_heap kxc 0 _ rfl
    have d1 := cell_of_heap kxc 1 _ rfl
    have d2 := cell_of_heap kxc 2 _ rfl
    have d3 := cell_of_heap kxc 3 _ rfl
    have d4 := cell_of_heap kxc 4 _ rfl
    have hlc := (Array.getElem?_eq_some_iff.1 kxc).1
    have HXC := Lib.hid kxc
    have HCC := Lib.hid (HC1.out.below hbc)
    have HBC := Lib.hid (HB1.out.trans (hbc.mono HB1.out.size))
    clear kxc hbc
    go_wp2_with fail
    refine (HR.out _ HCC.out).mono ?_
    rintro e w6 ⟨⟨rb, rfl, hrb, hrp⟩, hb6⟩
    have kx6 := (hb6.block _ hlc).trans HXC.out
    have hl6 := (Array.getElem?_eq_some_iff.1 kx6).1
    have HX6 := Lib.hid kx6
    have HC6 := Lib.hid (HCC.out.below hb6)
    have HB6 := Lib.hid (HBC.out.trans (hb6.mono HBC.out.size))
    have HRP := Lib.hid hrp
    clear kx6 hb6 d0 d1 d2 d3 d4 hrb hrp
    go_wp2
    go_loopw [42] (fun ix wr => ∃ k : Nat, k ≤ N ∧ ix = .int .i64 k ∧ Below w6.heap.size w6 wr) (fun ix _ => N - (intOf ix).toNat)
    case atStart => exact ⟨0, by omega, rfl, Below.refl _ _⟩
    case round =>
      obtain ⟨k, hk, rfl, hb⟩ := hrel
      have HBB := Lib.hid hb
      have kx := (hb.block _ hl6).trans HX6.out
      have d0 := cell_of_heap kx 0 _ rfl
      have d1 := cell_of_heap kx 1 _ rfl
      have d2 := cell_of_heap kx 2 _ rfl
      have d3 := cell_of_heap kx 3 _ rfl
      have d4 := cell_of_heap kx 4 _ rfl
      have hlr := (Array.getElem?_eq_some_iff.1 kx).1
      have HXR := Lib.hid kx
      have HCR := Lib.hid (HC6.out.below hb)
      by_cases hlt : k < N
      · have hcr := PreB.cell (Pre.later HRP.out hb) (bl_get (m := fun p => tb (R0 (Eg f.code) p)) hlt)
        have hki : (k : Int) < N := by omega
        have hq1 := fun W h => HD.out 0 (k : Int) W h
        have hq2 := fun W h => HD.out (k : Int) (k : Int) W h
        simp only [dmB_zero] at hq1
        simp only [dmB_self] at hq2
        have hsz := hb.size
        obtain ⟨z, hz⟩ : ∃ z, tb (R0 (Eg f.code) k) = z := ⟨_, rfl⟩
        rw [hz] at hcr hq1 hq2
        have HQ1 := Lib.hid hq1
        have HQ2 := Lib.hid hq2
        clear hb kx hq1 hq2 hz
        cases z
        all_goals
          go_wp2_with fail
          refine (HQ1.out _ HCR.out).mono ?_
          rintro e w7 ⟨rfl, hb7⟩
          have kx7 := (hb7.block _ hlr).trans HXR.out
          have b0 := cell_of_heap kx7 0 _ rfl
          have b1 := cell_of_heap kx7 1 _ rfl
          have b2 := cell_of_heap kx7 2 _ rfl
          have b3 := cell_of_heap kx7 3 _ rfl
          have b4 := cell_of_heap kx7 4 _ rfl
          have HB7 := Lib.hid hb7
          clear kx7 hb7 d0 d1 d2 d3 d4
          go_wp2_with fail
          refine (HQ2.out _ (HCR.out.below HB7.out)).mono ?_
          rintro e w8 ⟨rfl, hb8⟩
          go_wp2
          exact ⟨⟨k + 1, by omega, by go_num, HBB.out.trans ((HB7.out.trans (hb8.mono HB7.out.size)).mono hsz)⟩, by simp [intOf]; omega⟩
      · obtain rfl : N = k := by omega
        clear hb kx
        go_wp2_with fail
        refine (HAW.out _).mono ?_
        rintro e w9 ⟨rfl, hb9⟩
        have hbb := HB6.out.trans (HBB.out.mono HB6.out.size)
        go_wp2
        go_returns
        exact ⟨rfl, hbb.trans (hb9.mono hbb.size)⟩
theorem GraphLine_any (f : Fn7) (C : Option Addr) (cap : Nat) (hl9 : f.code.length ≤ 9223372036854775807) (a b c : Int) (w : World) (hC : RdI w C f.code) :
    Calls Try.prog 6 #[funcAgg f.nm f.ps f.R f.Fr C f.code.length cap, .int .i64 a, .int .i64 b, .int .i64 c] w fun e w' => e = .returned (.bool true) ∧ Below w.heap.size w w' := by
  by_cases hf : Fw9 f
  · by_cases hok : OkF f
    · exact line_good f hf hok a b c C cap hl9 w hC
    · exact line_bad f hf hok a b c C cap hl9 w hC
  · exact line_few f hf a b c C cap hl9 w hC
end Go.Proofs.Ytgdbkoncaojmoaa
