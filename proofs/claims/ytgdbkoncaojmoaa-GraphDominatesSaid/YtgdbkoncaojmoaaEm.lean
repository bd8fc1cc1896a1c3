import Derived.Test.YtgdbkoncaojmoaaEk
import Derived.Test.YtgdbkoncaojmoaaEb
/- GraphDominates. -/
namespace Go.Proofs.Ytgdbkoncaojmoaa
open Go.RowKit Go.BigFrame

theorem AbR_is {f : Fn7} (hf : OkF f) {pl : Nat → Nat} {up : Nat → Option Nat} (hU : UpT (Eg f.code) pl up) {n : Nat} (hn : n < f.code.length) {r : Int} (h : AbR f n r) : (abL f.code.length up)[n]? = some r := by
  have hP : ∀ a : Nat, PA f n a ↔ (a ≠ n ∧ Dom (Eg f.code) a n ∧ ∀ b, b ≠ n → Dom (Eg f.code) b n → Dom (Eg f.code) b a) := fun a => by
    unfold PA
    simp only [dmB_nat, tb_true]
    exact ⟨fun ⟨h1, h2, h3⟩ => ⟨by omega, h2, fun b hb hd => h3 b (R0.ltN hf hd.left) (by omega) hd⟩, fun ⟨h1, h2, h3⟩ => ⟨by omega, h2, fun b _ hb hd => h3 b (by omega) hd⟩⟩
  by_cases h0 : n = 0
  · subst h0
    rw [abL_zero up hn]
    rcases h with ⟨a, _, _, hpa⟩ | ⟨rfl, _⟩
    · have := (hP a).1 hpa
      exact absurd this.2.1.at0 this.1
    · rfl
  · rw [abL_at hn h0]
    cases hu : up n with
    | some m =>
      have hnx := hU.next h0 hu
      rcases h with ⟨a, _, rfl, hpa⟩ | ⟨_, hno⟩
      · rw [(hnx a).1 ((hP a).1 hpa)]; rfl
      · have hm := (hP m).2 ((hnx m).2 rfl)
        exact absurd hm (hno m (R0.ltN hf ((hP m).1 hm).2.1.left))
    | none =>
      rcases h with ⟨a, _, rfl, hpa⟩ | ⟨rfl, _⟩
      · exact absurd hu ((hU.is n).2 ((hP a).1 hpa).2.1.1)
      · rfl
set_option maxRecDepth 1000000 in
set_option maxHeartbeats 8000000 in
theorem dom_few (f : Fn7) (hf : ¬ Fw9 f) (a b : Int) (C : Option Addr) (cap : Nat) (hl9 : f.code.length ≤ 9223372036854775807) (w : World) (hC : RdI w C f.code) :
    Calls Try.prog 4 #[funcAgg f.nm f.ps f.R f.Fr C f.code.length cap, .int .i64 a, .int .i64 b] w fun e w' => e = .returned (.bool true) ∧ Below w.heap.size w w' := by
  have hB := Below.one w (funcObj f.nm f.ps f.R f.Fr C f.code.length cap)
  have bx := heap_alloc_new w (funcObj f.nm f.ps f.R f.Fr C f.code.length cap)
  have hC1 := hC.below hB
  have hA := fun W => awake9_any W
  have hF := fun W h => few9_no f hf C cap hl9 W h
  obtain ⟨N, hN⟩ : ∃ N, f.code.length = N := ⟨_, rfl⟩
  rw [hN] at hB bx hC1 hF ⊢
  simp only [funcObj, funcAgg] at hB bx hC1 hF ⊢
  obtain ⟨W, hW⟩ : ∃ W, w.alloc (.cells #[.string f.nm, .int .i64 f.ps, .int .i64 f.R, .int .i64 f.Fr, .slice C N cap] 24) = W := ⟨_, rfl⟩
  rw [hW] at bx hC1 hB
  have HC0 := Lib.hid hC1
  have HB0 := Lib.hid hB
  have HX0 := Lib.hid bx
  have hl0 := (Array.getElem?_eq_some_iff.1 bx).1
  have HAW := Lib.hid hA
  have c00 := cell_of_heap bx 0 _ rfl
  have c01 := cell_of_heap bx 1 _ rfl
  have c02 := cell_of_heap bx 2 _ rfl
  have c03 := cell_of_heap bx 3 _ rfl
  have c04 := cell_of_heap bx 4 _ rfl
  have HF := Lib.hid hF
  clear hf hN hC hC1 hB bx hF hA
  go_enter Try.func4, Try.ntmps4
  go_wp2_with fail
  refine (HF.out _ HC0.out).mono ?_
  rintro e w1 ⟨rfl, hb1⟩
  have kx1 := (hb1.block _ hl0).trans HX0.out
  have c10 := cell_of_heap kx1 0 _ rfl
  have c11 := cell_of_heap kx1 1 _ rfl
  have c12 := cell_of_heap kx1 2 _ rfl
  have c13 := cell_of_heap kx1 3 _ rfl
  have c14 := cell_of_heap kx1 4 _ rfl
  have hl1 := (Array.getElem?_eq_some_iff.1 kx1).1
  have HX1 := Lib.hid kx1
  have HC1 := Lib.hid (HC0.out.below hb1)
  have HB1 := Lib.hid (HB0.out.trans (hb1.mono HB0.out.size))
  have HL1 := Lib.hid hb1
  clear kx1 hb1 c00 c01 c02 c03 c04
  go_wp2_with fail
  refine (HAW.out _).mono ?_
  rintro e w2 ⟨rfl, hb2⟩
  go_wp2
  go_returns
  exact ⟨rfl, HB1.out.trans (hb2.mono HB1.out.size)⟩
set_option maxRecDepth 1000000 in
set_option maxHeartbeats 8000000 in
theorem dom_bad (f : Fn7) (hf : Fw9 f) (hok : ¬ OkF f) (a b : Int) (C : Option Addr) (cap : Nat) (hl9 : f.code.length ≤ 9223372036854775807) (w : World) (hC : RdI w C f.code) :
    Calls Try.prog 4 #[funcAgg f.nm f.ps f.R f.Fr C f.code.length cap, .int .i64 a, .int .i64 b] w fun e w' => e = .returned (.bool true) ∧ Below w.heap.size w w' := by
  have hB := Below.one w (funcObj f.nm f.ps f.R f.Fr C f.code.length cap)
  have bx := heap_alloc_new w (funcObj f.nm f.ps f.R f.Fr C f.code.length cap)
  have hC1 := hC.below hB
  have hA := fun W => awake9_any W
  have hF := fun W h => few9_yes f hf C cap hl9 W h
  have hU := fun W h => gAbove_no f hok C cap W h
  have hR := fun W h => rr9_no f hok C cap W h
  have hD := fun W h => gDominates_no f hok a b C cap W h
  obtain ⟨N, hN⟩ : ∃ N, f.code.length = N := ⟨_, rfl⟩
  rw [hN] at hB bx hC1 hF hU hR hD ⊢
  simp only [funcObj, funcAgg] at hB bx hC1 hF hU hR hD ⊢
  obtain ⟨W, hW⟩ : ∃ W, w.alloc (.cells #[.string f.nm, .int .i64 f.ps, .int .i64 f.R, .int .i64 f.Fr, .slice C N cap] 24) = W := ⟨_, rfl⟩
  rw [hW] at bx hC1 hB
  have HC0 := Lib.hid hC1
  have HB0 := Lib.hid hB
  have HX0 := Lib.hid bx
  have hl0 := (Array.getElem?_eq_some_iff.1 bx).1
  have HAW := Lib.hid hA
  have c00 := cell_of_heap bx 0 _ rfl
  have c01 := cell_of_heap bx 1 _ rfl
  have c02 := cell_of_heap bx 2 _ rfl
  have c03 := cell_of_heap bx 3 _ rfl
  have c04 := cell_of_heap bx 4 _ rfl
  have HF := Lib.hid hF
  have HU := Lib.hid hU
  have HR := Lib.hid hR
  have HD := Lib.hid hD
  clear hf hN hC hC1 hB bx hF hA hU hR hD hok
  go_enter Try.func4, Try.ntmps4
  go_wp2_with fail
  refine (HF.out _ HC0.out).mono ?_
  rintro e w1 ⟨rfl, hb1⟩
  have kx1 := (hb1.block _ hl0).trans HX0.out
  have c10 := cell_of_heap kx1 0 _ rfl
  have c11 := cell_of_heap kx1 1 _ rfl
  have c12 := cell_of_heap kx1 2 _ rfl
  have c13 := cell_of_heap kx1 3 _ rfl
  have c14 := cell_of_heap kx1 4 _ rfl
  have hl1 := (Array.getElem?_eq_some_iff.1 kx1).1
  have HX1 := Lib.hid kx1
  have HC1 := Lib.hid (HC0.out.below hb1)
  have HB1 := Lib.hid (HB0.out.trans (hb1.mono HB0.out.size))
  have HL1 := Lib.hid hb1
  clear kx1 hb1 c00 c01 c02 c03 c04
  go_wp2_with fail
  refine (HU.out _ HC1.out).mono ?_
  rintro e w2 ⟨rfl, hb2⟩
  have kx2 := (hb2.block _ hl1).trans HX1.out
  have c20 := cell_of_heap kx2 0 _ rfl
  have c21 := cell_of_heap kx2 1 _ rfl
  have c22 := cell_of_heap kx2 2 _ rfl
  have c23 := cell_of_heap kx2 3 _ rfl
  have c24 := cell_of_heap kx2 4 _ rfl
  have hl2 := (Array.getElem?_eq_some_iff.1 kx2).1
  have HX2 := Lib.hid kx2
  have HC2 := Lib.hid (HC1.out.below hb2)
  have HB2 := Lib.hid (HB1.out.trans (hb2.mono HB1.out.size))
  have HL2 := Lib.hid hb2
  clear kx2 hb2 c10 c11 c12 c13 c14
  go_wp2_with fail
  refine (HR.out _ HC2.out).mono ?_
  rintro e w3 ⟨rfl, hb3⟩
  have kx3 := (hb3.block _ hl2).trans HX2.out
  have c30 := cell_of_heap kx3 0 _ rfl
  have c31 := cell_of_heap kx3 1 _ rfl
  have c32 := cell_of_heap kx3 2 _ rfl
  have c33 := cell_of_heap kx3 3 _ rfl
  have c34 := cell_of_heap kx3 4 _ rfl
  have hl3 := (Array.getElem?_eq_some_iff.1 kx3).1
  have HX3 := Lib.hid kx3
  have HC3 := Lib.hid (HC2.out.below hb3)
  have HB3 := Lib.hid (HB2.out.trans (hb3.mono HB2.out.size))
  have HL3 := Lib.hid hb3
  clear kx3 hb3 c20 c21 c22 c23 c24
  go_wp2_with fail
  refine (HD.out _ HC3.out).mono ?_
  rintro e w4 ⟨rfl, hb4⟩
  have kx4 := (hb4.block _ hl3).trans HX3.out
  have c40 := cell_of_heap kx4 0 _ rfl
  have c41 := cell_of_heap kx4 1 _ rfl
  have c42 := cell_of_heap kx4 2 _ rfl
  have c43 := cell_of_heap kx4 3 _ rfl
  have c44 := cell_of_heap kx4 4 _ rfl
  have hl4 := (Array.getElem?_eq_some_iff.1 kx4).1
  have HX4 := Lib.hid kx4
  have HC4 := Lib.hid (HC3.out.below hb4)
  have HB4 := Lib.hid (HB3.out.trans (hb4.mono HB3.out.size))
  have HL4 := Lib.hid hb4
  clear kx4 hb4 c30 c31 c32 c33 c34
  go_wp2_with fail
  refine (HAW.out _).mono ?_
  rintro e w5 ⟨rfl, hb5⟩
  go_wp2
  go_returns
  exact ⟨rfl, HB4.out.trans (hb5.mono HB4.out.size)⟩
set_option maxRecDepth 1000000 in
set_option maxHeartbeats 16000000 in
theorem dom_good (f : Fn7) (hf : Fw9 f) (hok : OkF f) (a b : Int) (C : Option Addr) (cap : Nat) (hl9 : f.code.length ≤ 9223372036854775807) (w : World) (hC : RdI w C f.code) :
    Calls Try.prog 4 #[funcAgg f.nm f.ps f.R f.Fr C f.code.length cap, .int .i64 a, .int .i64 b] w fun e w' => e = .returned (.bool true) ∧ Below w.heap.size w w' := by
  have hB := Below.one w (funcObj f.nm f.ps f.R f.Fr C f.code.length cap)
  have bx := heap_alloc_new w (funcObj f.nm f.ps f.R f.Fr C f.code.length cap)
  have hC1 := hC.below hB
  have hA := fun W => awake9_any W
  have hF := fun W h => few9_yes f hf C cap hl9 W h
  have hU := fun W h => gAbove_yes f hok C cap W h
  have hR := fun W h => rr9_yes f hok C cap W h
  have hD := fun W h => gDominates_yes f hok a b C cap W h
  have hE := fun W h => rDominates_any f hok a b C cap W h
  have hV := fun (n : Nat) W h => rAbove_any f hok (n : Int) C cap W h
  have hI := fun (pl : Nat → Nat) (up : Nat → Option Nat) (hU : UpT (Eg f.code) pl up) (n : Nat) (hn : n < f.code.length) (r : Int) (h : AbR f n r) => AbR_is hok hU hn h
  have hN2 := hok.len.2
  obtain ⟨y, hy⟩ : ∃ y, dmB f a b = y := ⟨_, rfl⟩
  simp only [hy] at hD hE
  obtain ⟨N, hN⟩ : ∃ N, f.code.length = N := ⟨_, rfl⟩
  rw [hN] at hB bx hC1 hF hU hR hD hE hV hI hN2 ⊢
  simp only [funcObj, funcAgg] at hB bx hC1 hF hU hR hD hE hV hI hN2 ⊢
  obtain ⟨W, hW⟩ : ∃ W, w.alloc (.cells #[.string f.nm, .int .i64 f.ps, .int .i64 f.R, .int .i64 f.Fr, .slice C N cap] 24) = W := ⟨_, rfl⟩
  rw [hW] at bx hC1 hB
  have HC0 := Lib.hid hC1
  have HB0 := Lib.hid hB
  have HX0 := Lib.hid bx
  have hl0 := (Array.getElem?_eq_some_iff.1 bx).1
  have HAW := Lib.hid hA
  have c00 := cell_of_heap bx 0 _ rfl
  have c01 := cell_of_heap bx 1 _ rfl
  have c02 := cell_of_heap bx 2 _ rfl
  have c03 := cell_of_heap bx 3 _ rfl
  have c04 := cell_of_heap bx 4 _ rfl
  have HF := Lib.hid hF
  have HU := Lib.hid hU
  have HR := Lib.hid hR
  have HD := Lib.hid hD
  have HE := Lib.hid hE
  have HV := Lib.hid hV
  have HI := Lib.hid hI
  clear hf hN hC hC1 hB bx hF hA hU hR hD hE hV hI hok hy hl9
  go_enter Try.func4, Try.ntmps4
  go_wp2_with fail
  refine (HF.out _ HC0.out).mono ?_
  rintro e w1 ⟨rfl, hb1⟩
  have kx1 := (hb1.block _ hl0).trans HX0.out
  have c10 := cell_of_heap kx1 0 _ rfl
  have c11 := cell_of_heap kx1 1 _ rfl
  have c12 := cell_of_heap kx1 2 _ rfl
  have c13 := cell_of_heap kx1 3 _ rfl
  have c14 := cell_of_heap kx1 4 _ rfl
  have hl1 := (Array.getElem?_eq_some_iff.1 kx1).1
  have HX1 := Lib.hid kx1
  have HC1 := Lib.hid (HC0.out.below hb1)
  have HB1 := Lib.hid (HB0.out.trans (hb1.mono HB0.out.size))
  have HL1 := Lib.hid hb1
  clear kx1 hb1 c00 c01 c02 c03 c04
  go_wp2_with fail
  refine (HU.out _ HC1.out).mono ?_
  rintro e w2 ⟨⟨ob, up, O, rfl, hob, hpre, hO, hU⟩, hb2⟩
  have kx2 := (hb2.block _ hl1).trans HX1.out
  have c20 := cell_of_heap kx2 0 _ rfl
  have c21 := cell_of_heap kx2 1 _ rfl
  have c22 := cell_of_heap kx2 2 _ rfl
  have c23 := cell_of_heap kx2 3 _ rfl
  have c24 := cell_of_heap kx2 4 _ rfl
  have hl2 := (Array.getElem?_eq_some_iff.1 kx2).1
  have HX2 := Lib.hid kx2
  have HC2 := Lib.hid (HC1.out.below hb2)
  have HB2 := Lib.hid (HB1.out.trans (hb2.mono HB1.out.size))
  have HL2 := Lib.hid hb2
  clear kx2 hb2 c10 c11 c12 c13 c14
  have HP2 := Lib.hid hpre
  have HU2 := Lib.hid hU
  clear hpre hU hO hob
  go_wp2_with fail
  refine (HR.out _ HC2.out).mono ?_
  rintro e w3 ⟨rfl, hb3⟩
  have kx3 := (hb3.block _ hl2).trans HX2.out
  have c30 := cell_of_heap kx3 0 _ rfl
  have c31 := cell_of_heap kx3 1 _ rfl
  have c32 := cell_of_heap kx3 2 _ rfl
  have c33 := cell_of_heap kx3 3 _ rfl
  have c34 := cell_of_heap kx3 4 _ rfl
  have hl3 := (Array.getElem?_eq_some_iff.1 kx3).1
  have HX3 := Lib.hid kx3
  have HC3 := Lib.hid (HC2.out.below hb3)
  have HB3 := Lib.hid (HB2.out.trans (hb3.mono HB2.out.size))
  have HL3 := Lib.hid hb3
  clear kx3 hb3 c20 c21 c22 c23 c24
  have HP3 := Lib.hid (Pre.later HP2.out HL3.out)
  go_upto_region 6 with fail
  go_cut [47] from 31 to 47 (fun s wx => NoB s ∧ Below w3.heap.size w3 wx)
  case first =>
    cases y with
    | false =>
      have HBZ := Lib.hid ((Below.refl w3.heap.size w3).drew)
      refine wp_region_noPanic ?_
      go_region_with (first
        | (refine (HE.out _ (HC3.out.below HB4.out)).mono ?_; rintro e w5 ⟨rfl, hb5⟩; have HB5 := Lib.hid (HB4.out.trans (hb5.mono HB4.out.size)); have kx5 := (HB5.out.block _ hl3).trans HX3.out; have c50 := cell_of_heap kx5 0 _ rfl; have c51 := cell_of_heap kx5 1 _ rfl; have c52 := cell_of_heap kx5 2 _ rfl; have c53 := cell_of_heap kx5 3 _ rfl; have c54 := cell_of_heap kx5 4 _ rfl; have hl5 := (Array.getElem?_eq_some_iff.1 kx5).1; clear kx5 hb5)
        | (refine (HD.out _ (HC3.out.below HBZ.out)).mono ?_; rintro e w4 ⟨rfl, hb4⟩; have HB4 := Lib.hid (HBZ.out.trans (hb4.mono HBZ.out.size)); have kx4 := (HB4.out.block _ hl3).trans HX3.out; have c40 := cell_of_heap kx4 0 _ rfl; have c41 := cell_of_heap kx4 1 _ rfl; have c42 := cell_of_heap kx4 2 _ rfl; have c43 := cell_of_heap kx4 3 _ rfl; have c44 := cell_of_heap kx4 4 _ rfl; have hl4 := (Array.getElem?_eq_some_iff.1 kx4).1; clear kx4 hb4))
      all_goals
        refine NoPanic.normal ?_
        go_wp2
        go_meet
        exact ⟨NoB.f, HB5.out⟩
    | true =>
      have HBZ := Lib.hid ((Below.refl w3.heap.size w3).drew)
      refine wp_region_noPanic ?_
      go_region_with (first
        | (refine (HE.out _ (HC3.out.below HB4.out)).mono ?_; rintro e w5 ⟨rfl, hb5⟩; have HB5 := Lib.hid (HB4.out.trans (hb5.mono HB4.out.size)); have kx5 := (HB5.out.block _ hl3).trans HX3.out; have c50 := cell_of_heap kx5 0 _ rfl; have c51 := cell_of_heap kx5 1 _ rfl; have c52 := cell_of_heap kx5 2 _ rfl; have c53 := cell_of_heap kx5 3 _ rfl; have c54 := cell_of_heap kx5 4 _ rfl; have hl5 := (Array.getElem?_eq_some_iff.1 kx5).1; clear kx5 hb5)
        | (refine (HD.out _ (HC3.out.below HBZ.out)).mono ?_; rintro e w4 ⟨rfl, hb4⟩; have HB4 := Lib.hid (HBZ.out.trans (hb4.mono HBZ.out.size)); have kx4 := (HB4.out.block _ hl3).trans HX3.out; have c40 := cell_of_heap kx4 0 _ rfl; have c41 := cell_of_heap kx4 1 _ rfl; have c42 := cell_of_heap kx4 2 _ rfl; have c43 := cell_of_heap kx4 3 _ rfl; have c44 := cell_of_heap kx4 4 _ rfl; have hl4 := (Array.getElem?_eq_some_iff.1 kx4).1; clear kx4 hb4))
      all_goals
        refine NoPanic.normal ?_
        go_wp2
        go_meet
        exact ⟨NoB.f, HB5.out⟩
  case rest =>
    obtain ⟨hs, hbc⟩ := hcut
    obtain rfl := hs
    have HBC := Lib.hid hbc
    have kxc := (hbc.block _ hl3).trans HX3.out
    have d0 := cell_of_heap kxc 0 _ rfl; have d1 := cell_of_heap kxc 1 _ rfl; have d2 := cell_of_heap kxc 2 _ rfl; have d3 := cell_of_heap kxc 3 _ rfl; have d4 := cell_of_heap kxc 4 _ rfl
    have hlc := (Array.getElem?_eq_some_iff.1 kxc).1
    clear kxc hbc c30 c31 c32 c33 c34
    go_wp2
    clear d0 d1 d2 d3 d4 hlc
    go_loopw [51] (fun ix wr => ∃ k : Nat, k ≤ N ∧ ix = .int .i64 k ∧ Below w3.heap.size w3 wr) (fun ix _ => N - (intOf ix).toNat)
    case atStart => exact ⟨0, by omega, rfl, HBC.out⟩
    case round =>
      obtain ⟨k, hk, rfl, hb⟩ := hrel
      have HBB := Lib.hid hb
      have kx := (hb.block _ hl3).trans HX3.out
      have d0 := cell_of_heap kx 0 _ rfl; have d1 := cell_of_heap kx 1 _ rfl; have d2 := cell_of_heap kx 2 _ rfl; have d3 := cell_of_heap kx 3 _ rfl; have d4 := cell_of_heap kx 4 _ rfl
      have hlr := (Array.getElem?_eq_some_iff.1 kx).1
      have HXR := Lib.hid kx
      have HCR := Lib.hid (HC3.out.below hb)
      have hsz := hb.size
      by_cases hlt : k < N
      · have hki : (k : Int) < N := by omega
        obtain ⟨v, hv⟩ : ∃ v, (abL N up)[k]? = some v := ⟨_, List.getElem?_eq_getElem (by rw [abL_len]; exact hlt)⟩
        have hcv := PreN.cell (Pre.later HP3.out hb) hv
        have hob := World.block_lt_of_cell? _ _ hcv
        have HCV := Lib.hid hcv
        have HVV : Hid (∀ X, RdI X C f.code → Calls Try.prog 22 #[.agg #[.string f.nm, .int .i64 f.ps, .int .i64 f.R, .int .i64 f.Fr, .slice C N cap], .int .i64 (k : Int)] X fun e w' => e = .returned (.int .i64 v) ∧ Below X.heap.size X w') := Lib.hid fun X hX => (HV.out k X hX).mono fun e w' ⟨⟨r, h1, h2⟩, h3⟩ => ⟨by
          have := HI.out _ up HU2.out k hlt r h1
          rw [hv] at this
          injection this with this
          rw [h2, this], h3⟩
        clear hb kx hv
        go_upto_region 11 with fail
        refine wp_region_noPanic ?_
        have HBZ := Lib.hid ((Below.refl wr.heap.size wr).drew)
        go_region_with (first
          | (refine (HVV.out _ (HCR.out.below HBZ.out)).mono ?_; rintro e w7 ⟨rfl, hb7⟩; have HB7 := Lib.hid (HBZ.out.trans (hb7.mono HBZ.out.size)); have hcv7 := (HB7.out.cell (p := ⟨ob, _, none⟩) hob).trans HCV.out; clear hb7))
        all_goals
          refine NoPanic.normal ?_
          go_wp2
          exact ⟨⟨k + 1, by omega, by go_num, HBB.out.trans (HB7.out.mono hsz)⟩, by simp [intOf]; omega⟩
      · obtain rfl : N = k := by omega
        clear hb kx
        go_wp2_with fail
        refine (HAW.out _).mono ?_
        rintro e w9 ⟨rfl, hb9⟩
        have hbb := HB3.out.trans (HBB.out.mono HB3.out.size)
        go_wp2
        go_returns
        exact ⟨rfl, hbb.trans (hb9.mono hbb.size)⟩
theorem GraphDominates_any (f : Fn7) (C : Option Addr) (cap : Nat) (hl9 : f.code.length ≤ 9223372036854775807) (a b : Int) (w : World) (hC : RdI w C f.code) :
    Calls Try.prog 4 #[funcAgg f.nm f.ps f.R f.Fr C f.code.length cap, .int .i64 a, .int .i64 b] w fun e w' => e = .returned (.bool true) ∧ Below w.heap.size w w' := by
  by_cases hf : Fw9 f
  · by_cases hok : OkF f
    · exact dom_good f hf hok a b C cap hl9 w hC
    · exact dom_bad f hf hok a b C cap hl9 w hC
  · exact dom_few f hf a b C cap hl9 w hC
end Go.Proofs.Ytgdbkoncaojmoaa
