import Derived.Test.YtaofdbboalcceaaVz
import Derived.Deep.CutRange
import Derived.Deep.RegionWith
/- LiveSteps: the walk. -/
namespace Go.Proofs.Ytaofdbboalcceaa
open Go.RowKit Go.BigFrame

set_option maxRecDepth 1000000 in
set_option maxHeartbeats 8000000 in
theorem steps_few (f : Fn7) (hf : ¬ Few f) (C : Option Addr) (cap : Nat) (hl9 : f.code.length ≤ 9223372036854775807) (w : World) (hC : RdI w C f.code) :
    Calls Try.prog 12 #[funcAgg f.nm f.ps f.R f.Fr C f.code.length cap] w fun e w' => e = .returned (.bool true) ∧ Below w.heap.size w w' := by
  have hB := Below.one w (funcObj f.nm f.ps f.R f.Fr C f.code.length cap)
  have hF := few10_no f hf C cap hl9 _ (hC.below hB)
  have ha := fun W => awake10_any W
  simp only [funcObj, funcAgg] at hB hF ⊢
  have HF := Lib.hid hF
  have HA := Lib.hid ha
  clear hf hC hF ha hl9
  go_enter Try.func12, Try.ntmps12
  go_wp2_with (first
    | (refine HF.out.mono ?_; rintro e w3 ⟨rfl, hb3⟩)
    | (refine (HA.out _).mono ?_; rintro e w4 ⟨rfl, hb4⟩))
  go_returns
  exact ⟨rfl, hB.trans ((hb3.trans (hb4.mono hb3.size)).mono hB.size)⟩
set_option maxRecDepth 1000000 in
set_option maxHeartbeats 8000000 in
theorem steps_bad (f : Fn7) (hf : Few f) (hno : ¬ OkF f) (C : Option Addr) (cap : Nat) (hl9 : f.code.length ≤ 9223372036854775807) (w : World) (hC : RdI w C f.code) :
    Calls Try.prog 12 #[funcAgg f.nm f.ps f.R f.Fr C f.code.length cap] w fun e w' => e = .returned (.bool true) ∧ Below w.heap.size w w' := by
  have hB := Below.one w (funcObj f.nm f.ps f.R f.Fr C f.code.length cap)
  have bx := heap_alloc_new w (funcObj f.nm f.ps f.R f.Fr C f.code.length cap)
  have hC1 := hC.below hB
  have hF := few10_yes f hf C cap hl9 _ hC1
  have hR := fun W h => refRight_no f hno C cap W h
  have ha := fun W => awake10_any W
  simp only [funcObj, funcAgg] at hB hF bx hC1 hR ⊢
  have HF := Lib.hid hF
  have HA := Lib.hid ha
  have HR := Lib.hid hR
  have HC1 := Lib.hid hC1
  obtain ⟨W, hW⟩ : ∃ W, w.alloc (.cells #[.string f.nm, .int .i64 f.ps, .int .i64 f.R, .int .i64 f.Fr, .slice C f.code.length cap] 24) = W := ⟨_, rfl⟩
  rw [hW] at bx HC1 HF
  have HB := Lib.hid (show Below w.heap.size w W by rw [← hW]; exact hB)
  have HBX := Lib.hid bx
  have hBl := (Array.getElem?_eq_some_iff.1 bx).1
  have g0 := cell_of_heap bx 0 _ rfl
  have g1 := cell_of_heap bx 1 _ rfl
  have g2 := cell_of_heap bx 2 _ rfl
  have g3 := cell_of_heap bx 3 _ rfl
  have g4 := cell_of_heap bx 4 _ rfl
  clear hf hC hF ha hl9 hR hC1 bx hB hno
  go_enter Try.func12, Try.ntmps12
  go_wp2_with fail
  refine HF.out.mono ?_
  rintro e w3 ⟨rfl, hb3⟩
  have hx3 := (hb3.block _ hBl).trans HBX.out
  have h0 := cell_of_heap hx3 0 _ rfl
  have h1 := cell_of_heap hx3 1 _ rfl
  have h2 := cell_of_heap hx3 2 _ rfl
  have h3 := cell_of_heap hx3 3 _ rfl
  have h4 := cell_of_heap hx3 4 _ rfl
  go_wp2_with fail
  refine (HR.out _ (HC1.out.below hb3)).mono ?_
  rintro e w5 ⟨rfl, hb5⟩
  go_wp2_with fail
  refine (HA.out _).mono ?_
  rintro e w7 ⟨rfl, hb7⟩
  go_wp2
  go_returns
  exact ⟨rfl, HB.out.trans (((hb3.trans (hb5.mono hb3.size)).trans (hb7.mono (Nat.le_trans hb3.size hb5.size))).mono HB.out.size)⟩
set_option maxRecDepth 1000000 in
set_option maxHeartbeats 16000000 in
theorem steps_good (f : Fn7) (hf : Few f) (hok : OkF f) (C : Option Addr) (cap : Nat) (hl9 : f.code.length ≤ 9223372036854775807) (w : World) (hC : RdI w C f.code) :
    Calls Try.prog 12 #[funcAgg f.nm f.ps f.R f.Fr C f.code.length cap] w fun e w' => e = .returned (.bool true) ∧ Below w.heap.size w w' := by
  obtain ⟨N, hN⟩ : ∃ N, f.code.length = N := ⟨_, rfl⟩
  have hN2 : N ≤ 8192 := by rw [← hN]; exact hok.len.2
  have hR0 : 0 ≤ f.R ∧ f.R ≤ 4096 := by have := hok.R; have := hok.ps; omega
  have hB := Below.one w (funcObj f.nm f.ps f.R f.Fr C f.code.length cap)
  have bx := heap_alloc_new w (funcObj f.nm f.ps f.R f.Fr C f.code.length cap)
  have hC1 := hC.below hB
  have hF := few10_yes f hf C cap hl9 _ hC1
  have hD := fun W h => Ahead_yes f hok C cap W h
  have hE := fun W h => Behind_yes f hok C cap W h
  have hR := fun W h => refRight_yes f hok C cap W h
  have hRA := fun (m : Nat) (hm : m < f.code.length) r W h => refAhead_any f hok m hm r C cap W h
  have hRB := fun (m : Nat) (hm : m < f.code.length) r W h => refBehind_any f hok m hm r C cap W h
  have ha := fun W => awake10_any W
  rw [hN] at hB hF bx hC1 hD hE hR hRA hRB ⊢
  have HBX0 := Lib.hid bx
  have HRA := Lib.hid hRA
  have HRB := Lib.hid hRB
  simp only [funcObj, funcAgg] at hB hF bx hC1 hD hE hR ⊢
  have HF := Lib.hid hF
  have HA := Lib.hid ha
  have HD := Lib.hid hD
  have HE := Lib.hid hE
  have HR := Lib.hid hR
  have HC1 := Lib.hid hC1
  have HOK := Lib.hid hok
  have HN := Lib.hid hN
  obtain ⟨W, hW⟩ : ∃ W, w.alloc (.cells #[.string f.nm, .int .i64 f.ps, .int .i64 f.R, .int .i64 f.Fr, .slice C N cap] 24) = W := ⟨_, rfl⟩
  rw [hW] at bx HC1 HF
  have HB := Lib.hid (show Below w.heap.size w W by rw [← hW]; exact hB)
  have HBX := Lib.hid bx
  have hBl := (Array.getElem?_eq_some_iff.1 bx).1
  have g0 := cell_of_heap bx 0 _ rfl
  have g1 := cell_of_heap bx 1 _ rfl
  have g2 := cell_of_heap bx 2 _ rfl
  have g3 := cell_of_heap bx 3 _ rfl
  have g4 := cell_of_heap bx 4 _ rfl
  clear hf hC hF ha hl9 hD hE hR hC1 bx hB hok hN hRA hRB
  go_enter Try.func12, Try.ntmps12
  go_wp2_with fail
  refine HF.out.mono ?_
  rintro e w2 ⟨rfl, hb2⟩
  have hx2 := (hb2.block _ hBl).trans HBX.out
  have h0 := cell_of_heap hx2 0 _ rfl
  have h1 := cell_of_heap hx2 1 _ rfl
  have h2 := cell_of_heap hx2 2 _ rfl
  have h3 := cell_of_heap hx2 3 _ rfl
  have h4 := cell_of_heap hx2 4 _ rfl
  have hrc2 := Lib.hid (HC1.out.below hb2)
  clear hx2
  go_wp2_with fail
  refine (HR.out _ hrc2.out).mono ?_
  rintro e w3 ⟨rfl, hb3'⟩
  have hb3 := hb2.trans (hb3'.mono hb2.size)
  clear h0 h1 h2 h3 h4 hb3' hb2
  have hx3 := (hb3.block _ hBl).trans HBX.out
  have h0 := cell_of_heap hx3 0 _ rfl
  have h1 := cell_of_heap hx3 1 _ rfl
  have h2 := cell_of_heap hx3 2 _ rfl
  have h3 := cell_of_heap hx3 3 _ rfl
  have h4 := cell_of_heap hx3 4 _ rfl
  have HX3 := Lib.hid hx3
  have hl3 := (Array.getElem?_eq_some_iff.1 hx3).1
  have HC3 := Lib.hid (HC1.out.below hb3)
  have HB3 := Lib.hid hb3
  clear g0 g1 g2 g3 g4 hW hx3 hb3
  go_upto_region 3 with (fail)
  go_cut [3, 4] from 21 to 24 (fun s t wx => Both10 f N w3 s t wx)
  case first =>
    refine wp_region_noPanic ?_
    have hd0 : Below w3.heap.size w3 w3.drew := (Below.refl _ _).drew
    have HD0 := Lib.hid hd0
    clear hd0
    go_region_with (first
      | (go_at_call 39; refine (HD.out _ (HC3.out.below (by first | exact HD0.out | exact hbB))).mono ?_; rintro e wA ⟨⟨oa, rfl, hrkA⟩, hbA'⟩; have hbA : Below w3.heap.size w3 wA := (by first | exact HD0.out.trans hbA' | exact hbB.trans (hbA'.mono hbB.size)); have HKA := Lib.hid hrkA; have hxA := (hbA.block _ hl3).trans HX3.out; have h0 := cell_of_heap hxA 0 _ rfl; have h1 := cell_of_heap hxA 1 _ rfl; have h2 := cell_of_heap hxA 2 _ rfl; have h3 := cell_of_heap hxA 3 _ rfl; have h4 := cell_of_heap hxA 4 _ rfl; clear hxA hrkA)
      | (go_at_call 40; refine (HE.out _ (HC3.out.below (by first | exact HD0.out | exact hbA))).mono ?_; rintro e wB ⟨⟨ob, rfl, hrkB⟩, hbB'⟩; have hbB : Below w3.heap.size w3 wB := (by first | exact HD0.out.trans hbB' | exact hbA.trans (hbB'.mono hbA.size)); have HKB := Lib.hid hrkB; have hxB := (hbB.block _ hl3).trans HX3.out; have h0 := cell_of_heap hxB 0 _ rfl; have h1 := cell_of_heap hxB 1 _ rfl; have h2 := cell_of_heap hxB 2 _ rfl; have h3 := cell_of_heap hxB 3 _ rfl; have h4 := cell_of_heap hxB 4 _ rfl; clear hxB hrkB))
    all_goals
      have HQ : Both10 f N w3 (.slice (some ⟨oa, 0, none⟩) N N) (.slice (some ⟨ob, 0, none⟩) N N) _ := ⟨oa, ob, rfl, rfl, (by first | exact HKA.out.later (hbB'.mono (by first | exact Nat.le_refl _ | omega)) | exact HKA.out), (by first | exact HKB.out | exact HKB.out.later hbA'), (by first | exact hbB | exact hbA)⟩
      refine NoPanic.normal ?_
      go_wp2
      go_meet
      exact HQ
  case rest =>
    obtain ⟨oa, ob, rfl, rfl, hka, hkb, hbc⟩ := hcut
    have hbW := HB3.out.trans (hbc.mono HB3.out.size)
    have hxc := (hbW.block _ hBl).trans HBX.out
    have c0 := cell_of_heap hxc 0 _ rfl
    have c1 := cell_of_heap hxc 1 _ rfl
    have c2 := cell_of_heap hxc 2 _ rfl
    have c3 := cell_of_heap hxc 3 _ rfl
    have c4 := cell_of_heap hxc 4 _ rfl
    have hrc := Lib.hid (HC1.out.below hbW)
    have HKA := Lib.hid hka
    have HKB := Lib.hid hkb
    have HBW := Lib.hid hbW
    have hlc := (Array.getElem?_eq_some_iff.1 hxc).1
    have HXC := Lib.hid hxc
    clear hka hkb hbW hxc hbc h0 h1 h2 h3 h4
    go_wp2
    have HB6 := HBW
    go_loopw [42] (fun ix wr => ∃ k : Nat, k ≤ N ∧ ix = .int .i64 k ∧ Below wc.heap.size wc wr) (fun ix _ => N - (intOf ix).toNat)
    case atStart => exact ⟨0, by omega, rfl, Below.refl _ _⟩
    case round =>
      obtain ⟨k, hk, rfl, hb⟩ := hrel
      have hbW := HB6.out.trans (hb.mono HB6.out.size)
      by_cases hlt : k < N
      · have hx := (hb.block _ hlc).trans HXC.out
        have g2 := cell_of_heap hx 2 (.int .i64 f.R) rfl
        obtain ⟨Rn, hRn⟩ : ∃ Rn : Nat, f.R = (Rn : Int) := ⟨f.R.toNat, (Int.toNat_of_nonneg hR0.1).symm⟩
        rw [hRn] at g2
        have hRn4 : Rn ≤ 4096 := by omega
        clear hRn
        have hxl := (Array.getElem?_eq_some_iff.1 hx).1
        obtain ⟨i, hi⟩ : ∃ i, f.code[k]? = some i := ⟨_, List.getElem?_eq_getElem (by rw [HN.out]; exact hlt)⟩
        obtain ⟨bb, oo, rfl, hbl, hcs⟩ := (HC1.out.below hbW) k i hi
        obtain ⟨x0, x1, x2, x3, x4, x5, x6, x7, x8, x9, x10, x11, x12, x13, x14⟩ := RdI.load hcs
        have HBB := Lib.hid hb
        have HBW2 := Lib.hid hbW
        have HI := Lib.hid hi
        have hb1 := hb.trans ((Below.one wr i.obj).mono hb.size)
        have HKA1 := Lib.hid (HKA.out.later hb1)
        have HKB1 := Lib.hid (HKB.out.later hb1)
        have HB1 := Lib.hid hb1
        have hkx := heap_alloc_new wr i.obj
        have HKX := Lib.hid hkx
        obtain ⟨kk, op, dst, a', b', n, text, r0, r1, r2, r3, r4, r5, to_, els⟩ := i
        simp only [Ins.obj] at x0 x1 x2 x3 x4 x5 x6 x7 x8 x9 x10 x11 x12 x13 x14 HKA1 HKB1 HB1
        clear hx hb hbW hi hb1 hkx hcs
        go_wp2
        refine ls2_any f HOK.out Rn N k oa ob wr.heap.size hRn4 HN.out hlt _ HI.out _ HKA1.out HKB1.out HKX.out _ _ _ _ _ _ _ _ _ _ _ _ _ _ _ _ _ _ _ _ _ _ _ _ _ _ _ _ _ _ _ _ _ _ _ _ _ _ _ _ _ _ _ _ _ _ _ _ _ _ _ _ _ _ _ _ _ _ _ _ _ _ _ _ _ _ _ _ _ _ _ _ _ _ _ _ _ _ _ _ _ _ _ _ _ _ _ _ _ _ _ _ _ _ _ _ _ _ _ _ _ _ _ _ ?_
        intro z2 z7 z8 z9 z11 z50 z51 z52 z53 z54 z55 z56 z57 z58 z59 z60 z61 z62 z63 z64 z65 z66 z67 z68 z69 z70 z71 z72 z73 z74 z75 z76 z77 z78 z79 z80 z81 z82 z83 z84 z85 z86 z87 z88 z89 z90 z91 z92 z93 z94 z95 z96 z97 z98 z99 z100 z101 z102 z103 z104 z105 z106 w8 hb8
        have HB8 := Lib.hid (HB1.out.trans (hb8.mono HB1.out.size))
        clear hb8
        go_wp2
        exact ⟨⟨k + 1, by omega, by go_num, HB8.out⟩, by simp [intOf]; omega⟩
      · obtain rfl : k = N := by omega
        have HBW2 := Lib.hid hbW
        clear hb hbW
        go_wp2_with (first
          | (refine (HA.out _).mono ?_; rintro e w7 ⟨rfl, hb7⟩))
        go_returns
        exact ⟨rfl, HB.out.trans ((HBW2.out.trans (hb7.mono HBW2.out.size)).mono HB.out.size)⟩
theorem LiveSteps_any (f : Fn7) (C : Option Addr) (cap : Nat) (hl9 : f.code.length ≤ 9223372036854775807) (w : World) (hC : RdI w C f.code) :
    Calls Try.prog 12 #[funcAgg f.nm f.ps f.R f.Fr C f.code.length cap] w fun e w' => e = .returned (.bool true) ∧ Below w.heap.size w w' := by
  by_cases hf : Few f
  · by_cases hok : OkF f
    · exact steps_good f hf hok C cap hl9 w hC
    · exact steps_bad f hf hok C cap hl9 w hC
  · exact steps_few f hf C cap hl9 w hC
end Go.Proofs.Ytaofdbboalcceaa
