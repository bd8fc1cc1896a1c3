import Derived.Test.YtgdbkoncaojmoaaEo
/- GraphEdges, at a function that may be. -/
namespace Go.Proofs.Ytgdbkoncaojmoaa
open Go.RowKit Go.BigFrame

set_option maxRecDepth 1000000 in
set_option maxHeartbeats 16000000 in
theorem edges_good (f : Fn7) (hf : Fw9 f) (hok : OkF f) (C : Option Addr) (cap : Nat) (hl9 : f.code.length ≤ 9223372036854775807) (w : World) (hC : RdI w C f.code) :
    Calls Try.prog 3 #[funcAgg f.nm f.ps f.R f.Fr C f.code.length cap] w fun e w' => e = .returned (.bool true) ∧ Below w.heap.size w w' := by
  have hB := Below.one w (funcObj f.nm f.ps f.R f.Fr C f.code.length cap)
  have bx := heap_alloc_new w (funcObj f.nm f.ps f.R f.Fr C f.code.length cap)
  have hC1 := hC.below hB
  have hA := fun W => awake9_any W
  obtain ⟨O, hO1, hO2⟩ := ord_of hok
  have hO3 : OrdIs f O := hO2
  have hON : O.length ≤ f.code.length := nodup_leN _ O hO1.nd hO1.lt
  obtain ⟨M, hM⟩ : ∃ M, O.length = M := ⟨_, rfl⟩
  rw [hM] at hON
  have hF := fun W h => few9_yes f hf C cap hl9 W h
  have hBF := fun W h => Before_yes f hok C cap W h
  have hE := fun W h => gReached_yes f hok C cap W h
  have hO : ∀ W, RdI W C f.code → Calls Try.prog 13 #[funcAgg f.nm f.ps f.R f.Fr C f.code.length cap] W fun e w' => (∃ A c, e = .returned (.slice A M c) ∧ RdN w' A (asI O)) ∧ Below W.heap.size W w' := fun W h => (gOrder_yes f hok C cap W h).mono fun e w' ⟨⟨O', A, c, h1, h2, h3, _, _⟩, h4⟩ => ⟨⟨A, c, by rw [h2, h1.uniq hO3, hM], by rw [← h1.uniq hO3]; exact h3⟩, h4⟩
  have hRO : ∀ W, RdI W C f.code → Calls Try.prog 16 #[funcAgg f.nm f.ps f.R f.Fr C f.code.length cap] W fun e w' => (∃ A c, e = .returned (.slice A M c) ∧ RdN w' A (asI O)) ∧ Below W.heap.size W w' := fun W h => (rOrder_any f hok C cap W h).mono fun e w' ⟨⟨O', A, c, h1, h2, h3⟩, h4⟩ => ⟨⟨A, c, by rw [h2, h1.uniq hO3, hM], by rw [← h1.uniq hO3]; exact h3⟩, h4⟩
  have hR := fun W h => rr9_yes f hok C cap W h
  have hN2 := hok.len.2
  have hRB := fun (n : Nat) W h => rBefore_any f hok n C cap W h
  have hRE : ∀ (n : Nat) W, RdI W C f.code → Calls Try.prog 18 #[funcAgg f.nm f.ps f.R f.Fr C f.code.length cap, .int .i64 (n : Int)] W fun e w' => e = .returned (.bool (tb (R0 (Eg f.code) n))) ∧ Below W.heap.size W w' := fun n W h => (Reached_any f hok n C cap W h).mono fun e w' ⟨h1, h2⟩ => ⟨by rw [h1, show tb (Rch f.code n) = tb (R0 (Eg f.code) n) from by rw [Bool.eq_iff_iff, tb_true, tb_true]; exact Rch_r0 hok], h2⟩
  obtain ⟨N, hN⟩ : ∃ N, f.code.length = N := ⟨_, rfl⟩
  rw [hN] at hB bx hC1 hF hBF hE hO hRO hR hN2 hON hRB hRE ⊢
  simp only [funcObj, funcAgg] at hB bx hC1 hF hBF hE hO hRO hR hN2 hON hRB hRE ⊢
  obtain ⟨W, hW⟩ : ∃ W, w.alloc (.cells #[.string f.nm, .int .i64 f.ps, .int .i64 f.R, .int .i64 f.Fr, .slice C N cap] 24) = W := ⟨_, rfl⟩
  rw [hW] at bx hC1 hB
  have HC0 := Lib.hid hC1
  have HB0 := Lib.hid hB
  have HX0 := Lib.hid bx
  have hl0 := (Array.getElem?_eq_some_iff.1 bx).1
  have HAW := Lib.hid hA
  have c00 := cell_of_heap bx 0 _ rfl
  have c01 := cell_of_heap bx 1 _ rfl
  have c02 := cell_of_heap bx 2 _ rfl
  have c03 := cell_of_heap bx 3 _ rfl
  have c04 := cell_of_heap bx 4 _ rfl
  have HF := Lib.hid hF
  have HBF := Lib.hid hBF
  have HE := Lib.hid hE
  have HO := Lib.hid hO
  have HRO2 := Lib.hid hRO
  have HR := Lib.hid hR
  have HRB := Lib.hid hRB
  have HRE := Lib.hid hRE
  have HSO : Hid (∀ A A' c c' X, RdN X A (asI O) → RdN X A' (asI O) → Calls Try.prog 15 #[.slice A M c, .slice A' M c'] X fun e w' => e = .returned (.bool true) ∧ Below X.heap.size X w') := Lib.hid fun A A' c c' X h1 h2 => by
    have hl : (asI O).length = M := by unfold asI; rw [List.length_map, hM]
    have := same9_self A A' (asI O) c c' X h1 h2 (by rw [hl]; omega)
    rw [hl] at this
    exact this
  clear hf hN hC hC1 hB bx hF hA hBF hE hO hRO hR hRB hRE hok hl9 hO1 hO2 hO3 hM
  go_enter Try.func3, Try.ntmps3
  go_wp2_with fail
  refine (HF.out _ HC0.out).mono ?_
  rintro e w1 ⟨rfl, hb1⟩
  have kx1 := (hb1.block _ hl0).trans HX0.out
  have c10 := cell_of_heap kx1 0 _ rfl
  have c11 := cell_of_heap kx1 1 _ rfl
  have c12 := cell_of_heap kx1 2 _ rfl
  have c13 := cell_of_heap kx1 3 _ rfl
  have c14 := cell_of_heap kx1 4 _ rfl
  have hl1 := (Array.getElem?_eq_some_iff.1 kx1).1
  have HX1 := Lib.hid kx1
  have HC1 := Lib.hid (HC0.out.below hb1)
  have HB1 := Lib.hid (HB0.out.trans (hb1.mono HB0.out.size))
  have HL1 := Lib.hid hb1
  clear kx1 hb1 c00 c01 c02 c03 c04
  go_upto_region 3 with fail
  go_cut [3, 4, 5] from 11 to 16 (fun s t u wx => EdA f N M O w1 s t u wx)
  case first =>
    refine wp_region_noPanic ?_
    have HBZ := Lib.hid ((Below.refl w1.heap.size w1).drew)
    go_region_with (first
      | (go_at_call 13; refine (HO.out _ (HC1.out.below HBr.out)).mono ?_; rintro e wo ⟨⟨A, c, rfl, hro⟩, hbo⟩; have HLo := Lib.hid hbo; have HRO := Lib.hid hro; clear hro; have HBo := Lib.hid (HBr.out.trans (hbo.mono HBr.out.size)); have kxo := (HBo.out.block _ hl1).trans HX1.out; have co0 := cell_of_heap kxo 0 _ rfl; have co1 := cell_of_heap kxo 1 _ rfl; have co2 := cell_of_heap kxo 2 _ rfl; have co3 := cell_of_heap kxo 3 _ rfl; have co4 := cell_of_heap kxo 4 _ rfl; have hlo := (Array.getElem?_eq_some_iff.1 kxo).1; clear kxo hbo)
      | (go_at_call 12; refine (HE.out _ (HC1.out.below HBb.out)).mono ?_; rintro e wr ⟨⟨rb, rfl, _, hpr⟩, hbr⟩; have HLr := Lib.hid hbr; have HPR := Lib.hid hpr; clear hpr; have HBr := Lib.hid (HBb.out.trans (hbr.mono HBb.out.size)); have kxr := (HBr.out.block _ hl1).trans HX1.out; have cr0 := cell_of_heap kxr 0 _ rfl; have cr1 := cell_of_heap kxr 1 _ rfl; have cr2 := cell_of_heap kxr 2 _ rfl; have cr3 := cell_of_heap kxr 3 _ rfl; have cr4 := cell_of_heap kxr 4 _ rfl; have hlr := (Array.getElem?_eq_some_iff.1 kxr).1; clear kxr hbr)
      | (go_at_call 11; refine (HBF.out _ (HC1.out.below HBZ.out)).mono ?_; rintro e wb ⟨⟨ob, rfl, _, hrl, hrr, _⟩, hbb⟩; have HLb := Lib.hid hbb; have HRL := Lib.hid hrl; have HRR := Lib.hid hrr; clear hrl hrr; have HBb := Lib.hid (HBZ.out.trans (hbb.mono HBZ.out.size)); have kxb := (HBb.out.block _ hl1).trans HX1.out; have cb0 := cell_of_heap kxb 0 _ rfl; have cb1 := cell_of_heap kxb 1 _ rfl; have cb2 := cell_of_heap kxb 2 _ rfl; have cb3 := cell_of_heap kxb 3 _ rfl; have cb4 := cell_of_heap kxb 4 _ rfl; have hlb := (Array.getElem?_eq_some_iff.1 kxb).1; clear kxb hbb))
    all_goals
      have HQ : EdA f N M O w1 (.slice (some ⟨ob, 0, none⟩) N N) (.slice (some ⟨rb, 0, none⟩) N N) (.slice A M c) _ := ⟨ob, rb, A, c, rfl, (HRR.out.below HLr.out).below HLo.out, rfl, Pre.later HPR.out HLo.out, rfl, HRO.out, HBo.out⟩
      refine NoPanic.normal ?_
      go_wp2
      go_meet
      exact HQ
  case rest =>
    obtain ⟨ob, rb, A, c, rfl, hrr, rfl, hpr, rfl, hro, hbc⟩ := hcut
    rename_i w2
    have HB2 := Lib.hid (HB1.out.trans (hbc.mono HB1.out.size))
    have kx2 := (hbc.block _ hl1).trans HX1.out
    have c20 := cell_of_heap kx2 0 _ rfl; have c21 := cell_of_heap kx2 1 _ rfl; have c22 := cell_of_heap kx2 2 _ rfl; have c23 := cell_of_heap kx2 3 _ rfl; have c24 := cell_of_heap kx2 4 _ rfl
    have hl2 := (Array.getElem?_eq_some_iff.1 kx2).1
    have HX2 := Lib.hid kx2
    have HC2 := Lib.hid (HC1.out.below hbc)
    have HRR2 := Lib.hid hrr
    have HPR2 := Lib.hid hpr
    have HRO3 := Lib.hid hro
    clear hbc kx2 hrr hpr hro c10 c11 c12 c13 c14
    go_wp2_with fail
    refine (HR.out _ HC2.out).mono ?_
    rintro e w3 ⟨rfl, hb3⟩
    have kx3 := (hb3.block _ hl2).trans HX2.out
    have c30 := cell_of_heap kx3 0 _ rfl
    have c31 := cell_of_heap kx3 1 _ rfl
    have c32 := cell_of_heap kx3 2 _ rfl
    have c33 := cell_of_heap kx3 3 _ rfl
    have c34 := cell_of_heap kx3 4 _ rfl
    have hl3 := (Array.getElem?_eq_some_iff.1 kx3).1
    have HX3 := Lib.hid kx3
    have HC3 := Lib.hid (HC2.out.below hb3)
    have HB3 := Lib.hid (HB2.out.trans (hb3.mono HB2.out.size))
    have HL3 := Lib.hid hb3
    clear kx3 hb3 c20 c21 c22 c23 c24
    have HRO4 := Lib.hid (HRO3.out.below HL3.out)
    have HRR3 := Lib.hid (HRR2.out.below HL3.out)
    have HPR3 := Lib.hid (Pre.later HPR2.out HL3.out)
    go_wp2_with (first
      | (refine (HSO.out _ _ _ _ _ (HRO4.out.below HL4.out) HR4.out).mono ?_; rintro e w5 ⟨rfl, hb5⟩; have HB35 := Lib.hid (HB34.out.trans (hb5.mono HB34.out.size)); have kx5 := (HB35.out.block _ hl3).trans HX3.out; have c50 := cell_of_heap kx5 0 _ rfl; have c51 := cell_of_heap kx5 1 _ rfl; have c52 := cell_of_heap kx5 2 _ rfl; have c53 := cell_of_heap kx5 3 _ rfl; have c54 := cell_of_heap kx5 4 _ rfl; have hl5 := (Array.getElem?_eq_some_iff.1 kx5).1; clear kx5 hb5)
      | (refine (HRO2.out _ HC3.out).mono ?_; rintro e w4 ⟨⟨A4, c4, rfl, hr4⟩, hb4⟩; have HR4 := Lib.hid hr4; have HL4 := Lib.hid hb4; have HB34 := Lib.hid hb4; clear hr4 hb4))
    clear c50 c51 c52 c53 c54 c30 c31 c32 c33 c34
    go_loopw [56] (fun ix wr => ∃ k : Nat, k ≤ N ∧ ix = .int .i64 k ∧ Below w3.heap.size w3 wr) (fun ix _ => N - (intOf ix).toNat)
    case atStart => exact ⟨0, by omega, rfl, HB35.out⟩
    case round =>
      obtain ⟨k, hk, rfl, hb⟩ := hrel
      have HBB := Lib.hid hb
      have kx := (hb.block _ hl3).trans HX3.out
      have d0 := cell_of_heap kx 0 _ rfl; have d1 := cell_of_heap kx 1 _ rfl; have d2 := cell_of_heap kx 2 _ rfl; have d3 := cell_of_heap kx 3 _ rfl; have d4 := cell_of_heap kx 4 _ rfl
      have hlr := (Array.getElem?_eq_some_iff.1 kx).1
      have HXR := Lib.hid kx
      have HCR := Lib.hid (HC3.out.below hb)
      have hsz := hb.size
      by_cases hlt : k < N
      · have hki : (k : Int) < N := by omega
        obtain ⟨A1, c1, hbc, hrd⟩ := (HRR3.out.below hb) k hlt
        have hpc := PreB.cell (Pre.later HPR3.out hb) (bl_get (m := fun p => tb (R0 (Eg f.code) p)) hlt)
        have hob := World.block_lt_of_cell? _ _ hbc
        have hrb := World.block_lt_of_cell? _ _ hpc
        unfold bfB at hbc hrd
        have hq1 := fun W h => HRB.out k W h
        have hq2 := fun W h => HRE.out k W h
        have hul := upL_len N (fun q => Eg f.code q k)
        obtain ⟨l, hl⟩ : ∃ l, upL N (fun q => Eg f.code q k) = l := ⟨_, rfl⟩
        obtain ⟨y, hy⟩ : ∃ y, tb (R0 (Eg f.code) k) = y := ⟨_, rfl⟩
        rw [hl] at hbc hrd hq1 hul
        rw [hy] at hpc hq2
        unfold SlN at hq1
        obtain ⟨Ln, hLn⟩ : ∃ Ln, l.length = Ln := ⟨_, rfl⟩
        rw [hLn] at hbc hq1 hul
        have HQ1 := Lib.hid hq1
        have HQ2 := Lib.hid hq2
        have HBC := Lib.hid hbc
        have HPC := Lib.hid hpc
        have HRD := Lib.hid hrd
        have HS : Hid (∀ A A' c c' X, RdN X A l → RdN X A' l → Calls Try.prog 15 #[.slice A Ln c, .slice A' Ln c'] X fun e w' => e = .returned (.bool true) ∧ Below X.heap.size X w') := Lib.hid fun A A' c c' X h1 h2 => by
          have := same9_self A A' l c c' X h1 h2 (by omega)
          rw [hLn] at this
          exact this
        clear hb kx hq1 hq2 hl hy hLn hrd
        go_upto_region 11 with fail
        refine wp_region_noPanic ?_
        have HBZ := Lib.hid ((Below.refl wr.heap.size wr).drew)
        go_region_with (first
          | (go_at_call 18; refine (HQ2.out _ (HCR.out.below HB8.out)).mono ?_; rintro e w9 ⟨rfl, hb9⟩; have hpc9 := ((hb9.mono HB8.out.size).cell (p := ⟨rb, _, none⟩) hrb).trans hpc8; have HB9 := Lib.hid (HB8.out.trans (hb9.mono HB8.out.size)); clear hb9)
          | (go_at_call 15; refine (HS.out _ _ _ _ _ (HRD.out.below HB7.out) HR7.out).mono ?_; rintro e w8 ⟨rfl, hb8⟩; have HB8 := Lib.hid (HB7.out.trans (hb8.mono HB7.out.size)); have kx8 := (HB8.out.block _ hlr).trans HXR.out; have c80 := cell_of_heap kx8 0 _ rfl; have c81 := cell_of_heap kx8 1 _ rfl; have c82 := cell_of_heap kx8 2 _ rfl; have c83 := cell_of_heap kx8 3 _ rfl; have c84 := cell_of_heap kx8 4 _ rfl; have hl8 := (Array.getElem?_eq_some_iff.1 kx8).1; clear kx8 hb8; have hpc8 := (HB8.out.cell (p := ⟨rb, _, none⟩) hrb).trans HPC.out)
          | (go_at_call 17; refine (HQ1.out _ (HCR.out.below HBZ.out)).mono ?_; rintro e w7 ⟨⟨A7, c7, rfl, hr7⟩, hb7⟩; have HR7 := Lib.hid hr7; have HB7 := Lib.hid (HBZ.out.trans (hb7.mono HBZ.out.size)); have kx7 := (HB7.out.block _ hlr).trans HXR.out; have c70 := cell_of_heap kx7 0 _ rfl; have c71 := cell_of_heap kx7 1 _ rfl; have c72 := cell_of_heap kx7 2 _ rfl; have c73 := cell_of_heap kx7 3 _ rfl; have c74 := cell_of_heap kx7 4 _ rfl; have hl7 := (Array.getElem?_eq_some_iff.1 kx7).1; clear kx7 hb7; have hbc7 := (HB7.out.cell (p := ⟨ob, _, none⟩) hob).trans HBC.out; have hpc7 := (HB7.out.cell (p := ⟨rb, _, none⟩) hrb).trans HPC.out; clear hr7))
        all_goals
          refine NoPanic.normal ?_
          go_wp2
          exact ⟨⟨k + 1, by omega, by go_num, HBB.out.trans (HB9.out.mono hsz)⟩, by simp [intOf]; omega⟩
      · obtain rfl : N = k := by omega
        clear hb kx
        go_wp2_with fail
        refine (HAW.out _).mono ?_
        rintro e w9 ⟨rfl, hb9⟩
        have hbb := HB3.out.trans (HBB.out.mono HB3.out.size)
        go_wp2
        go_returns
        exact ⟨rfl, hbb.trans (hb9.mono hbb.size)⟩
theorem GraphEdges_any (f : Fn7) (C : Option Addr) (cap : Nat) (hl9 : f.code.length ≤ 9223372036854775807) (w : World) (hC : RdI w C f.code) :
    Calls Try.prog 3 #[funcAgg f.nm f.ps f.R f.Fr C f.code.length cap] w fun e w' => e = .returned (.bool true) ∧ Below w.heap.size w w' := by
  by_cases hf : Fw9 f
  · by_cases hok : OkF f
    · exact edges_good f hf hok C cap hl9 w hC
    · exact edges_bad f hf hok C cap hl9 w hC
  · exact edges_few f hf C cap hl9 w hC
end Go.Proofs.Ytgdbkoncaojmoaa
