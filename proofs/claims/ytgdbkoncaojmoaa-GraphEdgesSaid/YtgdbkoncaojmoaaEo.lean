import Derived.Test.YtgdbkoncaojmoaaEh
import Derived.Test.YtgdbkoncaojmoaaEe
import Derived.Test.YtgdbkoncaojmoaaEa
import Derived.Test.YtgdbkoncaojmoaaDg
/- GraphEdges. -/
namespace Go.Proofs.Ytgdbkoncaojmoaa
open Go.RowKit Go.BigFrame

def EdN (W : World) (s t u : Value) (wx : World) : Prop := (s = .slice none 0 0 ∧ t = .slice none 0 0 ∧ u = .slice none 0 0) ∧ Below W.heap.size W wx
def EdA (f : Fn7) (N M : Nat) (O : List Nat) (W : World) (s t u : Value) (wx : World) : Prop := ∃ ob rb A c, s = .slice (some ⟨ob, 0, none⟩) N N ∧ RowsR wx ob N (bfB f.code N) ∧ t = .slice (some ⟨rb, 0, none⟩) N N ∧ Pre gB 1 4 wx rb (bl N fun p => tb (R0 (Eg f.code) p)) ∧ u = .slice A M c ∧ RdN wx A (asI O) ∧ Below W.heap.size W wx
set_option maxRecDepth 1000000 in
set_option maxHeartbeats 8000000 in
theorem edges_few (f : Fn7) (hf : ¬ Fw9 f) (C : Option Addr) (cap : Nat) (hl9 : f.code.length ≤ 9223372036854775807) (w : World) (hC : RdI w C f.code) :
    Calls Try.prog 3 #[funcAgg f.nm f.ps f.R f.Fr C f.code.length cap] w fun e w' => e = .returned (.bool true) ∧ Below w.heap.size w w' := by
  have hB := Below.one w (funcObj f.nm f.ps f.R f.Fr C f.code.length cap)
  have bx := heap_alloc_new w (funcObj f.nm f.ps f.R f.Fr C f.code.length cap)
  have hC1 := hC.below hB
  have hA := fun W => awake9_any W
  have hF := fun W h => few9_no f hf C cap hl9 W h
  obtain ⟨N, hN⟩ : ∃ N, f.code.length = N := ⟨_, rfl⟩
  rw [hN] at hB bx hC1 hF ⊢
  simp only [funcObj, funcAgg] at hB bx hC1 hF ⊢
  obtain ⟨W, hW⟩ : ∃ W, w.alloc (.cells #[.string f.nm, .int .i64 f.ps, .int .i64 f.R, .int .i64 f.Fr, .slice C N cap] 24) = W := ⟨_, rfl⟩
  rw [hW] at bx hC1 hB
  have HC0 := Lib.hid hC1
  have HB0 := Lib.hid hB
  have HX0 := Lib.hid bx
  have hl0 := (Array.getElem?_eq_some_iff.1 bx).1
  have HAW := Lib.hid hA
  have c00 := cell_of_heap bx 0 _ rfl
  have c01 := cell_of_heap bx 1 _ rfl
  have c02 := cell_of_heap bx 2 _ rfl
  have c03 := cell_of_heap bx 3 _ rfl
  have c04 := cell_of_heap bx 4 _ rfl
  have HF := Lib.hid hF
  clear hf hN hC hC1 hB bx hF hA
  go_enter Try.func3, Try.ntmps3
  go_wp2_with fail
  refine (HF.out _ HC0.out).mono ?_
  rintro e w1 ⟨rfl, hb1⟩
  have kx1 := (hb1.block _ hl0).trans HX0.out
  have c10 := cell_of_heap kx1 0 _ rfl
  have c11 := cell_of_heap kx1 1 _ rfl
  have c12 := cell_of_heap kx1 2 _ rfl
  have c13 := cell_of_heap kx1 3 _ rfl
  have c14 := cell_of_heap kx1 4 _ rfl
  have hl1 := (Array.getElem?_eq_some_iff.1 kx1).1
  have HX1 := Lib.hid kx1
  have HC1 := Lib.hid (HC0.out.below hb1)
  have HB1 := Lib.hid (HB0.out.trans (hb1.mono HB0.out.size))
  have HL1 := Lib.hid hb1
  clear kx1 hb1 c00 c01 c02 c03 c04
  go_wp2_with fail
  refine (HAW.out _).mono ?_
  rintro e w2 ⟨rfl, hb2⟩
  go_wp2
  go_returns
  exact ⟨rfl, HB1.out.trans (hb2.mono HB1.out.size)⟩
set_option maxRecDepth 1000000 in
set_option maxHeartbeats 8000000 in
theorem edges_bad (f : Fn7) (hf : Fw9 f) (hok : ¬ OkF f) (C : Option Addr) (cap : Nat) (hl9 : f.code.length ≤ 9223372036854775807) (w : World) (hC : RdI w C f.code) :
    Calls Try.prog 3 #[funcAgg f.nm f.ps f.R f.Fr C f.code.length cap] w fun e w' => e = .returned (.bool true) ∧ Below w.heap.size w w' := by
  have hB := Below.one w (funcObj f.nm f.ps f.R f.Fr C f.code.length cap)
  have bx := heap_alloc_new w (funcObj f.nm f.ps f.R f.Fr C f.code.length cap)
  have hC1 := hC.below hB
  have hA := fun W => awake9_any W
  have hF := fun W h => few9_yes f hf C cap hl9 W h
  have hBF := fun W h => Before_no f hok C cap W h
  have hE := fun W h => gReached_no f hok C cap W h
  have hO := fun W h => gOrder_no f hok C cap W h
  have hR := fun W h => rr9_no f hok C cap W h
  obtain ⟨N, hN⟩ : ∃ N, f.code.length = N := ⟨_, rfl⟩
  rw [hN] at hB bx hC1 hF hBF hE hO hR ⊢
  simp only [funcObj, funcAgg] at hB bx hC1 hF hBF hE hO hR ⊢
  obtain ⟨W, hW⟩ : ∃ W, w.alloc (.cells #[.string f.nm, .int .i64 f.ps, .int .i64 f.R, .int .i64 f.Fr, .slice C N cap] 24) = W := ⟨_, rfl⟩
  rw [hW] at bx hC1 hB
  have HC0 := Lib.hid hC1
  have HB0 := Lib.hid hB
  have HX0 := Lib.hid bx
  have hl0 := (Array.getElem?_eq_some_iff.1 bx).1
  have HAW := Lib.hid hA
  have c00 := cell_of_heap bx 0 _ rfl
  have c01 := cell_of_heap bx 1 _ rfl
  have c02 := cell_of_heap bx 2 _ rfl
  have c03 := cell_of_heap bx 3 _ rfl
  have c04 := cell_of_heap bx 4 _ rfl
  have HF := Lib.hid hF
  have HBF := Lib.hid hBF
  have HE := Lib.hid hE
  have HO := Lib.hid hO
  have HR := Lib.hid hR
  clear hf hN hC hC1 hB bx hF hA hBF hE hO hR hok
  go_enter Try.func3, Try.ntmps3
  go_wp2_with fail
  refine (HF.out _ HC0.out).mono ?_
  rintro e w1 ⟨rfl, hb1⟩
  have kx1 := (hb1.block _ hl0).trans HX0.out
  have c10 := cell_of_heap kx1 0 _ rfl
  have c11 := cell_of_heap kx1 1 _ rfl
  have c12 := cell_of_heap kx1 2 _ rfl
  have c13 := cell_of_heap kx1 3 _ rfl
  have c14 := cell_of_heap kx1 4 _ rfl
  have hl1 := (Array.getElem?_eq_some_iff.1 kx1).1
  have HX1 := Lib.hid kx1
  have HC1 := Lib.hid (HC0.out.below hb1)
  have HB1 := Lib.hid (HB0.out.trans (hb1.mono HB0.out.size))
  have HL1 := Lib.hid hb1
  clear kx1 hb1 c00 c01 c02 c03 c04
  go_upto_region 3 with fail
  go_cut [3, 4, 5] from 11 to 16 (fun s t u wx => EdN w1 s t u wx)
  case first =>
    refine wp_region_noPanic ?_
    have HBZ := Lib.hid ((Below.refl w1.heap.size w1).drew)
    go_region_with (first
      | (go_at_call 13; refine (HO.out _ (HC1.out.below HBr.out)).mono ?_; rintro e wo ⟨rfl, hbo⟩; have HLo := Lib.hid hbo; have HBo := Lib.hid (HBr.out.trans (hbo.mono HBr.out.size)); have kxo := (HBo.out.block _ hl1).trans HX1.out; have co0 := cell_of_heap kxo 0 _ rfl; have co1 := cell_of_heap kxo 1 _ rfl; have co2 := cell_of_heap kxo 2 _ rfl; have co3 := cell_of_heap kxo 3 _ rfl; have co4 := cell_of_heap kxo 4 _ rfl; have hlo := (Array.getElem?_eq_some_iff.1 kxo).1; clear kxo hbo)
      | (go_at_call 12; refine (HE.out _ (HC1.out.below HBb.out)).mono ?_; rintro e wr ⟨rfl, hbr⟩; have HLr := Lib.hid hbr; have HBr := Lib.hid (HBb.out.trans (hbr.mono HBb.out.size)); have kxr := (HBr.out.block _ hl1).trans HX1.out; have cr0 := cell_of_heap kxr 0 _ rfl; have cr1 := cell_of_heap kxr 1 _ rfl; have cr2 := cell_of_heap kxr 2 _ rfl; have cr3 := cell_of_heap kxr 3 _ rfl; have cr4 := cell_of_heap kxr 4 _ rfl; have hlr := (Array.getElem?_eq_some_iff.1 kxr).1; clear kxr hbr)
      | (go_at_call 11; refine (HBF.out _ (HC1.out.below HBZ.out)).mono ?_; rintro e wb ⟨rfl, hbb⟩; have HLb := Lib.hid hbb; have HBb := Lib.hid (HBZ.out.trans (hbb.mono HBZ.out.size)); have kxb := (HBb.out.block _ hl1).trans HX1.out; have cb0 := cell_of_heap kxb 0 _ rfl; have cb1 := cell_of_heap kxb 1 _ rfl; have cb2 := cell_of_heap kxb 2 _ rfl; have cb3 := cell_of_heap kxb 3 _ rfl; have cb4 := cell_of_heap kxb 4 _ rfl; have hlb := (Array.getElem?_eq_some_iff.1 kxb).1; clear kxb hbb))
    all_goals
      have HQ : EdN w1 (.slice none 0 0) (.slice none 0 0) (.slice none 0 0) _ := ⟨⟨rfl, rfl, rfl⟩, HBo.out⟩
      refine NoPanic.normal ?_
      go_wp2
      go_meet
      exact HQ
  case rest =>
    obtain ⟨⟨rfl, rfl, rfl⟩, hbc⟩ := hcut
    rename_i w2
    have HB2 := Lib.hid (HB1.out.trans (hbc.mono HB1.out.size))
    have kx2 := (hbc.block _ hl1).trans HX1.out
    have c20 := cell_of_heap kx2 0 _ rfl; have c21 := cell_of_heap kx2 1 _ rfl; have c22 := cell_of_heap kx2 2 _ rfl; have c23 := cell_of_heap kx2 3 _ rfl; have c24 := cell_of_heap kx2 4 _ rfl
    have hl2 := (Array.getElem?_eq_some_iff.1 kx2).1
    have HX2 := Lib.hid kx2
    have HC2 := Lib.hid (HC1.out.below hbc)
    clear hbc kx2 c10 c11 c12 c13 c14
    go_wp2_with fail
    refine (HR.out _ HC2.out).mono ?_
    rintro e w3 ⟨rfl, hb3⟩
    have kx3 := (hb3.block _ hl2).trans HX2.out
    have c30 := cell_of_heap kx3 0 _ rfl
    have c31 := cell_of_heap kx3 1 _ rfl
    have c32 := cell_of_heap kx3 2 _ rfl
    have c33 := cell_of_heap kx3 3 _ rfl
    have c34 := cell_of_heap kx3 4 _ rfl
    have hl3 := (Array.getElem?_eq_some_iff.1 kx3).1
    have HX3 := Lib.hid kx3
    have HC3 := Lib.hid (HC2.out.below hb3)
    have HB3 := Lib.hid (HB2.out.trans (hb3.mono HB2.out.size))
    have HL3 := Lib.hid hb3
    clear kx3 hb3 c20 c21 c22 c23 c24
    go_wp2_with fail
    refine (HAW.out _).mono ?_
    rintro e w4 ⟨rfl, hb4⟩
    go_wp2
    go_returns
    exact ⟨rfl, HB3.out.trans (hb4.mono HB3.out.size)⟩
end Go.Proofs.Ytgdbkoncaojmoaa
