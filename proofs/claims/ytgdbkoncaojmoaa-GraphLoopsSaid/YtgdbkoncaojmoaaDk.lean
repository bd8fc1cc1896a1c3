import Derived.Test.YtgdbkoncaojmoaaDj
import Derived.Test.YtgdbkoncaojmoaaDg
/- graph.over, graph.Dominates. -/
namespace Go.Proofs.Ytgdbkoncaojmoaa
open Go.RowKit Go.BigFrame

set_option maxRecDepth 1000000 in
set_option maxHeartbeats 4000000 in
theorem over_any {E : Nat → Nat → Prop} {pl : Nat → Nat} {up : Nat → Option Nat} (hU : UpT E pl up) (N : Nat) (hN : ∀ n, R0 E n → n < N) (A : Option Addr) (cap : Nat) (w : World) (hR : RdN w A (abL N up)) (a b : Nat) (hb : R0 E b) :
    Calls Try.prog 38 #[.slice A N cap, .int .i64 (a : Int), .int .i64 (b : Int)] w fun e w' => e = .returned (.bool (tb (Dom E a b))) ∧ w = w' := by
  have HR := Lib.hid hR
  have HN := Lib.hid hN
  have HU := Lib.hid hU
  have HB := Lib.hid hb
  obtain ⟨z, hz⟩ : ∃ z, tb (Dom E a b) = z := ⟨_, rfl⟩
  rw [hz]
  have hzc : z = true ↔ Ch up b a := by rw [← hz, tb_true]; exact (hU.dom b a hb).symm
  have HZ := Lib.hid hzc
  clear hR hN hU hb hz hzc
  go_enter Try.func38, Try.ntmps38
  go_wp2
  go_loopg [7] (pl b + 1) (fun gk V wr => w = wr ∧ ((∃ n : Nat, V = .int .i64 (n : Int) ∧ R0 E n ∧ (Ch up b a ↔ Ch up n a) ∧ gk = pl n + 1) ∨ (V = .int .i64 (-1) ∧ ¬ Ch up b a ∧ gk = 0)))
  case atStart => exact ⟨rfl, Or.inl ⟨b, rfl, HB.out, Iff.rfl, rfl⟩⟩
  case round =>
    obtain ⟨rfl, hrel⟩ := hrel
    rcases hrel with ⟨n, rfl, hn, hch, hgk⟩ | ⟨rfl, hno, _⟩
    · have HGK := Lib.hid hgk
      have hnN := HN.out n hn
      have HCH := Lib.hid hch
      have hn0 : (0 : Int) ≤ (n : Int) := by omega
      by_cases hna : n = a
      · subst hna
        have hzt : z = true := HZ.out.2 (hch.2 (Ch.refl _))
        clear hgk hch hn
        go_wp2
        go_returns
        exact ⟨by rw [hzt]; rfl, rfl⟩
      · have hne : ¬ ((n : Int) = (a : Int)) := by omega
        have hni : (n : Int) < N := by omega
        by_cases h0 : n = 0
        · have hno : ¬ Ch up b a := fun h => hna (by have h1 := hch.1 h; rw [h0] at h1 ⊢; exact h1.zero.symm)
          have hNO := Lib.hid hno
          obtain ⟨bb, oo, rfl, hbl, hc⟩ := HR.out n (-1) (by rw [h0]; exact abL_zero up (by omega))
          clear hgk hch hn hno h0
          go_wp2
          go_roundg 0
          case measure => rw [HGK.out]; omega
          case rel => exact ⟨rfl, Or.inr ⟨rfl, hNO.out, rfl⟩⟩
        · obtain ⟨bb, oo, rfl, hbl, hc⟩ := HR.out n _ (abL_at hnN h0)
          cases hu : up n with
          | none => exact absurd hu ((HU.out.is n).2 hn)
          | some m =>
            rw [hu] at hc
            simp only [bestI] at hc
            have hd := HU.out.tr.down n m h0 hu
            have HD := Lib.hid hd
            have HCH2 : Hid (Ch up b a ↔ Ch up m a) := Lib.hid (hch.trans ⟨fun h => h.tail hu (Ne.symm hna), fun h => Ch.step h0 hu h⟩)
            have HM := Lib.hid ((HU.out.is m).1 hd.2.2)
            clear hgk hch hn hd hu
            go_wp2
            go_roundg (pl m + 1)
            case measure => rw [HGK.out]; have := HD.out.2.1; omega
            case rel => exact ⟨rfl, Or.inl ⟨m, rfl, HM.out, HCH2.out, rfl⟩⟩
    · have hzf : z = false := by
        cases z with
        | false => rfl
        | true => exact absurd (HZ.out.1 rfl) hno
      clear hno
      go_wp2
      go_returns
      exact ⟨by rw [hzf]; rfl, rfl⟩
theorem gDominates_no (f : Fn7) (hf : ¬ OkF f) (a b : Int) (C : Option Addr) (cap : Nat) (w : World) (hC : RdI w C f.code) :
    Calls Try.prog 20 #[funcAgg f.nm f.ps f.R f.Fr C f.code.length cap, .int .i64 a, .int .i64 b] w fun e w' => e = .returned (.bool false) ∧ Below w.heap.size w w' := by
  have hB := Below.one w (funcObj f.nm f.ps f.R f.Fr C f.code.length cap)
  have hR := Lib.hid (gReached_no f hf C cap _ (hC.below hB))
  simp only [funcObj, funcAgg] at hB hR ⊢
  clear hf hC
  go_enter Try.func20, Try.ntmps20
  by_cases h1 : a < 0
  · go_wp2_with (first
      | (refine hR.out.mono ?_; rintro e w3 ⟨rfl, hb3⟩))
    go_returns
    exact ⟨rfl, hB.trans (hb3.mono hB.size)⟩
  · have h2 : 0 ≤ a := by omega
    go_wp2_with (first
      | (refine hR.out.mono ?_; rintro e w3 ⟨rfl, hb3⟩))
    go_returns
    exact ⟨rfl, hB.trans (hb3.mono hB.size)⟩
/-- does one dominate, of any numbers? -/
noncomputable def dmB (f : Fn7) (a b : Int) : Bool := tb (0 ≤ a ∧ 0 ≤ b ∧ Dom (Eg f.code) a.toNat b.toNat)
theorem dmB_nat (f : Fn7) (a b : Nat) : dmB f (a : Int) (b : Int) = tb (Dom (Eg f.code) a b) := by
  unfold dmB
  rw [Bool.eq_iff_iff, tb_true, tb_true]
  simp
theorem R0.ltN {f : Fn7} (hf : OkF f) {p : Nat} (h : R0 (Eg f.code) p) : p < f.code.length := by
  cases h with
  | zero => have := hf.len; omega
  | step _ h => exact h.lt hf
set_option maxRecDepth 1000000 in
set_option maxHeartbeats 8000000 in
theorem gDominates_yes (f : Fn7) (hf : OkF f) (a b : Int) (C : Option Addr) (cap : Nat) (w : World) (hC : RdI w C f.code) :
    Calls Try.prog 20 #[funcAgg f.nm f.ps f.R f.Fr C f.code.length cap, .int .i64 a, .int .i64 b] w fun e w' => e = .returned (.bool (dmB f a b)) ∧ Below w.heap.size w w' := by
  have hB := Below.one w (funcObj f.nm f.ps f.R f.Fr C f.code.length cap)
  have bx := heap_alloc_new w (funcObj f.nm f.ps f.R f.Fr C f.code.length cap)
  have hC1 := hC.below hB
  have hR := gReached_yes f hf C cap _ hC1
  have hA := fun W h => gAbove_yes f hf C cap W h
  have hlt : ∀ p, R0 (Eg f.code) p → p < f.code.length := fun p h => h.ltN hf
  obtain ⟨N, hN⟩ : ∃ N, f.code.length = N := ⟨_, rfl⟩
  have hN2 : N ≤ 8192 := by rw [← hN]; exact hf.len.2
  rw [hN] at hR hA hB bx hC1 hlt ⊢
  simp only [funcObj, funcAgg] at hR hA hB bx hC1 ⊢
  have HR := Lib.hid hR
  have HA := Lib.hid hA
  have HC1 := Lib.hid hC1
  have HLT := Lib.hid hlt
  have HF := Lib.hid hf
  obtain ⟨z, hz⟩ : ∃ z, dmB f a b = z := ⟨_, rfl⟩
  rw [hz]
  have HZ : Hid (z = true ↔ (0 ≤ a ∧ 0 ≤ b ∧ Dom (Eg f.code) a.toNat b.toNat)) := Lib.hid (by rw [← hz]; exact tb_true)
  have HZF : Hid (¬ (0 ≤ a ∧ 0 ≤ b ∧ Dom (Eg f.code) a.toNat b.toNat) → z = false) := Lib.hid (fun h => by cases z with | false => rfl | true => exact absurd (HZ.out.1 rfl) h)
  obtain ⟨W, hW⟩ : ∃ W, w.alloc (.cells #[.string f.nm, .int .i64 f.ps, .int .i64 f.R, .int .i64 f.Fr, .slice C N cap] 24) = W := ⟨_, rfl⟩
  rw [hW] at bx HC1 HR hB
  have HB := Lib.hid hB
  have HBX := Lib.hid bx
  have hBl := (Array.getElem?_eq_some_iff.1 bx).1
  have g0 := cell_of_heap bx 0 _ rfl
  have g1 := cell_of_heap bx 1 _ rfl
  have g2 := cell_of_heap bx 2 _ rfl
  have g3 := cell_of_heap bx 3 _ rfl
  have g4 := cell_of_heap bx 4 _ rfl
  clear hf hN hC hR hA hC1 bx hB hlt hz
  go_enter Try.func20, Try.ntmps20
  go_wp2_with fail
  refine HR.out.mono ?_
  rintro e w3 ⟨⟨rb, rfl, hrb, hrp⟩, hb3⟩
  have hx3 := (hb3.block _ hBl).trans HBX.out
  have h0 := cell_of_heap hx3 0 _ rfl
  have h1 := cell_of_heap hx3 1 _ rfl
  have h2 := cell_of_heap hx3 2 _ rfl
  have h3 := cell_of_heap hx3 3 _ rfl
  have h4 := cell_of_heap hx3 4 _ rfl
  have hl3 := (Array.getElem?_eq_some_iff.1 hx3).1
  clear hx3
  have HB3 := Lib.hid (HB.out.trans (hb3.mono HB.out.size))
  have HW3 := Lib.hid hb3
  have hrl := Pre.lt hrp
  have hcells := fun (n : Nat) (hn : n < N) => PreB.cell hrp (bl_get hn)
  have HCL := Lib.hid hcells
  clear hb3 hrp hrb g0 g1 g2 g3 g4 hW hcells
  by_cases a0 : a < 0
  · have hzf := HZF.out (by omega)
    go_wp2
    go_returns
    exact ⟨by rw [hzf]; rfl, HB3.out⟩
  · have a0' : 0 ≤ a := by omega
    by_cases a1 : (N : Int) ≤ a
    · have hzf := HZF.out (fun h => by have := HLT.out _ h.2.2.left; omega)
      go_wp2
      go_returns
      exact ⟨by rw [hzf]; rfl, HB3.out⟩
    · have a1' : a < (N : Int) := by omega
      by_cases b0 : b < 0
      · have hzf := HZF.out (by omega)
        go_wp2
        go_returns
        exact ⟨by rw [hzf]; rfl, HB3.out⟩
      · have b0' : 0 ≤ b := by omega
        by_cases b1 : (N : Int) ≤ b
        · have hzf := HZF.out (fun h => by have := HLT.out _ h.2.2.1; omega)
          go_wp2
          go_returns
          exact ⟨by rw [hzf]; rfl, HB3.out⟩
        · have b1' : b < (N : Int) := by omega
          obtain ⟨p, rfl⟩ : ∃ p : Nat, a = (p : Int) := ⟨a.toNat, by omega⟩
          obtain ⟨q, rfl⟩ : ∃ q : Nat, b = (q : Int) := ⟨b.toNat, by omega⟩
          have hpN : p < N := by omega
          have hqN : q < N := by omega
          have hcp := HCL.out p hpN
          have hcq := HCL.out q hqN
          by_cases hpr : R0 (Eg f.code) p
          · rw [tb_true.2 hpr] at hcp
            by_cases hqr : R0 (Eg f.code) q
            · rw [tb_true.2 hqr] at hcq
              have HQR := Lib.hid hqr
              clear hpr hqr
              go_wp2_with (first
                | (refine (HA.out _ (HC1.out.below HW3.out)).mono ?_; rintro e w5 ⟨⟨ob, up, O, rfl, hob, hpre, hOI, hU⟩, hb5⟩; have HOV := Lib.hid (over_any hU N HLT.out (some ⟨ob, 0, none⟩) N w5 (PreN.rd hpre) p q HQR.out); clear hpre hOI hU)
                | (refine HOV.out.mono ?_; rintro e w6 ⟨rfl, rfl⟩))
              go_returns
              refine ⟨?_, HB3.out.trans (hb5.mono HB3.out.size)⟩
              have e : tb (Dom (Eg f.code) p q) = z := by
                rw [Bool.eq_iff_iff, tb_true, HZ.out]
                simp
              rw [← e]
              rfl
            · have hzf := HZF.out (fun h => hqr (by have := h.2.2.1; simpa using this))
              rw [tb_false.2 hqr] at hcq
              clear hpr hqr
              go_wp2
              go_returns
              exact ⟨by rw [hzf]; rfl, HB3.out⟩
          · have hzf := HZF.out (fun h => hpr (by have := h.2.2.left; simpa using this))
            rw [tb_false.2 hpr] at hcp
            clear hpr
            go_wp2
            go_returns
            exact ⟨by rw [hzf]; rfl, HB3.out⟩
end Go.Proofs.Ytgdbkoncaojmoaa
