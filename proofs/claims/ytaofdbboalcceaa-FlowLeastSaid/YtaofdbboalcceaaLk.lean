import Derived.Test.YtaofdbboalcceaaLw
import Derived.Test.YtaofdbboalcceaaLc
import Derived.Deep.CutRange
/- FlowParams. -/
namespace Go.Proofs.Ytaofdbboalcceaa
open Go.RowKit Go.BigFrame

theorem Tru.is_true {p : Prop} {e : Ending} (h : Tru p e) (hp : p) : e = .returned (.bool true) := by
  obtain ⟨b, rfl, hb⟩ := h
  rw [hb.2 hp]
theorem Tru.is_false {p : Prop} {e : Ending} (h : Tru p e) (hp : ¬ p) : e = .returned (.bool false) := by
  obtain ⟨b, rfl, hb⟩ := h
  cases b
  · rfl
  · exact absurd (hb.1 rfl) hp
/-- a function that may be gone through: its numbers are small -/
theorem Few.small {f : Fn7} (h : Few f) (ho : OkF f) : f.code.length ≤ 25 ∧ f.R ≤ 40 ∧ 0 ≤ f.R ∧ f.code.length * (f.R.toNat + 1) ≤ 65536 := by
  have h1 := h.2
  have h2 := h.1.2.2.1
  have h3 := ho.R
  have h4 := ho.ps
  refine ⟨h1, by omega, by omega, ?_⟩
  have : f.code.length * (f.R.toNat + 1) ≤ 25 * 41 := Nat.mul_le_mul h1 (by omega)
  omega
theorem params_row {f : Fn7} {M : List (List Vl)} (h : Ans f M) {r : Nat} (hr : r < f.R.toNat) : ((r : Int) < f.ps ∧ at_ (row M 0) r = av) ∨ (f.ps ≤ (r : Int) ∧ (at_ (row M 0) r = ⟨1, 0⟩ ∨ at_ (row M 0) r = av)) := by
  have h0 := h.holds.start r
  rw [ini_at hr] at h0
  by_cases hp : (r : Int) < f.ps
  · rw [if_pos hp] at h0
    refine Or.inl ⟨hp, ?_⟩
    rcases h0 with e | e | e
    · cases e
    · exact e.symm
    · exact e
  · rw [if_neg hp] at h0
    refine Or.inr ⟨by omega, ?_⟩
    rcases h0 with e | e | e
    · cases e
    · exact Or.inl e.symm
    · exact Or.inr e
set_option maxRecDepth 1000000 in
set_option maxHeartbeats 8000000 in
theorem params_any (f : Fn7) (C : Option Addr) (cap : Nat) (hl9 : f.code.length ≤ 9223372036854775807) (w : World) (hC : RdI w C f.code) :
    Calls Try.prog 7 #[funcAgg f.nm f.ps f.R f.Fr C f.code.length cap] w fun e w' => e = .returned (.bool true) ∧ Below w.heap.size w w' := by
  have hB0 := Below.one w (funcObj f.nm f.ps f.R f.Fr C f.code.length cap)
  have bx := heap_alloc_new w (funcObj f.nm f.ps f.R f.Fr C f.code.length cap)
  have hfw := few11_any f C cap hl9 _ (hC.below hB0)
  have hrf := fun W h => refRightFunc_any f C cap W h
  have HAW := Lib.hid awake11_any
  have HC1 := Lib.hid (hC.below hB0)
  obtain ⟨W0, hW0⟩ : ∃ W0, w.alloc (funcObj f.nm f.ps f.R f.Fr C f.code.length cap) = W0 := ⟨_, rfl⟩
  rw [hW0] at hB0 bx hfw HC1
  have hlt0 := (Array.getElem?_eq_some_iff.1 bx).1
  clear hC
  by_cases hfew : Few f
  case neg =>
    have hfw := hfw.mono fun e w' h => (⟨h.1.is_false hfew, h.2⟩ : e = .returned (.bool false) ∧ _)
    simp only [funcObj, funcAgg] at hB0 bx hfw hW0 ⊢
    clear hrf hfew
    have y0 := cell_of_heap bx 0 (.string f.nm) rfl
    have y1 := cell_of_heap bx 1 (.int .i64 f.ps) rfl
    have y2 := cell_of_heap bx 2 (.int .i64 f.R) rfl
    have y3 := cell_of_heap bx 3 (.int .i64 f.Fr) rfl
    have y4 := cell_of_heap bx 4 (.slice C f.code.length cap) rfl
    go_enter Try.func7, Try.ntmps7
    go_wp2_with (first
      | (go_at_call 21; refine hfw.mono ?_; rintro e w1 ⟨rfl, hb1⟩)
      | (go_at_call 19; refine (HAW.out _).mono ?_; rintro e w2 ⟨rfl, hb2⟩))
    go_returns
    exact ⟨rfl, (hB0.trans (hb1.mono hB0.size)).trans (hb2.mono (Nat.le_trans hB0.size hb1.size))⟩
  have hfw := hfw.mono fun e w' h => (⟨h.1.is_true hfew, h.2⟩ : e = .returned (.bool true) ∧ _)
  by_cases hok : OkF f
  case neg =>
    have hrf := fun W h => (hrf W h).mono fun e w' h => (⟨h.1.is_false hok, h.2⟩ : e = .returned (.bool false) ∧ _)
    simp only [funcObj, funcAgg] at hB0 bx hfw hrf hW0 ⊢
    have HRF := Lib.hid hrf
    clear hrf hfew hok
    have y0 := cell_of_heap bx 0 (.string f.nm) rfl
    have y1 := cell_of_heap bx 1 (.int .i64 f.ps) rfl
    have y2 := cell_of_heap bx 2 (.int .i64 f.R) rfl
    have y3 := cell_of_heap bx 3 (.int .i64 f.Fr) rfl
    have y4 := cell_of_heap bx 4 (.slice C f.code.length cap) rfl
    go_enter Try.func7, Try.ntmps7
    go_wp2_with (first
      | (go_at_call 21; refine hfw.mono ?_; rintro e w1 ⟨rfl, hb1⟩; have y0 := (hb1.cell (p := ⟨w.heap.size, 0, none⟩) hlt0).trans y0; have y1 := (hb1.cell (p := ⟨w.heap.size, 1, none⟩) hlt0).trans y1; have y2 := (hb1.cell (p := ⟨w.heap.size, 2, none⟩) hlt0).trans y2; have y3 := (hb1.cell (p := ⟨w.heap.size, 3, none⟩) hlt0).trans y3; have y4 := (hb1.cell (p := ⟨w.heap.size, 4, none⟩) hlt0).trans y4)
      | (go_at_call 23; refine (HRF.out _ (HC1.out.below hb1)).mono ?_; rintro e w3 ⟨rfl, hb3⟩)
      | (go_at_call 19; refine (HAW.out _).mono ?_; rintro e w2 ⟨rfl, hb2⟩))
    go_returns
    exact ⟨rfl, ((hB0.trans (hb1.mono hB0.size)).trans (hb3.mono (Nat.le_trans hB0.size hb1.size))).trans (hb2.mono (Nat.le_trans (Nat.le_trans hB0.size hb1.size) hb3.size))⟩
  have hrf := fun W h => (hrf W h).mono fun e w' h => (⟨h.1.is_true hok, h.2⟩ : e = .returned (.bool true) ∧ _)
  obtain ⟨hL25, hR40, hR0, hsz⟩ := hfew.small hok
  have hah := fun W h => ahead_yes f hok hsz C cap W h (fun W h => RightFunc_any f C cap W h)
  have hL1 := hok.len
  obtain ⟨L, hL⟩ : ∃ L, f.code.length = L := ⟨_, rfl⟩
  obtain ⟨Rn, hRn⟩ : ∃ Rn : Nat, f.R = Rn := ⟨f.R.toNat, by omega⟩
  have hRt : f.R.toNat = Rn := by omega
  unfold AheadT at hah
  rw [hRt] at hah
  rw [hRn] at hR40
  rw [hL] at hah hL1 hL25 bx hfw hrf hW0 ⊢
  rw [hRn] at hah bx hfw hrf hW0 ⊢
  have HOK := Lib.hid hok
  have HL := Lib.hid hL
  have HRT := Lib.hid hRt
  have HROW := Lib.hid (fun (M : List (List Vl)) (h : Ans f M) (r : Nat) (hr : r < Rn) => params_row h (by rw [hRt]; exact hr))
  simp only [funcObj, funcAgg] at hB0 bx hfw hrf hah hW0 ⊢
  have HRF := Lib.hid hrf
  have HAH := Lib.hid hah
  clear hrf hfew hok hL hRn hRt hsz hah hR0
  have y0 := cell_of_heap bx 0 (.string f.nm) rfl
  have y1 := cell_of_heap bx 1 (.int .i64 f.ps) rfl
  have y2 := cell_of_heap bx 2 (.int .i64 Rn) rfl
  have y3 := cell_of_heap bx 3 (.int .i64 f.Fr) rfl
  have y4 := cell_of_heap bx 4 (.slice C L cap) rfl
  go_enter Try.func7, Try.ntmps7
  go_upto_region 4 with (first
    | (go_at_call 21; refine hfw.mono ?_; rintro e w1 ⟨rfl, hb1⟩; have y0 := (hb1.cell (p := ⟨w.heap.size, 0, none⟩) hlt0).trans y0; have y1 := (hb1.cell (p := ⟨w.heap.size, 1, none⟩) hlt0).trans y1; have y2 := (hb1.cell (p := ⟨w.heap.size, 2, none⟩) hlt0).trans y2; have y3 := (hb1.cell (p := ⟨w.heap.size, 3, none⟩) hlt0).trans y3; have y4 := (hb1.cell (p := ⟨w.heap.size, 4, none⟩) hlt0).trans y4; have hlt1 := Nat.lt_of_lt_of_le hlt0 hb1.size; have hrf1 := HRF.out _ (HC1.out.below hb1))
    | (go_at_call 23; refine hrf1.mono ?_; rintro e w3 ⟨rfl, hb3⟩; have y0 := (hb3.cell (p := ⟨w.heap.size, 0, none⟩) hlt1).trans y0; have y1 := (hb3.cell (p := ⟨w.heap.size, 1, none⟩) hlt1).trans y1; have y2 := (hb3.cell (p := ⟨w.heap.size, 2, none⟩) hlt1).trans y2; have y3 := (hb3.cell (p := ⟨w.heap.size, 3, none⟩) hlt1).trans y3; have y4 := (hb3.cell (p := ⟨w.heap.size, 4, none⟩) hlt1).trans y4; have hlt3 := Nat.lt_of_lt_of_le hlt1 hb3.size; have hah3 := HAH.out _ ((HC1.out.below hb1).below hb3); have hB3 := (hB0.trans (hb1.mono hB0.size)).trans (hb3.mono (Nat.le_trans hB0.size hb1.size)); clear hrf1)
    | (go_at_call 22; refine hah3.mono ?_; rintro e w4 ⟨⟨ob, M, rfl, hM, hRM, hob⟩, hb4⟩; have HM := Lib.hid hM; have HRM := Lib.hid hRM; clear hM hRM hah3; have z1 := (hb4.cell (p := ⟨w.heap.size, 1, none⟩) hlt3).trans y1; have z2 := (hb4.cell (p := ⟨w.heap.size, 2, none⟩) hlt3).trans y2; have z4 := (hb4.cell (p := ⟨w.heap.size, 4, none⟩) hlt3).trans y4))
  have hB4 := hB3.trans (hb4.mono hB3.size)
  have hlt4 := Nat.lt_of_lt_of_le hlt3 hb4.size
  obtain ⟨pb, hpb⟩ := HRM.out
  obtain ⟨d0, hp0⟩ := hpb 0 (row M 0) (row_in (by rw [HM.out.holds.shp.len, HL.out]; omega))
  have HP0 := Lib.hid hp0
  clear y0 y1 y2 y3 y4 hb1 hb3 hb4 hB3 hlt0 hlt1 hlt3 hpb hp0 HRM hfw hW0 bx hB0
  have hL0 : (0 : Int) < L := by omega
  go_quiet (fail)
  have hb5 := below_drewN (Below.refl w4.heap.size w4) nq
  generalize w4.drewN nq = w5 at *
  have z1 := (hb5.cell (p := ⟨w.heap.size, 1, none⟩) hlt4).trans z1
  have z2 := (hb5.cell (p := ⟨w.heap.size, 2, none⟩) hlt4).trans z2
  have z4 := (hb5.cell (p := ⟨w.heap.size, 4, none⟩) hlt4).trans z4
  have d0 := (hb5.cell (p := ⟨ob, 0, none⟩) hob).trans d0
  have HP0 := Lib.hid (Pre.later HP0.out hb5)
  have hB5 := hB4.trans (hb5.mono hB4.size)
  have hlt5 := Nat.lt_of_lt_of_le hlt4 hb5.size
  clear hb5 hB4 hlt4 hob
  go_wp2
  go_loopw [36] (fun ix wr => ∃ k : Nat, k ≤ Rn ∧ ix = .int .i64 k ∧ Below w5.heap.size w5 wr) (fun ix _ => Rn - (intOf ix).toNat)
  case atStart => exact ⟨0, by omega, rfl, Below.refl _ _⟩
  case round =>
    obtain ⟨k, hk, rfl, hbw⟩ := hrel
    by_cases hlt : k < Rn
    · have hrow := HM.out.holds.shp.at_ (p := 0) (by rw [HL.out]; omega)
      have hx : (row M 0)[k]? = some (at_ (row M 0) k) := by rw [at_in (by rw [hrow.1, HRT.out]; exact hlt)]; simp
      obtain ⟨c0, c1⟩ := PreV.cells (Pre.later HP0.out hbw) hx
      have hpl := Pre.lt (Pre.later HP0.out hbw)
      have hc := HROW.out M HM.out k hlt
      have z1 := (hbw.cell (p := ⟨w.heap.size, 1, none⟩) hlt5).trans z1
      have hltr := Nat.lt_of_lt_of_le hlt5 hbw.size
      generalize at_ (row M 0) k = x at *
      clear hx hrow
      rcases hc with ⟨h1, rfl⟩ | ⟨h1, rfl | rfl⟩
      · have q1 : decide ((k : Int) < f.ps) = true := by simpa using h1
        have q2 : decide ((k : Int) ≥ f.ps) = false := by simp; omega
        have q3 : decide (f.ps ≤ (k : Int)) = false := by simp; omega
        have hne := fun W => neq_val av av W
        simp only [Vl.agg, decide_true, Bool.not_true] at hne c0 c1
        clear h1
        go_wp2
        exact ⟨⟨k + 1, by omega, by go_num, hbw.alloc hbw.size _⟩, by simp [intOf]; omega⟩
      · have q1 : decide ((k : Int) < f.ps) = false := by simp; omega
        have q2 : decide ((k : Int) ≥ f.ps) = true := by simp; omega
        have q3 : decide (f.ps ≤ (k : Int)) = true := by simp; omega
        have hne := fun W => neq_val ⟨1, 0⟩ ⟨1, 0⟩ W
        simp only [Vl.agg, decide_true, Bool.not_true] at hne c0 c1
        clear h1
        go_wp2
        exact ⟨⟨k + 1, by omega, by go_num, hbw.alloc hbw.size _⟩, by simp [intOf]; omega⟩
      · have q1 : decide ((k : Int) < f.ps) = false := by simp; omega
        have q2 : decide ((k : Int) ≥ f.ps) = true := by simp; omega
        have q3 : decide (f.ps ≤ (k : Int)) = true := by simp; omega
        have hne := fun W => neq_val av av W
        have hne2 := fun W => neq_val av ⟨1, 0⟩ W
        rw [show decide ((av : Vl) = ⟨1, 0⟩) = false from rfl] at hne2
        simp only [Vl.agg, decide_true, Bool.not_true, Bool.not_false] at hne hne2 c0 c1
        clear h1
        go_wp2
        exact ⟨⟨k + 1, by omega, by go_num, hbw.alloc hbw.size _⟩, by simp [intOf]; omega⟩
    · go_wp2_with (first
        | (go_at_call 19; refine (HAW.out _).mono ?_; rintro e w9 ⟨rfl, hb9⟩))
      go_returns
      exact ⟨rfl, hB5.trans ((hbw.trans (hb9.mono hbw.size)).mono hB5.size)⟩
end Go.Proofs.Ytaofdbboalcceaa
