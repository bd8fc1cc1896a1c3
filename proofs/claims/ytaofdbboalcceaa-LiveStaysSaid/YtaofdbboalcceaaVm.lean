import Derived.Test.YtaofdbboalcceaaVk
/- live.Pure, and the document's. -/
namespace Go.Proofs.Ytaofdbboalcceaa
open Go.RowKit Go.BigFrame

def stdy (op : Int) : Bool := decide (1 ≤ op ∧ op ≤ 23 ∧ ¬ (4 ≤ op ∧ op ≤ 7))
def pur (i : Ins) : Bool := decide (i.kind = 1 ∨ i.kind = 2 ∨ i.kind = 4 ∨ i.kind = 5) || (decide (i.kind = 3) && stdy i.op)
set_option maxRecDepth 1000000 in
theorem steady_any (op : Int) (w : World) : Calls Try.prog 65 #[.int .i64 op] w fun e w' => e = .returned (.bool (stdy op)) ∧ w = w' := by
  have h1 := one_any op
  have h2 := two_any op
  have hc : (decide (20 ≤ op ∧ op ≤ 23) = true ∧ stdy op = true) ∨ (decide (20 ≤ op ∧ op ≤ 23) = false ∧ decide (1 ≤ op ∧ op ≤ 19) = false ∧ stdy op = false) ∨ (decide (20 ≤ op ∧ op ≤ 23) = false ∧ decide (1 ≤ op ∧ op ≤ 19) = true ∧ decide (op < 4) = true ∧ stdy op = true) ∨
      (decide (20 ≤ op ∧ op ≤ 23) = false ∧ decide (1 ≤ op ∧ op ≤ 19) = true ∧ decide (op < 4) = false ∧ decide (op > 7) = true ∧ decide (7 < op) = true ∧ stdy op = true) ∨ (decide (20 ≤ op ∧ op ≤ 23) = false ∧ decide (1 ≤ op ∧ op ≤ 19) = true ∧ decide (op < 4) = false ∧ decide (op > 7) = false ∧ decide (7 < op) = false ∧ stdy op = false) := by
    unfold stdy
    simp only [decide_eq_true_eq, decide_eq_false_iff_not]
    omega
  generalize stdy op = z at *
  generalize decide (20 ≤ op ∧ op ≤ 23) = a1 at *
  generalize decide (1 ≤ op ∧ op ≤ 19) = a2 at *
  rcases hc with ⟨q1, q2⟩ | ⟨q1, q2, q3⟩ | ⟨q1, q2, q3, q4⟩ | ⟨q1, q2, q3, q4, q5, q6⟩ | ⟨q1, q2, q3, q4, q5, q6⟩
  all_goals
    subst_vars
    have H1 := Lib.hid h1
    have H2 := Lib.hid h2
    clear h1 h2
    go_enter Try.func65, Try.ntmps65
    go_wp2_with (first
      | (go_at_call 83; refine (H1.out _).mono ?_; rintro e w3 ⟨rfl, rfl⟩)
      | (go_at_call 84; refine (H2.out _).mono ?_; rintro e w3 ⟨rfl, rfl⟩))
    go_returns
    exact ⟨rfl, rfl⟩
set_option maxRecDepth 1000000 in
set_option maxHeartbeats 4000000 in
theorem Pure_any (i : Ins) (w : World) : Calls Try.prog 35 #[i.agg] w fun e w' => e = .returned (.bool (pur i)) ∧ Below w.heap.size w w' := by
  have HST := Lib.hid (fun W => steady_any i.op W)
  have hB := Below.one w i.obj
  obtain ⟨z, hz⟩ : ∃ z, pur i = z := ⟨_, rfl⟩
  rw [hz]
  obtain ⟨k, op, dst, a, b, n, text, r0, r1, r2, r3, r4, r5, to_, els⟩ := i
  unfold pur at hz
  simp only [Ins.agg, Ins.obj] at hB hz HST ⊢
  obtain ⟨s, hs⟩ : ∃ s, stdy op = s := ⟨_, rfl⟩
  rw [hs] at hz HST
  rcases kind_cases k with rfl | rfl | rfl | rfl | rfl | rfl | rfl | rfl | rfl | rfl | rfl | rfl | rfl | hk
  case inr.inr.inr.inr.inr.inr.inr.inr.inr.inr.inr.inr.inr =>
    have q1 : (k == 1) = false := by simp; omega
    have q2 : (k == 2) = false := by simp; omega
    have q4 : (k == 4) = false := by simp; omega
    have q5 : (k == 5) = false := by simp; omega
    have q3 : (k == 3) = false := by simp; omega
    have hz2 : z = false := by
      rw [← hz]
      simp
      omega
    subst hz2
    clear hz hs hk
    go_enter Try.func35, Try.ntmps35
    go_wp2
    go_returns
    exact ⟨rfl, hB⟩
  all_goals
    simp at hz
    subst hz
    clear hs
    go_enter Try.func35, Try.ntmps35
    go_wp2_with (first
      | (go_at_call 65; refine (HST.out _).mono ?_; rintro e w3 ⟨rfl, rfl⟩))
    go_returns
    exact ⟨rfl, hB⟩
set_option maxRecDepth 1000000 in
set_option maxHeartbeats 4000000 in
theorem refPure_any (i : Ins) (w : World) : Calls Try.prog 36 #[i.agg] w fun e w' => e = .returned (.bool (pur i)) ∧ Below w.heap.size w w' := by
  have hB := Below.one w i.obj
  obtain ⟨z, hz⟩ : ∃ z, pur i = z := ⟨_, rfl⟩
  rw [hz]
  obtain ⟨k, op, dst, a, b, n, text, r0, r1, r2, r3, r4, r5, to_, els⟩ := i
  unfold pur stdy at hz
  simp only [Ins.agg, Ins.obj] at hB hz ⊢
  rcases kind_cases k with rfl | rfl | rfl | rfl | rfl | rfl | rfl | rfl | rfl | rfl | rfl | rfl | rfl | hk
  case inr.inr.inr.inr.inr.inr.inr.inr.inr.inr.inr.inr.inr =>
    have q1 : (k == 1) = false := by simp; omega
    have q2 : (k == 2) = false := by simp; omega
    have q4 : (k == 4) = false := by simp; omega
    have q5 : (k == 5) = false := by simp; omega
    have q3 : (k == 3) = false := by simp; omega
    have hz2 : z = false := by
      rw [← hz]
      simp
      omega
    subst hz2
    clear hz hk
    go_enter Try.func36, Try.ntmps36
    go_wp2
    go_returns
    exact ⟨rfl, hB⟩
  case inr.inr.inl =>
    have hc : (decide (op ≥ 1) = false ∧ decide (1 ≤ op) = false ∧ z = false) ∨ (decide (op ≥ 1) = true ∧ decide (1 ≤ op) = true ∧ decide (op ≤ 23) = false ∧ z = false) ∨ (decide (op ≥ 1) = true ∧ decide (1 ≤ op) = true ∧ decide (op ≤ 23) = true ∧ decide (op < 4) = true ∧ z = true) ∨
        (decide (op ≥ 1) = true ∧ decide (1 ≤ op) = true ∧ decide (op ≤ 23) = true ∧ decide (op < 4) = false ∧ decide (op > 7) = true ∧ decide (7 < op) = true ∧ z = true) ∨ (decide (op ≥ 1) = true ∧ decide (1 ≤ op) = true ∧ decide (op ≤ 23) = true ∧ decide (op < 4) = false ∧ decide (op > 7) = false ∧ decide (7 < op) = false ∧ z = false) := by
      cases z <;> simp at hz ⊢ <;> omega
    rcases hc with ⟨q1, q2, rfl⟩ | ⟨q1, q2, q3, rfl⟩ | ⟨q1, q2, q3, q4, rfl⟩ | ⟨q1, q2, q3, q4, q5, q6, rfl⟩ | ⟨q1, q2, q3, q4, q5, q6, rfl⟩
    all_goals
      clear hz
      go_enter Try.func36, Try.ntmps36
      go_wp2
      go_returns
      exact ⟨rfl, hB⟩
  all_goals
    simp at hz
    subst hz
    go_enter Try.func36, Try.ntmps36
    go_wp2
    go_returns
    exact ⟨rfl, hB⟩
/-- slices.Contains of numbers that are read -/
theorem Contains_rd (A : Option Addr) (l : List Int) (cap : Nat) (x : Int) (w : World) (h : RdN w A l) (hl : l.length ≤ 100000) : Calls Try.prog 64 #[.slice A l.length cap, .int .i64 x] w fun e w' => e = .returned (.bool (l.contains x)) ∧ w = w' := by
  cases l with
  | nil => exact (Try.slices_Contains_int_empty A cap x w).mono fun e w' ⟨h1, h2⟩ => ⟨h1, h2.symm⟩
  | cons y l =>
    obtain ⟨b, o, rfl, _, _⟩ := h 0 y rfl
    refine (Try.slices_Contains_int b o (y :: l).length cap (y :: l) x w (Nat.le_refl _) (by omega) (fun j hj => ?_)).mono fun e w' ⟨h1, h2⟩ => ⟨by rw [h1, List.take_length], h2.symm⟩
    obtain ⟨b', o', e1, _, e3⟩ := h j ((y :: l)[j]) (List.getElem?_eq_getElem hj)
    injection e1 with e1
    injection e1 with e1 e2
    subst e1 e2
    rw [e3, List.getD_eq_getElem?_getD, List.getElem?_eq_getElem hj]
    rfl
end Go.Proofs.Ytaofdbboalcceaa

/- live.Dead. -/
namespace Go.Proofs.Ytaofdbboalcceaa
open Go.RowKit Go.BigFrame

noncomputable def deadB (l : List Ins) (p : Nat) : Bool := tb (∃ i, l[p]? = some i ∧ pur i = true ∧ ¬ Bh l p i.dst)
noncomputable def deadK (l : List Ins) (k : Nat) : List Int := ((List.range k).filter (deadB l)).map fun (n : Nat) => (n : Int)
noncomputable def deadL (l : List Ins) : List Int := deadK l l.length
theorem OwnN.later {w w' : World} {V : Value} {l : List Int} (h : OwnN w V l) (hb : Below w.heap.size w w') : OwnN w' V l := by
  obtain ⟨h1, h2⟩ := h
  refine ⟨h1, ?_⟩
  rcases h2 with h2 | ⟨g, cap, cur, e1, e2, e3, e4⟩
  · exact Or.inl h2
  · exact Or.inr ⟨g, cap, cur, e1, e2, (hb.block g (Array.getElem?_eq_some_iff.1 e3).1).trans e3, e4⟩
theorem deadK_succ (l : List Ins) (k : Nat) : deadK l (k + 1) = if deadB l k = true then deadK l k ++ [(k : Int)] else deadK l k := by
  unfold deadK
  rw [List.range_succ, List.filter_append, List.map_append]
  by_cases h : deadB l k = true
  · simp [h]
  · simp [h]
theorem deadK_len (l : List Ins) (k : Nat) : (deadK l k).length ≤ k := by
  unfold deadK
  have := List.length_filter_le (deadB l) (List.range k)
  simpa using this
theorem deadK_mem (l : List Ins) (k : Nat) (x : Int) : x ∈ deadK l k ↔ ∃ p : Nat, p < k ∧ x = p ∧ deadB l p = true := by
  unfold deadK
  simp only [List.mem_map, List.mem_filter, List.mem_range]
  constructor
  · rintro ⟨p, ⟨h1, h2⟩, rfl⟩; exact ⟨p, h1, rfl, h2⟩
  · rintro ⟨p, h1, rfl, h2⟩; exact ⟨p, ⟨h1, h2⟩, rfl⟩
theorem deadB_iff {l : List Ins} {p : Nat} {i : Ins} (h : l[p]? = some i) : deadB l p = true ↔ pur i = true ∧ ¬ Bh l p i.dst := by
  unfold deadB
  rw [tb_true]
  constructor
  · rintro ⟨i', h1, h2⟩
    rw [h] at h1
    injection h1 with h1
    subst h1
    exact h2
  · exact fun h2 => ⟨i, h, h2⟩
set_option maxRecDepth 1000000 in
set_option maxHeartbeats 8000000 in
theorem Dead_no (f : Fn7) (hf : ¬ OkF f) (C : Option Addr) (cap : Nat) (w : World) (hC : RdI w C f.code) :
    Calls Try.prog 34 #[funcAgg f.nm f.ps f.R f.Fr C f.code.length cap] w fun e w' => e = .returned (.slice none 0 0) ∧ Below w.heap.size w w' := by
  have hB := Below.one w (funcObj f.nm f.ps f.R f.Fr C f.code.length cap)
  have hR := Lib.hid (Behind_no f hf C cap _ (hC.below hB))
  simp only [funcObj, funcAgg] at hB hR ⊢
  clear hf hC
  go_enter Try.func34, Try.ntmps34
  go_wp2_with (first
    | (refine hR.out.mono ?_; rintro e w3 ⟨rfl, hb3⟩))
  refine wp_loop_rounds 1 ?_
  rw [rounds_succ]
  go_wp2
  go_returns
  exact ⟨rfl, hB.trans (hb3.mono hB.size)⟩
set_option maxRecDepth 1000000 in
set_option maxHeartbeats 16000000 in
theorem Dead_yes (f : Fn7) (hf : OkF f) (C : Option Addr) (cap : Nat) (w : World) (hC : RdI w C f.code) :
    Calls Try.prog 34 #[funcAgg f.nm f.ps f.R f.Fr C f.code.length cap] w fun e w' => SlN (deadL f.code) e w' ∧ Below w.heap.size w w' := by
  obtain ⟨N, hN⟩ : ∃ N, f.code.length = N := ⟨_, rfl⟩
  have hN2 : N ≤ 8192 := by rw [← hN]; exact hf.len.2
  have hB := Below.one w (funcObj f.nm f.ps f.R f.Fr C f.code.length cap)
  have bx := heap_alloc_new w (funcObj f.nm f.ps f.R f.Fr C f.code.length cap)
  have hC1 := hC.below hB
  have hR := Behind_yes f hf C cap _ hC1
  rw [show deadL f.code = deadK f.code f.code.length from rfl]
  rw [hN] at hR hB bx hC1 ⊢
  simp only [funcObj, funcAgg] at hR hB bx hC1 ⊢
  have HR := Lib.hid hR
  have HC1 := Lib.hid hC1
  have HB := Lib.hid hB
  have HF := Lib.hid hf
  have HN := Lib.hid hN
  obtain ⟨W, hW⟩ : ∃ W, w.alloc (.cells #[.string f.nm, .int .i64 f.ps, .int .i64 f.R, .int .i64 f.Fr, .slice C N cap] 24) = W := ⟨_, rfl⟩
  rw [hW] at bx HR HC1 HB
  have HBX := Lib.hid bx
  have hBl := (Array.getElem?_eq_some_iff.1 bx).1
  have g0 := cell_of_heap bx 0 _ rfl
  have g1 := cell_of_heap bx 1 _ rfl
  have g2 := cell_of_heap bx 2 _ rfl
  have g3 := cell_of_heap bx 3 _ rfl
  have g4 := cell_of_heap bx 4 _ rfl
  clear hf hN hC hB hR hC1 bx
  go_enter Try.func34, Try.ntmps34
  go_wp2_with (first
    | (refine HR.out.mono ?_; rintro e w3 ⟨⟨ob, rfl, hrk⟩, hb3⟩; have HRK := Lib.hid hrk; clear hrk))
  have HB3 := Lib.hid hb3
  have hws : w.heap.size ≤ w3.heap.size := Nat.le_trans HB.out.size hb3.size
  have H0 := Lib.hid (show OwnN w3 (.slice none 0 0) (deadK f.code 0) from OwnN.nil _)
  clear hb3 g0 g1 g2 g3 g4 hW
  go_loopw [3, 10] (fun V ix wr => ∃ k : Nat, k ≤ N ∧ ix = .int .i64 k ∧ OwnN wr V (deadK f.code k) ∧ (∀ x, V.ownBlock = some x → w3.heap.size ≤ x) ∧ Below w3.heap.size w3 wr) (fun _ ix _ => N - (intOf ix).toNat)
  case atStart => exact ⟨0, by omega, rfl, H0.out, (fun x hx => by simp [Value.ownBlock] at hx), Below.refl _ _⟩
  case round =>
    obtain ⟨k, hk, rfl, hown, hV, hb⟩ := hrel
    clear H0
    by_cases hlt : k < N
    · obtain ⟨i, hi⟩ : ∃ i, f.code[k]? = some i := ⟨_, List.getElem?_eq_getElem (by rw [HN.out]; exact hlt)⟩
      obtain ⟨bb, oo, rfl, hbl, hcs⟩ := ((HC1.out.below HB3.out).below hb) k i hi
      obtain ⟨x0, x1, x2, x3, x4, x5, x6, x7, x8, x9, x10, x11, x12, x13, x14⟩ := RdI.load hcs
      have hrk := HRK.out.later hb
      obtain ⟨v, hc, A, l, cp, rfl, hrd, hpw, hmem⟩ := hrk.done hlt
      have hx4 : wr.heap[w.heap.size]? = _ := (hb.block _ (Nat.lt_of_lt_of_le hBl HB3.out.size)).trans ((HB3.out.block _ hBl).trans HBX.out)
      have g4 := cell_of_heap hx4 4 _ rfl
      have hd := deadB_iff hi
      have kx := heap_alloc_new wr i.obj
      have hpa := fun W => Pure_any i W
      have hll : l.length ≤ 5000 := nodup_le 5000 l (hpw.imp (fun h e => by omega)) (fun x hx => by
        obtain ⟨i', h1, n, h2, h3⟩ := (hmem x).1 hx
        have h4 := (h3.bound HF.out).1
        have := HF.out.R
        omega)
      have hca := fun W h => Contains_rd A l cp i.dst W h (by omega)
      obtain ⟨kk, op, dst, a, b', n, text, r0, r1, r2, r3, r4, r5, to_, els⟩ := i
      have ⟨d0, d1, d2, d3, d4, d5, d6, d7, d8, d9, d10, d11, d12, d13, d14⟩ := Ins.cells (i := ⟨kk, op, dst, a, b', n, text, r0, r1, r2, r3, r4, r5, to_, els⟩) kx
      simp only at x0 x1 x2 x3 x4 x5 x6 x7 x8 x9 x10 x11 x12 x13 x14 d0 d1 d2 d3 d4 d5 d6 d7 d8 d9 d10 d11 d12 d13 d14 hd hca
      obtain ⟨z, hz⟩ : ∃ z, pur ⟨kk, op, dst, a, b', n, text, r0, r1, r2, r3, r4, r5, to_, els⟩ = z := ⟨_, rfl⟩
      obtain ⟨y, hy⟩ : ∃ y, l.contains dst = y := ⟨_, rfl⟩
      have hyb : y = true ↔ Bh f.code k dst := by rw [← hy, ← hmem, List.contains_iff_mem]
      rw [hz] at hd hpa
      rw [hy] at hca
      rw [← hyb] at hd
      have HPA := Lib.hid hpa
      have HCA := Lib.hid hca
      have HRD := Lib.hid hrd
      have HD := Lib.hid hd
      have HOWN := Lib.hid hown
      have HV := Lib.hid hV
      have HBB := Lib.hid hb
      have hw3r := hb.size
      have HKX := Lib.hid kx
      have hll2 := (Array.getElem?_eq_some_iff.1 hx4).1
      have HDL := Lib.hid (deadK_len f.code k)
      clear hpa hca hrd hd hown hV hb hi hcs hmem hpw hz hy hyb kx hx4
      have HSK : Hid ((z = false ∨ y = true) → ∀ w6, Below wr.heap.size wr w6 → ∃ k' : Nat, k' ≤ N ∧ Value.int IntKind.i64 ((k : Int) + 1) = .int .i64 k' ∧ OwnN w6 u3 (deadK f.code k') ∧ (∀ x, u3.ownBlock = some x → w3.heap.size ≤ x) ∧ Below w3.heap.size w3 w6) := Lib.hid fun hzy w6 h6 => ⟨k + 1, by omega, by go_num, by
        rw [deadK_succ, if_neg]
        · exact HOWN.out.later h6
        · intro h
          have := HD.out.1 h
          rcases hzy with rfl | rfl
          · cases this.1
          · exact this.2 rfl, HV.out, HBB.out.trans (h6.mono hw3r)⟩
      cases z with
      | false =>
        go_wp2_with (first
          | (refine (HPA.out _).mono ?_; rintro e w6 ⟨rfl, hb6⟩))
        exact ⟨HSK.out (Or.inl (by simp)) _ ((Below.one wr _).trans (hb6.mono (by simp))), by simp [intOf]; omega⟩
      | true =>
        cases y with
        | true =>
          go_wp2_with (first
            | (refine (HPA.out _).mono ?_; rintro e w6 ⟨rfl, hb6⟩; have hk6 := (hb6.block _ (Array.getElem?_eq_some_iff.1 HKX.out).1).trans HKX.out; have ⟨d0, d1, d2, d3, d4, d5, d6, d7, d8, d9, d10, d11, d12, d13, d14⟩ := Ins.cells (i := ⟨kk, op, dst, a, b', n, text, r0, r1, r2, r3, r4, r5, to_, els⟩) hk6; simp only at d0 d1 d2 d3 d4 d5 d6 d7 d8 d9 d10 d11 d12 d13 d14; have hrd6 := Lib.hid ((HRD.out.below (Below.one wr _)).below hb6); clear hk6)
            | (refine (HCA.out _ hrd6.out).mono ?_; rintro e w7 ⟨rfl, rfl⟩))
          exact ⟨HSK.out (Or.inr (by simp)) _ ((Below.one wr _).trans (hb6.mono (by simp))), by simp [intOf]; omega⟩
        | false =>
          go_wp2_with (first
            | (refine (HPA.out _).mono ?_; rintro e w6 ⟨rfl, hb6⟩; have hk6 := (hb6.block _ (Array.getElem?_eq_some_iff.1 HKX.out).1).trans HKX.out; have ⟨d0, d1, d2, d3, d4, d5, d6, d7, d8, d9, d10, d11, d12, d13, d14⟩ := Ins.cells (i := ⟨kk, op, dst, a, b', n, text, r0, r1, r2, r3, r4, r5, to_, els⟩) hk6; simp only at d0 d1 d2 d3 d4 d5 d6 d7 d8 d9 d10 d11 d12 d13 d14; have hrd6 := Lib.hid ((HRD.out.below (Below.one wr _)).below hb6); have HW6 := Lib.hid ((Below.one wr _).trans (hb6.mono (by simp))); clear hk6 hb6)
            | (refine (HCA.out _ hrd6.out).mono ?_; rintro e w7 ⟨rfl, rfl⟩)
            | (at_builtin; refine append_one rfl (.tmp 29) (.tmp 31) rfl u3 (deadK f.code k) rfl ((HOWN.out.later HW6.out).alloc _) w6.heap.size k rfl (heap_alloc_new _ _) (by have := HDL.out; omega) ?_; intro V' w8 ho8 hg8 hb8))
          refine ⟨⟨k + 1, by omega, by go_num, ?_, fun x hx => ?_, ?_⟩, by simp [intOf]; omega⟩
          · rw [deadK_succ, if_pos (HD.out.2 (by simp))]
            exact ho8
          · have hs := HW6.out.size
            rcases hb8 with e | e
            · rw [e] at hx; exact HV.out x hx
            · rw [e] at hx; injection hx with hx; simp at hx; omega
          · have hs := HW6.out.size
            exact Below.grown ((HBB.out.trans (HW6.out.mono hw3r)).alloc (by omega) _) hg8 (by simp; omega) (fun x hx => HV.out x hx)
    · obtain rfl : k = N := by omega
      have HR2 := Lib.hid (show SlN (deadK f.code k) (.returned u3) wr ∧ Below w.heap.size w wr from ⟨SlN.of hown, HB.out.trans ((HB3.out.mono HB.out.size).trans (hb.mono hws))⟩)
      clear hown hV hb
      go_wp2
      go_returns
      exact HR2.out
end Go.Proofs.Ytaofdbboalcceaa
