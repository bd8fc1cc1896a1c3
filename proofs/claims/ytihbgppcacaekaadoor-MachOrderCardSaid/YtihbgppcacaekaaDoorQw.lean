import Derived.Test.YtihbgppcacaekaaDoorQv
/- law7.Result. -/
namespace Go.Proofs.YtihbgppcacaekaaDoor
open Go.RowKit Go.BigFrame

abbrev reL (x : Rs) (A : Option Addr) (cap : Nat) : List Value := [.int .i64 x.how, .int .i64 x.code, .slice A x.outp.length cap]
abbrev reAgg (x : Rs) (A : Option Addr) (cap : Nat) : Value := .agg #[.int .i64 x.how, .int .i64 x.code, .slice A x.outp.length cap]
abbrev reObj (x : Rs) (A : Option Addr) (cap : Nat) : Obj := .cells #[.int .i64 x.how, .int .i64 x.code, .slice A x.outp.length cap] 30
instance : DecidableEq Rs := fun x y => decidable_of_iff (x.how = y.how ∧ x.code = y.code ∧ x.outp = y.outp)
  ⟨fun h => by cases x; cases y; simp_all, fun h => by subst h; simp⟩
theorem made_two (w : World) (a b : Obj) : ((w.alloc a).alloc b).heap[w.heap.size]? = some a ∧ ((w.alloc a).alloc b).heap[w.heap.size + 1]? = some b ∧ Below w.heap.size w ((w.alloc a).alloc b) := by
  have h1 := heap_alloc_new (w.alloc a) b
  rw [show (w.alloc a).heap.size = w.heap.size + 1 by simp] at h1
  exact ⟨alloc_keeps (heap_alloc_new w a) b, h1, (Below.one w a).alloc (by simp) b⟩
set_option maxRecDepth 1000000 in
set_option maxHeartbeats 8000000 in
theorem Result7_any (x y : Rs) (A B : Option Addr) (ca cb : Nat) (hx : x.outp.length ≤ 1000000) (hy : y.outp.length ≤ 1000000) (w : World) (hA : RdB w A x.outp) (hB : RdB w B y.outp) :
    Calls Tryd.prog 14 #[reAgg x A ca, reAgg y B cb] w fun e w' => e = .returned (.bool (decide (x = y))) ∧ Below w.heap.size w w' := by
  obtain ⟨b0, b1, hBW⟩ := made_two w (reObj x A ca) (reObj y B cb)
  have hA1 := hA.below hBW
  have hB1 := hB.below hBW
  obtain ⟨W, hW⟩ : ∃ W, (w.alloc (reObj x A ca)).alloc (reObj y B cb) = W := ⟨_, rfl⟩
  rw [hW] at b0 b1 hBW hA1 hB1
  obtain ⟨xe, xc, xo⟩ := x
  obtain ⟨ye, yc, yo⟩ := y
  simp only [reObj, reAgg] at b0 b1 hW hA1 hB1 hx hy ⊢
  obtain ⟨N, hN⟩ : ∃ N, xo.length = N := ⟨_, rfl⟩
  obtain ⟨M, hM⟩ : ∃ M, yo.length = M := ⟨_, rfl⟩
  rw [hN] at b0 hW hx ⊢
  rw [hM] at b1 hW hy ⊢
  have g0 := cell_of_heap b0 0 (.int .i64 xe) rfl
  have g1 := cell_of_heap b0 1 (.int .i64 xc) rfl
  have g2 := cell_of_heap b0 2 (.slice A N ca) rfl
  have k0 := cell_of_heap b1 0 (.int .i64 ye) rfl
  have k1 := cell_of_heap b1 1 (.int .i64 yc) rfl
  have k2 := cell_of_heap b1 2 (.slice B M cb) rfl
  have HB := Lib.hid hBW
  have HA1 := Lib.hid hA1
  have HB1 := Lib.hid hB1
  have HN := Lib.hid hN
  have HM := Lib.hid hM
  clear hA hB hA1 hB1 hBW hN hM b0 b1
  by_cases d1 : xe = ye
  case neg =>
    have HT : Hid (decide ((⟨xe, xc, xo⟩ : Rs) = ⟨ye, yc, yo⟩) = false) := Lib.hid (by simp [d1])
    have q : (xe != ye) = true := by simpa using d1
    have q' : decide (xe = ye) = false := by simpa using d1
    have q2 : (xe == ye) = false := by simpa using d1
    rw [HT.out]
    clear d1
    go_enter Tryd.func14, Tryd.ntmps14
    go_wp2
    go_returns
    exact ⟨rfl, HB.out⟩
  subst d1
  by_cases d2 : xc = yc
  case neg =>
    have HT : Hid (decide ((⟨xe, xc, xo⟩ : Rs) = ⟨xe, yc, yo⟩) = false) := Lib.hid (by simp [d2])
    have q : (xc != yc) = true := by simpa using d2
    have q' : decide (xc = yc) = false := by simpa using d2
    have q2 : (xc == yc) = false := by simpa using d2
    rw [HT.out]
    clear d2
    go_enter Tryd.func14, Tryd.ntmps14
    go_wp2
    go_returns
    exact ⟨rfl, HB.out⟩
  subst d2
  by_cases d3 : N = M
  case neg =>
    have HT : Hid (decide ((⟨xe, xc, xo⟩ : Rs) = ⟨xe, xc, yo⟩) = false) := Lib.hid (by
      rw [decide_eq_false_iff_not]
      intro h
      injection h with _ _ h
      exact d3 (by rw [← HN.out, ← HM.out, h]))
    have q : ((N : Int) != M) = true := by simp; omega
    have q' : decide ((N : Int) = M) = false := by simp; omega
    have q2 : ((N : Int) == M) = false := by simp; omega
    rw [HT.out]
    clear d3
    go_enter Tryd.func14, Tryd.ntmps14
    go_wp2
    go_returns
    exact ⟨rfl, HB.out⟩
  subst d3
  go_enter Tryd.func14, Tryd.ntmps14
  go_wp2
  go_loopw [30] (fun ix wr => ∃ k : Nat, k ≤ N ∧ ix = .int .i64 k ∧ Below W.heap.size W wr ∧ ∀ j, j < k → xo[j]? = yo[j]?) (fun ix _ => N - (intOf ix).toNat)
  case atStart => exact ⟨0, by omega, rfl, Below.refl _ _, fun j hj => by omega⟩
  case round =>
    obtain ⟨k, hk, rfl, hbr, hS⟩ := hrel
    have HBR := Lib.hid hbr
    have HS := Lib.hid hS
    have y2 := (hbr.cell (p := ⟨w.heap.size, 2, none⟩) (by rw [← hW]; simp; omega)).trans g2
    have z2 := (hbr.cell (p := ⟨w.heap.size + 1, 2, none⟩) (by rw [← hW]; simp)).trans k2
    clear hS hbr
    by_cases hlt : k < N
    · obtain ⟨a, ha⟩ : ∃ a, xo[k]? = some a := ⟨_, List.getElem?_eq_getElem (by rw [HN.out]; exact hlt)⟩
      obtain ⟨b, hb⟩ : ∃ b, yo[k]? = some b := ⟨_, List.getElem?_eq_getElem (by rw [HM.out]; exact hlt)⟩
      obtain ⟨ga, oa, rfl, hga, ca1⟩ := (HA1.out.below HBR.out) k a ha
      obtain ⟨gb, ob, rfl, hgb, cb1⟩ := (HB1.out.below HBR.out) k b hb
      have HAK := Lib.hid ha
      have HBK := Lib.hid hb
      clear ha hb
      by_cases hab : a = b
      · have q : (a != b) = false := by simpa using hab
        have q' : decide (a = b) = true := by simpa using hab
        have q2 : (a == b) = true := by simpa using hab
        have HAB := Lib.hid hab
        clear hab
        go_wp2
        go_quiet (fail)
        go_wp2
        exact ⟨⟨k + 1, by omega, by go_num, ⟨HBR.out.os, HBR.out.tape, HBR.out.output, HBR.out.size, HBR.out.block⟩, fun j hj => by
          by_cases hjk : j = k
          · subst hjk
            rw [HAK.out, HBK.out, HAB.out]
          · exact HS.out j (by omega)⟩, by simp [intOf]; omega⟩
      · have q : (a != b) = true := by simpa using hab
        have q' : decide (a = b) = false := by simpa using hab
        have q2 : (a == b) = false := by simpa using hab
        have HT : Hid (decide ((⟨xe, xc, xo⟩ : Rs) = ⟨xe, xc, yo⟩) = false) := Lib.hid (by
          rw [decide_eq_false_iff_not]
          intro h
          injection h with _ _ h
          have h1 := HAK.out
          rw [h, HBK.out] at h1
          injection h1 with h1
          exact hab h1.symm)
        clear hab
        go_wp2
        go_quiet (fail)
        go_wp2
        go_returns
        exact ⟨by rw [HT.out]; rfl, HB.out.trans (Below.mono ⟨HBR.out.os, HBR.out.tape, HBR.out.output, HBR.out.size, HBR.out.block⟩ HB.out.size)⟩
    · have HT : Hid (decide ((⟨xe, xc, xo⟩ : Rs) = ⟨xe, xc, yo⟩) = true) := Lib.hid (by
        rw [decide_eq_true_eq]
        congr 1
        apply List.ext_getElem?
        intro j
        by_cases hj : j < k
        · exact HS.out j hj
        · have hkN : k = N := by omega
          rw [List.getElem?_eq_none (by rw [HN.out]; omega), List.getElem?_eq_none (by rw [HM.out]; omega)])
      obtain rfl : k = N := by omega
      go_wp2
      go_returns
      exact ⟨by rw [HT.out]; rfl, HB.out.trans (HBR.out.mono HB.out.size)⟩
end Go.Proofs.YtihbgppcacaekaaDoor
