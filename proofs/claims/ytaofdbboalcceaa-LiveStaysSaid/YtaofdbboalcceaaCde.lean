import Derived.Test.YtaofdbboalcceaaCdh
/- THE DOCUMENT's right, calls (an). -/
namespace Go.Proofs.Ytaofdbboalcceaa
open Go.RowKit Go.BigFrame

set_option maxRecDepth 1000000 in
set_option maxHeartbeats 40000000 in
theorem refright_8a (op dst a b n : Int) (text : ByteArray) (r0 r1 r2 r3 r4 r5 to_ els : Int) (nm : ByteArray) (ps R Fr : Int) (C : Option Addr) (L cap : Nat) (w : World) (hx : (dst < 0 ∧ dst ≠ -1) ∨ R ≤ dst) :
    Calls Try.prog 53 #[Ins.agg ⟨8, op, dst, a, b, n, text, r0, r1, r2, r3, r4, r5, to_, els⟩, funcAgg nm ps R Fr C L cap] w fun e w' => Tru (Ok ⟨8, op, dst, a, b, n, text, r0, r1, r2, r3, r4, r5, to_, els⟩ R Fr L) e ∧ Below w.heap.size w w' := by
  obtain ⟨b0, b1, b2, hs3, hB3⟩ := box3 w (Ins.obj ⟨8, op, dst, a, b, n, text, r0, r1, r2, r3, r4, r5, to_, els⟩) (funcObj nm ps R Fr C L cap) (Ins.obj ⟨8, 0, -1, 0, 0, 0, ⟨#[]⟩, 0, 0, 0, 0, 0, 0, 0, -1⟩)
  obtain ⟨W, hW⟩ : ∃ W, ((w.alloc (Ins.obj ⟨8, op, dst, a, b, n, text, r0, r1, r2, r3, r4, r5, to_, els⟩)).alloc (funcObj nm ps R Fr C L cap)).alloc (Ins.obj ⟨8, 0, -1, 0, 0, 0, ⟨#[]⟩, 0, 0, 0, 0, 0, 0, 0, -1⟩) = W := ⟨_, rfl⟩
  rw [hW] at b0 b1 b2 hs3 hB3
  have hS0 : RSt w W ⟨8, op, dst, a, b, n, text, r0, r1, r2, r3, r4, r5, to_, els⟩ ⟨8, 0, -1, 0, 0, 0, ⟨#[]⟩, 0, 0, 0, 0, 0, 0, 0, -1⟩ nm ps R Fr C L cap := ⟨b0, b1, b2, hB3⟩
  obtain ⟨x0, x1, x2, x3, x4, x5, x6, x7, x8, x9, x10, x11, x12, x13, x14⟩ := Ins.cells b0
  simp only [Ins.obj, funcObj, Ins.agg, funcAgg] at hW x0 x1 x2 x3 x4 x5 x6 x7 x8 x9 x10 x11 x12 x13 x14 ⊢
  have hus := refUses_any ⟨8, op, dst, a, b, n, text, r0, r1, r2, r3, r4, r5, to_, els⟩ W
  have hst := fun W => refSets_any ⟨8, op, dst, a, b, n, text, r0, r1, r2, r3, r4, r5, to_, els⟩ W
  obtain ⟨ul, hul⟩ : ∃ ul, ul = Ins.uses ⟨8, op, dst, a, b, n, text, r0, r1, r2, r3, r4, r5, to_, els⟩ := ⟨_, rfl⟩
  simp only [Ins.agg] at hus hst
  rw [← hul] at hus
  have HUL := Lib.hid hul
  clear hul b0 b1 b2 hs3 hB3
  obtain ⟨LU, hLU⟩ : ∃ LU, ul.length = LU := ⟨_, rfl⟩
  have hLU6 : LU ≤ 8 := by
    rw [← hLU, HUL.out]
    exact Ins.uses_len _
  have HLU := Lib.hid hLU
  clear hLU
  go_enter Try.func53, Try.ntmps53
  go_wp2_with (first
    | (go_at_call 43; refine hus.mono ?_; rintro e w1 ⟨⟨A, cA, rfl, hR⟩, hb1⟩; rw [HLU.out]))
  have hS1 := hS0.later hb1
  clear x0 x1 x2 x3 x4 x5 x6 x7 x8 x9 x10 x11 x12 x13 x14 hW hS0
  go_loopw [7] (fun ix w8 => ∃ m : Nat, m ≤ LU ∧ ix = .int .i64 m ∧ Below w1.heap.size w1 w8 ∧ ∀ (j : Nat) r, j < m → ul[j]? = some r → 0 ≤ r ∧ r < R) (fun ix _ => LU - (intOf ix).toNat)
  case atStart => exact ⟨0, by omega, rfl, Below.refl _ _, fun j r hj => by omega⟩
  case round =>
    obtain ⟨m, hm, rfl, hb, hno⟩ := hrel
    have hS := hS1.later hb
    by_cases hlt : m < LU
    · have hr : ul[m]? = some (ul[m]'(by rw [HLU.out]; exact hlt)) := by simp
      generalize ul[m]'(by rw [HLU.out]; exact hlt) = r at hr
      obtain ⟨bu, ou, rfl, _, g0⟩ := (hR.below hb) m r hr
      have f2 := cell_of_heap hS.bf 2 (.int .i64 R) rfl
      have hno' : ¬ (0 ≤ r ∧ r < R) → ¬ Ok ⟨8, op, dst, a, b, n, text, r0, r1, r2, r3, r4, r5, to_, els⟩ R Fr L := fun hn h => hn (h.uses r (by rw [← HUL.out]; exact List.mem_of_getElem? hr))
      by_cases hr0 : r < 0
      · have q4 : decide (r < 0) = true := by simpa using hr0
        have HT := Lib.hid (Tru.no (hno' (by omega)))
        clear hno' hr0
        go_wp2
        go_quiet (fail)
        go_wp2
        go_returns
        exact ⟨HT.out, below_drewN hS.below _⟩
      · have q4 : decide (r < 0) = false := by simpa using hr0
        by_cases hrR : r < R
        · have q5 : decide (r ≥ R) = false := by simp; omega
          have q6 : decide (R ≤ r) = false := by simp; omega
          clear hno'
          go_wp2
          go_quiet (fail)
          go_wp2
          exact ⟨⟨m + 1, by omega, by simp, below_drewN hb _, fun j r' hj hr' => by
            by_cases hjm : j = m
            · subst hjm
              rw [hr] at hr'
              injection hr' with hr'
              subst hr'
              exact ⟨by omega, hrR⟩
            · exact hno j r' (by omega) hr'⟩, by simp [intOf]; omega⟩
        · have q5 : decide (r ≥ R) = true := by simp; omega
          have q6 : decide (R ≤ r) = true := by simp; omega
          have HT := Lib.hid (Tru.no (hno' (by omega)))
          clear hno' hr0 hrR
          go_wp2
          go_quiet (fail)
          go_wp2
          go_returns
          exact ⟨HT.out, below_drewN hS.below _⟩
    · have hU : ∀ r ∈ Ins.uses ⟨8, op, dst, a, b, n, text, r0, r1, r2, r3, r4, r5, to_, els⟩, 0 ≤ r ∧ r < R := fun r hr => by
        rw [← HUL.out] at hr
        obtain ⟨j, hj⟩ := List.mem_iff_getElem?.1 hr
        exact hno j r (by have := (List.getElem?_eq_some_iff.1 hj).1; rw [HLU.out] at this; omega) hj
      have HU := Lib.hid hU
      have hge : ¬ (m < LU) := hlt
      obtain rfl : m = LU := by omega
      clear hU hno hb hS1 hb1 hR hus hlt hge hm
      obtain ⟨x0, x1, x2, x3, x4, x5, x6, x7, x8, x9, x10, x11, x12, x13, x14⟩ := Ins.cells hS.bi
      simp only at x0 x1 x2 x3 x4 x5 x6 x7 x8 x9 x10 x11 x12 x13 x14
      clear hLU6
      have hse : Ins.sets ⟨8, op, dst, a, b, n, text, r0, r1, r2, r3, r4, r5, to_, els⟩ = dst := rfl
      rw [hse] at hst
      clear hse
      have HT := Lib.hid (Tru.no (fun h : Ok ⟨8, op, dst, a, b, n, text, r0, r1, r2, r3, r4, r5, to_, els⟩ R Fr L => by have := h.dst rfl; simp only at this; omega))
      have hc : ((dst != -1) = true ∧ decide (dst < 0) = true ∧ (dst == -1) = false) ∨ ((dst != -1) = true ∧ decide (dst < 0) = false ∧ decide (dst ≥ R) = true ∧ decide (R ≤ dst) = true) ∨ ((dst != -1) = false ∧ decide (dst < 0) = true ∧ (dst == -1) = true ∧ decide (dst ≥ R) = true ∧ decide (R ≤ dst) = true) := by simp; omega
      clear hx
      rcases hc with ⟨d1, d2, d3⟩ | ⟨d1, d2, d3, d4⟩ | ⟨d1, d2, d3, d4, d5⟩
      all_goals
        go_wp2_with (first
          | (go_at_call 26; refine (hst _).mono ?_; rintro e w2 ⟨rfl, hb2⟩; have hT0 := hS.later hb2; have ck0 := cell_of_heap hT0.bi 0 (.int .i64 8) rfl; have cd0 := cell_of_heap hT0.bi 2 (.int .i64 dst) rfl; have cn0 := cell_of_heap hT0.bi 5 (.int .i64 n) rfl; have cx0 := cell_of_heap hT0.bi 6 (.string text) rfl; have g0_2 := cell_of_heap hT0.bf 2 (.int .i64 R) rfl))
        go_returns
        exact ⟨HT.out, hT0.below⟩

set_option maxRecDepth 1000000 in
set_option maxHeartbeats 40000000 in
theorem refright_8n (op dst a b n : Int) (text : ByteArray) (r0 r1 r2 r3 r4 r5 to_ els : Int) (nm : ByteArray) (ps R Fr : Int) (C : Option Addr) (L cap : Nat) (w : World) (hx : ¬ ((dst < 0 ∧ dst ≠ -1) ∨ R ≤ dst)) (eN : ¬ (0 ≤ n ∧ n ≤ 6 ∧ text.size ≠ 0)) :
    Calls Try.prog 53 #[Ins.agg ⟨8, op, dst, a, b, n, text, r0, r1, r2, r3, r4, r5, to_, els⟩, funcAgg nm ps R Fr C L cap] w fun e w' => Tru (Ok ⟨8, op, dst, a, b, n, text, r0, r1, r2, r3, r4, r5, to_, els⟩ R Fr L) e ∧ Below w.heap.size w w' := by
  obtain ⟨b0, b1, b2, hs3, hB3⟩ := box3 w (Ins.obj ⟨8, op, dst, a, b, n, text, r0, r1, r2, r3, r4, r5, to_, els⟩) (funcObj nm ps R Fr C L cap) (Ins.obj ⟨8, 0, -1, 0, 0, 0, ⟨#[]⟩, 0, 0, 0, 0, 0, 0, 0, -1⟩)
  obtain ⟨W, hW⟩ : ∃ W, ((w.alloc (Ins.obj ⟨8, op, dst, a, b, n, text, r0, r1, r2, r3, r4, r5, to_, els⟩)).alloc (funcObj nm ps R Fr C L cap)).alloc (Ins.obj ⟨8, 0, -1, 0, 0, 0, ⟨#[]⟩, 0, 0, 0, 0, 0, 0, 0, -1⟩) = W := ⟨_, rfl⟩
  rw [hW] at b0 b1 b2 hs3 hB3
  have hS0 : RSt w W ⟨8, op, dst, a, b, n, text, r0, r1, r2, r3, r4, r5, to_, els⟩ ⟨8, 0, -1, 0, 0, 0, ⟨#[]⟩, 0, 0, 0, 0, 0, 0, 0, -1⟩ nm ps R Fr C L cap := ⟨b0, b1, b2, hB3⟩
  obtain ⟨x0, x1, x2, x3, x4, x5, x6, x7, x8, x9, x10, x11, x12, x13, x14⟩ := Ins.cells b0
  simp only [Ins.obj, funcObj, Ins.agg, funcAgg] at hW x0 x1 x2 x3 x4 x5 x6 x7 x8 x9 x10 x11 x12 x13 x14 ⊢
  have hus := refUses_any ⟨8, op, dst, a, b, n, text, r0, r1, r2, r3, r4, r5, to_, els⟩ W
  have hst := fun W => refSets_any ⟨8, op, dst, a, b, n, text, r0, r1, r2, r3, r4, r5, to_, els⟩ W
  obtain ⟨ul, hul⟩ : ∃ ul, ul = Ins.uses ⟨8, op, dst, a, b, n, text, r0, r1, r2, r3, r4, r5, to_, els⟩ := ⟨_, rfl⟩
  simp only [Ins.agg] at hus hst
  rw [← hul] at hus
  have HUL := Lib.hid hul
  clear hul b0 b1 b2 hs3 hB3
  obtain ⟨LU, hLU⟩ : ∃ LU, ul.length = LU := ⟨_, rfl⟩
  have hLU6 : LU ≤ 8 := by
    rw [← hLU, HUL.out]
    exact Ins.uses_len _
  have HLU := Lib.hid hLU
  clear hLU
  go_enter Try.func53, Try.ntmps53
  go_wp2_with (first
    | (go_at_call 43; refine hus.mono ?_; rintro e w1 ⟨⟨A, cA, rfl, hR⟩, hb1⟩; rw [HLU.out]))
  have hS1 := hS0.later hb1
  clear x0 x1 x2 x3 x4 x5 x6 x7 x8 x9 x10 x11 x12 x13 x14 hW hS0
  go_loopw [7] (fun ix w8 => ∃ m : Nat, m ≤ LU ∧ ix = .int .i64 m ∧ Below w1.heap.size w1 w8 ∧ ∀ (j : Nat) r, j < m → ul[j]? = some r → 0 ≤ r ∧ r < R) (fun ix _ => LU - (intOf ix).toNat)
  case atStart => exact ⟨0, by omega, rfl, Below.refl _ _, fun j r hj => by omega⟩
  case round =>
    obtain ⟨m, hm, rfl, hb, hno⟩ := hrel
    have hS := hS1.later hb
    by_cases hlt : m < LU
    · have hr : ul[m]? = some (ul[m]'(by rw [HLU.out]; exact hlt)) := by simp
      generalize ul[m]'(by rw [HLU.out]; exact hlt) = r at hr
      obtain ⟨bu, ou, rfl, _, g0⟩ := (hR.below hb) m r hr
      have f2 := cell_of_heap hS.bf 2 (.int .i64 R) rfl
      have hno' : ¬ (0 ≤ r ∧ r < R) → ¬ Ok ⟨8, op, dst, a, b, n, text, r0, r1, r2, r3, r4, r5, to_, els⟩ R Fr L := fun hn h => hn (h.uses r (by rw [← HUL.out]; exact List.mem_of_getElem? hr))
      by_cases hr0 : r < 0
      · have q4 : decide (r < 0) = true := by simpa using hr0
        have HT := Lib.hid (Tru.no (hno' (by omega)))
        clear hno' hr0
        go_wp2
        go_quiet (fail)
        go_wp2
        go_returns
        exact ⟨HT.out, below_drewN hS.below _⟩
      · have q4 : decide (r < 0) = false := by simpa using hr0
        by_cases hrR : r < R
        · have q5 : decide (r ≥ R) = false := by simp; omega
          have q6 : decide (R ≤ r) = false := by simp; omega
          clear hno'
          go_wp2
          go_quiet (fail)
          go_wp2
          exact ⟨⟨m + 1, by omega, by simp, below_drewN hb _, fun j r' hj hr' => by
            by_cases hjm : j = m
            · subst hjm
              rw [hr] at hr'
              injection hr' with hr'
              subst hr'
              exact ⟨by omega, hrR⟩
            · exact hno j r' (by omega) hr'⟩, by simp [intOf]; omega⟩
        · have q5 : decide (r ≥ R) = true := by simp; omega
          have q6 : decide (R ≤ r) = true := by simp; omega
          have HT := Lib.hid (Tru.no (hno' (by omega)))
          clear hno' hr0 hrR
          go_wp2
          go_quiet (fail)
          go_wp2
          go_returns
          exact ⟨HT.out, below_drewN hS.below _⟩
    · have hU : ∀ r ∈ Ins.uses ⟨8, op, dst, a, b, n, text, r0, r1, r2, r3, r4, r5, to_, els⟩, 0 ≤ r ∧ r < R := fun r hr => by
        rw [← HUL.out] at hr
        obtain ⟨j, hj⟩ := List.mem_iff_getElem?.1 hr
        exact hno j r (by have := (List.getElem?_eq_some_iff.1 hj).1; rw [HLU.out] at this; omega) hj
      have HU := Lib.hid hU
      have hge : ¬ (m < LU) := hlt
      obtain rfl : m = LU := by omega
      clear hU hno hb hS1 hb1 hR hus hlt hge hm
      obtain ⟨x0, x1, x2, x3, x4, x5, x6, x7, x8, x9, x10, x11, x12, x13, x14⟩ := Ins.cells hS.bi
      simp only at x0 x1 x2 x3 x4 x5 x6 x7 x8 x9 x10 x11 x12 x13 x14
      clear hLU6
      have hse : Ins.sets ⟨8, op, dst, a, b, n, text, r0, r1, r2, r3, r4, r5, to_, els⟩ = dst := rfl
      rw [hse] at hst
      clear hse
      have hD : ((dst != -1) = false ∧ decide (dst < 0) = true ∧ (dst == -1) = true) ∨ ((dst != -1) = true ∧ decide (dst < 0) = false ∧ (dst == -1) = false) := by simp; omega
      have hdd : (0 ≤ dst ∧ dst < R) ∨ ((8 : Int) = 8 ∧ dst = -1 ∧ dst < R) := by omega
      have HDD := Lib.hid hdd
      have p1 : decide (dst ≥ R) = false := by simp; omega
      have p2 : decide (R ≤ dst) = false := by simp; omega
      clear hdd
      have HT := Lib.hid (Tru.no (fun h : Ok ⟨8, op, dst, a, b, n, text, r0, r1, r2, r3, r4, r5, to_, els⟩ R Fr L => by have h1 := h.call rfl; simp only at h1; exact eN ⟨h1.1, h1.2.1, fun e => h1.2.2 (size_zero e)⟩))
      have hc : (decide (n < 0) = true) ∨ (decide (n < 0) = false ∧ decide (n > 6) = true ∧ decide (6 < n) = true) ∨ (decide (n < 0) = false ∧ decide (n > 6) = false ∧ decide (6 < n) = false ∧ ((text.size : Int) == 0) = true ∧ (text.size == 0) = true) := by
        by_cases c1 : n < 0
        · exact .inl (by simpa using c1)
        · by_cases c2 : 6 < n
          · exact .inr (.inl ⟨by simpa using c1, by simpa using c2, by simpa using c2⟩)
          · have c3 : text.size = 0 := by omega
            exact .inr (.inr ⟨by simpa using c1, by simpa using c2, by simpa using c2, by rw [c3]; rfl, by rw [c3]; rfl⟩)
      clear eN hx
      rcases hD with ⟨d1, d2, d3⟩ | ⟨d1, d2, d3⟩ <;> rcases hc with n1 | ⟨n1, n2, n3⟩ | ⟨n1, n2, n3, n4, n5⟩
      all_goals
        go_wp2_with (first
          | (go_at_call 26; refine (hst _).mono ?_; rintro e w2 ⟨rfl, hb2⟩; have hT0 := hS.later hb2; have ck0 := cell_of_heap hT0.bi 0 (.int .i64 8) rfl; have cd0 := cell_of_heap hT0.bi 2 (.int .i64 dst) rfl; have cn0 := cell_of_heap hT0.bi 5 (.int .i64 n) rfl; have cx0 := cell_of_heap hT0.bi 6 (.string text) rfl; have g0_2 := cell_of_heap hT0.bf 2 (.int .i64 R) rfl; have cs0 := cell_of_heap hT0.bi 2 (.int .i64 dst) rfl; have co0 := cell_of_heap hT0.bo 2 (.int .i64 (-1)) rfl; have fz0 := hT0.free 2; have hT1 := hT0.store (o' := ⟨8, 0, dst, 0, 0, 0, ⟨#[]⟩, 0, 0, 0, 0, 0, 0, 0, -1⟩) 2 (.int .i64 dst) rfl; have ck1 := cell_of_heap hT1.bi 0 (.int .i64 8) rfl; have cd1 := cell_of_heap hT1.bi 2 (.int .i64 dst) rfl; have cn1 := cell_of_heap hT1.bi 5 (.int .i64 n) rfl; have cx1 := cell_of_heap hT1.bi 6 (.string text) rfl; have cs1 := cell_of_heap hT1.bi 5 (.int .i64 n) rfl; have co1 := cell_of_heap hT1.bo 5 (.int .i64 0) rfl; have fz1 := hT1.free 5; have hT2 := hT1.store (o' := ⟨8, 0, dst, 0, 0, n, ⟨#[]⟩, 0, 0, 0, 0, 0, 0, 0, -1⟩) 5 (.int .i64 n) rfl; have ck2 := cell_of_heap hT2.bi 0 (.int .i64 8) rfl; have cd2 := cell_of_heap hT2.bi 2 (.int .i64 dst) rfl; have cn2 := cell_of_heap hT2.bi 5 (.int .i64 n) rfl; have cx2 := cell_of_heap hT2.bi 6 (.string text) rfl))
        go_returns
        exact ⟨HT.out, hT2.below⟩
end Go.Proofs.Ytaofdbboalcceaa
