import Derived.Test.YtaofdbboalcceaaCk
/- THE CODE's right. -/
namespace Go.Proofs.Ytaofdbboalcceaa
open Go.RowKit Go.BigFrame

set_option maxRecDepth 1000000 in
set_option maxHeartbeats 8000000 in
theorem right_n (k op dst a b n : Int) (text : ByteArray) (r0 r1 r2 r3 r4 r5 to_ els : Int) (nm : ByteArray) (ps R Fr : Int) (C : Option Addr) (L cap : Nat) (w : World) (hk : 1 ≤ k ∧ k ≤ 13) (hm : Ins.mk k op dst a b n text r0 r1 r2 r3 r4 r5 to_ els = Ins.mask ⟨k, op, dst, a, b, n, text, r0, r1, r2, r3, r4, r5, to_, els⟩) (hs : kS k = false) : Calls Try.prog 76 #[Ins.agg ⟨k, op, dst, a, b, n, text, r0, r1, r2, r3, r4, r5, to_, els⟩, funcAgg nm ps R Fr C L cap] w fun e w' => Tru (Ok ⟨k, op, dst, a, b, n, text, r0, r1, r2, r3, r4, r5, to_, els⟩ R Fr L) e ∧ Below w.heap.size w w' := by
  have HB := Lib.hid (fun (hu : ∀ r ∈ Ins.uses ⟨k, op, dst, a, b, n, text, r0, r1, r2, r3, r4, r5, to_, els⟩, 0 ≤ r ∧ r < R) => Ok.build (i := ⟨k, op, dst, a, b, n, text, r0, r1, r2, r3, r4, r5, to_, els⟩) (R := R) (Fr := Fr) (L := L) hk hu (fun h => by simp only at h; rw [hs] at h; cases h) hm)
  have HNO := Lib.hid (fun (hu : ¬ ∀ r ∈ Ins.uses ⟨k, op, dst, a, b, n, text, r0, r1, r2, r3, r4, r5, to_, els⟩, 0 ≤ r ∧ r < R) => Tru.no (fun h : Ok ⟨k, op, dst, a, b, n, text, r0, r1, r2, r3, r4, r5, to_, els⟩ R Fr L => hu h.uses))
  have hS := KSt.made w ⟨k, op, dst, a, b, n, text, r0, r1, r2, r3, r4, r5, to_, els⟩ nm ps R Fr C L cap
  obtain ⟨W, hW⟩ : ∃ W, (w.alloc (Ins.obj ⟨k, op, dst, a, b, n, text, r0, r1, r2, r3, r4, r5, to_, els⟩)).alloc (funcObj nm ps R Fr C L cap) = W := ⟨_, rfl⟩
  rw [hW] at hS
  have k1 : decide (k < 1) = false := by simp; omega
  have k2 : decide (k > 13) = false := by simp; omega
  have k3 : decide (13 < k) = false := by simp; omega
  have k4 : (k == 0) = false := by simp; omega
  have hba := fun w => bare_any ⟨k, op, dst, a, b, n, text, r0, r1, r2, r3, r4, r5, to_, els⟩ hk w
  simp only [BareT] at hba
  rw [if_pos hm] at hba
  obtain ⟨x0, x1, x2, x3, x4, x5, x6, x7, x8, x9, x10, x11, x12, x13, x14⟩ := Ins.cells hS.bi
  simp only [Ins.obj, funcObj, Ins.agg, funcAgg] at hW hba x0 x1 x2 x3 x4 x5 x6 x7 x8 x9 x10 x11 x12 x13 x14 ⊢
  have hst := fun w => sets_any k w
  rw [hs] at hst
  have hus := fun w => Uses_any ⟨k, op, dst, a, b, n, text, r0, r1, r2, r3, r4, r5, to_, els⟩ w
  have hul6 := Ins.uses_len ⟨k, op, dst, a, b, n, text, r0, r1, r2, r3, r4, r5, to_, els⟩
  obtain ⟨ul, hul⟩ : ∃ ul, ul = Ins.uses ⟨k, op, dst, a, b, n, text, r0, r1, r2, r3, r4, r5, to_, els⟩ := ⟨_, rfl⟩
  simp only [Ins.agg] at hus
  rw [← hul] at hul6
  simp only [← hul] at hus
  have HUL := Lib.hid hul
  clear hul
  have HK := Lib.hid hk
  have HS := Lib.hid hs
  have hfd := fun w => field0 k w
  clear hk hm hs
  go_enter Try.func76, Try.ntmps76
  go_wp2_with (first
    | (go_at_call 95; refine (hba _).mono ?_; rintro e w1 ⟨rfl, hb1⟩; have hS1 := hS.later hb1; obtain ⟨z0, z1, z2, z3, z4, z5, z6, z7, z8, z9, z10, z11, z12, z13, z14⟩ := Ins.cells hS1.bi; simp only at z0 z1 z2 z3 z4 z5 z6 z7 z8 z9 z10 z11 z12 z13 z14; have zr := right1_any (cell_of_heap hS1.bf 2 (.int .i64 R) rfl))
    | (go_at_call 78; refine (hst _).mono ?_; rintro e w5 ⟨rfl, hw5⟩; subst hw5)
    | (go_at_call 86; refine (hus _).mono ?_; rintro e w2 ⟨⟨A, cA, rfl, hRd⟩, hb2⟩; have hS2 := hS1.later hb2))
  go_at_call 96
  refine (allOf_any (fb := w.heap.size + 1) (R := R) (cell_of_heap hS2.bf 2 (.int .i64 R) rfl) hS2.fb A ul cA hRd (by omega)).mono ?_
  rintro e w3 ⟨⟨bu, rfl, hbu⟩, hb3⟩
  have hS3 := hS2.later hb3
  have HBU := Lib.hid hbu
  clear hbu
  have v0 := cell_of_heap hS3.bi 0 (.int .i64 k) rfl
  have v1 := cell_of_heap hS3.bi 1 (.int .i64 op) rfl
  have v5 := cell_of_heap hS3.bi 5 (.int .i64 n) rfl
  have v6 := cell_of_heap hS3.bi 6 (.string text) rfl
  have v13 := cell_of_heap hS3.bi 13 (.int .i64 to_) rfl
  have v14 := cell_of_heap hS3.bi 14 (.int .i64 els) rfl
  have u3 := cell_of_heap hS3.bf 3 (.int .i64 Fr) rfl
  have zr2 := right2_any (cell_of_heap hS3.bf 4 (.slice C L cap) rfl)
  cases bu
  · go_wp2
    go_returns
    exact ⟨HNO.out (fun h => by have := HBU.out.2 (by rw [HUL.out]; exact h); cases this), hS3.below⟩
  have hB := HB.out (by rw [← HUL.out]; exact HBU.out.1 (by trivial))
  clear HB HNO hba hst hus hS hS1 hS2 hb1 hb2 hb3 hRd hW x0 x1 x2 x3 x4 x5 x6 x7 x8 x9 x10 x11 x12 x13 x14 z0 z1 z2 z3 z4 z5 z6 z7 z8 z9 z10 z11 z12 z13 z14 zr
  have HB := Lib.hid hB
  clear hB k1 k2 k3 k4
  have hkk : k = 7 ∨ k = 10 ∨ k = 11 ∨ k = 12 ∨ k = 13 := by
    have h1 := HK.out
    have h2 := HS.out
    (try simp only at h1)
    simp [kS] at h2
    omega
  rcases hkk with rfl | rfl | rfl | rfl | rfl
  · go_wp2
    go_returns
    exact ⟨⟨true, rfl, by rw [HB.out]; simp⟩, hS3.below⟩
  · go_wp2
    go_returns
    exact ⟨⟨true, rfl, by rw [HB.out]; simp⟩, hS3.below⟩
  · go_wp2_with (first
      | (go_at_call 94; refine (zr2 to_).mono ?_; rintro e w5 ⟨rfl, hw5⟩; subst hw5))
    go_returns
    exact ⟨⟨_, rfl, by rw [HB.out]; simp [inR]⟩, hS3.below⟩
  · have ha := zr2 to_
    have hb := zr2 els
    have HI : Hid ((inR to_ L = true ↔ 0 ≤ to_ ∧ to_ < L) ∧ (inR els L = true ↔ 0 ≤ els ∧ els < L)) := Lib.hid (by simp [inR])
    generalize inR to_ L = t1 at ha HI
    generalize inR els L = t2 at hb HI
    cases t1
    all_goals
      go_wp2_with (first
        | (go_at_call_of 94 (Value.int IntKind.i64 to_); refine ha.mono ?_; rintro e w5 ⟨rfl, hw5⟩; subst hw5)
        | (go_at_call_of 94 (Value.int IntKind.i64 els); refine hb.mono ?_; rintro e w5 ⟨rfl, hw5⟩; subst hw5))
      go_returns
    · exact ⟨⟨_, rfl, by rw [HB.out]; have := HI.out.1; simp at this ⊢; omega⟩, hS3.below⟩
    · exact ⟨⟨_, rfl, by rw [HB.out]; have h1 := HI.out.1; have h2 := HI.out.2; simp at h1; simp [h1, h2]⟩, hS3.below⟩
  · go_wp2
    go_returns
    exact ⟨⟨true, rfl, by rw [HB.out]; simp⟩, hS3.below⟩
end Go.Proofs.Ytaofdbboalcceaa

/- THE CODE's right. -/
namespace Go.Proofs.Ytaofdbboalcceaa
open Go.RowKit Go.BigFrame

theorem nonempty_list {s : ByteArray} (h : ¬ s.size = 0) : s.toList.isEmpty = false := by
  rw [Go.ByteArray.toList_eq]
  cases s with
  | mk d =>
    have : d.size ≠ 0 := h
    rw [List.isEmpty_eq_false_iff_exists_mem]
    exact ⟨d[0], by simp⟩
set_option maxRecDepth 1000000 in
set_option maxHeartbeats 8000000 in
theorem right_y (k op dst a b n : Int) (text : ByteArray) (r0 r1 r2 r3 r4 r5 to_ els : Int) (nm : ByteArray) (ps R Fr : Int) (C : Option Addr) (L cap : Nat) (w : World) (hk : 1 ≤ k ∧ k ≤ 13) (hm : Ins.mk k op dst a b n text r0 r1 r2 r3 r4 r5 to_ els = Ins.mask ⟨k, op, dst, a, b, n, text, r0, r1, r2, r3, r4, r5, to_, els⟩) (hs : kS k = true) (hd : inR dst R = true) : Calls Try.prog 76 #[Ins.agg ⟨k, op, dst, a, b, n, text, r0, r1, r2, r3, r4, r5, to_, els⟩, funcAgg nm ps R Fr C L cap] w fun e w' => Tru (Ok ⟨k, op, dst, a, b, n, text, r0, r1, r2, r3, r4, r5, to_, els⟩ R Fr L) e ∧ Below w.heap.size w w' := by
  have HB := Lib.hid (fun (hu : ∀ r ∈ Ins.uses ⟨k, op, dst, a, b, n, text, r0, r1, r2, r3, r4, r5, to_, els⟩, 0 ≤ r ∧ r < R) => Ok.build (i := ⟨k, op, dst, a, b, n, text, r0, r1, r2, r3, r4, r5, to_, els⟩) (R := R) (Fr := Fr) (L := L) hk hu (fun _ => Or.inl (inR_true hd)) hm)
  have HNO := Lib.hid (fun (hu : ¬ ∀ r ∈ Ins.uses ⟨k, op, dst, a, b, n, text, r0, r1, r2, r3, r4, r5, to_, els⟩, 0 ≤ r ∧ r < R) => Tru.no (fun h : Ok ⟨k, op, dst, a, b, n, text, r0, r1, r2, r3, r4, r5, to_, els⟩ R Fr L => hu h.uses))
  have hS := KSt.made w ⟨k, op, dst, a, b, n, text, r0, r1, r2, r3, r4, r5, to_, els⟩ nm ps R Fr C L cap
  obtain ⟨W, hW⟩ : ∃ W, (w.alloc (Ins.obj ⟨k, op, dst, a, b, n, text, r0, r1, r2, r3, r4, r5, to_, els⟩)).alloc (funcObj nm ps R Fr C L cap) = W := ⟨_, rfl⟩
  rw [hW] at hS
  have k1 : decide (k < 1) = false := by simp; omega
  have k2 : decide (k > 13) = false := by simp; omega
  have k3 : decide (13 < k) = false := by simp; omega
  have k4 : (k == 0) = false := by simp; omega
  have hba := fun w => bare_any ⟨k, op, dst, a, b, n, text, r0, r1, r2, r3, r4, r5, to_, els⟩ hk w
  simp only [BareT] at hba
  rw [if_pos hm] at hba
  obtain ⟨x0, x1, x2, x3, x4, x5, x6, x7, x8, x9, x10, x11, x12, x13, x14⟩ := Ins.cells hS.bi
  simp only [Ins.obj, funcObj, Ins.agg, funcAgg] at hW hba x0 x1 x2 x3 x4 x5 x6 x7 x8 x9 x10 x11 x12 x13 x14 ⊢
  have hst := fun w => sets_any k w
  rw [hs] at hst
  have hus := fun w => Uses_any ⟨k, op, dst, a, b, n, text, r0, r1, r2, r3, r4, r5, to_, els⟩ w
  have hul6 := Ins.uses_len ⟨k, op, dst, a, b, n, text, r0, r1, r2, r3, r4, r5, to_, els⟩
  obtain ⟨ul, hul⟩ : ∃ ul, ul = Ins.uses ⟨k, op, dst, a, b, n, text, r0, r1, r2, r3, r4, r5, to_, els⟩ := ⟨_, rfl⟩
  simp only [Ins.agg] at hus
  rw [← hul] at hul6
  simp only [← hul] at hus
  have HUL := Lib.hid hul
  clear hul
  have HK := Lib.hid hk
  have HS := Lib.hid hs
  have hfd := fun w => field0 k w
  clear hk hm hs
  go_enter Try.func76, Try.ntmps76
  go_wp2_with (first
    | (go_at_call 95; refine (hba _).mono ?_; rintro e w1 ⟨rfl, hb1⟩; have hS1 := hS.later hb1; obtain ⟨z0, z1, z2, z3, z4, z5, z6, z7, z8, z9, z10, z11, z12, z13, z14⟩ := Ins.cells hS1.bi; simp only at z0 z1 z2 z3 z4 z5 z6 z7 z8 z9 z10 z11 z12 z13 z14; have zr := right1_any (cell_of_heap hS1.bf 2 (.int .i64 R) rfl))
    | (go_at_call 78; refine (hst _).mono ?_; rintro e w5 ⟨rfl, hw5⟩; subst hw5)
    | (go_at_call 93; have zz := zr dst; rw [hd] at zz; refine zz.mono ?_; rintro e w5 ⟨rfl, hw5⟩; subst hw5)
    | (go_at_call 86; refine (hus _).mono ?_; rintro e w2 ⟨⟨A, cA, rfl, hRd⟩, hb2⟩; have hS2 := hS1.later hb2))
  go_at_call 96
  refine (allOf_any (fb := w.heap.size + 1) (R := R) (cell_of_heap hS2.bf 2 (.int .i64 R) rfl) hS2.fb A ul cA hRd (by omega)).mono ?_
  rintro e w3 ⟨⟨bu, rfl, hbu⟩, hb3⟩
  have hS3 := hS2.later hb3
  have HBU := Lib.hid hbu
  clear hbu
  have v0 := cell_of_heap hS3.bi 0 (.int .i64 k) rfl
  have v1 := cell_of_heap hS3.bi 1 (.int .i64 op) rfl
  have v5 := cell_of_heap hS3.bi 5 (.int .i64 n) rfl
  have v6 := cell_of_heap hS3.bi 6 (.string text) rfl
  have v13 := cell_of_heap hS3.bi 13 (.int .i64 to_) rfl
  have v14 := cell_of_heap hS3.bi 14 (.int .i64 els) rfl
  have u3 := cell_of_heap hS3.bf 3 (.int .i64 Fr) rfl
  have zr2 := right2_any (cell_of_heap hS3.bf 4 (.slice C L cap) rfl)
  cases bu
  · go_wp2
    go_returns
    exact ⟨HNO.out (fun h => by have := HBU.out.2 (by rw [HUL.out]; exact h); cases this), hS3.below⟩
  have hB := HB.out (by rw [← HUL.out]; exact HBU.out.1 (by trivial))
  clear HB HNO hba hst hus hS hS1 hS2 hb1 hb2 hb3 hRd hW x0 x1 x2 x3 x4 x5 x6 x7 x8 x9 x10 x11 x12 x13 x14 z0 z1 z2 z3 z4 z5 z6 z7 z8 z9 z10 z11 z12 z13 z14 zr
  have HB := Lib.hid hB
  clear hB k1 k2 k3 k4
  have hkk : k = 1 ∨ k = 2 ∨ k = 3 ∨ k = 4 ∨ k = 5 ∨ k = 6 ∨ k = 8 ∨ k = 9 := by
    have h1 := HK.out
    have h2 := HS.out
    (try simp only at h1)
    simp [kS] at h2
    omega
  rcases hkk with rfl | rfl | rfl | rfl | rfl | rfl | rfl | rfl
  · go_wp2_with (first
      | (go_at_call 88; refine (is_any n _).mono ?_; rintro e w5 ⟨rfl, hw5⟩; subst hw5))
    go_returns
    exact ⟨⟨_, rfl, by rw [HB.out]; simp⟩, hS3.below⟩
  · go_wp2_with (first
      | (go_at_call 83; refine (one_any op _).mono ?_; rintro e w5 ⟨rfl, hw5⟩; subst hw5))
    go_returns
    exact ⟨⟨_, rfl, by rw [HB.out]; simp⟩, hS3.below⟩
  · go_wp2_with (first
      | (go_at_call 84; refine (two_any op _).mono ?_; rintro e w5 ⟨rfl, hw5⟩; subst hw5))
    go_returns
    exact ⟨⟨_, rfl, by rw [HB.out]; simp⟩, hS3.below⟩
  · go_wp2
    go_returns
    exact ⟨⟨true, rfl, by rw [HB.out]; simp⟩, hS3.below⟩
  · rcases (by simp; omega : (decide (n ≥ 0) = false ∧ decide (0 ≤ n) = false) ∨ (decide (n ≥ 0) = true ∧ decide (0 ≤ n) = true ∧ decide (n ≤ Fr) = false) ∨ (decide (n ≥ 0) = true ∧ decide (0 ≤ n) = true ∧ decide (n ≤ Fr) = true)) with ⟨h1, h2⟩ | ⟨h1, h2, h3⟩ | ⟨h1, h2, h3⟩
    all_goals
      go_wp2
      go_returns
    · exact ⟨⟨_, rfl, by rw [HB.out]; simp at h2 ⊢; omega⟩, hS3.below⟩
    · exact ⟨⟨_, rfl, by rw [HB.out]; simp at h2 h3 ⊢; omega⟩, hS3.below⟩
    · exact ⟨⟨_, rfl, by rw [HB.out]; simp at h2 h3 ⊢; omega⟩, hS3.below⟩
  · go_wp2
    go_returns
    exact ⟨⟨true, rfl, by rw [HB.out]; simp⟩, hS3.below⟩
  · have ht : (text.toList.isEmpty = true ∧ (text.toList == ([] : List UInt8)) = true ∧ text = ⟨#[]⟩) ∨ (text.toList.isEmpty = false ∧ (text.toList == ([] : List UInt8)) = false ∧ text ≠ ⟨#[]⟩) := by
      by_cases h0 : text.size = 0
      · left
        rw [size_zero h0, Go.ByteArray.toList_eq]
        exact ⟨rfl, rfl, rfl⟩
      · right
        have h := nonempty_list h0
        exact ⟨h, by cases hl : text.toList with | nil => rw [hl] at h; cases h | cons a l => rfl, fun e => h0 (by rw [e]; rfl)⟩
    rcases (by simp; omega : (decide (n ≥ 0) = false ∧ decide (0 ≤ n) = false) ∨ (decide (n ≥ 0) = true ∧ decide (0 ≤ n) = true ∧ decide (n ≤ 6) = false) ∨ (decide (n ≥ 0) = true ∧ decide (0 ≤ n) = true ∧ decide (n ≤ 6) = true)) with ⟨h1, h2⟩ | ⟨h1, h2, h3⟩ | ⟨h1, h2, h3⟩
    · clear ht
      go_wp2
      go_returns
      exact ⟨⟨_, rfl, by rw [HB.out]; simp at h2 ⊢; omega⟩, hS3.below⟩
    · clear ht
      go_wp2
      go_returns
      exact ⟨⟨_, rfl, by rw [HB.out]; simp at h2 h3 ⊢; omega⟩, hS3.below⟩
    · rcases ht with ⟨t1, t2, t3⟩ | ⟨t1, t2, t3⟩
      all_goals
        have HT3 := Lib.hid t3
        clear t3
        go_wp2
        go_returns
      · exact ⟨⟨_, rfl, by rw [HB.out]; have := HT3.out; simp [this]⟩, hS3.below⟩
      · exact ⟨⟨_, rfl, by rw [HB.out]; have := HT3.out; simp at h2 h3; simp [this, h2, h3]⟩, hS3.below⟩
  · go_wp2
    go_returns
    exact ⟨⟨true, rfl, by rw [HB.out]; simp⟩, hS3.below⟩
end Go.Proofs.Ytaofdbboalcceaa

/- THE CODE's right. -/
namespace Go.Proofs.Ytaofdbboalcceaa
open Go.RowKit Go.BigFrame

set_option maxRecDepth 1000000 in
set_option maxHeartbeats 8000000 in
theorem right_c (k op dst a b n : Int) (text : ByteArray) (r0 r1 r2 r3 r4 r5 to_ els : Int) (nm : ByteArray) (ps R Fr : Int) (C : Option Addr) (L cap : Nat) (w : World) (hk : 1 ≤ k ∧ k ≤ 13) (hm : Ins.mk k op dst a b n text r0 r1 r2 r3 r4 r5 to_ els = Ins.mask ⟨k, op, dst, a, b, n, text, r0, r1, r2, r3, r4, r5, to_, els⟩) (hs : kS k = true) (hc : k = 8 ∧ dst = -1) (hR0 : 0 ≤ R) : Calls Try.prog 76 #[Ins.agg ⟨k, op, dst, a, b, n, text, r0, r1, r2, r3, r4, r5, to_, els⟩, funcAgg nm ps R Fr C L cap] w fun e w' => Tru (Ok ⟨k, op, dst, a, b, n, text, r0, r1, r2, r3, r4, r5, to_, els⟩ R Fr L) e ∧ Below w.heap.size w w' := by
  have HB := Lib.hid (fun (hu : ∀ r ∈ Ins.uses ⟨k, op, dst, a, b, n, text, r0, r1, r2, r3, r4, r5, to_, els⟩, 0 ≤ r ∧ r < R) => Ok.build (i := ⟨k, op, dst, a, b, n, text, r0, r1, r2, r3, r4, r5, to_, els⟩) (R := R) (Fr := Fr) (L := L) hk hu (fun _ => Or.inr ⟨hc.1, hc.2, by simp only; omega⟩) hm)
  have HNO := Lib.hid (fun (hu : ¬ ∀ r ∈ Ins.uses ⟨k, op, dst, a, b, n, text, r0, r1, r2, r3, r4, r5, to_, els⟩, 0 ≤ r ∧ r < R) => Tru.no (fun h : Ok ⟨k, op, dst, a, b, n, text, r0, r1, r2, r3, r4, r5, to_, els⟩ R Fr L => hu h.uses))
  have hS := KSt.made w ⟨k, op, dst, a, b, n, text, r0, r1, r2, r3, r4, r5, to_, els⟩ nm ps R Fr C L cap
  obtain ⟨W, hW⟩ : ∃ W, (w.alloc (Ins.obj ⟨k, op, dst, a, b, n, text, r0, r1, r2, r3, r4, r5, to_, els⟩)).alloc (funcObj nm ps R Fr C L cap) = W := ⟨_, rfl⟩
  rw [hW] at hS
  have k1 : decide (k < 1) = false := by simp; omega
  have k2 : decide (k > 13) = false := by simp; omega
  have k3 : decide (13 < k) = false := by simp; omega
  have k4 : (k == 0) = false := by simp; omega
  have hba := fun w => bare_any ⟨k, op, dst, a, b, n, text, r0, r1, r2, r3, r4, r5, to_, els⟩ hk w
  simp only [BareT] at hba
  rw [if_pos hm] at hba
  obtain ⟨x0, x1, x2, x3, x4, x5, x6, x7, x8, x9, x10, x11, x12, x13, x14⟩ := Ins.cells hS.bi
  simp only [Ins.obj, funcObj, Ins.agg, funcAgg] at hW hba x0 x1 x2 x3 x4 x5 x6 x7 x8 x9 x10 x11 x12 x13 x14 ⊢
  have hst := fun w => sets_any k w
  rw [hs] at hst
  have hd : inR dst R = false := by simp [inR]; omega
  have q8 : (k == 8) = true := by simp; omega
  have q1 : (dst == -1) = true := by simp; omega
  have hus := fun w => Uses_any ⟨k, op, dst, a, b, n, text, r0, r1, r2, r3, r4, r5, to_, els⟩ w
  have hul6 := Ins.uses_len ⟨k, op, dst, a, b, n, text, r0, r1, r2, r3, r4, r5, to_, els⟩
  obtain ⟨ul, hul⟩ : ∃ ul, ul = Ins.uses ⟨k, op, dst, a, b, n, text, r0, r1, r2, r3, r4, r5, to_, els⟩ := ⟨_, rfl⟩
  simp only [Ins.agg] at hus
  rw [← hul] at hul6
  simp only [← hul] at hus
  have HUL := Lib.hid hul
  clear hul
  have HK := Lib.hid hk
  have HS := Lib.hid hs
  have hfd := fun w => field0 k w
  clear hk hm hs hc
  go_enter Try.func76, Try.ntmps76
  go_wp2_with (first
    | (go_at_call 95; refine (hba _).mono ?_; rintro e w1 ⟨rfl, hb1⟩; have hS1 := hS.later hb1; obtain ⟨z0, z1, z2, z3, z4, z5, z6, z7, z8, z9, z10, z11, z12, z13, z14⟩ := Ins.cells hS1.bi; simp only at z0 z1 z2 z3 z4 z5 z6 z7 z8 z9 z10 z11 z12 z13 z14; have zr := right1_any (cell_of_heap hS1.bf 2 (.int .i64 R) rfl))
    | (go_at_call 78; refine (hst _).mono ?_; rintro e w5 ⟨rfl, hw5⟩; subst hw5)
    | (go_at_call 93; have zz := zr dst; rw [hd] at zz; refine zz.mono ?_; rintro e w5 ⟨rfl, hw5⟩; subst hw5)
    | (go_at_call 86; refine (hus _).mono ?_; rintro e w2 ⟨⟨A, cA, rfl, hRd⟩, hb2⟩; have hS2 := hS1.later hb2))
  go_at_call 96
  refine (allOf_any (fb := w.heap.size + 1) (R := R) (cell_of_heap hS2.bf 2 (.int .i64 R) rfl) hS2.fb A ul cA hRd (by omega)).mono ?_
  rintro e w3 ⟨⟨bu, rfl, hbu⟩, hb3⟩
  have hS3 := hS2.later hb3
  have HBU := Lib.hid hbu
  clear hbu
  have v0 := cell_of_heap hS3.bi 0 (.int .i64 k) rfl
  have v1 := cell_of_heap hS3.bi 1 (.int .i64 op) rfl
  have v5 := cell_of_heap hS3.bi 5 (.int .i64 n) rfl
  have v6 := cell_of_heap hS3.bi 6 (.string text) rfl
  have v13 := cell_of_heap hS3.bi 13 (.int .i64 to_) rfl
  have v14 := cell_of_heap hS3.bi 14 (.int .i64 els) rfl
  have u3 := cell_of_heap hS3.bf 3 (.int .i64 Fr) rfl
  have zr2 := right2_any (cell_of_heap hS3.bf 4 (.slice C L cap) rfl)
  cases bu
  · go_wp2
    go_returns
    exact ⟨HNO.out (fun h => by have := HBU.out.2 (by rw [HUL.out]; exact h); cases this), hS3.below⟩
  have hB := HB.out (by rw [← HUL.out]; exact HBU.out.1 (by trivial))
  clear HB HNO hba hst hus hS hS1 hS2 hb1 hb2 hb3 hRd hW x0 x1 x2 x3 x4 x5 x6 x7 x8 x9 x10 x11 x12 x13 x14 z0 z1 z2 z3 z4 z5 z6 z7 z8 z9 z10 z11 z12 z13 z14 zr
  have HB := Lib.hid hB
  clear hB k1 k2 k3 k4
  obtain rfl : k = 8 := by simpa using q8
  have ht : (text.toList.isEmpty = true ∧ (text.toList == ([] : List UInt8)) = true ∧ text = ⟨#[]⟩) ∨ (text.toList.isEmpty = false ∧ (text.toList == ([] : List UInt8)) = false ∧ text ≠ ⟨#[]⟩) := by
    by_cases h0 : text.size = 0
    · left
      rw [size_zero h0, Go.ByteArray.toList_eq]
      exact ⟨rfl, rfl, rfl⟩
    · right
      have h := nonempty_list h0
      exact ⟨h, by cases hl : text.toList with | nil => rw [hl] at h; cases h | cons a l => rfl, fun e => h0 (by rw [e]; rfl)⟩
  rcases (by simp; omega : (decide (n ≥ 0) = false ∧ decide (0 ≤ n) = false) ∨ (decide (n ≥ 0) = true ∧ decide (0 ≤ n) = true ∧ decide (n ≤ 6) = false) ∨ (decide (n ≥ 0) = true ∧ decide (0 ≤ n) = true ∧ decide (n ≤ 6) = true)) with ⟨h1, h2⟩ | ⟨h1, h2, h3⟩ | ⟨h1, h2, h3⟩
  · clear ht
    go_wp2
    go_returns
    exact ⟨⟨_, rfl, by rw [HB.out]; simp at h2 ⊢; omega⟩, hS3.below⟩
  · clear ht
    go_wp2
    go_returns
    exact ⟨⟨_, rfl, by rw [HB.out]; simp at h2 h3 ⊢; omega⟩, hS3.below⟩
  · rcases ht with ⟨t1, t2, t3⟩ | ⟨t1, t2, t3⟩
    all_goals
      have HT3 := Lib.hid t3
      clear t3
      go_wp2
      go_returns
    · exact ⟨⟨_, rfl, by rw [HB.out]; have := HT3.out; simp [this]⟩, hS3.below⟩
    · exact ⟨⟨_, rfl, by rw [HB.out]; have := HT3.out; simp at h2 h3; simp [this, h2, h3]⟩, hS3.below⟩
end Go.Proofs.Ytaofdbboalcceaa
