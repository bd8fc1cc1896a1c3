import Derived.Test.YtihbgppcacaekaaDoorQf
/- RightObject. -/
namespace Go.Proofs.YtihbgppcacaekaaDoor
open Go.RowKit Go.BigFrame

theorem lastOk_at {o : Ob} {i : Ln} (h : o.lines[o.lines.length - 1]? = some i) : lastOk o = decide (i.op = 16 ∨ i.op = 18) := by
  unfold lastOk
  rw [List.getLast?_eq_getElem?, h]
set_option maxRecDepth 1000000 in
set_option maxHeartbeats 16000000 in
theorem RightObject_any (o : Ob) (C : Option Addr) (cap : Nat) (w : World) (h : Tabs w) (hlen : o.lines.length ≤ 9223372036854775807) (hR : RdL w C o.lines) : Calls Tryd.prog 17 #[obAgg o C cap] w fun e w' => e = .returned (.bool (rightO o)) ∧ Below w.heap.size w w' := by
  have b0 := heap_alloc_new w (obObj o C cap)
  have hB0 : Below w.heap.size w (w.alloc (obObj o C cap)) := Below.one w _
  have hrt := fun l W hT => right_any l o C cap W hT hlen
  obtain ⟨N, hN⟩ : ∃ N, o.lines.length = N := ⟨_, rfl⟩
  simp only [obObj, obAgg, hN] at b0 hB0 hrt ⊢
  obtain ⟨W, hW⟩ : ∃ W, w.alloc (.cells #[.string o.name, .int .i64 o.slots, .int .i64 o.frame, .slice C N cap] 39 (0, 0)) = W := ⟨_, rfl⟩
  rw [hW] at b0 hB0
  have hT := h.below hB0
  have hR0 := hR.below hB0
  have y0 := cell_of_heap b0 0 (.string o.name) rfl
  have y1 := cell_of_heap b0 1 (.int .i64 o.slots) rfl
  have y2 := cell_of_heap b0 2 (.int .i64 o.frame) rfl
  have y3 := cell_of_heap b0 3 (.slice C N cap) rfl
  have hnd := named_any o.name W
  have HRO : Hid (rightO o = (headOk o && o.lines.all (fun l => rightL l o) && lastOk o)) := Lib.hid rfl
  have HHD : Hid (headOk o = (namedL o.name.data.toList && decide (0 ≤ o.slots ∧ o.slots ≤ 4096) && decide (0 ≤ o.frame ∧ o.frame ≤ 4096) && decide (1 ≤ N ∧ N ≤ 65536))) := Lib.hid (by unfold headOk; rw [hN])
  obtain ⟨nd, hndd⟩ : ∃ nd, namedL o.name.data.toList = nd := ⟨_, rfl⟩
  rw [hndd] at hnd HHD
  have HB := Lib.hid hB0
  have HOB := Lib.hid b0
  have HN := Lib.hid hN
  have HR0 := Lib.hid hR0
  have HRT := Lib.hid hrt
  clear hndd hN b0 hB0 hR hR0 hrt h hlen
  go_enter Tryd.func17, Tryd.ntmps17
  go_wp2_with fail
  refine hnd.mono ?_
  rintro e W1 ⟨rfl, hb1⟩
  clear y0 y1 y2 y3 hnd
  have hlW : w.heap.size < W.heap.size := (Array.getElem?_eq_some_iff.1 HOB.out).1
  have b0 := (hb1.block _ hlW).trans HOB.out
  have hT1 := hT.below hb1
  have y1 := cell_of_heap b0 1 (.int .i64 o.slots) rfl
  have y2 := cell_of_heap b0 2 (.int .i64 o.frame) rfl
  have y3 := cell_of_heap b0 3 (.slice C N cap) rfl
  have hlW1 : w.heap.size < W1.heap.size := Nat.lt_of_lt_of_le hlW hb1.size
  have HR1 := Lib.hid (HR0.out.below hb1)
  have HB1 : Hid (Below w.heap.size w W1) := Lib.hid (HB.out.trans (hb1.mono HB.out.size))
  have HOB1 := Lib.hid b0
  clear hb1 b0 hlW HOB HB HR0 hT hW
  cases nd
  case false =>
    have HNO : Hid (rightO o = false) := Lib.hid (by rw [HRO.out, HHD.out]; rfl)
    go_wp2
    go_returns
    exact ⟨by rw [HNO.out] <;> rfl, HB1.out⟩
  have hbad : ∀ {p : Prop}, (headOk o = false → p) → ¬ (0 ≤ o.slots ∧ o.slots ≤ 4096) ∨ ¬ (0 ≤ o.frame ∧ o.frame ≤ 4096) ∨ ¬ (1 ≤ N ∧ N ≤ 65536) → p := by
    intro p hp hc
    refine hp ?_
    rw [HHD.out]
    rcases hc with hc | hc | hc
    · rw [decide_eq_false hc]; rfl
    · rw [decide_eq_false hc]; simp
    · rw [decide_eq_false hc]; simp
  have HBAD : Hid (∀ {p : Prop}, (headOk o = false → p) → ¬ (0 ≤ o.slots ∧ o.slots ≤ 4096) ∨ ¬ (0 ≤ o.frame ∧ o.frame ≤ 4096) ∨ ¬ (1 ≤ N ∧ N ≤ 65536) → p) := Lib.hid hbad
  clear hbad
  have hbad2 : ¬ (0 ≤ o.slots ∧ o.slots ≤ 4096) ∨ ¬ (0 ≤ o.frame ∧ o.frame ≤ 4096) ∨ ¬ (1 ≤ N ∧ N ≤ 65536) → rightO o = false := fun hc => HBAD.out (fun hh => by rw [HRO.out, hh]; rfl) hc
  have hcase : (o.slots < 0 ∧ decide (o.slots < 0) = true) ∨ (4096 < o.slots ∧ decide (o.slots < 0) = false ∧ decide (o.slots > 4096) = true ∧ decide (4096 < o.slots) = true)
      ∨ (o.frame < 0 ∧ decide (o.slots < 0) = false ∧ decide (o.slots > 4096) = false ∧ decide (4096 < o.slots) = false ∧ decide (o.frame < 0) = true)
      ∨ (4096 < o.frame ∧ decide (o.slots < 0) = false ∧ decide (o.slots > 4096) = false ∧ decide (4096 < o.slots) = false ∧ decide (o.frame < 0) = false ∧ decide (o.frame > 4096) = true ∧ decide (4096 < o.frame) = true)
      ∨ ((N : Int) < 1 ∧ decide (o.slots < 0) = false ∧ decide (o.slots > 4096) = false ∧ decide (4096 < o.slots) = false ∧ decide (o.frame < 0) = false ∧ decide (o.frame > 4096) = false ∧ decide (4096 < o.frame) = false ∧ decide ((N : Int) < 1) = true)
      ∨ (65536 < (N : Int) ∧ decide (o.slots < 0) = false ∧ decide (o.slots > 4096) = false ∧ decide (4096 < o.slots) = false ∧ decide (o.frame < 0) = false ∧ decide (o.frame > 4096) = false ∧ decide (4096 < o.frame) = false ∧ decide ((N : Int) < 1) = false ∧ decide ((N : Int) > 65536) = true ∧ decide (65536 < (N : Int)) = true)
      ∨ ((0 ≤ o.slots ∧ o.slots ≤ 4096 ∧ 0 ≤ o.frame ∧ o.frame ≤ 4096 ∧ 1 ≤ N ∧ N ≤ 65536) ∧ decide (o.slots < 0) = false ∧ decide (o.slots > 4096) = false ∧ decide (4096 < o.slots) = false ∧ decide (o.frame < 0) = false ∧ decide (o.frame > 4096) = false ∧ decide (4096 < o.frame) = false ∧ decide ((N : Int) < 1) = false ∧ decide ((N : Int) > 65536) = false ∧ decide (65536 < (N : Int)) = false) := by
    simp only [decide_eq_true_eq, decide_eq_false_iff_not, gt_iff_lt]
    omega
  rcases hcase with ⟨hc, q1⟩ | ⟨hc, q1, q2, q3⟩ | ⟨hc, q1, q2, q3, q4⟩ | ⟨hc, q1, q2, q3, q4, q5, q6⟩ | ⟨hc, q1, q2, q3, q4, q5, q6, q7⟩ | ⟨hc, q1, q2, q3, q4, q5, q6, q7, q8, q9⟩ | ⟨hc, q1, q2, q3, q4, q5, q6, q7, q8, q9⟩
  iterate 6
    · have HNO : Hid (rightO o = false) := Lib.hid (hbad2 (by omega))
      clear hbad2 hc
      go_wp2
      go_returns
      exact ⟨by rw [HNO.out] <;> rfl, HB1.out⟩
  have hHD : headOk o = true := by
    rw [HHD.out, decide_eq_true (show 0 ≤ o.slots ∧ o.slots ≤ 4096 by omega), decide_eq_true (show 0 ≤ o.frame ∧ o.frame ≤ 4096 by omega), decide_eq_true (show 1 ≤ N ∧ N ≤ 65536 by omega)]
    rfl
  have HRO2 : Hid (rightO o = (o.lines.all (fun l => rightL l o) && lastOk o)) := Lib.hid (by rw [HRO.out, hHD]; simp)
  have HNB : Hid (1 ≤ N ∧ N ≤ 65536) := Lib.hid (by omega)
  clear hbad2 hc HBAD HHD HRO hHD
  go_wp2
  clear q1 q2 q3 q4 q5 q6 q7 q8 q9 y1 y2 y3
  go_loopw [45] (fun ix wr => ∃ k : Nat, k ≤ N ∧ ix = .int .i64 k ∧ Below W1.heap.size W1 wr ∧ ∀ (j : Nat) l, j < k → o.lines[j]? = some l → rightL l o = true) (fun ix _ => N - (intOf ix).toNat)
  case atStart => exact ⟨0, by omega, rfl, Below.refl _ _, fun j l hj => by omega⟩
  case round =>
    obtain ⟨k, hk, rfl, hb, hS⟩ := hrel
    have hx := (hb.block _ hlW1).trans HOB1.out
    have y0 := cell_of_heap hx 0 (.string o.name) rfl
    have y1 := cell_of_heap hx 1 (.int .i64 o.slots) rfl
    have y2 := cell_of_heap hx 2 (.int .i64 o.frame) rfl
    have y3 := cell_of_heap hx 3 (.slice C N cap) rfl
    have hblr := (Array.getElem?_eq_some_iff.1 hx).1
    have HSS := Lib.hid hS
    have HBB := Lib.hid hb
    have HRR := Lib.hid (HR1.out.below hb)
    have hTr := hT1.below hb
    clear hS hx
    have hnb := HNB.out.2
    by_cases hlt : k < N
    · obtain ⟨l, hl⟩ : ∃ l, o.lines[k]? = some l := ⟨_, List.getElem?_eq_getElem (by rw [HN.out]; exact hlt)⟩
      obtain ⟨b, ofs, rfl, hbl, hcs⟩ := HRR.out k l hl
      obtain ⟨x0, x1, x2, x3, x4, x5⟩ := RdL.load hcs
      have HL := Lib.hid hl
      have hB1 := Below.one wr l.obj
      have hTr2 := hTr.below hB1
      have hcall := HRT.out l _ hTr2
      simp only [Ln.obj, Ln.agg] at hcall hB1
      have HB2 := Lib.hid hB1
      obtain ⟨rr, hrr⟩ : ∃ rr, rightL l o = rr := ⟨_, rfl⟩
      rw [hrr] at hcall
      have HRR2 := Lib.hid hrr
      clear hcs hl hTr hTr2 hB1 hrr hb
      cases rr
      · have HNO : Hid (rightO o = false) := Lib.hid (by
          rw [HRO2.out]
          have : ¬ (o.lines.all fun l => rightL l o) = true := fun hall => by
            have h1 := List.all_eq_true.1 hall l (List.mem_of_getElem? HL.out)
            rw [HRR2.out] at h1
            exact absurd h1 (by decide)
          rw [Bool.not_eq_true] at this
          rw [this]
          rfl)
        go_wp2_with (first
          | (go_at_call 32; refine hcall.mono ?_; rintro e w5 ⟨rfl, hb5⟩))
        go_returns
        exact ⟨by rw [HNO.out] <;> rfl, HB1.out.trans ((HBB.out.trans ((HB2.out.trans (hb5.mono HB2.out.size)).mono HBB.out.size)).mono HB1.out.size)⟩
      · go_wp2_with (first
          | (go_at_call 32; refine hcall.mono ?_; rintro e w5 ⟨rfl, hb5⟩))
        exact ⟨⟨k + 1, by omega, by go_num, HBB.out.trans ((HB2.out.trans (hb5.mono HB2.out.size)).mono HBB.out.size), fun j l' hj hl' => by
          by_cases hjk : j = k
          · subst hjk
            have := HL.out.symm.trans hl'
            injection this with this
            rw [← this]
            exact HRR2.out
          · exact HSS.out j l' (by omega) hl'⟩, by simp [intOf]; omega⟩
    · obtain rfl : k = N := by omega
      have hall : (o.lines.all fun l => rightL l o) = true := List.all_eq_true.2 fun l hl => by
        obtain ⟨j, hj⟩ := List.mem_iff_getElem?.1 hl
        exact HSS.out j l (by have := (List.getElem?_eq_some_iff.1 hj).1; rw [HN.out] at this; exact this) hj
      obtain ⟨n, rfl⟩ : ∃ n, k = n + 1 := ⟨k - 1, by have := HNB.out; omega⟩
      obtain ⟨l, hl⟩ : ∃ l, o.lines[n]? = some l := ⟨_, List.getElem?_eq_getElem (by rw [HN.out]; omega)⟩
      obtain ⟨b, ofs, rfl, hbl, hcs⟩ := HRR.out n l hl
      obtain ⟨x0, x1, x2, x3, x4, x5⟩ := RdL.load hcs
      have HNO : Hid (rightO o = decide (l.op = 16 ∨ l.op = 18)) := Lib.hid (by rw [HRO2.out, hall, lastOk_at (by rw [HN.out]; exact hl)]; rfl)
      have hn64 : n + 1 ≤ 65536 := HNB.out.2
      clear hall hcs hl hlt hk hb HSS
      have e1 : (l.op == 16) = decide (l.op = 16) := by rw [Bool.eq_iff_iff]; simp
      have e2 : (l.op == 18) = decide (l.op = 18) := by rw [Bool.eq_iff_iff]; simp
      have HNO2 : Hid (rightO o = (decide (l.op = 16) || decide (l.op = 18))) := Lib.hid (by rw [HNO.out]; exact Bool.decide_or _ _)
      obtain ⟨c1, hc1⟩ : ∃ c1, decide (l.op = 16) = c1 := ⟨_, rfl⟩
      obtain ⟨c2, hc2⟩ : ∃ c2, decide (l.op = 18) = c2 := ⟨_, rfl⟩
      rw [hc1] at e1 HNO2
      rw [hc2] at e2 HNO2
      clear HNO hc1 hc2
      cases c1 <;> cases c2
      all_goals
        go_wp2
        go_returns
        exact ⟨by rw [HNO2.out] <;> rfl, HB1.out.trans (HBB.out.mono HB1.out.size)⟩
end Go.Proofs.YtihbgppcacaekaaDoor
