import Derived.Test.YtihbgppcacaekaaDoorRk0
import Derived.Test.YtihbgppcacaekaaDoorRh
import Derived.Test.YtihbgppcacaekaaDoorRj
/- MachSlots. -/
namespace Go.Proofs.YtihbgppcacaekaaDoor
open Go.RowKit Go.BigFrame

theorem rdO_two {w : World} {b : Nat} {o1 o2 : Ob} {C1 C2 : Option Addr} {cap1 cap2 n1 n2 : Nat} (h1 : o1.lines.length = n1) (h2 : o2.lines.length = n2) (h : w.heap[b]? = some (.cells #[.string o1.name, .int .i64 o1.slots, .int .i64 o1.frame, .slice C1 n1 cap1, .string o2.name, .int .i64 o2.slots, .int .i64 o2.frame, .slice C2 n2 cap2] 39 (0, 0))) (hR1 : RdL w C1 o1.lines) (hR2 : RdL w C2 o2.lines) : RdO w (some ⟨b, 0, none⟩) [o1, o2] := fun k f hk => by
  have hlt := (Array.getElem?_eq_some_iff.1 h).1
  match k, hk with
  | 0, hk =>
    simp at hk
    subst hk
    refine ⟨b, 0, C1, cap1, rfl, hlt, fun j hj => ?_, hR1⟩
    rcases (by omega : j = 0 ∨ j = 1 ∨ j = 2 ∨ j = 3) with rfl | rfl | rfl | rfl
    · exact cell_of_heap h _ _ rfl
    · exact cell_of_heap h _ _ rfl
    · exact cell_of_heap h _ _ rfl
    · rw [cell_of_heap h (0 + (0 * 4 + 3)) _ rfl]
      simp [h1]
  | 1, hk =>
    simp at hk
    subst hk
    refine ⟨b, 0, C2, cap2, rfl, hlt, fun j hj => ?_, hR2⟩
    rcases (by omega : j = 0 ∨ j = 1 ∨ j = 2 ∨ j = 3) with rfl | rfl | rfl | rfl
    · exact cell_of_heap h _ _ rfl
    · exact cell_of_heap h _ _ rfl
    · exact cell_of_heap h _ _ rfl
    · rw [cell_of_heap h (0 + (1 * 4 + 3)) _ rfl]
      simp [h2]
  | k + 2, hk => simp at hk
theorem Run_two (o1 o2 : Ob) (C1 C2 : Option Addr) (cap1 cap2 n1 n2 b : Nat) (fuel : Int) (w : World) (hT : Tabs w) (h1 : o1.lines.length = n1) (h2 : o2.lines.length = n2) (h : w.heap[b]? = some (.cells #[.string o1.name, .int .i64 o1.slots, .int .i64 o1.frame, .slice C1 n1 cap1, .string o2.name, .int .i64 o2.slots, .int .i64 o2.frame, .slice C2 n2 cap2] 39 (0, 0))) (hR1 : RdL w C1 o1.lines) (hR2 : RdL w C2 o2.lines) (hl1 : n1 ≤ 1000000) (hl2 : n2 ≤ 1000000) (hfu : fuel ≤ 70000) :
    Calls Tryd.prog 13 #[.agg #[.slice (some ⟨b, 0, none⟩) 2 2, .slice none 0 0, .int .i64 1], .slice none 0 0, .int .i64 fuel] w fun e w' => RunT (runM ⟨[o1, o2], [], 1⟩ [] fuel) e w' ∧ Below w.heap.size w w' :=
  Run_any ⟨[o1, o2], [], 1⟩ (some ⟨b, 0, none⟩) none 2 0 none 0 [] fuel w hT ⟨rdO_two h1 h2 h hR1 hR2, fun k g hk => by simp at hk⟩ (rdB_nil _ _) (Nat.le_refl _) (fun a ha => by cases ha) (by simp) (by simp) (fun x hx => by
    simp at hx
    rcases hx with rfl | rfl
    · rw [h1]; exact hl1
    · rw [h2]; exact hl2) (by show (1 : Int) ≤ _; omega) hfu
theorem tri_go (k : Nat) (hk : k ≤ 255) : wrap64 ((wrap64 ((k : Int) * ((k : Int) + 1))).tdiv 2) = tri k := by
  have h1 : (k : Int) * ((k : Int) + 1) = ((k * (k + 1) : Nat) : Int) := by rw [Int.natCast_mul]; rfl
  have h2 : k * (k + 1) ≤ 255 * 256 := Nat.mul_le_mul hk (by omega)
  unfold tri
  rw [h1]
  generalize k * (k + 1) = m at h2 ⊢
  rw [w64 (n := (m : Int)) (by omega), show ((m : Int).tdiv 2) = ((m / 2 : Nat) : Int) from (Int.ofNat_tdiv m 2).symm, w64 (n := ((m / 2 : Nat) : Int)) (by omega)]
set_option maxRecDepth 1000000 in
set_option maxHeartbeats 16000000 in
theorem machSlots_any (k : Nat) (hk : k ≤ 255) (w : World) (hT : Tabs w) : Calls Tryd.prog 5 #[.int .u8 k] w fun e w' => e = .returned (.bool true) ∧ Below w.heap.size w w' := by
  have HT := Lib.hid hT
  have hit := fun W (hW : Tabs W) => (Tryd.strconv_Itoa (k : Int) (by omega) (by omega) W hW.pow).mono fun e w' (hh : e = _ ∧ _) => (⟨hh.1, hh.2.elim fun k h => h.elim fun os q => q ▸ below_grow2 W k os⟩ : e = .returned (.string ⟨(Lib.itoa k).toArray⟩) ∧ Below W.heap.size W w')
  have hrd2 := fun W (hW : Tabs W) => Read_any (preB ++ ⟨(Lib.itoa k).toArray⟩ ++ postB) (top_size k hk) W hW
  rw [top_read k hk] at hrd2
  have hrd1 := Read_any subT (by decide) w hT
  rw [sub_read] at hrd1
  have hru := slots_run k hk
  have hsl : subO.lines.length ≤ 1000000 := by decide
  have htl : (mainO (topL k)).lines.length ≤ 1000000 := by show (topL k).length ≤ _; unfold topL; simp
  obtain ⟨ks, hks⟩ : ∃ ks, (⟨(Lib.itoa k).toArray⟩ : ByteArray) = ks := ⟨_, rfl⟩
  rw [hks] at hit hrd2
  simp only [slotI] at hru
  obtain ⟨o1, ho1⟩ : ∃ o1, subO = o1 := ⟨_, rfl⟩
  obtain ⟨o2, ho2⟩ : ∃ o2, mainO (topL k) = o2 := ⟨_, rfl⟩
  rw [ho1] at hrd1 hru hsl
  rw [ho2] at hrd2 hru htl
  obtain ⟨n1, hn1⟩ : ∃ n, o1.lines.length = n := ⟨_, rfl⟩
  obtain ⟨n2, hn2⟩ : ∃ n, o2.lines.length = n := ⟨_, rfl⟩
  simp only [obAgg, hn1, subT] at hrd1
  simp only [obAgg, hn2, preB, postB] at hrd2
  rw [hn1] at hsl
  rw [hn2] at htl
  have HN1 := Lib.hid hn1
  have HN2 := Lib.hid hn2
  have HL1 := Lib.hid hsl
  have HL2 := Lib.hid htl
  have HIT := Lib.hid hit
  have HRD2 := Lib.hid hrd2
  have w1 : wrap64 ((k : Int) + 1) = (k : Int) + 1 := w64 (by omega)
  have w2 : wrap64 ((k : Int) + 2) = (k : Int) + 2 := w64 (by omega)
  have hkz : ks.size ≤ 30 := by
    rw [← hks]
    have h := of_decide_eq_true (List.all_eq_true.1 top_len k (List.mem_range.2 (by omega)))
    show (Lib.itoa (k : Int)).toArray.size ≤ 30
    simpa using h
  have hq : wrap64 ((wrap64 ((k : Int) * ((k : Int) + 1))).tdiv 2) = tri k := tri_go k hk
  have z1 : ¬ 9223372036854775807 < 21 + ks.size := by omega
  have z2 : ¬ 9223372036854775807 < 21 + ks.size + 28 := by omega
  clear hT hit hrd2 hks ho1 ho2 hn1 hn2 hsl htl hkz
  by_cases hf : 200 < k + 2
  · have HRU : Hid (runM ⟨[o1, o2], [], 1⟩ [] 20000 = ⟨3, 0, []⟩) := Lib.hid (by rw [hru, if_pos hf])
    have q1 : decide ((k : Int) + 2 > 200) = true := by simp; omega
    have q2 : decide (200 < (k : Int) + 2) = true := by simp; omega
    clear hru
    go_enter Tryd.func5, Tryd.ntmps5
    go_upto_region 3 with (first
      | (go_at_call 18; refine hrd1.mono ?_; rintro e w1 ⟨C1, cap1, rfl, hR1, hb1⟩))
    have hb1a := Below.one w1 (.cells #[.string o1.name, .int .i64 o1.slots, .int .i64 o1.frame, .slice C1 n1 cap1] 39 (0, 0))
    have HB1 : Hid (Below w.heap.size w (w1.alloc (.cells #[.string o1.name, .int .i64 o1.slots, .int .i64 o1.frame, .slice C1 n1 cap1] 39 (0, 0)))) := Lib.hid (hb1.trans (hb1a.mono hb1.size))
    have HO1 := Lib.hid (heap_alloc_new w1 (.cells #[.string o1.name, .int .i64 o1.slots, .int .i64 o1.frame, .slice C1 n1 cap1] 39 (0, 0)))
    have HR1 := Lib.hid (hR1.below hb1a)
    have hT1 := HT.out.below HB1.out
    clear hb1a hR1 hb1 hrd1
    go_wp2_with fail
    refine (HIT.out _ hT1).mono ?_
    rintro e w2 ⟨rfl, hb2⟩
    have HB2 := Lib.hid (HB1.out.trans (hb2.mono HB1.out.size))
    have HO2 := Lib.hid (keepB hb2 HO1.out)
    have HR2 := Lib.hid (HR1.out.below hb2)
    have hT2 := HT.out.below HB2.out
    clear hb2
    go_wp2_with fail
    refine (HRD2.out _ hT2).mono ?_
    rintro e w3 ⟨C2, cap2, rfl, hR3, hb3⟩
    have hB3 := HB2.out.trans (hb3.mono HB2.out.size)
    have ho3 := alloc_keeps (keepB hb3 HO2.out) (.cells #[.string o2.name, .int .i64 o2.slots, .int .i64 o2.frame, .slice C2 n2 cap2] 39 (0, 0))
    have hb3a := Below.one w3 (.cells #[.string o2.name, .int .i64 o2.slots, .int .i64 o2.frame, .slice C2 n2 cap2] 39 (0, 0))
    have hR1' := (HR2.out.below hb3).below hb3a
    have hR3' := hR3.below hb3a
    have ho4 := heap_alloc_new w3 (.cells #[.string o2.name, .int .i64 o2.slots, .int .i64 o2.frame, .slice C2 n2 cap2] 39 (0, 0))
    obtain ⟨c0, c1, c2, c3⟩ := ob_cells4 ho3
    obtain ⟨d0, d1, d2, d3⟩ := ob_cells4 ho4
    have hb3b := Below.one (w3.alloc (.cells #[.string o2.name, .int .i64 o2.slots, .int .i64 o2.frame, .slice C2 n2 cap2] 39 (0, 0))) (.cells #[.string o1.name, .int .i64 o1.slots, .int .i64 o1.frame, .slice C1 n1 cap1, .string o2.name, .int .i64 o2.slots, .int .i64 o2.frame, .slice C2 n2 cap2] 39 (0, 0))
    have htw := heap_alloc_new (w3.alloc (.cells #[.string o2.name, .int .i64 o2.slots, .int .i64 o2.frame, .slice C2 n2 cap2] 39 (0, 0))) (.cells #[.string o1.name, .int .i64 o1.slots, .int .i64 o1.frame, .slice C1 n1 cap1, .string o2.name, .int .i64 o2.slots, .int .i64 o2.frame, .slice C2 n2 cap2] 39 (0, 0))
    rw [show (w3.alloc (.cells #[.string o2.name, .int .i64 o2.slots, .int .i64 o2.frame, .slice C2 n2 cap2] 39 (0, 0))).heap.size = w3.heap.size + 1 by simp] at htw
    have hB4 := (hB3.trans (hb3a.mono hB3.size)).trans (hb3b.mono (hB3.trans (hb3a.mono hB3.size)).size)
    have hrun := Run_two o1 o2 C1 C2 cap1 cap2 n1 n2 (w3.heap.size + 1) 20000 ((w3.alloc (.cells #[.string o2.name, .int .i64 o2.slots, .int .i64 o2.frame, .slice C2 n2 cap2] 39 (0, 0))).alloc (.cells #[.string o1.name, .int .i64 o1.slots, .int .i64 o1.frame, .slice C1 n1 cap1, .string o2.name, .int .i64 o2.slots, .int .i64 o2.frame, .slice C2 n2 cap2] 39 (0, 0))) (HT.out.below hB4) HN1.out HN2.out htw (hR1'.below hb3b) (hR3'.below hb3b) HL1.out HL2.out (by omega)
    rw [HRU.out] at hrun
    have HB4 := Lib.hid hB4
    clear ho3 ho4 hR1' hR3' hb3a hb3b htw hB4 hB3 hR3 hb3
    go_wp2_with fail
    refine hrun.mono ?_
    rintro e w4 ⟨⟨A, ac, rfl, _⟩, hb4⟩
    clear c0 c1 c2 c3 d0 d1 d2 d3
    go_upto_region 8 with fail
    have hb4' := HB4.out.trans (hb4.mono HB4.out.size)
    have hb5 := hb4'.trans ((Below.one w4 (.cells #[.int .i64 3, .int .i64 0, .slice A 0 ac] 30 (0, 0))).mono hb4'.size)
    have HB5 : Hid (Below w.heap.size w ((w4.alloc (.cells #[.int .i64 3, .int .i64 0, .slice A 0 ac] 30 (0, 0))).alloc (.cells #[.int .i64 3, .int .i64 0, .slice none 0 0] 30 (0, 0)))) := Lib.hid (hb5.trans ((Below.one _ (.cells #[.int .i64 3, .int .i64 0, .slice none 0 0] 30 (0, 0))).mono hb5.size))
    obtain ⟨x0, x1, x2⟩ := re_cells3 (alloc_keeps (heap_alloc_new w4 (.cells #[.int .i64 3, .int .i64 0, .slice A 0 ac] 30 (0, 0))) (.cells #[.int .i64 3, .int .i64 0, .slice none 0 0] 30 (0, 0)))
    have hw5 := heap_alloc_new (w4.alloc (.cells #[.int .i64 3, .int .i64 0, .slice A 0 ac] 30 (0, 0))) (.cells #[.int .i64 3, .int .i64 0, .slice none 0 0] 30 (0, 0))
    rw [show (w4.alloc (.cells #[.int .i64 3, .int .i64 0, .slice A 0 ac] 30 (0, 0))).heap.size = w4.heap.size + 1 by simp] at hw5
    obtain ⟨y0, y1, y2⟩ := re_cells3 hw5
    have hT5 := HT.out.below HB5.out
    clear hb4 hb4' hb5 hw5
    go_wp2_with fail
    refine (res7 ⟨3, 0, []⟩ rfl _ A ac).mono ?_
    rintro e w6 ⟨rfl, hb6⟩
    have HB6 := Lib.hid (HB5.out.trans (hb6.mono HB5.out.size))
    have hT6 := HT.out.below HB6.out
    clear hb6 x0 x1 x2 y0 y1 y2
    go_wp2_with fail
    refine (awake_any _ hT6).mono ?_
    rintro e w7 ⟨rfl, hb7⟩
    have HB7 := Lib.hid (HB6.out.trans (hb7.mono HB6.out.size))
    clear hb7
    go_wp2
    go_returns
    exact ⟨rfl, HB7.out⟩
  · have HRU : Hid (runM ⟨[o1, o2], [], 1⟩ [] 20000 = ⟨1, tri k, []⟩) := Lib.hid (by rw [hru, if_neg hf])
    have q1 : decide ((k : Int) + 2 > 200) = false := by simp; omega
    have q2 : decide (200 < (k : Int) + 2) = false := by simp; omega
    clear hru
    go_enter Tryd.func5, Tryd.ntmps5
    go_upto_region 3 with (first
      | (go_at_call 18; refine hrd1.mono ?_; rintro e w1 ⟨C1, cap1, rfl, hR1, hb1⟩))
    have hb1a := Below.one w1 (.cells #[.string o1.name, .int .i64 o1.slots, .int .i64 o1.frame, .slice C1 n1 cap1] 39 (0, 0))
    have HB1 : Hid (Below w.heap.size w (w1.alloc (.cells #[.string o1.name, .int .i64 o1.slots, .int .i64 o1.frame, .slice C1 n1 cap1] 39 (0, 0)))) := Lib.hid (hb1.trans (hb1a.mono hb1.size))
    have HO1 := Lib.hid (heap_alloc_new w1 (.cells #[.string o1.name, .int .i64 o1.slots, .int .i64 o1.frame, .slice C1 n1 cap1] 39 (0, 0)))
    have HR1 := Lib.hid (hR1.below hb1a)
    have hT1 := HT.out.below HB1.out
    clear hb1a hR1 hb1 hrd1
    go_wp2_with fail
    refine (HIT.out _ hT1).mono ?_
    rintro e w2 ⟨rfl, hb2⟩
    have HB2 := Lib.hid (HB1.out.trans (hb2.mono HB1.out.size))
    have HO2 := Lib.hid (keepB hb2 HO1.out)
    have HR2 := Lib.hid (HR1.out.below hb2)
    have hT2 := HT.out.below HB2.out
    clear hb2
    go_wp2_with fail
    refine (HRD2.out _ hT2).mono ?_
    rintro e w3 ⟨C2, cap2, rfl, hR3, hb3⟩
    have hB3 := HB2.out.trans (hb3.mono HB2.out.size)
    have ho3 := alloc_keeps (keepB hb3 HO2.out) (.cells #[.string o2.name, .int .i64 o2.slots, .int .i64 o2.frame, .slice C2 n2 cap2] 39 (0, 0))
    have hb3a := Below.one w3 (.cells #[.string o2.name, .int .i64 o2.slots, .int .i64 o2.frame, .slice C2 n2 cap2] 39 (0, 0))
    have hR1' := (HR2.out.below hb3).below hb3a
    have hR3' := hR3.below hb3a
    have ho4 := heap_alloc_new w3 (.cells #[.string o2.name, .int .i64 o2.slots, .int .i64 o2.frame, .slice C2 n2 cap2] 39 (0, 0))
    obtain ⟨c0, c1, c2, c3⟩ := ob_cells4 ho3
    obtain ⟨d0, d1, d2, d3⟩ := ob_cells4 ho4
    have hb3b := Below.one (w3.alloc (.cells #[.string o2.name, .int .i64 o2.slots, .int .i64 o2.frame, .slice C2 n2 cap2] 39 (0, 0))) (.cells #[.string o1.name, .int .i64 o1.slots, .int .i64 o1.frame, .slice C1 n1 cap1, .string o2.name, .int .i64 o2.slots, .int .i64 o2.frame, .slice C2 n2 cap2] 39 (0, 0))
    have htw := heap_alloc_new (w3.alloc (.cells #[.string o2.name, .int .i64 o2.slots, .int .i64 o2.frame, .slice C2 n2 cap2] 39 (0, 0))) (.cells #[.string o1.name, .int .i64 o1.slots, .int .i64 o1.frame, .slice C1 n1 cap1, .string o2.name, .int .i64 o2.slots, .int .i64 o2.frame, .slice C2 n2 cap2] 39 (0, 0))
    rw [show (w3.alloc (.cells #[.string o2.name, .int .i64 o2.slots, .int .i64 o2.frame, .slice C2 n2 cap2] 39 (0, 0))).heap.size = w3.heap.size + 1 by simp] at htw
    have hB4 := (hB3.trans (hb3a.mono hB3.size)).trans (hb3b.mono (hB3.trans (hb3a.mono hB3.size)).size)
    have hrun := Run_two o1 o2 C1 C2 cap1 cap2 n1 n2 (w3.heap.size + 1) 20000 ((w3.alloc (.cells #[.string o2.name, .int .i64 o2.slots, .int .i64 o2.frame, .slice C2 n2 cap2] 39 (0, 0))).alloc (.cells #[.string o1.name, .int .i64 o1.slots, .int .i64 o1.frame, .slice C1 n1 cap1, .string o2.name, .int .i64 o2.slots, .int .i64 o2.frame, .slice C2 n2 cap2] 39 (0, 0))) (HT.out.below hB4) HN1.out HN2.out htw (hR1'.below hb3b) (hR3'.below hb3b) HL1.out HL2.out (by omega)
    rw [HRU.out] at hrun
    have HB4 := Lib.hid hB4
    clear ho3 ho4 hR1' hR3' hb3a hb3b htw hB4 hB3 hR3 hb3
    go_wp2_with fail
    refine hrun.mono ?_
    rintro e w4 ⟨⟨A, ac, rfl, _⟩, hb4⟩
    clear c0 c1 c2 c3 d0 d1 d2 d3
    go_upto_region 8 with fail
    have hb4' := HB4.out.trans (hb4.mono HB4.out.size)
    have hb5 := hb4'.trans ((Below.one w4 (.cells #[.int .i64 1, .int .i64 (tri k), .slice A 0 ac] 30 (0, 0))).mono hb4'.size)
    have HB5 : Hid (Below w.heap.size w ((w4.alloc (.cells #[.int .i64 1, .int .i64 (tri k), .slice A 0 ac] 30 (0, 0))).alloc (.cells #[.int .i64 1, .int .i64 (tri k), .slice none 0 0] 30 (0, 0)))) := Lib.hid (hb5.trans ((Below.one _ (.cells #[.int .i64 1, .int .i64 (tri k), .slice none 0 0] 30 (0, 0))).mono hb5.size))
    obtain ⟨x0, x1, x2⟩ := re_cells3 (alloc_keeps (heap_alloc_new w4 (.cells #[.int .i64 1, .int .i64 (tri k), .slice A 0 ac] 30 (0, 0))) (.cells #[.int .i64 1, .int .i64 (tri k), .slice none 0 0] 30 (0, 0)))
    have hw5 := heap_alloc_new (w4.alloc (.cells #[.int .i64 1, .int .i64 (tri k), .slice A 0 ac] 30 (0, 0))) (.cells #[.int .i64 1, .int .i64 (tri k), .slice none 0 0] 30 (0, 0))
    rw [show (w4.alloc (.cells #[.int .i64 1, .int .i64 (tri k), .slice A 0 ac] 30 (0, 0))).heap.size = w4.heap.size + 1 by simp] at hw5
    obtain ⟨y0, y1, y2⟩ := re_cells3 hw5
    have hT5 := HT.out.below HB5.out
    clear hb4 hb4' hb5 hw5
    go_wp2_with fail
    refine (res7 ⟨1, (tri k), []⟩ rfl _ A ac).mono ?_
    rintro e w6 ⟨rfl, hb6⟩
    have HB6 := Lib.hid (HB5.out.trans (hb6.mono HB5.out.size))
    have hT6 := HT.out.below HB6.out
    clear hb6 x0 x1 x2 y0 y1 y2
    go_wp2_with fail
    refine (awake_any _ hT6).mono ?_
    rintro e w7 ⟨rfl, hb7⟩
    have HB7 := Lib.hid (HB6.out.trans (hb7.mono HB6.out.size))
    clear hb7
    go_wp2
    go_returns
    exact ⟨rfl, HB7.out⟩
end Go.Proofs.YtihbgppcacaekaaDoor
