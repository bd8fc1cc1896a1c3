import Derived.Test.YtfaccdidjhaahaaQ
import Derived.Test.YtfaccdidjhaahaaM
namespace Go.Proofs.Ytfaccdidjhaahaa
open Go.RowKit Go.BigFrame

set_option maxRecDepth 100000 in
set_option maxHeartbeats 1000000 in
theorem tightlaw_not (r x : Row) (w : World) (hr : r.right = false) : Calls Try.prog 4 #[r.enc, x.arr] w fun e w' => e = .returned (.bool true) ∧ Below w.heap.size w w' := by
  have heq := eql_row r.tight r
  have het : (r.tight.F == r.F && r.tight.c == r.c) = true := by
    have : r.tight = r := by simp [Row.tight, hr]
    rw [this]; simp
  go_enter Try.func4, Try.ntmps4
  go_wp2_with fail
  have hB : Below w.heap.size w ((w.alloc r.o).alloc x.oa) := ((Below.refl _ _).alloc (Nat.le_refl _) _).alloc (by simp) _
  have hR : HasR ((w.alloc r.o).alloc x.oa) w.heap.size r := (HasR.new w r).alloc _
  generalize (w.alloc r.o).alloc x.oa = W at hB hR ⊢
  refine (tight_any r _).mono ?_; rintro e w1 ⟨rfl, hb1⟩
  replace hR := hR.below hb1 hR.lt
  replace hB := hB.trans (hb1.mono hB.size)
  clear hb1
  obtain ⟨c0, c1, c2, c3, c4, c5, c6, c7, c8⟩ := hR.cells
  have hz := hR.lt
  go_wp2_with fail
  clear c0 c1 c2 c3 c4 c5 c6 c7 c8 hz
  have hT : HasR (w1.alloc r.tight.o) w1.heap.size r.tight := HasR.new w1 r.tight
  have hb1 : Below w1.heap.size w1 (w1.alloc r.tight.o) := (Below.refl _ _).alloc (Nat.le_refl _) _
  replace hR := hR.below hb1 hR.lt
  replace hB := hB.trans (hb1.mono hB.size)
  clear hb1
  generalize w1.alloc r.tight.o = W2 at *
  refine (lright_any r _).mono ?_; rintro e w2 ⟨rfl, hb1⟩
  replace hR := hR.below hb1 hR.lt
  replace hT := hT.below hb1 hT.lt
  replace hB := hB.trans (hb1.mono hB.size)
  clear hb1
  obtain ⟨c0, c1, c2, c3, c4, c5, c6, c7, c8⟩ := hR.cells
  obtain ⟨d0, d1, d2, d3, d4, d5, d6, d7, d8⟩ := hT.cells
  go_wp2_with fail
  refine (awake_any _).mono ?_; rintro e w3 ⟨rfl, hb1⟩
  go_wp2_with fail
  go_returns
  exact ⟨rfl, hB.trans (hb1.mono hB.size)⟩

set_option maxRecDepth 100000 in
set_option maxHeartbeats 2000000 in
theorem tightlaw_yes (r x : Row) (w : World) (hr : r.right = true) : Calls Try.prog 4 #[r.enc, x.arr] w fun e w' => e = .returned (.bool true) ∧ Below w.heap.size w w' := by
  have hht := holds_tight r x hr
  have hcs := tight_cases r hr
  have hta := tight_at r hr
  have htr := tight_right r hr
  have HHT := Lib.hid hht
  have HCS := Lib.hid hcs
  have HTA := Lib.hid hta
  clear hht hcs hta
  go_enter Try.func4, Try.ntmps4
  go_wp2_with fail
  have hB : Below w.heap.size w ((w.alloc r.o).alloc x.oa) := ((Below.refl _ _).alloc (Nat.le_refl _) _).alloc (by simp) _
  have hR : HasR ((w.alloc r.o).alloc x.oa) w.heap.size r := (HasR.new w r).alloc _
  have hA : HasA ((w.alloc r.o).alloc x.oa) (w.heap.size + 1) x := by simpa using HasA.new (w.alloc r.o) x
  generalize (w.alloc r.o).alloc x.oa = W at hB hR hA ⊢
  refine (tight_any r _).mono ?_; rintro e w1 ⟨rfl, hb1⟩
  generalize r.tight = t at *
  replace hR := hR.below hb1 hR.lt
  replace hA := hA.below hb1 hA.lt
  replace hB := hB.trans (hb1.mono hB.size)
  clear hb1
  obtain ⟨c0, c1, c2, c3, c4, c5, c6, c7, c8⟩ := hR.cells
  have hz := hR.lt
  go_wp2_with fail
  clear c0 c1 c2 c3 c4 c5 c6 c7 c8 hz
  have hT : HasR (w1.alloc t.o) w1.heap.size t := HasR.new w1 t
  have hb1 : Below w1.heap.size w1 (w1.alloc t.o) := (Below.refl _ _).alloc (Nat.le_refl _) _
  replace hR := hR.below hb1 hR.lt
  replace hA := hA.below hb1 hA.lt
  replace hB := hB.trans (hb1.mono hB.size)
  clear hb1
  generalize w1.alloc t.o = W2 at *
  generalize w1.heap.size = gt at *
  clear w1
  refine (lright_any r _).mono ?_; rintro e w2 ⟨rfl, hb1⟩
  replace hR := hR.below hb1 hR.lt
  replace hA := hA.below hb1 hA.lt
  replace hT := hT.below hb1 hT.lt
  replace hB := hB.trans (hb1.mono hB.size)
  clear hb1
  go_wp2_with fail
  go_loopw [6, 7, 23] (fun d e i wr => ∃ k : Nat, k ≤ 8 ∧ i = .int .i64 k ∧ d = .int .i64 (gcdK t k : Nat) ∧ e = .int .i64 (gcdK r k : Nat) ∧ HasR wr w.heap.size r ∧ HasA wr (w.heap.size + 1) x ∧ HasR wr gt t ∧ Below w.heap.size w wr) (fun _ _ i _ => 8 - (intOf i).toNat)
  case atStart => exact ⟨0, by omega, rfl, rfl, rfl, hR, hA, hT, hB⟩
  case round =>
    clear hR hA hT hB
    obtain ⟨k, hk, rfl, rfl, rfl, hR, hA, hT, hB⟩ := hrel
    by_cases hlt : k < 8
    · have hf := far_at htr k
      have hnt : wrap64 (-t.at k) = -t.at k := by rw [far_iff] at hf; unfold wrap64; omega
      have hnt' : IntKind.i64.wrap (-t.at k) = -t.at k := (w64 _).trans hnt
      have hst : small (t.at k).natAbs := by rw [far_iff] at hf; unfold small; omega
      have hct := hT.cell k hlt
      have hg : Nat.gcd (gcdK t k) (t.at k).natAbs = gcdK t (k + 1) := rfl
      have HG := Lib.hid hg
      clear hg
      have hfr := far_at hr k
      have hnr : wrap64 (-r.at k) = -r.at k := by rw [far_iff] at hfr; unfold wrap64; omega
      have hnr' : IntKind.i64.wrap (-r.at k) = -r.at k := (w64 _).trans hnr
      have hsr : small (r.at k).natAbs := by rw [far_iff] at hfr; unfold small; omega
      have hcr := hR.cell k hlt
      have hgr : Nat.gcd (gcdK r k) (r.at k).natAbs = gcdK r (k + 1) := rfl
      have HGR := Lib.hid hgr
      clear hgr hf hfr
      by_cases h0 : t.at k < 0
      all_goals
        go_wp2_with fail
        go_quiet (fail)
        go_wp2_with fail
        go_loopw [6, 9] (fun a b w3 => ∃ x y : Nat, a = .int .i64 x ∧ b = .int .i64 y ∧ small y ∧ Hid (Nat.gcd x y = gcdK t (k + 1)) ∧ ∃ n, w3 = wr.drewN n) (fun _ b _ => (intOf b).toNat)
        case atStart => exact ⟨gcdK t k, (t.at k).natAbs, rfl, by congr 1; omega, hst, HG.out, _, rfl⟩
        case round =>
          obtain ⟨p, q, rfl, rfl, hsq, HG2, n2, rfl⟩ := hrel
          by_cases hq : q = 0
          · subst hq
            have HT1 : Hid (p = gcdK t (k + 1)) := Lib.hid (by have := HG2.out; simpa using this)
            by_cases h1 : r.at k < 0
            all_goals
              go_wp2_with fail
              go_quiet (fail)
              go_wp2_with fail
              go_loopw [7, 10] (fun a b w3 => ∃ x y : Nat, a = .int .i64 x ∧ b = .int .i64 y ∧ small y ∧ Hid (Nat.gcd x y = gcdK r (k + 1)) ∧ ∃ n, w3 = wr.drewN n) (fun _ b _ => (intOf b).toNat)
              case atStart => exact ⟨gcdK r k, (r.at k).natAbs, rfl, by congr 1; omega, hsr, HGR.out, _, World.drewN_drewN _ _ _⟩
              case round =>
                obtain ⟨p2, q2, rfl, rfl, hsq2, HG3, n3, rfl⟩ := hrel
                by_cases hq2 : q2 = 0
                · subst hq2
                  have HT2 : Hid (p2 = gcdK r (k + 1)) := Lib.hid (by have := HG3.out; simpa using this)
                  go_wp2_with fail
                  exact ⟨⟨k + 1, by omega, by go_num, congrArg (fun n : Nat => Value.int .i64 n) HT1.out, congrArg (fun n : Nat => Value.int .i64 n) HT2.out, hR, hA, hT, below_drewN hB _⟩, by simp [intOf]; omega⟩
                · have hyb2 : ((q2 : Int) != 0) = true := by simp; omega
                  go_wp2_with fail
                  go_quiet (fail)
                  go_wp2_with fail
                  go_roundw
                  case rel => exact ⟨q2, p2 % q2, rfl, congrArg (Value.int .i64) (Int.natCast_emod p2 q2).symm, small_mod hsq2 hq2, (gcd_step p2 q2 hq2).trans HG3.out, _, World.drewN_drewN _ _ _⟩
                  case measure => exact mod_lt2 p2 q2 hq2
          · have hyb : ((q : Int) != 0) = true := by simp; omega
            go_wp2_with fail
            go_quiet (fail)
            go_wp2_with fail
            go_roundw
            case rel => exact ⟨q, p % q, rfl, congrArg (Value.int .i64) (Int.natCast_emod p q).symm, small_mod hsq hq, (gcd_step p q hq).trans HG2.out, _, World.drewN_drewN _ _ _⟩
            case measure => exact mod_lt2 p q hq
    · have hk8 : k = 8 := by omega
      subst hk8
      obtain ⟨c0, c1, c2, c3, c4, c5, c6, c7, c8⟩ := hR.cells
      have hz := eql_zero r
      have hzb := HCS.out
      generalize hdd : gcdK t 8 = dd at *
      generalize hee : gcdK r 8 = ee at *
      rcases hzb with ⟨rfl, htr2, rfl⟩ | ⟨hpos, htr2, rfl⟩
      · have hFz : (r.F == [0, 0, 0, 0, 0, 0, 0, 0]) = true := by rw [F_zero r hee]; rfl
        clear hdd hee htr2 HCS
        go_wp2_with fail
        clear c0 c1 c2 c3 c4 c5 c6 c7 c8
        go_loopw [77] (fun i w3 => ∃ k : Nat, k ≤ 8 ∧ i = .int .i64 k ∧ ∃ n, w3 = wr.drewN n) (fun i _ => 8 - (intOf i).toNat)
        case atStart => exact ⟨0, by omega, rfl, 0, rfl⟩
        case round =>
          obtain ⟨k, hk, rfl, n3, rfl⟩ := hrel
          by_cases hlt : k < 8
          · have hct := hT.cell k hlt
            have hcr := hR.cell k hlt
            have hmm : IntKind.i64.wrap (t.at k) = r.at k := by rw [w64]; have h1 := HTA.out k hlt; have h2 := far_at hr k; rw [far_iff] at h2; unfold wrap64; rw [show max ((0 : Nat) : Int) 1 = 1 by omega] at h1; omega
            go_wp2_with fail
            go_quiet (fail)
            go_wp2_with fail
            exact ⟨⟨k + 1, by omega, by go_num, n3 + nq, rfl⟩, by simp [intOf]; omega⟩
          · have hk8 : k = 8 := by omega
            subst hk8
            have hBn := below_drewN hB n3
            have hRn : HasR (wr.drewN n3) w.heap.size r := hR
            have hAn : HasA (wr.drewN n3) (w.heap.size + 1) x := hA
            have hTn : HasR (wr.drewN n3) gt t := hT
            generalize wr.drewN n3 = W5 at *
            obtain ⟨c0, c1, c2, c3, c4, c5, c6, c7, c8⟩ := hRn.later
            obtain ⟨d0, d1, d2, d3, d4, d5, d6, d7⟩ := hAn.later
            obtain ⟨t0, t1, t2, t3, t4, t5, t6, t7, t8⟩ := hTn.later
            have hhh : (r.holds x == t.holds x) = true := by rw [HHT.out]; simp
            clear hR hA hT hB hRn hAn hTn
            go_wp2_with fail
            refine wp_region_later (by kernel_rfl) (by kernel_rfl) ?_
            repeat (go_big_quiet_step ((first
              | (go_at_call_of 13 t.c; exact Calls.later (lholds_any t x _))
              | (go_at_call_of 13 r.c; exact Calls.later (lholds_any r x _))
              | (go_at_call 14; exact Calls.later (awake_any _)))))
            refine wpQuiet_nil ?_
            rintro w1 ⟨s, rfl⟩
            go_wp2_with fail
            go_returns
            exact ⟨rfl, hBn.trans (s.h.mono hBn.size)⟩
      · have hFz : (r.F == [0, 0, 0, 0, 0, 0, 0, 0]) = false := by
          cases hh : (r.F == [0, 0, 0, 0, 0, 0, 0, 0]) with
          | false => rfl
          | true =>
            have := gcdK_of_zero r (by simpa using hh) 8
            omega
        have hee2 : ((ee : Int) == 0) = false := by simp; omega
        clear hdd hee htr2 HCS
        go_wp2_with fail
        clear c0 c1 c2 c3 c4 c5 c6 c7 c8
        go_loopw [77] (fun i w3 => ∃ k : Nat, k ≤ 8 ∧ i = .int .i64 k ∧ ∃ n, w3 = wr.drewN n) (fun i _ => 8 - (intOf i).toNat)
        case atStart => exact ⟨0, by omega, rfl, 0, rfl⟩
        case round =>
          obtain ⟨k, hk, rfl, n3, rfl⟩ := hrel
          by_cases hlt : k < 8
          · have hct := hT.cell k hlt
            have hcr := hR.cell k hlt
            have hmm : IntKind.i64.wrap (t.at k * (ee : Int)) = r.at k := by rw [w64]; have h1 := HTA.out k hlt; have h2 := far_at hr k; rw [far_iff] at h2; unfold wrap64; rw [show max (ee : Int) 1 = ee by omega] at h1; omega
            go_wp2_with fail
            go_quiet (fail)
            go_wp2_with fail
            exact ⟨⟨k + 1, by omega, by go_num, n3 + nq, rfl⟩, by simp [intOf]; omega⟩
          · have hk8 : k = 8 := by omega
            subst hk8
            have hBn := below_drewN hB n3
            have hRn : HasR (wr.drewN n3) w.heap.size r := hR
            have hAn : HasA (wr.drewN n3) (w.heap.size + 1) x := hA
            have hTn : HasR (wr.drewN n3) gt t := hT
            generalize wr.drewN n3 = W5 at *
            obtain ⟨c0, c1, c2, c3, c4, c5, c6, c7, c8⟩ := hRn.later
            obtain ⟨d0, d1, d2, d3, d4, d5, d6, d7⟩ := hAn.later
            obtain ⟨t0, t1, t2, t3, t4, t5, t6, t7, t8⟩ := hTn.later
            have hhh : (r.holds x == t.holds x) = true := by rw [HHT.out]; simp
            clear hR hA hT hB hRn hAn hTn
            go_wp2_with fail
            refine wp_region_later (by kernel_rfl) (by kernel_rfl) ?_
            repeat (go_big_quiet_step ((first
              | (go_at_call_of 13 t.c; exact Calls.later (lholds_any t x _))
              | (go_at_call_of 13 r.c; exact Calls.later (lholds_any r x _))
              | (go_at_call 14; exact Calls.later (awake_any _)))))
            refine wpQuiet_nil ?_
            rintro w1 ⟨s, rfl⟩
            go_wp2_with fail
            go_returns
            exact ⟨rfl, hBn.trans (s.h.mono hBn.size)⟩

theorem tightlaw_any (r x : Row) (w : World) : Calls Try.prog 4 #[r.enc, x.arr] w fun e w' => e = .returned (.bool true) ∧ Below w.heap.size w w' := by
  cases hr : r.right
  · exact tightlaw_not r x w hr
  · exact tightlaw_yes r x w hr
end Go.Proofs.Ytfaccdidjhaahaa
