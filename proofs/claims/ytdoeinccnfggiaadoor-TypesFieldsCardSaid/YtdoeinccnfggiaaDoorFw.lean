import Derived.Test.YtdoeinccnfggiaaDoorFs
import Derived.Test.YtdoeinccnfggiaaDoorX
namespace Go.Proofs.YtdoeinccnfggiaaDoor
open Go.RowKit Go.BigFrame

set_option maxRecDepth 1000000 in
set_option maxHeartbeats 1000000 in
theorem fields_any (A : Option Addr) (cs : List Nat) (cap : Nat) (w : World) (hT : Tab w) (hcs : ∀ (j c : Nat), cs[j]? = some c → c ≤ 255 ∧ ∃ b o, A = some ⟨b, o, none⟩ ∧ b < w.heap.size ∧ w.cell? ⟨b, o + j, none⟩ = some (.int .u8 (c : Int))) :
    Calls Tryd.prog 3 #[.slice A cs.length cap] w fun e w' => e = .returned (.bool true) ∧ Below w.heap.size w w' := by
  obtain ⟨L, hL⟩ : ∃ L, cs.length = L := ⟨_, rfl⟩
  rw [hL]
  by_cases hl : 10 < L
  · have q : decide (L > 10) = true := by simpa using hl
    have q' : decide ((L : Int) > 10) = true := by simp; omega
    clear hl hL
    go_enter Tryd.func3, Tryd.ntmps3
    go_wp2_with (first
      | (go_at_call 9; refine (awake_any _ hT).mono ?_; rintro e w1 ⟨rfl, hb1⟩))
    go_returns
    exact ⟨rfl, hb1⟩
  · have q' : decide ((L : Int) > 10) = false := by simp; omega
    have hL10 : L ≤ 10 := by omega
    clear hl
    go_enter Tryd.func3, Tryd.ntmps3
    go_wp2_with (first
      | (go_at_call 10; refine (new_any _).mono ?_; rintro e w1 ⟨rfl, hf1⟩))
    go_loopw [4, 5, 31] (fun V sm i w8 => ∃ j : Nat, j ≤ L ∧ i = .int .i64 j ∧ sm = .int .i64 (fdS cs j : Nat) ∧ ∃ F : Nat → Prop, Tb w8 (w.heap.size + 1) F (fdT cs j) noF ∧ Below w.heap.size w w8 ∧ (∀ k, F k → w.heap.size ≤ k) ∧ (∀ k, F k → k < w8.heap.size) ∧ ∃ U, V = U ∧ OwnF w8 U (fdL cs j) ∧ ∀ b, U.ownBlock = some b → w.heap.size ≤ b ∧ ¬ F b) (fun _ _ i _ => L - (intOf i).toNat)
    case atStart =>
      obtain ⟨F, t, b1, f1, s1⟩ := hf1.open_
      exact ⟨0, by omega, rfl, rfl, F, t, b1, f1, s1, _, rfl, OwnF.nil _, fun b hb => by simp [Value.ownBlock] at hb⟩
    case round =>
      obtain ⟨j, hj, rfl, rfl, F, t, hb, f1, s1, V, hVu, hO, hOb⟩ := hrel
      have hVu2 := hVu.symm
      subst hVu2
      clear hVu
      by_cases hlt : j < L
      · have hc : cs[j]? = some (cs[j]'(by omega)) := by simp
        have hgd : cs.getD j 0 = cs[j]'(by omega) := by simp [List.getD_eq_getElem?_getD, hc]
        generalize cs[j]'(by omega) = c at hc hgd
        obtain ⟨hc255, b, o, rfl, hblt, hcell⟩ := hcs j c hc
        have hcell' := (hb.cell (p := ⟨b, o + j, none⟩) hblt).trans hcell
        obtain ⟨E, hE⟩ : ∃ E : Nat, E = 1 + j % 3 := ⟨_, rfl⟩
        obtain ⟨N, hN⟩ : ∃ N : Nat, N = fdN cs j := ⟨_, rfl⟩
        have hN2 : N = 1 + c % 20 := by rw [hN, fdN, hgd]
        obtain ⟨ha1, ha2⟩ := fd_arr cs j (by omega) 2
        obtain ⟨q, hp1, hp2, _⟩ := fd_put cs j (by omega)
        rw [hp1, ← hE, ← hN] at ha1
        rw [← hE] at ha2
        have ha := array_any t 3 (E : Int) (N : Int) ha2
        rw [ha1] at ha
        have qe : (1 : Int) + (j : Int) % 3 = (E : Int) := by omega
        have qe0 : 0 ≤ (j : Int) % 3 := by omega
        have qe1 : (j : Int) % 3 < 3 := by omega
        have qn : (1 : Int) + (c : Int) % 20 = (N : Int) := by omega
        have qn0 : 0 ≤ (c : Int) % 20 := by omega
        have qn1 : (c : Int) % 20 < 20 := by omega
        have HN := Lib.hid hN
        clear hcell hcs ha1 ha2 hgd hE hN2 hN
        have hcv := fun w => conv_name j (by omega) w
        have hSle := fdS_le cs j
        have hSle2 : fdS cs j ≤ 200 := by omega
        have hNle : N ≤ 20 := by rw [HN.out]; exact (fdN_le cs j).2
        have hlen := fdL_len cs j
        have HLEN := Lib.hid hlen
        clear hSle hlen
        generalize hSv : fdS cs j = S at *
        have HSV := Lib.hid hSv
        clear hSv
        go_wp2_with (first
          | (go_at_call 11; refine ha.mono ?_; rintro e w2 ⟨rfl, ht2⟩; obtain ⟨F2, t2, hch2, hF2⟩ := ht2; have hO2 : OwnF w2 V (fdL cs j) := hO.chg (fun b hb hlt => hch2.block b hlt (hOb b hb).2))
          | (at_builtin; go_must (refine append_fld rfl _ _ rfl V (fdL cs j) rfl ((hO2.alloc _).alloc _) (w2.heap.size + 1) ⟨nameB j, (q : Int)⟩ rfl (by simpa using heap_alloc_new (w2.alloc (.cells #[.int .u8 (97 + (j : Int))] 5)) (.cells (Fld.l ⟨nameB j, (q : Int)⟩).toArray 31)) (by rw [HLEN.out]; omega) ?_); intro V' w4 hO4 hg4 hat4))
        have hB2 : Below w.heap.size w w2 := hb.trans (hch2.below hb.size f1)
        have hs4 := hg4.size
        have hsz4 : ((w2.alloc (.cells #[.int .u8 (97 + (j : Int))] 5)).alloc (.cells (Fld.l ⟨nameB j, (q : Int)⟩).toArray 31)).heap.size = w2.heap.size + 2 := by simp
        have hVlt := hO.lt
        have hF2V : ∀ b, V.ownBlock = some b → ¬ F2 b := fun b hb hF => by
          rcases hF2 b hF with h | h
          · exact (hOb b hb).2 h
          · have := hVlt b hb; omega
        refine ⟨⟨j + 1, by omega, by simp, ?_, fun k => F2 k ∧ k < w2.heap.size, ?_, ?_, fun k hk => ?_, fun k hk => ?_, _, rfl, ?_, fun b hb => ?_⟩, by simp [intOf]; omega⟩
        · rw [fdS, HSV.out, ← HN.out]
          simp
        · refine t2.small.same fun k hk hlt => ?_
          rw [hg4.block k (by rw [hsz4]; omega) (fun e => hF2V k e.symm hk.1), Below.heap_alloc _ _ _ (by simp; omega), Below.heap_alloc _ _ _ hlt]
        · exact ((hB2.alloc hB2.size _).alloc (by have := hB2.size; simp; omega) _).grown hg4 (by have := hB2.size; rw [hsz4]; omega) (fun k hk => (hOb k hk).1)
        · rcases hF2 k hk.1 with h | h
          · exact f1 k h
          · have := hb.size; omega
        · have := hk.2
          rw [hsz4] at hs4
          omega
        · rw [fdL_succ, hp2]
          exact hO4
        · rcases hat4 with h | h
          · rw [h] at hb
            exact ⟨(hOb b hb).1, fun hk => hF2V b hb hk.1⟩
          · rw [h, hsz4] at hb
            injection hb with hb
            have := hB2.size
            exact ⟨by omega, fun hk => by have := hk.2; omega⟩
      · have hjL : j = L := by omega
        rw [hjL] at hO t ⊢
        obtain ⟨A2, cap2, hV, hA2, hFR⟩ := hO.form
        have hd := define_any t 3 ⟨#[115]⟩ A2 cap2 (fdL cs L) (by rw [fdL_len]; omega) hFR (fun b hb => (hOb b (hA2 b hb)).2) (by rw [fd_str cs L hL10]) (by rw [fd_str cs L hL10]; exact fd_dd cs L hL10)
        rw [fd_str cs L hL10] at hd
        simp only at hd
        rw [fd_D cs L hL10, fdL_len] at hd
        rw [fdL_len] at hV
        subst hV
        have hst := fun w' (F' : Nat → Prop) (t' : Tb w' (w.heap.size + 1) F' (fdT cs L ++ [sTy]) (fdD cs L)) => struct_any t' ⟨#[115]⟩
        rw [fd_str2 cs L hL10] at hst
        simp only at hst
        have hsz := fun w' (F' : Nat → Prop) (t' : Tb w' (w.heap.size + 1) F' (fdT cs L ++ [sTy]) (fdD cs L)) => size_any 4 ((fdT cs L).length : Int) w' t' (fd_deep cs L hL10)
        rw [fd_size cs L hL10] at hsz
        simp only at hsz
        have hfl := fun w' (F' : Nat → Prop) (t' : Tb w' (w.heap.size + 1) F' (fdT cs L ++ [sTy]) (fdD cs L)) (m : Nat) (hm : m < L) => field_any t' 3 ((fdT cs L).length : Int) (nameB m) (fd_deep cs L hL10)
        have hft := fd_fieldT cs L hL10
        have hsf := fun (m : Nat) (hm : m < L) w' (F' : Nat → Prop) (t' : Tb w' (w.heap.size + 1) F' (fdT cs L ++ [sTy]) (fdD cs L)) => size_any 3 (fdI cs m) w' t' (fd_sz cs m L hm hL10 [sTy] (fdD cs L) 1).2
        have hsq := fun (m : Nat) (hm : m < L) => (fd_sz cs m L hm hL10 [sTy] (fdD cs L) 1).1
        have hO1 := hOb
        have he : (L = 0 ∧ defE (fdT cs L ++ [sTy]) noF 3 ⟨#[115]⟩ (fdL cs L) = 8) ∨ (0 < L ∧ defE (fdT cs L ++ [sTy]) noF 3 ⟨#[115]⟩ (fdL cs L) = 0) := by
          by_cases h : L = 0
          · exact .inl ⟨h, fd_e0 cs L h⟩
          · exact .inr ⟨by omega, fd_e1 cs L hL10 (by omega)⟩
        generalize defE (fdT cs L ++ [sTy]) noF 3 ⟨#[115]⟩ (fdL cs L) = e0 at *
        generalize hSv : fdS cs L = S at *
        have HSV := Lib.hid hSv
        generalize fdT cs L ++ [sTy] = T' at *
        generalize (fdT cs L).length = n0 at *
        have hqe : (e0 == 0) = decide (0 < L) := by
          rcases he with ⟨h1, h2⟩ | ⟨h1, h2⟩
          · subst h1 h2; decide
          · subst h2; simp [h1]
        clear hSv he hjL hcs hf1
        go_wp2_with (first
          | (go_at_call 12; refine hd.mono ?_; rintro e w2 ⟨rfl, ht2⟩; obtain ⟨F2, t2, hch2, hF2⟩ := ht2)
          | (go_at_call 13; refine (hst _ _ t2).mono ?_; rintro e w3 ⟨rfl, ht3⟩; obtain ⟨F3, t3, hch3, hF3⟩ := ht3)
          | (go_at_call 14; refine (hsz _ _ t3).mono ?_; rintro e w4 ⟨rfl, hb4⟩))
        have hlt0 := hO.lt
        have hFR2 := hFR.chg hch2 (fun b hb => (hOb b (hA2 b hb)).2)
        have hFR3 := hFR2.chg hch3 (fun b hb hF => by
          rcases hF2 b hF with h | h
          · exact (hOb b (hA2 b hb)).2 h
          · have := hlt0 b (hA2 b hb); omega)
        have hFR4 := hFR3.below hb4
        have t4 := t3.below hb4
        have hB2 : Below w.heap.size w w2 := hb.trans (hch2.below hb.size f1)
        have hB3 : Below w.heap.size w w3 := hB2.trans (hch3.below hB2.size (fun k hk => by
          rcases hF2 k hk with h | h
          · exact f1 k h
          · have := hb.size; omega))
        have hB4 := hB3.trans (hb4.mono hB3.size)
        have hSle : ∀ m, m ≤ L → fdS cs m ≤ 200 := fun m hm => by have := fdS_le cs m; omega
        clear hFR hFR2 hFR3 hd hst hsz hqe hO1 hOb hlt0 hb4 t3 t2 hch2 hch3 hF2 hF3 hO t
        go_loopw [16, 102] (fun at_ i w8 => ∃ m : Nat, m ≤ L ∧ i = .int .i64 m ∧ at_ = .int .i64 (fdS cs m : Nat) ∧ Below w4.heap.size w4 w8) (fun _ i _ => L - (intOf i).toNat)
        case atStart => exact ⟨0, by omega, rfl, rfl, Below.refl _ _⟩
        case round =>
          obtain ⟨m, hm, rfl, rfl, hb8⟩ := hrel
          by_cases hlt2 : m < L
          · obtain ⟨b2, hb2e, _, c0, c1⟩ := (hFR4.below hb8) m _ (fdL_at cs L m hlt2)
            subst hb2e
            simp only at c0 c1
            have hS1 := hSle m (by omega)
            have hN1 := fdN_le cs m
            have hsucc : fdS cs (m + 1) = fdS cs m + fdN cs m := rfl
            have HSC := Lib.hid hsucc
            have h15 := fun w' t' => hfl w' F3 t' m hlt2
            have hftm := hft m hlt2
            rw [hftm] at h15
            have h14 := fun w' t' => hsf m hlt2 w' F3 t'
            rw [hsq m hlt2] at h14
            have tr := (t4.below hb8).below (Below.one _ (.cells #[.string (nameB m), .int .i64 (fdI cs m)] 31))
            have hlt5 : wr.heap.size < (wr.alloc (.cells #[.string (nameB m), .int .i64 (fdI cs m)] 31)).heap.size := by simp
            have k1 := cell_of_heap (heap_alloc_new wr (.cells #[.string (nameB m), .int .i64 (fdI cs m)] 31)) 1 (.int .i64 (fdI cs m)) rfl
            clear hsucc hft hfl hsf hsq hftm
            generalize fdS cs m = Sm at *
            generalize fdN cs m = Nm at *
            generalize fdI cs m = Im at *
            generalize nameB m = nmm at *
            go_wp2_with (first
              | (go_at_call 15; refine (h15 _ tr).mono ?_; rintro e w5 ⟨rfl, hb5⟩; have k5 := (hb5.cell (p := ⟨wr.heap.size, 1, none⟩) hlt5).trans k1; have hlt6 := Nat.lt_of_lt_of_le hlt5 hb5.size)
              | (go_at_call 14; refine (h14 _ (tr.below hb5)).mono ?_; rintro e w6 ⟨rfl, hb6⟩; have k6 := (hb6.cell (p := ⟨wr.heap.size, 1, none⟩) hlt6).trans k5))
            have hb9 := hb8.alloc hb8.size (.cells #[.string nmm, .int .i64 Im] 31)
            exact ⟨⟨m + 1, by omega, by simp, by rw [HSC.out]; simp, hb9.trans (Below.mono (hb5.trans (hb6.mono hb5.size)) hb9.size)⟩, by simp [intOf]; omega⟩
          · have hmL : m = L := by omega
            rw [hmL, HSV.out]
            have hB9 := hB4.trans (hb8.mono hB4.size)
            clear hFR4 hft hfl hsf hsq hSle
            go_wp2_with (first
              | (go_at_call 9; refine (awake_any _ (hT.below hB9)).mono ?_; rintro e w9 ⟨rfl, hb9⟩))
            go_returns
            exact ⟨rfl, hB9.trans (hb9.mono hB9.size)⟩
end Go.Proofs.YtdoeinccnfggiaaDoor
