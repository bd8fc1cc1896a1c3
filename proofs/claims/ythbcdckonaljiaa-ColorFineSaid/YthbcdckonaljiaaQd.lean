import Derived.Test.YthbcdckonaljiaaQc
namespace Go.Proofs.Ythbcdckonaljiaa
open Go.RowKit Go.BigFrame

set_option maxRecDepth 1000000 in
set_option maxHeartbeats 16000000 in
theorem symMerge_any (ob N cap wb : Nat) (D : Int → Prop) (c : Int → Int → Int) (hN : N ≤ 100000) : ∀ n, SmT n ob N cap wb D c
  | 0 => fun l a m b x y z ha hm hb hn => by omega
  | n + 1 => fun l a m b x y z ha hm hb hn hx hy hz w hl hcm => by
    have IH := symMerge_any ob N cap wb D c hN n
    subst hx
    subst hy
    subst hz
    have HI := Lib.hid IH
    have HL := Lib.hid hl
    have HCM := Lib.hid hcm
    obtain ⟨L, hL⟩ : ∃ L, symM c (n + 1) l a m b = L := ⟨_, rfl⟩
    rw [hL]
    have HLL := Lib.hid hL
    unfold cmpV
    clear IH hl hcm hL
    have hb1 : (b : Int) ≤ 100000 := by omega
    have hm1 : (m : Int) ≤ 100000 := by omega
    have ha1 : (a : Int) ≤ 100000 := by omega
    go_enter Try.func86, Try.ntmps86
    refine wp_seq_k (fun K hK => ?_)
    have HK := Lib.hid hK
    clear hK
    by_cases h1 : m - a = 1
    · have h1i : (m : Int) - a = 1 := by omega
      obtain ⟨R, hR⟩ : ∃ R, bsr (fun k => decide (c (l.getD k 0) (l.getD a 0) < 0)) (b - m) m b = R := ⟨_, rfl⟩
      have hbd := bsr_bd (fun k => decide (c (l.getD k 0) (l.getD a 0) < 0)) (b - m) m b (by omega)
      have HE : Hid (upS l a (R - 1 - a) = L) := Lib.hid (by have := HLL.out; unfold symM at this; rw [if_pos h1, hR] at this; exact this)
      have HR := Lib.hid hR
      rw [hR] at hbd
      clear hR
      go_wp2
      refine smA_any l ob N cap a wb (b - m) m b HL.out.1 (by omega) (by omega) hb (by omega) hN D c HL.out.2.1 _ HL.out.2.2 HCM.out _ _ _ _ _ _ _ _ _ _ _ _ _ _ _ _ _ _ _ _ _ _ _ _ _ _ _ _ _ _ _ _ _ _ _ _ _ _ _ _ _ _ _ _ _ _ _ _ _ _ _ _ _ _ _ _ _ _ _ _ _ _ _ _ _ _ _ _ _ _ _ _ _ _ _ _ _ _ _ _ _ _ _ _ _ _ _ _ _ _ _ _ _ _ _ _ _ _ _ _ _ _ _ _ _ _ _ _ _ _ _ _ _ _ _ _ _ _ _ _ _ _ _ _ _ _ _ _ _ _ _ _ _ _ _ _ _ _ _ _ _ _ _ _ _ _ _ _ _ _ _ _ _ _ _ _ _ _ _ _ _ _ _ _ _ _ _ _ _ _ _ _ _ _ _ _ _ _ _ _ _ _ _ _ _ _ _ _ _ _ _ _ _ _ _ _ _ _ _ _ _ _ _ _ _ _ _ _ _ _ _ _ _ _ _ _ ?_
      intro v11 v12 v31 v32 v33 v34 v35 v36 v37 v38 v39 v40 v41 v42 v43 v44 v45 v46 v47 v48 v49 v50 v51 v52 v53 w3 hb3
      rw [HR.out]
      have HB3 := Lib.hid hb3
      clear hb3
      go_wp2
      refine smU_any l ob N cap a R HL.out.1 (by omega) (by omega) hN _ (Pre.later HL.out.2.2 HB3.out) _ _ _ _ _ _ _ _ _ _ _ _ _ _ _ _ _ _ _ _ _ _ _ _ _ _ _ _ _ _ _ _ _ _ _ _ _ _ _ _ _ _ _ _ _ _ _ _ _ _ _ _ _ _ _ _ _ _ _ _ _ _ _ _ _ _ _ _ _ _ _ _ _ _ _ _ _ _ _ _ _ _ _ _ _ _ _ _ _ _ _ _ _ _ _ _ _ _ _ _ _ _ _ _ _ _ _ _ _ _ _ _ _ _ _ _ _ _ _ _ _ _ _ _ _ _ _ _ _ _ _ _ _ _ _ _ _ _ _ _ _ _ _ _ _ _ _ _ _ _ _ _ _ _ _ _ _ _ _ _ _ _ _ _ _ _ _ _ _ _ _ _ _ _ _ _ _ _ _ _ _ _ _ _ _ _ _ _ _ _ _ _ _ _ _ _ _ _ _ _ _ _ _ _ _ _ _ _ _ _ _ _ _ _ _ _ _ _ ?_
      intro t13 t55 t56 t57 t58 t59 t60 t61 t62 t63 t64 t65 t66 t67 t68 t69 t70 t71 t72 t73 t74 t75 t76 w4 hp4 ho4
      have HQ4 : Hid (SrtT L N ob D w4 ∧ OnlyC w w4 ob) := Lib.hid (by
        rw [← HE.out]
        exact ⟨HL.out.perm (upS_perm _ (by rw [HL.out.1]; omega)) hp4, (OnlyC.below ob HB3.out).trans ho4⟩)
      clear hp4 ho4
      go_wp2
      go_returns
      exact ⟨rfl, HQ4.out⟩
    · have h1i : ¬ (m : Int) - a = 1 := by omega
      have h1b : ((m : Int) - a == 1) = false := by rw [beq_eq_false_iff_ne]; exact h1i
      go_wp2
      refine HK.out _ _ ?_
      refine wp_seq_k (fun K2 hK2 => ?_)
      have HK2 := Lib.hid hK2
      clear hK2 h1b
      by_cases h2 : b - m = 1
      · have h2i : (b : Int) - m = 1 := by omega
        obtain ⟨R, hR⟩ : ∃ R, bsr (fun k => !decide (c (l.getD m 0) (l.getD k 0) < 0)) (m - a) a m = R := ⟨_, rfl⟩
        have hbd := bsr_bd (fun k => !decide (c (l.getD m 0) (l.getD k 0) < 0)) (m - a) a m (by omega)
        have HE : Hid (dnS l m (m - R) = L) := Lib.hid (by have := HLL.out; unfold symM at this; rw [if_neg h1, if_pos h2, hR] at this; exact this)
        have HR := Lib.hid hR
        rw [hR] at hbd
        clear hR
        go_wp2
        refine smB_any l ob N cap m wb (m - a) a m HL.out.1 (by omega) (by omega) (by omega) (by omega) hN D c HL.out.2.1 _ HL.out.2.2 HCM.out _ _ _ _ _ _ _ _ _ _ _ _ _ _ _ _ _ _ _ _ _ _ _ _ _ _ _ _ _ _ _ _ _ _ _ _ _ _ _ _ _ _ _ _ _ _ _ _ _ _ _ _ _ _ _ _ _ _ _ _ _ _ _ _ _ _ _ _ _ _ _ _ _ _ _ _ _ _ _ _ _ _ _ _ _ _ _ _ _ _ _ _ _ _ _ _ _ _ _ _ _ _ _ _ _ _ _ _ _ _ _ _ _ _ _ _ _ _ _ _ _ _ _ _ _ _ _ _ _ _ _ _ _ _ _ _ _ _ _ _ _ _ _ _ _ _ _ _ _ _ _ _ _ _ _ _ _ _ _ _ _ _ _ _ _ _ _ _ _ _ _ _ _ _ _ _ _ _ _ _ _ _ _ _ _ _ _ _ _ _ _ _ _ _ _ _ _ _ _ _ _ _ _ _ _ _ _ _ _ _ _ _ _ _ _ _ ?_
        intro v15 v16 v83 v84 v85 v86 v87 v88 v89 v90 v91 v92 v93 v94 v95 v96 v97 v98 v99 v100 v101 v102 v103 v104 v105 v106 w3 hb3
        rw [HR.out]
        have HB3 := Lib.hid hb3
        clear hb3
        go_wp2
        refine smV_any l ob N cap m R HL.out.1 (by omega) (by omega) hN _ (Pre.later HL.out.2.2 HB3.out) _ _ _ _ _ _ _ _ _ _ _ _ _ _ _ _ _ _ _ _ _ _ _ _ _ _ _ _ _ _ _ _ _ _ _ _ _ _ _ _ _ _ _ _ _ _ _ _ _ _ _ _ _ _ _ _ _ _ _ _ _ _ _ _ _ _ _ _ _ _ _ _ _ _ _ _ _ _ _ _ _ _ _ _ _ _ _ _ _ _ _ _ _ _ _ _ _ _ _ _ _ _ _ _ _ _ _ _ _ _ _ _ _ _ _ _ _ _ _ _ _ _ _ _ _ _ _ _ _ _ _ _ _ _ _ _ _ _ _ _ _ _ _ _ _ _ _ _ _ _ _ _ _ _ _ _ _ _ _ _ _ _ _ _ _ _ _ _ _ _ _ _ _ _ _ _ _ _ _ _ _ _ _ _ _ _ _ _ _ _ _ _ _ _ _ _ _ _ _ _ _ _ _ _ _ _ _ _ _ _ _ _ _ _ _ _ _ _ ?_
        intro t17 t108 t109 t110 t111 t112 t113 t114 t115 t116 t117 t118 t119 t120 t121 t122 t123 t124 t125 t126 t127 t128 w4 hp4 ho4
        have HQ4 : Hid (SrtT L N ob D w4 ∧ OnlyC w w4 ob) := Lib.hid (by
          rw [← HE.out]
          exact ⟨HL.out.perm (dnS_perm (by rw [HL.out.1]; omega) _) hp4, (OnlyC.below ob HB3.out).trans ho4⟩)
        clear hp4 ho4
        go_wp2
        go_returns
        exact ⟨rfl, HQ4.out⟩
      · have h2i : ¬ (b : Int) - m = 1 := by omega
        have h2b : ((b : Int) - m == 1) = false := by rw [beq_eq_false_iff_ne]; exact h2i
        go_wp2
        refine HK2.out _ _ ?_
        refine sm2 HI.out hN hb ha hm hn h1 h2 HLL.out HL.out HCM.out _ _ _ _ _ _ _ _ _ _ _ _ _ _ _ _ _ _ _ _ _ _ _ _ _ _ _ _ _ _ _ _ _ _ _ _ _ _ _ _ _ _ _ _ _ _ _ _ _ _ _ _ _ _ _ _ _ _ _ _ _ _ _ _ _ _ _ _ _ _ _ _ _ _ _ _ _ _ _ _ _ _ _ _ _ _ _ _ _ _ _ _ _ _ _ _ _ _ _ _ _ _ _ _ _ _ _ _ _ _ _ _ _ _ _ _ _ _ _ _ _ _ _ _ _ _ _ _ _ _ _ _ _ _ _ _ _ _ _ _ _ _ _ _ _ _ _ _ _ _ _ _ _ _ _ _ _ _ _ _ _ _ _ _ _ _ _ _ _ _ _ _ _ _ _ _ _ _ _ _ _ _ _ _ _ _ _ _ _ _ _ _ _ _ _ _ _ _ _ _ _ _ _ _ _ _ _ _ _ _ _ _ _ _ _ _ ?_
        intro a9 w9 hd9 hs9 ho9
        exact bodyPost_end (by simp [results, Try.results86, go_sem]) hd9 ⟨rfl, hs9, ho9⟩
open Go.RowKit Go.BigFrame

set_option maxRecDepth 1000000 in
set_option maxHeartbeats 16000000 in
theorem stable_any (l : List Int) (ob N cap wb : Nat) (D : Int → Prop) (c : Int → Int → Int) (hN : N ≤ 100000) (w : World) (hs : SrtT l N ob D w) (hcm : CmpT w ob wb D c) :
    Calls Try.prog 59 #[.slice (some ⟨ob, 0, none⟩) N cap, .int .i64 N, cmpV wb] w fun e w' => e = .returned (.tuple #[]) ∧ SrtT (stab c l) N ob D w' ∧ OnlyC w w' ob := by
  have HIN : Hid (∀ (l : List Int) (a b : Nat) (x y : Int), a ≤ b → b ≤ N → x = a → y = b → ∀ W, SrtT l N ob D W → OnlyC w W ob → Calls Try.prog 85 #[.slice (some ⟨ob, 0, none⟩) N cap, .int .i64 x, .int .i64 y, cmpV wb] W fun e w' => e = .returned (.tuple #[]) ∧ SrtT (insO c a (b - a - 1) l) N ob D w' ∧ OnlyC W w' ob) := Lib.hid fun l a b x y ha hb hx hy W hW hO => by
    subst hx; subst hy
    exact insSort_any l ob N cap a b wb hW.1 ha hb hN D c hW.2.1 W hW.2.2 (hcm.later hO)
  have HSM : Hid (∀ n, SmT n ob N cap wb D c) := Lib.hid fun n => symMerge_any ob N cap wb D c hN n
  have HCM := Lib.hid hcm
  have HS := Lib.hid hs
  obtain ⟨X, hX⟩ : ∃ X, stI c N (N + 1) l 0 = X := ⟨_, rfl⟩
  obtain ⟨Y, hY⟩ : ∃ Y, stO c N (N + 1) X 20 = Y := ⟨_, rfl⟩
  have hst : stab c l = Y := by unfold stab; rw [hs.1, hX, hY]
  rw [hst]
  have HX := Lib.hid hX
  have HY := Lib.hid hY
  unfold cmpV at HIN ⊢
  clear hs hcm hX hY hst
  go_enter Try.func59, Try.ntmps59
  go_wp2
  go_loopw [7, 8] (fun va vb wr => ∃ (a b k : Nat) (l' : List Int), va = .int .i64 (a : Int) ∧ vb = .int .i64 (b : Int) ∧ b = a + 20 ∧ a ≤ N ∧ N + 1 ≤ a + k ∧ stI c N k l' a = X ∧ SrtT l' N ob D wr ∧ OnlyC w wr ob) (fun va vb _ => N + 30 - (intOf vb).toNat)
  case atStart => exact ⟨0, 20, N + 1, l, rfl, rfl, by omega, by omega, by omega, HX.out, HS.out, OnlyC.refl _ _⟩
  case round =>
    obtain ⟨a, b, k, l', rfl, rfl, hb, ha, hk, hx, hs, ho⟩ := hrel
    have HB := Lib.hid (And.intro hb (And.intro ha hk))
    have HXX := Lib.hid hx
    have HSS := Lib.hid hs
    have HO := Lib.hid ho
    obtain ⟨k, rfl⟩ : ∃ j, k = j + 1 := ⟨k - 1, by omega⟩
    by_cases hle : b ≤ N
    · have hlei : (b : Int) ≤ N := by omega
      have HE : Hid (stI c N k (insO c a (b - a - 1) l') b = X) := Lib.hid (by
        have h := HXX.out
        unfold stI at h
        rw [← hb, if_pos hle] at h
        exact h)
      clear hb ha hk hx hs ho hle
      have HLE := Lib.hid hlei
      have hb1 : (b : Int) ≤ 100000 := by omega
      have hb0 : (0 : Int) ≤ (b : Int) := by omega
      go_wp2_with (go_at_call 85; refine (HIN.out l' a b _ _ (by have := HB.out; omega) (by have := HLE.out; omega) rfl rfl _ HSS.out HO.out).mono ?_; rintro e9 w3 ⟨rfl, hs3, ho3⟩; have HS3 := Lib.hid hs3; have HO3 := Lib.hid (HO.out.trans ho3); clear hs3 ho3)
      have h1 := HB.out
      have h2 := HLE.out
      exact ⟨⟨b, b + 20, k, _, rfl, by go_num, rfl, by omega, by omega, HE.out, HS3.out, HO3.out⟩, by simp [intOf]; omega⟩
    · have hlei : ¬ (b : Int) ≤ N := by omega
      have HE : Hid (insO c a (N - a - 1) l' = X) := Lib.hid (by
        have h := HXX.out
        unfold stI at h
        rw [← hb, if_neg hle] at h
        exact h)
      clear hb hk hx hs ho hle
      have HA := Lib.hid ha
      clear ha
      go_wp2_with (go_at_call 85; refine (HIN.out l' a N _ _ HA.out (Nat.le_refl _) rfl rfl _ HSS.out HO.out).mono ?_; rintro e9 w3 ⟨rfl, hs3, ho3⟩; rw [HE.out] at hs3; have HS3 := Lib.hid hs3; have HO3 := Lib.hid (HO.out.trans ho3); clear hs3 ho3)
      clear hlei HB
      go_loopw [6] (fun vs wr => ∃ (bs k : Nat) (l' : List Int), vs = .int .i64 (bs : Int) ∧ 0 < bs ∧ bs ≤ 200000 ∧ N ≤ bs + k ∧ stO c N k l' bs = Y ∧ SrtT l' N ob D wr ∧ OnlyC w wr ob) (fun vs _ => N + 1 - (intOf vs).toNat)
      case atStart => exact ⟨20, N + 1, X, rfl, by omega, by omega, by omega, HY.out, HS3.out, HO3.out⟩
      case round =>
        obtain ⟨bs, k, l2, rfl, hb0, hb1, hk, hy, hs, ho⟩ := hrel
        have HYY := Lib.hid hy
        have HS4 := Lib.hid hs
        have HO4 := Lib.hid ho
        by_cases hlt : bs < N
        · have hlti : (bs : Int) < N := by omega
          obtain ⟨k, rfl⟩ : ∃ j, k = j + 1 := ⟨k - 1, by omega⟩
          obtain ⟨Z, hZ⟩ : ∃ Z, stM c N bs (N + 1) l2 0 = Z := ⟨_, rfl⟩
          have HE : Hid (stO c N k Z (bs * 2) = Y) := Lib.hid (by
            have h := HYY.out
            unfold stO at h
            rw [if_pos hlt, hZ] at h
            exact h)
          have HZ := Lib.hid hZ
          have HB := Lib.hid (And.intro hb0 (And.intro hk hlt))
          have hbi : (0 : Int) < (bs : Int) := by omega
          have hbj : (bs : Int) ≤ 100000 := by omega
          clear hb0 hb1 hk hy hs ho hlt hZ
          go_wp2
          obtain ⟨w8, rfl⟩ : ∃ w8 : World, w8 = wr := ⟨_, rfl⟩
          go_loopw [7, 8] (fun va vb wr => ∃ (a b k : Nat) (l' : List Int), va = .int .i64 (a : Int) ∧ vb = .int .i64 (b : Int) ∧ b = a + 2 * bs ∧ a ≤ N ∧ N + 1 ≤ a + k ∧ stM c N bs k l' a = Z ∧ SrtT l' N ob D wr ∧ OnlyC w wr ob) (fun va vb _ => N + 2 * bs + 1 - (intOf vb).toNat)
          case atStart => exact ⟨0, 2 * bs, N + 1, l2, rfl, by first | go_num | (congr 1; omega), by omega, by omega, by omega, HZ.out, HS4.out, HO4.out⟩
          case round =>
            obtain ⟨a, b, k5, l5, rfl, rfl, hb, ha, hk5, hx, hs, ho⟩ := hrel
            have HXX := Lib.hid hx
            have HSS := Lib.hid hs
            have HOO := Lib.hid ho
            obtain ⟨k5, rfl⟩ : ∃ j, k5 = j + 1 := ⟨k5 - 1, by omega⟩
            by_cases hle : b ≤ N
            · have hlei : (b : Int) ≤ N := by omega
              have hB := HB.out
              obtain ⟨m, hm⟩ : ∃ m, a + bs = m := ⟨_, rfl⟩
              have HE2 : Hid (stM c N bs k5 (symM c (b - a) l5 a m b) b = Z) := Lib.hid (by
                have h := HXX.out
                unfold stM at h
                rw [← hb, if_pos hle, hm] at h
                exact h)
              have hmi : (a : Int) + bs = (m : Int) := by omega
              have HN2 := Lib.hid (show a < m ∧ m < b ∧ b ≤ N ∧ b = a + 2 * bs ∧ N + 1 ≤ a + (k5 + 1) by omega)
              have ha0 : (0 : Int) ≤ (a : Int) := by omega
              have ha1 : (a : Int) ≤ 100000 := by omega
              have hb1 : (b : Int) ≤ 100000 := by omega
              clear hb ha hk5 hx hs ho hle hB hm
              go_wp2_with (go_at_call 86; refine (HSM.out (b - a) l5 a m b _ _ _ HN2.out.1 HN2.out.2.1 HN2.out.2.2.1 (Nat.le_refl _) rfl rfl rfl _ HSS.out (HCM.out.later HOO.out)).mono ?_; rintro e9 w6 ⟨rfl, hs6, ho6⟩; have HS6 := Lib.hid hs6; have HO6 := Lib.hid (HOO.out.trans ho6); clear hs6 ho6)
              have h1 := HN2.out
              have h2 := HB.out
              exact ⟨⟨b, b + 2 * bs, k5, _, rfl, by first | go_num | (congr 1; omega), rfl, by omega, by omega, HE2.out, HS6.out, HO6.out⟩, by simp [intOf]; omega⟩
            · have hlei : ¬ (b : Int) ≤ N := by omega
              have ha0 : (0 : Int) ≤ (a : Int) := by omega
              have ha1 : (a : Int) ≤ 100000 := by omega
              have hB := HB.out
              obtain ⟨m, hm⟩ : ∃ m, a + bs = m := ⟨_, rfl⟩
              have hmi : (a : Int) + bs = (m : Int) := by omega
              have hm1 : (m : Int) ≤ 200000 := by omega
              by_cases hmN : m < N
              · have hmNi : (m : Int) < N := by omega
                have HE2 : Hid (symM c (N - a) l5 a m N = Z) := Lib.hid (by
                  have h := HXX.out
                  unfold stM at h
                  rw [← hb, if_neg hle, hm, if_pos hmN] at h
                  exact h)
                have HN2 := Lib.hid (show a < m ∧ m < N by omega)
                clear hb ha hk5 hx hs ho hle hB hm hmN
                go_wp2_with (go_at_call 86; refine (HSM.out (N - a) l5 a m N _ _ _ HN2.out.1 HN2.out.2 (Nat.le_refl _) (Nat.le_refl _) rfl rfl rfl _ HSS.out (HCM.out.later HOO.out)).mono ?_; rintro e9 w6 ⟨rfl, hs6, ho6⟩; rw [HE2.out] at hs6; have HS6 := Lib.hid hs6; have HO6 := Lib.hid (HOO.out.trans ho6); clear hs6 ho6)
                have h2 := HB.out
                exact ⟨⟨bs * 2, k, Z, by first | go_num | (congr 1; omega), by omega, by omega, by omega, HE.out, HS6.out, HO6.out⟩, by simp [intOf]; omega⟩
              · have hmNi : ¬ (m : Int) < N := by omega
                have HE2 : Hid (l5 = Z) := Lib.hid (by
                  have h := HXX.out
                  unfold stM at h
                  rw [← hb, if_neg hle, hm, if_neg hmN] at h
                  exact h)
                clear hb ha hk5 hx hs ho hle hB hm hmN
                go_wp2
                have h2 := HB.out
                exact ⟨⟨bs * 2, k, Z, by first | go_num | (congr 1; omega), by omega, by omega, by omega, HE.out, by rw [← HE2.out]; exact HSS.out, HOO.out⟩, by simp [intOf]; omega⟩
        · have hlti : ¬ (bs : Int) < N := by omega
          have HE : Hid (l2 = Y) := Lib.hid (by
            have h := HYY.out
            cases k with
            | zero => exact h
            | succ k =>
              unfold stO at h
              rw [if_neg hlt] at h
              exact h)
          have HQ : Hid (SrtT Y N ob D wr) := Lib.hid (by rw [← HE.out]; exact HS4.out)
          clear hb0 hb1 hk hy hs ho hlt
          go_wp2
          go_returns
          exact ⟨rfl, HQ.out, HO4.out⟩
set_option maxRecDepth 1000000 in
set_option maxHeartbeats 16000000 in
theorem SortStable_any (l : List Int) (ob N cap wb : Nat) (D : Int → Prop) (c : Int → Int → Int) (hN : N ≤ 100000) (w : World) (hs : SrtT l N ob D w) (hcm : CmpT w ob wb D c) :
    Calls Try.prog 39 #[.slice (some ⟨ob, 0, none⟩) N cap, cmpV wb] w fun e w' => e = .returned (.tuple #[]) ∧ SrtT (stab c l) N ob D w' ∧ OnlyC w w' ob := by
  have HS := Lib.hid hs
  have HCM := Lib.hid hcm
  unfold cmpV
  clear hs hcm
  go_enter Try.func39, Try.ntmps39
  go_wp2_with (go_at_call 59; refine (stable_any l ob N cap wb D c hN _ HS.out HCM.out).mono ?_; rintro e9 w6 ⟨rfl, hs6, ho6⟩; have HS6 := Lib.hid hs6; have HO6 := Lib.hid ho6; clear hs6 ho6)
  go_returns
  exact ⟨rfl, HS6.out, HO6.out⟩
end Go.Proofs.Ythbcdckonaljiaa
