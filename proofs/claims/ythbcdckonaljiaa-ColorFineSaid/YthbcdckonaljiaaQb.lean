import Derived.Test.YthbcdckonaljiaaQa
import Derived.Test.YthbcdckonaljiaaZe1
namespace Go.Proofs.Ythbcdckonaljiaa
open Go.RowKit Go.BigFrame

theorem below_dnc {B : Nat} {a w : World} (h : Below B a w) (q : Nat) : Below B a (w.drewN q) := ⟨h.os, h.tape, h.output, h.size, h.block⟩
def cmpV (wb : Nat) : Value := .func (.func 40) #[] #[.pointer (some ⟨wb, 0, none⟩)]
def CmpT (w : World) (ob wb : Nat) (D : Int → Prop) (c : Int → Int → Int) : Prop := ∀ x y W, D x → D y → OnlyC w W ob → Calls Try.prog 40 #[.int .i64 x, .int .i64 y, .pointer (some ⟨wb, 0, none⟩)] W fun e w' => e = .returned (.int .i64 (c x y)) ∧ Below W.heap.size W w'
theorem swp_mem {l : List Int} {i j : Nat} (hi : i < l.length) (hj : j < l.length) {x : Int} (h : x ∈ swp l i j) : x ∈ l := by
  unfold swp at h
  have hgi : l.getD i 0 ∈ l := by rw [List.getD_eq_getElem?_getD, List.getElem?_eq_getElem hi]; exact List.getElem_mem hi
  have hgj : l.getD j 0 ∈ l := by rw [List.getD_eq_getElem?_getD, List.getElem?_eq_getElem hj]; exact List.getElem_mem hj
  rcases List.mem_or_eq_of_mem_set h with h | h
  · rcases List.mem_or_eq_of_mem_set h with h | h
    · exact h
    · rw [h]; exact hgj
  · rw [h]; exact hgi
def insIn (c : Int → Int → Int) (a : Nat) : Nat → List Int → List Int
  | 0, l => l
  | d + 1, l => if c (l.getD (a + d + 1) 0) (l.getD (a + d) 0) < 0 then insIn c a d (swp l (a + d + 1) (a + d)) else l
def insO (c : Int → Int → Int) (a : Nat) : Nat → List Int → List Int
  | 0, l => l
  | n + 1, l => insIn c a (n + 1) (insO c a n l)
def SrtT (R : List Int) (N ob : Nat) (D : Int → Prop) (w : World) : Prop := R.length = N ∧ (∀ x ∈ R, D x) ∧ PC w ob R
set_option maxRecDepth 1000000 in
set_option maxHeartbeats 4000000 in
theorem insSort_any (l : List Int) (ob N cap a b wb : Nat) (hl : l.length = N) (ha : a ≤ b) (hb : b ≤ N) (hN : N ≤ 100000) (D : Int → Prop) (c : Int → Int → Int) (hD : ∀ x ∈ l, D x) (w : World) (hP : PC w ob l) (hcm : CmpT w ob wb D c) :
    Calls Try.prog 85 #[.slice (some ⟨ob, 0, none⟩) N cap, .int .i64 a, .int .i64 b, cmpV wb] w fun e w' => e = .returned (.tuple #[]) ∧ SrtT (insO c a (b - a - 1) l) N ob D w' ∧ OnlyC w w' ob := by
  have HP := Lib.hid hP
  have HL := Lib.hid hl
  have HD := Lib.hid hD
  have HCM := Lib.hid hcm
  unfold cmpV
  clear hP hl hD hcm
  go_enter Try.func85, Try.ntmps85
  go_wp2
  go_loopw [8] (fun vi wr => ∃ (n p : Nat) (l' : List Int), vi = .int .i64 (p : Int) ∧ p = a + n + 1 ∧ (a + n + 1 ≤ b ∨ n = 0) ∧ l' = insO c a n l ∧ l'.length = N ∧ (∀ x ∈ l', D x) ∧ PC wr ob l' ∧ OnlyC w wr ob) (fun vi _ => b + 1 - (intOf vi).toNat)
  case atStart => exact ⟨0, a + 1, l, by first | rfl | (congr 1; omega), by omega, by omega, rfl, HL.out, HD.out, HP.out, OnlyC.refl _ _⟩
  case round =>
    obtain ⟨n, p, l', rfl, hpn, hn, hle, hl', hd', hp, ho⟩ := hrel
    have HPN := Lib.hid hpn
    have HLE := Lib.hid hle
    have HLL := Lib.hid hl'
    have HDD := Lib.hid hd'
    have HPP := Lib.hid hp
    have HO := Lib.hid ho
    clear hle hl' hd' hp ho
    by_cases hlt : p < b
    · have hlti : (p : Int) < b := by omega
      clear hpn hn
      go_wp2
      have HLT := Lib.hid hlt
      have hpb : (p : Int) ≤ 100000 := by omega
      have hp0 : (0 : Int) ≤ (p : Int) := by omega
      clear hlt hlti
      obtain ⟨w9, rfl⟩ : ∃ w9 : World, w9 = wr := ⟨_, rfl⟩
      go_loopw [9] (fun vj wr => ∃ (d p2 : Nat) (l2 : List Int), vj = .int .i64 (p2 : Int) ∧ p2 = a + d ∧ d ≤ n + 1 ∧ insIn c a d l2 = insO c a (n + 1) l ∧ l2.length = N ∧ (∀ x ∈ l2, D x) ∧ PC wr ob l2 ∧ OnlyC w wr ob) (fun vj _ => (intOf vj).toNat)
      case atStart => exact ⟨n + 1, p, l', rfl, by have := HPN.out; omega, by omega, by rw [HLE.out]; rfl, HLL.out, HDD.out, HPP.out, HO.out⟩
      case round =>
        obtain ⟨d, p2, l2, rfl, hp2e, hd, hin, hl2, hd2, hp2, ho2⟩ := hrel
        have HIN := Lib.hid hin
        have HL2 := Lib.hid hl2
        have HD2 := Lib.hid hd2
        have HP2 := Lib.hid hp2
        have HO2 := Lib.hid ho2
        clear hin hl2 hd2 hp2 ho2
        cases d with
        | zero =>
          obtain rfl : a = p2 := by omega
          have hz : ¬ (a : Int) < (a : Int) := by omega
          clear hp2e
          go_upto_region 4 with fail
          go_cut [34] from 18 to 52 (fun s wx => s = .bool false ∧ Below wr.heap.size wr wx)
          case first =>
            go_quiet (fail)
            go_wp2
            go_meet
            exact ⟨rfl, by first | exact Below.refl _ _ | exact below_dnc (Below.refl _ _) _⟩
          case rest =>
            obtain ⟨rfl, hs⟩ := hcut
            have HS := Lib.hid hs
            clear hs
            go_wp2
            have hlt := HLT.out
            exact ⟨⟨n + 1, p + 1, l2, by go_num, by have := HPN.out; omega, by have := HPN.out; have := HLT.out; omega, HIN.out, HL2.out, HD2.out, Pre.later HP2.out HS.out, HO2.out.trans (OnlyC.below ob HS.out)⟩, by have := HLT.out; simp [intOf]; omega⟩
        | succ d =>
          have hlen := HL2.out
          have hdN : a + d + 1 < N := by have := HLT.out; have := HPN.out; omega
          have dx : wr.cell? ⟨ob, a + (d + 1), none⟩ = some (.int .i64 (l2.getD (a + d + 1) 0)) := HP2.out.get (j := a + d + 1) (by omega)
          have dy := HP2.out.get (j := a + d) (by omega)
          have HX : Hid (D (l2.getD (a + d + 1) 0)) := Lib.hid (HD2.out _ (by rw [List.getD_eq_getElem?_getD, List.getElem?_eq_getElem (by omega)]; exact List.getElem_mem _))
          have HY : Hid (D (l2.getD (a + d) 0)) := Lib.hid (HD2.out _ (by rw [List.getD_eq_getElem?_getD, List.getElem?_eq_getElem (by omega)]; exact List.getElem_mem _))
          have HLTP := HLT
          have HLT : Hid (c (l2.getD (a + d + 1) 0) (l2.getD (a + d) 0) < 0 → insIn c a d (swp l2 (a + d + 1) (a + d)) = insO c a (n + 1) l) := Lib.hid fun h => by have := HIN.out; unfold insIn at this; rwa [if_pos h] at this
          have HGE : Hid (¬ c (l2.getD (a + d + 1) 0) (l2.getD (a + d) 0) < 0 → l2 = insO c a (n + 1) l) := Lib.hid fun h => by have := HIN.out; unfold insIn at this; rwa [if_neg h] at this
          have hob := Pre.lt HP2.out
          obtain ⟨r, hr⟩ : ∃ r, c (l2.getD (a + d + 1) 0) (l2.getD (a + d) 0) = r := ⟨_, rfl⟩
          have HC : Hid (∀ W, OnlyC w W ob → Calls Try.prog 40 #[.int .i64 (l2.getD (a + d + 1) 0), .int .i64 (l2.getD (a + d) 0), .pointer (some ⟨wb, 0, none⟩)] W fun e w' => e = .returned (.int .i64 r) ∧ Below W.heap.size W w') := Lib.hid fun W hW => by
            have := HCM.out _ _ W HX.out HY.out hW
            rw [hr] at this
            exact this
          rw [hr] at HLT HGE
          clear hr
          generalize hgx : l2.getD (a + d + 1) 0 = x at *
          generalize hgy : l2.getD (a + d) 0 = y at *
          have HGX := Lib.hid hgx
          have HGY := Lib.hid hgy
          clear hgx hgy
          obtain ⟨q, hq⟩ : ∃ q, a + d = q := ⟨_, rfl⟩
          have HQ := Lib.hid hq
          have hqa : (a : Int) < (q : Int) + 1 := by omega
          have hqN : (q : Int) + 1 < N := by omega
          have hq0 : (0 : Int) ≤ (q : Int) := by omega
          have dx' : wr.cell? ⟨ob, q + 1, none⟩ = some (.int .i64 x) := by rw [← hq]; exact dx
          have dy' : wr.cell? ⟨ob, q, none⟩ = some (.int .i64 y) := by rw [← hq]; exact dy
          rw [show (p2 : Int) = (q : Int) + 1 by omega]
          clear hp2e
          clear dx dy hq hlen
          go_upto_region 4 with fail
          go_cut [34] from 18 to 52 (fun s wx => s = .bool (decide (r < 0)) ∧ Below wr.heap.size wr wx)
          case first =>
            have t1 := fun s : Later wr => Later.cell dx' s
            have t2 := fun s : Later wr => Later.cell dy' s
            refine wp_region_later (by kernel_rfl) (by kernel_rfl) ?_
            repeat (go_big_quiet_step ((go_at_call 40; exact Calls.later (HC.out _ (HO2.out.trans (OnlyC.below ob (Later.h _)))))))
            refine wpQuiet_nil ?_
            rintro w4 ⟨s', rfl⟩
            have HB4 := Lib.hid s'.h
            go_wp2
            go_meet
            exact ⟨rfl, HB4.out⟩
          case rest =>
            obtain ⟨rfl, hs⟩ := hcut
            have HS := Lib.hid hs
            have hpc := Pre.later HP2.out hs
            have hoc := HO2.out.trans (OnlyC.below ob hs)
            clear hs dx' dy'
            by_cases hr0 : r < 0
            · have HR0 := Lib.hid hr0
              obtain ⟨W1, hW1⟩ : ∃ W1 : World, ({ wc with drawn := wc.drawn + 1 } : World) = W1 := ⟨_, rfl⟩
              have hp1 : PC W1 ob l2 := Pre.of_heap hpc (by rw [← hW1])
              have n1 : q + 1 < N := by omega
              have n2 : q < N := by omega
              have d1 : W1.cell? ⟨ob, q + 1, none⟩ = some (.int .i64 x) := by have := hp1.get (j := q + 1) (by rw [HL2.out]; exact n1); rw [← HGX.out, HQ.out]; exact this
              have d2 : W1.cell? ⟨ob, q, none⟩ = some (.int .i64 y) := by have := hp1.get (j := q) (by rw [HL2.out]; exact n2); rw [← HGY.out, HQ.out]; exact this
              have f1 := Pre.free hp1 (q + 1)
              have h3 : PC ((W1.setCell ⟨ob, q + 1, none⟩ (.int .i64 y)).setCell ⟨ob, q, none⟩ (.int .i64 x)) ob (swp l2 (q + 1) q) := by
                have := hp1.swp (i := q + 1) (j := q) (by rw [HL2.out]; exact n1) (by rw [HL2.out]; exact n2)
                rw [← HGX.out, ← HGY.out, HQ.out]; exact this
              obtain ⟨z, d3⟩ : ∃ z, (W1.setCell ⟨ob, q + 1, none⟩ (.int .i64 y)).cell? ⟨ob, q, none⟩ = some z := ⟨_, (hp1.set (j := q + 1) (by rw [HL2.out]; exact n1) y).get (j := q) (by simp; rw [HL2.out]; exact n2)⟩
              have f3 := Pre.free (hp1.set (j := q + 1) (by rw [HL2.out]; exact n1) y) q
              have ho1 : OnlyC wc W1 ob := by rw [← hW1]; exact OnlyC.drew (OnlyC.refl wc ob)
              have HO3 := Lib.hid (hoc.trans ((ho1.setCell (q + 1) (.int .i64 y)).setCell q (.int .i64 x)))
              have H3 := Lib.hid h3
              have HW1 := Lib.hid hW1
              have HWS := Lib.hid (show wrap64 ((q : Int) + 1 - 1) = (q : Int) by unfold wrap64; omega)
              clear hp1 ho1 hW1 h3 hpc hoc
              go_upto_region 6 with fail
              obtain ⟨VALS, hVALS⟩ : ∃ VALS : List Value, VALS = [.slice (some ⟨ob, 0, none⟩) N cap, .int .i64 ((q : Int) + 1), .slice (some ⟨ob, 0, none⟩) N cap, .int .i64 ((q : Int) + 1), .int .i64 (q : Int), .slice (some ⟨ob, 0, none⟩) N cap, .int .i64 ((q : Int) + 1), .int .i64 (q : Int), .pointer (some ⟨ob, q, none⟩), .int .i64 (y), .slice (some ⟨ob, 0, none⟩) N cap, .int .i64 ((q : Int) + 1), .pointer (some ⟨ob, q + 1, none⟩), .int .i64 (x), .pointer (some ⟨ob, q + 1, none⟩), undef, .pointer (some ⟨ob, q, none⟩)] := ⟨_, rfl⟩
              refine wp_region_noPanic ?_
              refine wp_region_grown2 17 (IcW W1 ob (q + 1) (.int .i64 (y)) 15 [9, 13] VALS) (by kernel_rfl) (by kernel_rfl) ?_ ?_ ?_
              · exact And.intro (by rw [if_neg (by simp)]; exact HW1.out) (And.intro (fun j v h => by cases h) (fun h => by cases h))
              · intro i o s wq hi ho hI hsi hdep
                rw [hVALS] at hI ⊢
                rcases (by omega : i = 0 ∨ i = 1 ∨ i = 2 ∨ i = 3 ∨ i = 4 ∨ i = 5 ∨ i = 6 ∨ i = 7 ∨ i = 8 ∨ i = 9 ∨ i = 10 ∨ i = 11 ∨ i = 12 ∨ i = 13 ∨ i = 14 ∨ i = 15 ∨ i = 16) with rfl | rfl | rfl | rfl | rfl | rfl | rfl | rfl | rfl | rfl | rfl | rfl | rfl | rfl | rfl | rfl | rfl
                all_goals (simp only [List.getElem?_cons_zero, List.getElem?_cons_succ] at ho; obtain rfl := Option.some.inj ho)
                · exact Or.inl (Or.inl ⟨_, _, runT_move (.tmp 0) rfl, hI.step 0 _ rfl (by decide)⟩)
                · exact Or.inl (Or.inl ⟨_, _, runT_move (.tmp 9) rfl, hI.step 1 _ rfl (by decide)⟩)
                · exact Or.inl (Or.inl ⟨_, _, runT_move (.tmp 0) rfl, hI.step 2 _ rfl (by decide)⟩)
                · exact Or.inl (Or.inl ⟨_, _, runT_move (.tmp 9) rfl, hI.step 3 _ rfl (by decide)⟩)
                · have e3 := hI.told (j := 3) rfl (hdep ⟨3, .data⟩ (by simp) rfl)
                  have e3 := hI.told (j := 3) rfl (hdep ⟨3, .data⟩ (by simp) rfl)
                  exact Or.inl (Or.inl ⟨_, _, sbT HWS.out (.tmp 40) (.const (.int .i64 1)) rfl (evalT_told 3 (by kernel_rfl) e3) rfl, hI.step 4 _ rfl (by decide)⟩)
                · exact Or.inl (Or.inl ⟨_, _, runT_move (.tmp 0) rfl, hI.step 5 _ rfl (by decide)⟩)
                · exact Or.inl (Or.inl ⟨_, _, runT_move (.tmp 9) rfl, hI.step 6 _ rfl (by decide)⟩)
                · have e6 := hI.told (j := 6) rfl (hdep ⟨6, .data⟩ (by simp) rfl)
                  have e6 := hI.told (j := 6) rfl (hdep ⟨6, .data⟩ (by simp) rfl)
                  exact Or.inl (Or.inl ⟨_, _, sbT HWS.out (.tmp 43) (.const (.int .i64 1)) rfl (evalT_told 6 (by kernel_rfl) e6) rfl, hI.step 7 _ rfl (by decide)⟩)
                · have e5 := hI.told (j := 5) rfl (hdep ⟨5, .data⟩ (by simp) rfl)
                  have e7 := hI.told (j := 7) rfl (hdep ⟨7, .data⟩ (by simp) rfl)
                  exact Or.inl (Or.inl ⟨_, _, ixT n2 (.tmp 42) (.tmp 44) rfl (evalT_told 5 (by kernel_rfl) e5) (evalT_told 7 (by kernel_rfl) e7), hI.step 8 _ rfl (by decide)⟩)
                · have hw := (hI.early (j := 9) (by decide) hsi).symm
                  subst hw
                  have e8 := hI.told (j := 8) rfl (hdep ⟨8, .data⟩ (by simp) rfl)
                  exact Or.inl (Or.inl ⟨_, _, ldT (w := W1) d2 (.tmp 45) rfl (evalT_told 8 (by kernel_rfl) e8), hI.step 9 _ rfl (by decide)⟩)
                · exact Or.inl (Or.inl ⟨_, _, runT_move (.tmp 0) rfl, hI.step 10 _ rfl (by decide)⟩)
                · exact Or.inl (Or.inl ⟨_, _, runT_move (.tmp 9) rfl, hI.step 11 _ rfl (by decide)⟩)
                · have e10 := hI.told (j := 10) rfl (hdep ⟨10, .data⟩ (by simp) rfl)
                  have e11 := hI.told (j := 11) rfl (hdep ⟨11, .data⟩ (by simp) rfl)
                  exact Or.inl (Or.inl ⟨_, _, ixT n1 (.tmp 47) (.tmp 48) rfl (evalT_told 10 (by kernel_rfl) e10) (evalT_told 11 (by kernel_rfl) e11), hI.step 12 _ rfl (by decide)⟩)
                · have hw := (hI.early (j := 13) (by decide) hsi).symm
                  subst hw
                  have e12 := hI.told (j := 12) rfl (hdep ⟨12, .data⟩ (by simp) rfl)
                  exact Or.inl (Or.inl ⟨_, _, ldT (w := W1) d1 (.tmp 49) rfl (evalT_told 12 (by kernel_rfl) e12), hI.step 13 _ rfl (by decide)⟩)
                · have e0 := hI.told (j := 0) rfl (hdep ⟨0, .data⟩ (by simp) rfl)
                  have e1 := hI.told (j := 1) rfl (hdep ⟨1, .data⟩ (by simp) rfl)
                  exact Or.inl (Or.inl ⟨_, _, ixT n1 (.tmp 37) (.tmp 38) rfl (evalT_told 0 (by kernel_rfl) e0) (evalT_told 1 (by kernel_rfl) e1), hI.step 14 _ rfl (by decide)⟩)
                · have hw := (hI.first hsi).symm
                  subst hw
                  have e14 := hI.told (j := 14) rfl (hdep ⟨14, .data⟩ (by simp) rfl)
                  have e9 := hI.told (j := 9) rfl (hdep ⟨9, .data⟩ (by simp) rfl)
                  exact Or.inr ⟨_, stT (w := W1) d1 f1 (.tmp 51) (.tmp 46) rfl (evalT_told 14 (by kernel_rfl) e14) _ (evalT_told 9 (by kernel_rfl) e9), hI.store rfl (fun j hj => by simp only [List.mem_cons, List.not_mem_nil, or_false] at hj; rcases hj with rfl | rfl; all_goals exact hdep ⟨_, .phase⟩ (by simp) rfl)⟩
                · have e2 := hI.told (j := 2) rfl (hdep ⟨2, .data⟩ (by simp) rfl)
                  have e4 := hI.told (j := 4) rfl (hdep ⟨4, .data⟩ (by simp) rfl)
                  exact Or.inl (Or.inl ⟨_, _, ixT n2 (.tmp 39) (.tmp 41) rfl (evalT_told 2 (by kernel_rfl) e2) (evalT_told 4 (by kernel_rfl) e4), hI.step 16 _ rfl (by decide)⟩)
              · intro s wq hI hsome
                rw [hVALS] at hI
                have e0 := hI.told (j := 0) rfl (hsome 0 (by omega))
                have e1 := hI.told (j := 1) rfl (hsome 1 (by omega))
                have e2 := hI.told (j := 2) rfl (hsome 2 (by omega))
                have e3 := hI.told (j := 3) rfl (hsome 3 (by omega))
                have e4 := hI.told (j := 4) rfl (hsome 4 (by omega))
                have e5 := hI.told (j := 5) rfl (hsome 5 (by omega))
                have e6 := hI.told (j := 6) rfl (hsome 6 (by omega))
                have e7 := hI.told (j := 7) rfl (hsome 7 (by omega))
                have e8 := hI.told (j := 8) rfl (hsome 8 (by omega))
                have e9 := hI.told (j := 9) rfl (hsome 9 (by omega))
                have e10 := hI.told (j := 10) rfl (hsome 10 (by omega))
                have e11 := hI.told (j := 11) rfl (hsome 11 (by omega))
                have e12 := hI.told (j := 12) rfl (hsome 12 (by omega))
                have e13 := hI.told (j := 13) rfl (hsome 13 (by omega))
                have e14 := hI.told (j := 14) rfl (hsome 14 (by omega))
                have e15 := hI.told (j := 15) rfl (hsome 15 (by omega))
                have e16 := hI.told (j := 16) rfl (hsome 16 (by omega))
                have hw := hI.last (hsome 15 (by omega))
                simp only [List.take_succ_cons, List.take_zero, List.drop_succ_cons, List.drop_zero, putsT, e0, e1, e2, e3, e4, e5, e6, e7, e8, e9, e10, e11, e12, e13, e14, e15, e16, Option.getD_some]
                subst hw
                clear hI hsome hVALS e0 e1 e2 e3 e4 e5 e6 e7 e8 e9 e10 e11 e12 e13 e14 e15 e16
                go_frame
                go_wp2_with fail
                refine NoPanic.normal ?_
                go_wp2
                exact ⟨⟨d, q, _, rfl, HQ.out.symm, by omega, by have := HLT.out HR0.out; rw [HQ.out] at this; exact this, by rw [swp_len, HL2.out], fun x hx => HD2.out x (swp_mem (by rw [HL2.out]; exact n1) (by rw [HL2.out]; exact n2) hx), H3.out, HO3.out⟩, by simp [intOf]⟩
            · have HF := Lib.hid (HGE.out hr0)
              have HPC := Lib.hid hpc
              have HOC := Lib.hid hoc
              clear hpc hoc
              go_wp2
              have hlt := HLTP.out
              exact ⟨⟨n + 1, p + 1, l2, by go_num, by have := HPN.out; omega, by have := HPN.out; omega, HF.out, HL2.out, HD2.out, HPC.out, HOC.out⟩, by simp [intOf]; omega⟩
    · have HE : Hid (insO c a (b - a - 1) l = l') := Lib.hid (by rw [HLE.out]; congr 1; have := HPN.out; omega)
      have hlti : ¬ (p : Int) < b := by omega
      clear hpn hn
      have HQ : Hid (SrtT (insO c a (b - a - 1) l) N ob D wr) := Lib.hid (by rw [HE.out]; exact ⟨HLL.out, HDD.out, HPP.out⟩)
      go_wp2
      go_returns
      exact ⟨rfl, HQ.out, HO.out⟩
open Go.RowKit Go.BigFrame

theorem swp_perm {l : List Int} {i j : Nat} (hi : i < l.length) (hj : j < l.length) : (swp l i j).Perm l := by
  unfold swp
  rw [show l.getD j 0 = l[j] by rw [List.getD_eq_getElem?_getD, List.getElem?_eq_getElem hj]; rfl, show l.getD i 0 = l[i] by rw [List.getD_eq_getElem?_getD, List.getElem?_eq_getElem hi]; rfl]
  exact List.set_set_perm hi hj
theorem swR_perm {l : List Int} {a b : Nat} : ∀ n, a + n ≤ l.length → b + n ≤ l.length → (swR l a b n).Perm l
  | 0, _, _ => List.Perm.refl l
  | n + 1, ha, hb => (swp_perm (by rw [swR_len]; omega) (by rw [swR_len]; omega)).trans (swR_perm n (by omega) (by omega))
theorem rot_perm : ∀ (n : Nat) {l : List Int} {m i j : Nat}, i ≤ m → m + j ≤ l.length → (rot n l m i j).Perm l
  | 0, _, _, _, _, _, _ => List.Perm.refl _
  | n + 1, l, m, i, j, hi, hj => by
    unfold rot
    split
    · exact swR_perm i (by omega) (by omega)
    · split
      · exact (rot_perm n (by omega) (by rw [swR_len]; omega)).trans (swR_perm j (by omega) (by omega))
      · exact (rot_perm n (by omega) (by rw [swR_len]; omega)).trans (swR_perm i (by omega) (by omega))
theorem insIn_perm {c : Int → Int → Int} {a : Nat} : ∀ (d : Nat) {l : List Int}, a + d < l.length → (insIn c a d l).Perm l
  | 0, _, _ => List.Perm.refl _
  | d + 1, l, h => by
    unfold insIn
    split
    · exact (insIn_perm d (by rw [swp_len]; omega)).trans (swp_perm (by omega) (by omega))
    · exact List.Perm.refl _
theorem insO_perm {c : Int → Int → Int} {a : Nat} : ∀ (n : Nat) {l : List Int}, a + n < l.length ∨ n = 0 → (insO c a n l).Perm l
  | 0, _, _ => List.Perm.refl _
  | n + 1, l, h => by
    have h1 := insO_perm (c := c) (a := a) n (l := l) (by omega)
    unfold insO
    exact (insIn_perm (n + 1) (by rw [h1.length_eq]; omega)).trans h1
open Go.RowKit Go.BigFrame

def bsr (p : Nat → Bool) : Nat → Nat → Nat → Nat
  | 0, i, _ => i
  | n + 1, i, j => if i < j then (if p ((i + j) / 2) then bsr p n ((i + j) / 2 + 1) j else bsr p n i ((i + j) / 2)) else i
theorem bsr_bd (p : Nat → Bool) : ∀ (n i j : Nat), i ≤ j → i ≤ bsr p n i j ∧ bsr p n i j ≤ j
  | 0, i, j, h => ⟨Nat.le_refl _, h⟩
  | n + 1, i, j, h => by
    unfold bsr
    split
    · split
      · have := bsr_bd p n ((i + j) / 2 + 1) j (by omega); omega
      · have := bsr_bd p n i ((i + j) / 2) (by omega); omega
    · exact ⟨Nat.le_refl _, h⟩
def upS (l : List Int) (k : Nat) : Nat → List Int
  | 0 => l
  | n + 1 => swp (upS l k n) (k + n) (k + n + 1)
def dnS (l : List Int) (k : Nat) : Nat → List Int
  | 0 => l
  | n + 1 => swp (dnS l k n) (k - n) (k - n - 1)
theorem upS_len (l : List Int) (k : Nat) : ∀ n, (upS l k n).length = l.length
  | 0 => rfl
  | n + 1 => by rw [upS, swp_len, upS_len l k n]
theorem dnS_len (l : List Int) (k : Nat) : ∀ n, (dnS l k n).length = l.length
  | 0 => rfl
  | n + 1 => by rw [dnS, swp_len, dnS_len l k n]
theorem upS_perm {l : List Int} {k : Nat} : ∀ n, k + n < l.length ∨ n = 0 → (upS l k n).Perm l
  | 0, _ => List.Perm.refl l
  | n + 1, h => (swp_perm (by rw [upS_len]; omega) (by rw [upS_len]; omega)).trans (upS_perm n (by omega))
theorem dnS_perm {l : List Int} {k : Nat} (hk : k < l.length) : ∀ n, (dnS l k n).Perm l
  | 0 => List.Perm.refl l
  | n + 1 => (swp_perm (by rw [dnS_len]; omega) (by rw [dnS_len]; omega)).trans (dnS_perm hk n)
def symP (c : Int → Int → Int) (l : List Int) (a m b : Nat) : Nat :=
  bsr (fun k => !decide (c (l.getD ((a + b) / 2 + m - 1 - k) 0) (l.getD k 0) < 0)) (b - a) (if (a + b) / 2 < m then (a + b) / 2 + m - b else a) (if (a + b) / 2 < m then (a + b) / 2 else m)
def symR (c : Int → Int → Int) (l : List Int) (a m b : Nat) : List Int :=
  if symP c l a m b < m ∧ m < (a + b) / 2 + m - symP c l a m b then rot ((a + b) / 2 + m - symP c l a m b - symP c l a m b) l m (m - symP c l a m b) ((a + b) / 2 + m - symP c l a m b - m) else l
def symM (c : Int → Int → Int) : Nat → List Int → Nat → Nat → Nat → List Int
  | 0, l, _, _, _ => l
  | n + 1, l, a, m, b =>
    if m - a = 1 then upS l a (bsr (fun k => decide (c (l.getD k 0) (l.getD a 0) < 0)) (b - m) m b - 1 - a)
    else if b - m = 1 then dnS l m (m - bsr (fun k => !decide (c (l.getD m 0) (l.getD k 0) < 0)) (m - a) a m)
    else
      let s := symP c l a m b
      let e := (a + b) / 2 + m - s
      let l1 := symR c l a m b
      let l2 := if a < s ∧ s < (a + b) / 2 then symM c n l1 a s ((a + b) / 2) else l1
      if (a + b) / 2 < e ∧ e < b then symM c n l2 ((a + b) / 2) e b else l2
theorem symP_bd (c : Int → Int → Int) (l : List Int) {a m b : Nat} (ha : a < m) (hm : m < b) : a ≤ symP c l a m b ∧ symP c l a m b ≤ m ∧ symP c l a m b ≤ (a + b) / 2 + m ∧ (a + b) / 2 + m - symP c l a m b ≤ b := by
  unfold symP
  by_cases h : (a + b) / 2 < m
  · rw [if_pos h, if_pos h]
    have := bsr_bd (fun k => !decide (c (l.getD ((a + b) / 2 + m - 1 - k) 0) (l.getD k 0) < 0)) (b - a) ((a + b) / 2 + m - b) ((a + b) / 2) (by omega)
    omega
  · rw [if_neg h, if_neg h]
    have := bsr_bd (fun k => !decide (c (l.getD ((a + b) / 2 + m - 1 - k) 0) (l.getD k 0) < 0)) (b - a) a m (by omega)
    omega
theorem symR_perm {c : Int → Int → Int} {l : List Int} {a m b : Nat} (ha : a < m) (hm : m < b) (hb : b ≤ l.length) : (symR c l a m b).Perm l := by
  have h := symP_bd c l ha hm
  unfold symR
  split
  · exact rot_perm _ (by omega) (by omega)
  · exact List.Perm.refl l
theorem symM_perm {c : Int → Int → Int} : ∀ (n : Nat) {l : List Int} {a m b : Nat}, a < m → m < b → b ≤ l.length → (symM c n l a m b).Perm l
  | 0, _, _, _, _, _, _, _ => List.Perm.refl _
  | n + 1, l, a, m, b, ha, hm, hb => by
    have h := symP_bd c l ha hm
    have h1 := symR_perm (c := c) ha hm hb
    have hl1 := h1.length_eq
    unfold symM
    split
    · have := bsr_bd (fun k => decide (c (l.getD k 0) (l.getD a 0) < 0)) (b - m) m b (by omega)
      exact upS_perm _ (by omega)
    · split
      · exact dnS_perm (by omega) _
      · simp only
        have h2 : (if a < symP c l a m b ∧ symP c l a m b < (a + b) / 2 then symM c n (symR c l a m b) a (symP c l a m b) ((a + b) / 2) else symR c l a m b).Perm l := by
          split
          · rename_i hc
            exact (symM_perm n hc.1 hc.2 (by omega)).trans h1
          · exact h1
        split
        · rename_i hc
          exact (symM_perm n hc.1 hc.2 (by rw [h2.length_eq]; exact hb)).trans h2
        · exact h2
open Go.RowKit Go.BigFrame

def stI (c : Int → Int → Int) (N : Nat) : Nat → List Int → Nat → List Int
  | 0, l, _ => l
  | k + 1, l, a => if a + 20 ≤ N then stI c N k (insO c a (a + 20 - a - 1) l) (a + 20) else insO c a (N - a - 1) l
def stM (c : Int → Int → Int) (N bs : Nat) : Nat → List Int → Nat → List Int
  | 0, l, _ => l
  | k + 1, l, a => if a + 2 * bs ≤ N then stM c N bs k (symM c (a + 2 * bs - a) l a (a + bs) (a + 2 * bs)) (a + 2 * bs) else if a + bs < N then symM c (N - a) l a (a + bs) N else l
def stO (c : Int → Int → Int) (N : Nat) : Nat → List Int → Nat → List Int
  | 0, l, _ => l
  | k + 1, l, bs => if bs < N then stO c N k (stM c N bs (N + 1) l 0) (bs * 2) else l
def stab (c : Int → Int → Int) (l : List Int) : List Int := stO c l.length (l.length + 1) (stI c l.length (l.length + 1) l 0) 20
theorem stI_perm {c : Int → Int → Int} {N : Nat} : ∀ (k : Nat) {l : List Int} {a : Nat}, l.length = N → a ≤ N → (stI c N k l a).Perm l
  | 0, _, _, _, _ => List.Perm.refl _
  | k + 1, l, a, hl, ha => by
    unfold stI
    split
    · have h1 := insO_perm (c := c) (a := a) (a + 20 - a - 1) (l := l) (by omega)
      exact (stI_perm k (by rw [h1.length_eq]; exact hl) (by omega)).trans h1
    · exact insO_perm _ (by omega)
theorem stM_perm {c : Int → Int → Int} {N bs : Nat} (hb : 0 < bs) : ∀ (k : Nat) {l : List Int} {a : Nat}, l.length = N → (stM c N bs k l a).Perm l
  | 0, _, _, _ => List.Perm.refl _
  | k + 1, l, a, hl => by
    unfold stM
    split
    · have h1 := symM_perm (c := c) (a + 2 * bs - a) (l := l) (a := a) (m := a + bs) (b := a + 2 * bs) (by omega) (by omega) (by omega)
      exact (stM_perm hb k (by rw [h1.length_eq]; exact hl)).trans h1
    · split
      · exact symM_perm _ (by omega) (by omega) (by omega)
      · exact List.Perm.refl _
theorem stO_perm {c : Int → Int → Int} {N : Nat} : ∀ (k : Nat) {l : List Int} {bs : Nat}, 0 < bs → l.length = N → (stO c N k l bs).Perm l
  | 0, _, _, _, _ => List.Perm.refl _
  | k + 1, l, bs, hb, hl => by
    unfold stO
    split
    · have h1 := stM_perm (c := c) hb (N + 1) (a := 0) hl
      exact (stO_perm k (by omega) (by rw [h1.length_eq]; exact hl)).trans h1
    · exact List.Perm.refl _
theorem stab_perm (c : Int → Int → Int) (l : List Int) : (stab c l).Perm l := by
  have h1 := stI_perm (c := c) (l.length + 1) (l := l) (a := 0) rfl (by omega)
  unfold stab
  exact (stO_perm _ (by omega) h1.length_eq).trans h1
open Go.RowKit Go.BigFrame

noncomputable def smA : Code := ((((Try.f86.body).map loopsOf).getD [])[0]?).getD .skip
set_option maxRecDepth 1000000 in
set_option maxHeartbeats 16000000 in
theorem smA_any (l : List Int) (ob N cap a wb n0 i0 j0 : Nat) (hl : l.length = N) (ha : a < N) (hij : i0 ≤ j0) (hj : j0 ≤ N) (hn : j0 ≤ i0 + n0) (hN : N ≤ 100000) (D : Int → Prop) (c : Int → Int → Int) (hD : ∀ x ∈ l, D x) (w : World) (hP : PC w ob l) (hcm : CmpT w ob wb D c)
    (z2 z3 z5 z6 z7 z8 z9 z12 z13 z14 z15 z16 z17 z18 z19 z20 z21 z22 z23 z24 z25 z26 z27 z28 z29 z30 z31 z32 z33 z34 z35 z36 z37 z38 z39 z40 z41 z42 z43 z44 z45 z46 z47 z48 z49 z50 z51 z52 z53 z54 z55 z56 z57 z58 z59 z60 z61 z62 z63 z64 z65 z66 z67 z68 z69 z70 z71 z72 z73 z74 z75 z76 z77 z78 z79 z80 z81 z82 z83 z84 z85 z86 z87 z88 z89 z90 z91 z92 z93 z94 z95 z96 z97 z98 z99 z100 z101 z102 z103 z104 z105 z106 z107 z108 z109 z110 z111 z112 z113 z114 z115 z116 z117 z118 z119 z120 z121 z122 z123 z124 z125 z126 z127 z128 z129 z130 z131 z132 z133 z134 z135 z136 z137 z138 z139 z140 z141 z142 z143 z144 z145 z146 z147 z148 z149 z150 z151 z152 z153 z154 z155 z156 z157 z158 z159 z160 z161 z162 z163 z164 z165 z166 z167 z168 z169 z170 z171 z172 z173 z174 z175 z176 z177 z178 z179 z180 z181 z182 z183 z184 z185 z186 z187 z188 z189 z190 z191 z192 z193 z194 z195 z196 z197 z198 z199 z200 z201 z202 z203 z204 z205 z206 z207 z208 z209 z210 z211 z212 z213 z214 z215 z216 z217 z218 z219 : Value) (Q : Exit → Act → World → Prop)
    (hQ : ∀ (y11 y12 y31 y32 y33 y34 y35 y36 y37 y38 y39 y40 y41 y42 y43 y44 y45 y46 y47 y48 y49 y50 y51 y52 y53 : Value) (w' : World), Below w.heap.size w w' → Q (.exit 0) ⟨(.slice (some ⟨ob, 0, none⟩) N cap::.int .i64 (a : Int)::z2::z3::.func (.func 40) #[] #[.pointer (some ⟨wb, 0, none⟩)]::z5::z6::z7::z8::z9::.int .i64 (bsr (fun k => decide (c (l.getD k 0) (l.getD a 0) < 0)) n0 i0 j0 : Int)::y11::y12::z13::z14::z15::z16::z17::z18::z19::z20::z21::z22::z23::z24::z25::z26::z27::z28::z29::z30::y31::y32::y33::y34::y35::y36::y37::y38::y39::y40::y41::y42::y43::y44::y45::y46::y47::y48::y49::y50::y51::y52::y53::z54::z55::z56::z57::z58::z59::z60::z61::z62::z63::z64::z65::z66::z67::z68::z69::z70::z71::z72::z73::z74::z75::z76::z77::z78::z79::z80::z81::z82::z83::z84::z85::z86::z87::z88::z89::z90::z91::z92::z93::z94::z95::z96::z97::z98::z99::z100::z101::z102::z103::z104::z105::z106::z107::z108::z109::z110::z111::z112::z113::z114::z115::z116::z117::z118::z119::z120::z121::z122::z123::z124::z125::z126::z127::z128::z129::z130::z131::z132::z133::z134::z135::z136::z137::z138::z139::z140::z141::z142::z143::z144::z145::z146::z147::z148::z149::z150::z151::z152::z153::z154::z155::z156::z157::z158::z159::z160::z161::z162::z163::z164::z165::z166::z167::z168::z169::z170::z171::z172::z173::z174::z175::z176::z177::z178::z179::z180::z181::z182::z183::z184::z185::z186::z187::z188::z189::z190::z191::z192::z193::z194::z195::z196::z197::z198::z199::z200::z201::z202::z203::z204::z205::z206::z207::z208::z209::z210::z211::z212::z213::z214::z215::z216::z217::z218::z219::[]).toArray, []⟩ w') :
    Code.wp Try.prog smA Q ⟨(.slice (some ⟨ob, 0, none⟩) N cap::.int .i64 (a : Int)::z2::z3::.func (.func 40) #[] #[.pointer (some ⟨wb, 0, none⟩)]::z5::z6::z7::z8::z9::.int .i64 (i0 : Int)::.int .i64 (j0 : Int)::z12::z13::z14::z15::z16::z17::z18::z19::z20::z21::z22::z23::z24::z25::z26::z27::z28::z29::z30::z31::z32::z33::z34::z35::z36::z37::z38::z39::z40::z41::z42::z43::z44::z45::z46::z47::z48::z49::z50::z51::z52::z53::z54::z55::z56::z57::z58::z59::z60::z61::z62::z63::z64::z65::z66::z67::z68::z69::z70::z71::z72::z73::z74::z75::z76::z77::z78::z79::z80::z81::z82::z83::z84::z85::z86::z87::z88::z89::z90::z91::z92::z93::z94::z95::z96::z97::z98::z99::z100::z101::z102::z103::z104::z105::z106::z107::z108::z109::z110::z111::z112::z113::z114::z115::z116::z117::z118::z119::z120::z121::z122::z123::z124::z125::z126::z127::z128::z129::z130::z131::z132::z133::z134::z135::z136::z137::z138::z139::z140::z141::z142::z143::z144::z145::z146::z147::z148::z149::z150::z151::z152::z153::z154::z155::z156::z157::z158::z159::z160::z161::z162::z163::z164::z165::z166::z167::z168::z169::z170::z171::z172::z173::z174::z175::z176::z177::z178::z179::z180::z181::z182::z183::z184::z185::z186::z187::z188::z189::z190::z191::z192::z193::z194::z195::z196::z197::z198::z199::z200::z201::z202::z203::z204::z205::z206::z207::z208::z209::z210::z211::z212::z213::z214::z215::z216::z217::z218::z219::[]).toArray, []⟩ w := by
  conv => arg 2; whnf
  have HQ := Lib.hid hQ
  have HP := Lib.hid hP
  have HL := Lib.hid hl
  have HD := Lib.hid hD
  have HCM := Lib.hid hcm
  obtain ⟨R, hR⟩ : ∃ R, bsr (fun k => decide (c (l.getD k 0) (l.getD a 0) < 0)) n0 i0 j0 = R := ⟨_, rfl⟩
  rw [hR] at HQ
  have HR := Lib.hid hR
  clear hQ hP hl hD hcm hR
  go_loopw [10, 11] (fun vi vj wr => ∃ i j n : Nat, vi = .int .i64 i ∧ vj = .int .i64 j ∧ i ≤ j ∧ j ≤ N ∧ j ≤ i + n ∧ bsr (fun k => decide (c (l.getD k 0) (l.getD a 0) < 0)) n i j = R ∧ Below w.heap.size w wr) (fun vi vj _ => (intOf vj).toNat - (intOf vi).toNat)
  case atStart => exact ⟨i0, j0, n0, rfl, rfl, hij, hj, hn, HR.out, Below.refl _ _⟩
  case round =>
    obtain ⟨i, j, n, rfl, rfl, hij, hj, hn, hr, hb⟩ := hrel
    have HRR := Lib.hid hr
    have HB := Lib.hid hb
    by_cases hlt : i < j
    · have hlti : (i : Int) < j := by omega
      clear hr hb
      obtain ⟨n, rfl⟩ : ∃ k, n = k + 1 := ⟨n - 1, by omega⟩
      obtain ⟨h, hh⟩ : ∃ h, (i + j) / 2 = h := ⟨_, rfl⟩
      have hhi : ((i : Int) + j) / 2 = (h : Int) := by omega
      have hhN : h < N := by omega
      obtain ⟨r, hr⟩ : ∃ r, c (l.getD h 0) (l.getD a 0) = r := ⟨_, rfl⟩
      have HX : Hid (D (l.getD h 0)) := Lib.hid (HD.out _ (by rw [List.getD_eq_getElem?_getD, List.getElem?_eq_getElem (by rw [HL.out]; exact hhN)]; exact List.getElem_mem _))
      have HY : Hid (D (l.getD a 0)) := Lib.hid (HD.out _ (by rw [List.getD_eq_getElem?_getD, List.getElem?_eq_getElem (by rw [HL.out]; exact ha)]; exact List.getElem_mem _))
      have HC : Hid (∀ W, OnlyC w W ob → Calls Try.prog 40 #[.int .i64 (l.getD h 0), .int .i64 (l.getD a 0), .pointer (some ⟨wb, 0, none⟩)] W fun e w' => e = .returned (.int .i64 r) ∧ Below W.heap.size W w') := Lib.hid fun W hW => by
        have := HCM.out _ _ W HX.out HY.out hW
        rw [hr] at this
        exact this
      have HLT : Hid (r < 0 → bsr (fun k => decide (c (l.getD k 0) (l.getD a 0) < 0)) n (h + 1) j = R) := Lib.hid fun h0 => by
        have h1 := HRR.out
        unfold bsr at h1
        rw [if_pos hlt, hh] at h1
        rwa [if_pos (by rw [hr]; exact decide_eq_true h0)] at h1
      have HGE : Hid (¬ r < 0 → bsr (fun k => decide (c (l.getD k 0) (l.getD a 0) < 0)) n i h = R) := Lib.hid fun h0 => by
        have h1 := HRR.out
        unfold bsr at h1
        rw [if_pos hlt, hh] at h1
        rwa [if_neg (by rw [hr, decide_eq_false h0]; exact Bool.false_ne_true)] at h1
      have hp : PC wr ob l := Pre.later HP.out HB.out
      have dx := hp.get (j := h) (by rw [HL.out]; exact hhN)
      have dy := hp.get (j := a) (by rw [HL.out]; exact ha)
      have HHI := Lib.hid (And.intro hh hhN)
      have hai : (a : Int) < N := by omega
      have hhNi : (h : Int) < N := by omega
      generalize l.getD h 0 = x at *
      generalize l.getD a 0 = y at *
      clear hp hr hh
      go_upto_region 5 with fail
      go_cut [50] from 31 to 53 (fun s wx => s = .bool (decide (r < 0)) ∧ Below wr.heap.size wr wx)
      case first =>
        have t1 := fun s : Later wr => Later.cell dx s
        have t2 := fun s : Later wr => Later.cell dy s
        refine wp_region_later (by kernel_rfl) (by kernel_rfl) ?_
        repeat (go_big_quiet_step ((go_at_call 40; exact Calls.later (HC.out _ (OnlyC.below ob (HB.out.trans ((Later.h _).mono HB.out.size)))))))
        refine wpQuiet_nil ?_
        rintro w4 ⟨s', rfl⟩
        have HB4 := Lib.hid s'.h
        go_wp2
        go_meet
        exact ⟨rfl, HB4.out⟩
      case rest =>
        obtain ⟨rfl, hs⟩ := hcut
        have HS := Lib.hid (HB.out.trans (hs.mono HB.out.size))
        clear hs dx dy
        have hhp : (h : Int) ≤ 100000 := by omega
        have hh0 : (0 : Int) ≤ (h : Int) := by omega
        by_cases hr0 : r < 0
        · have HR0 := Lib.hid (HLT.out hr0)
          go_wp2
          have h1 := HHI.out
          exact ⟨⟨h + 1, j, n, by go_num, rfl, by omega, by omega, by omega, HR0.out, HS.out⟩, by simp [intOf]; omega⟩
        · have HR0 := Lib.hid (HGE.out hr0)
          go_wp2
          have h1 := HHI.out
          exact ⟨⟨i, h, n, rfl, rfl, by omega, by omega, by omega, HR0.out, HS.out⟩, by simp [intOf]; omega⟩
    · have HE : Hid (i = R) := Lib.hid (by
        have h := HRR.out
        cases n with
        | zero => exact h
        | succ n => unfold bsr at h; rwa [if_neg hlt] at h)
      have hE := HE.out
      subst hE
      clear hr hb
      go_wp2
      exact HQ.out _ _ _ _ _ _ _ _ _ _ _ _ _ _ _ _ _ _ _ _ _ _ _ _ _ wr HB.out
open Go.RowKit Go.BigFrame

noncomputable def smB : Code := ((((Try.f86.body).map loopsOf).getD [])[2]?).getD .skip
set_option maxRecDepth 1000000 in
set_option maxHeartbeats 16000000 in
theorem smB_any (l : List Int) (ob N cap a wb n0 i0 j0 : Nat) (hl : l.length = N) (ha : a < N) (hij : i0 ≤ j0) (hj : j0 ≤ N) (hn : j0 ≤ i0 + n0) (hN : N ≤ 100000) (D : Int → Prop) (c : Int → Int → Int) (hD : ∀ x ∈ l, D x) (w : World) (hP : PC w ob l) (hcm : CmpT w ob wb D c)
    (z1 z3 z5 z6 z7 z8 z9 z10 z11 z12 z13 z16 z17 z18 z19 z20 z21 z22 z23 z24 z25 z26 z27 z28 z29 z30 z31 z32 z33 z34 z35 z36 z37 z38 z39 z40 z41 z42 z43 z44 z45 z46 z47 z48 z49 z50 z51 z52 z53 z54 z55 z56 z57 z58 z59 z60 z61 z62 z63 z64 z65 z66 z67 z68 z69 z70 z71 z72 z73 z74 z75 z76 z77 z78 z79 z80 z81 z82 z83 z84 z85 z86 z87 z88 z89 z90 z91 z92 z93 z94 z95 z96 z97 z98 z99 z100 z101 z102 z103 z104 z105 z106 z107 z108 z109 z110 z111 z112 z113 z114 z115 z116 z117 z118 z119 z120 z121 z122 z123 z124 z125 z126 z127 z128 z129 z130 z131 z132 z133 z134 z135 z136 z137 z138 z139 z140 z141 z142 z143 z144 z145 z146 z147 z148 z149 z150 z151 z152 z153 z154 z155 z156 z157 z158 z159 z160 z161 z162 z163 z164 z165 z166 z167 z168 z169 z170 z171 z172 z173 z174 z175 z176 z177 z178 z179 z180 z181 z182 z183 z184 z185 z186 z187 z188 z189 z190 z191 z192 z193 z194 z195 z196 z197 z198 z199 z200 z201 z202 z203 z204 z205 z206 z207 z208 z209 z210 z211 z212 z213 z214 z215 z216 z217 z218 z219 : Value) (Q : Exit → Act → World → Prop)
    (hQ : ∀ (y15 y16 y83 y84 y85 y86 y87 y88 y89 y90 y91 y92 y93 y94 y95 y96 y97 y98 y99 y100 y101 y102 y103 y104 y105 y106 : Value) (w' : World), Below w.heap.size w w' → Q (.exit 4) ⟨(.slice (some ⟨ob, 0, none⟩) N cap::z1::.int .i64 (a : Int)::z3::.func (.func 40) #[] #[.pointer (some ⟨wb, 0, none⟩)]::z5::z6::z7::z8::z9::z10::z11::z12::z13::.int .i64 (bsr (fun k => !decide (c (l.getD a 0) (l.getD k 0) < 0)) n0 i0 j0 : Int)::y15::y16::z17::z18::z19::z20::z21::z22::z23::z24::z25::z26::z27::z28::z29::z30::z31::z32::z33::z34::z35::z36::z37::z38::z39::z40::z41::z42::z43::z44::z45::z46::z47::z48::z49::z50::z51::z52::z53::z54::z55::z56::z57::z58::z59::z60::z61::z62::z63::z64::z65::z66::z67::z68::z69::z70::z71::z72::z73::z74::z75::z76::z77::z78::z79::z80::z81::z82::y83::y84::y85::y86::y87::y88::y89::y90::y91::y92::y93::y94::y95::y96::y97::y98::y99::y100::y101::y102::y103::y104::y105::y106::z107::z108::z109::z110::z111::z112::z113::z114::z115::z116::z117::z118::z119::z120::z121::z122::z123::z124::z125::z126::z127::z128::z129::z130::z131::z132::z133::z134::z135::z136::z137::z138::z139::z140::z141::z142::z143::z144::z145::z146::z147::z148::z149::z150::z151::z152::z153::z154::z155::z156::z157::z158::z159::z160::z161::z162::z163::z164::z165::z166::z167::z168::z169::z170::z171::z172::z173::z174::z175::z176::z177::z178::z179::z180::z181::z182::z183::z184::z185::z186::z187::z188::z189::z190::z191::z192::z193::z194::z195::z196::z197::z198::z199::z200::z201::z202::z203::z204::z205::z206::z207::z208::z209::z210::z211::z212::z213::z214::z215::z216::z217::z218::z219::[]).toArray, []⟩ w') :
    Code.wp Try.prog smB Q ⟨(.slice (some ⟨ob, 0, none⟩) N cap::z1::.int .i64 (a : Int)::z3::.func (.func 40) #[] #[.pointer (some ⟨wb, 0, none⟩)]::z5::z6::z7::z8::z9::z10::z11::z12::z13::.int .i64 (i0 : Int)::.int .i64 (j0 : Int)::z16::z17::z18::z19::z20::z21::z22::z23::z24::z25::z26::z27::z28::z29::z30::z31::z32::z33::z34::z35::z36::z37::z38::z39::z40::z41::z42::z43::z44::z45::z46::z47::z48::z49::z50::z51::z52::z53::z54::z55::z56::z57::z58::z59::z60::z61::z62::z63::z64::z65::z66::z67::z68::z69::z70::z71::z72::z73::z74::z75::z76::z77::z78::z79::z80::z81::z82::z83::z84::z85::z86::z87::z88::z89::z90::z91::z92::z93::z94::z95::z96::z97::z98::z99::z100::z101::z102::z103::z104::z105::z106::z107::z108::z109::z110::z111::z112::z113::z114::z115::z116::z117::z118::z119::z120::z121::z122::z123::z124::z125::z126::z127::z128::z129::z130::z131::z132::z133::z134::z135::z136::z137::z138::z139::z140::z141::z142::z143::z144::z145::z146::z147::z148::z149::z150::z151::z152::z153::z154::z155::z156::z157::z158::z159::z160::z161::z162::z163::z164::z165::z166::z167::z168::z169::z170::z171::z172::z173::z174::z175::z176::z177::z178::z179::z180::z181::z182::z183::z184::z185::z186::z187::z188::z189::z190::z191::z192::z193::z194::z195::z196::z197::z198::z199::z200::z201::z202::z203::z204::z205::z206::z207::z208::z209::z210::z211::z212::z213::z214::z215::z216::z217::z218::z219::[]).toArray, []⟩ w := by
  conv => arg 2; whnf
  have HQ := Lib.hid hQ
  have HP := Lib.hid hP
  have HL := Lib.hid hl
  have HD := Lib.hid hD
  have HCM := Lib.hid hcm
  obtain ⟨R, hR⟩ : ∃ R, bsr (fun k => !decide (c (l.getD a 0) (l.getD k 0) < 0)) n0 i0 j0 = R := ⟨_, rfl⟩
  rw [hR] at HQ
  have HR := Lib.hid hR
  clear hQ hP hl hD hcm hR
  go_loopw [14, 15] (fun vi vj wr => ∃ i j n : Nat, vi = .int .i64 i ∧ vj = .int .i64 j ∧ i ≤ j ∧ j ≤ N ∧ j ≤ i + n ∧ bsr (fun k => !decide (c (l.getD a 0) (l.getD k 0) < 0)) n i j = R ∧ Below w.heap.size w wr) (fun vi vj _ => (intOf vj).toNat - (intOf vi).toNat)
  case atStart => exact ⟨i0, j0, n0, rfl, rfl, hij, hj, hn, HR.out, Below.refl _ _⟩
  case round =>
    obtain ⟨i, j, n, rfl, rfl, hij, hj, hn, hr, hb⟩ := hrel
    have HRR := Lib.hid hr
    have HB := Lib.hid hb
    by_cases hlt : i < j
    · have hlti : (i : Int) < j := by omega
      clear hr hb
      obtain ⟨n, rfl⟩ : ∃ k, n = k + 1 := ⟨n - 1, by omega⟩
      obtain ⟨h, hh⟩ : ∃ h, (i + j) / 2 = h := ⟨_, rfl⟩
      have hhi : ((i : Int) + j) / 2 = (h : Int) := by omega
      have hhN : h < N := by omega
      obtain ⟨r, hr⟩ : ∃ r, c (l.getD a 0) (l.getD h 0) = r := ⟨_, rfl⟩
      have HX : Hid (D (l.getD h 0)) := Lib.hid (HD.out _ (by rw [List.getD_eq_getElem?_getD, List.getElem?_eq_getElem (by rw [HL.out]; exact hhN)]; exact List.getElem_mem _))
      have HY : Hid (D (l.getD a 0)) := Lib.hid (HD.out _ (by rw [List.getD_eq_getElem?_getD, List.getElem?_eq_getElem (by rw [HL.out]; exact ha)]; exact List.getElem_mem _))
      have HC : Hid (∀ W, OnlyC w W ob → Calls Try.prog 40 #[.int .i64 (l.getD a 0), .int .i64 (l.getD h 0), .pointer (some ⟨wb, 0, none⟩)] W fun e w' => e = .returned (.int .i64 r) ∧ Below W.heap.size W w') := Lib.hid fun W hW => by
        have := HCM.out _ _ W HY.out HX.out hW
        rw [hr] at this
        exact this
      have HLT : Hid (¬ r < 0 → bsr (fun k => !decide (c (l.getD a 0) (l.getD k 0) < 0)) n (h + 1) j = R) := Lib.hid fun h0 => by
        have h1 := HRR.out
        unfold bsr at h1
        rw [if_pos hlt, hh] at h1
        rwa [if_pos (by rw [hr, decide_eq_false h0]; rfl)] at h1
      have HGE : Hid (r < 0 → bsr (fun k => !decide (c (l.getD a 0) (l.getD k 0) < 0)) n i h = R) := Lib.hid fun h0 => by
        have h1 := HRR.out
        unfold bsr at h1
        rw [if_pos hlt, hh] at h1
        rwa [if_neg (by rw [hr, decide_eq_true h0]; exact Bool.false_ne_true)] at h1
      have hp : PC wr ob l := Pre.later HP.out HB.out
      have dx := hp.get (j := h) (by rw [HL.out]; exact hhN)
      have dy := hp.get (j := a) (by rw [HL.out]; exact ha)
      have HHI := Lib.hid (And.intro hh hhN)
      have hai : (a : Int) < N := by omega
      have hhNi : (h : Int) < N := by omega
      generalize l.getD h 0 = x at *
      generalize l.getD a 0 = y at *
      clear hp hr hh
      obtain ⟨q, hq⟩ : ∃ q, (!decide (r < 0)) = q := ⟨_, rfl⟩
      have HQB := Lib.hid hq
      clear hq
      go_upto_region 17 with fail
      go_cut [103] from 83 to 106 (fun s wx => s = .bool q ∧ Below wr.heap.size wr wx)
      case first =>
        have t1 := fun s : Later wr => Later.cell dx s
        have t2 := fun s : Later wr => Later.cell dy s
        refine wp_region_later (by kernel_rfl) (by kernel_rfl) ?_
        repeat (go_big_quiet_step ((go_at_call 40; exact Calls.later (HC.out _ (OnlyC.below ob (HB.out.trans ((Later.h _).mono HB.out.size)))))))
        refine wpQuiet_nil ?_
        rintro w4 ⟨s', rfl⟩
        have HB4 := Lib.hid s'.h
        go_wp2
        go_meet
        have hq := HQB.out
        exact ⟨by first | rw [hq] | (rw [← hq]; simp), HB4.out⟩
      case rest =>
        obtain ⟨rfl, hs⟩ := hcut
        have HS := Lib.hid (HB.out.trans (hs.mono HB.out.size))
        clear hs dx dy
        have hhp : (h : Int) ≤ 100000 := by omega
        have hh0 : (0 : Int) ≤ (h : Int) := by omega
        cases q with
        | true =>
          have HR0 := Lib.hid (HLT.out (fun h => by have := HQB.out; rw [decide_eq_true h] at this; cases this))
          go_wp2
          have h1 := HHI.out
          exact ⟨⟨h + 1, j, n, by go_num, rfl, by omega, by omega, by omega, HR0.out, HS.out⟩, by simp [intOf]; omega⟩
        | false =>
          have HR0 := Lib.hid (HGE.out (Classical.not_not.1 fun h => by have := HQB.out; rw [decide_eq_false h] at this; cases this))
          go_wp2
          have h1 := HHI.out
          exact ⟨⟨i, h, n, rfl, rfl, by omega, by omega, by omega, HR0.out, HS.out⟩, by simp [intOf]; omega⟩
    · have HE : Hid (i = R) := Lib.hid (by
        have h := HRR.out
        cases n with
        | zero => exact h
        | succ n => unfold bsr at h; rwa [if_neg hlt] at h)
      have hE := HE.out
      subst hE
      clear hr hb
      go_wp2
      exact HQ.out _ _ _ _ _ _ _ _ _ _ _ _ _ _ _ _ _ _ _ _ _ _ _ _ _ _ wr HB.out
open Go.RowKit Go.BigFrame

noncomputable def smC : Code := ((((Try.f86.body).map loopsOf).getD [])[4]?).getD .skip
set_option maxRecDepth 1000000 in
set_option maxHeartbeats 16000000 in
theorem smC_any (l : List Int) (ob N cap pp wb n0 i0 j0 : Nat) (hl : l.length = N) (hij : i0 ≤ j0) (hj : j0 ≤ N) (hn : j0 ≤ i0 + n0) (hp1 : j0 ≤ pp + 1) (hp2 : pp < N + i0) (hN : N ≤ 100000) (D : Int → Prop) (c : Int → Int → Int) (hD : ∀ x ∈ l, D x) (w : World) (hP : PC w ob l) (hcm : CmpT w ob wb D c)
    (z1 z2 z3 z5 z6 z7 z8 z9 z10 z11 z12 z13 z14 z15 z16 z17 z18 z19 z23 z24 z25 z26 z27 z28 z29 z30 z31 z32 z33 z34 z35 z36 z37 z38 z39 z40 z41 z42 z43 z44 z45 z46 z47 z48 z49 z50 z51 z52 z53 z54 z55 z56 z57 z58 z59 z60 z61 z62 z63 z64 z65 z66 z67 z68 z69 z70 z71 z72 z73 z74 z75 z76 z77 z78 z79 z80 z81 z82 z83 z84 z85 z86 z87 z88 z89 z90 z91 z92 z93 z94 z95 z96 z97 z98 z99 z100 z101 z102 z103 z104 z105 z106 z107 z108 z109 z110 z111 z112 z113 z114 z115 z116 z117 z118 z119 z120 z121 z122 z123 z124 z125 z126 z127 z128 z129 z130 z131 z132 z133 z134 z135 z136 z137 z138 z139 z140 z141 z142 z143 z144 z145 z146 z147 z148 z149 z150 z151 z152 z153 z154 z155 z156 z157 z158 z159 z160 z161 z162 z163 z164 z165 z166 z167 z168 z169 z170 z171 z172 z173 z174 z175 z176 z177 z178 z179 z180 z181 z182 z183 z184 z185 z186 z187 z188 z189 z190 z191 z192 z193 z194 z195 z196 z197 z198 z199 z200 z201 z202 z203 z204 z205 z206 z207 z208 z209 z210 z211 z212 z213 z214 z215 z216 z217 z218 z219 : Value) (Q : Exit → Act → World → Prop)
    (hQ : ∀ (y21 y23 y149 y150 y151 y152 y153 y154 y155 y156 y157 y158 y159 y160 y161 y162 y163 y164 y165 y166 y167 y168 y169 y170 y171 y172 y173 y174 : Value) (w' : World), Below w.heap.size w w' → Q (.exit 8) ⟨(.slice (some ⟨ob, 0, none⟩) N cap::z1::z2::z3::.func (.func 40) #[] #[.pointer (some ⟨wb, 0, none⟩)]::z5::z6::z7::z8::z9::z10::z11::z12::z13::z14::z15::z16::z17::z18::z19::.int .i64 (bsr (fun k => !decide (c (l.getD (pp - k) 0) (l.getD k 0) < 0)) n0 i0 j0 : Int)::y21::.int .i64 (pp : Int)::y23::z24::z25::z26::z27::z28::z29::z30::z31::z32::z33::z34::z35::z36::z37::z38::z39::z40::z41::z42::z43::z44::z45::z46::z47::z48::z49::z50::z51::z52::z53::z54::z55::z56::z57::z58::z59::z60::z61::z62::z63::z64::z65::z66::z67::z68::z69::z70::z71::z72::z73::z74::z75::z76::z77::z78::z79::z80::z81::z82::z83::z84::z85::z86::z87::z88::z89::z90::z91::z92::z93::z94::z95::z96::z97::z98::z99::z100::z101::z102::z103::z104::z105::z106::z107::z108::z109::z110::z111::z112::z113::z114::z115::z116::z117::z118::z119::z120::z121::z122::z123::z124::z125::z126::z127::z128::z129::z130::z131::z132::z133::z134::z135::z136::z137::z138::z139::z140::z141::z142::z143::z144::z145::z146::z147::z148::y149::y150::y151::y152::y153::y154::y155::y156::y157::y158::y159::y160::y161::y162::y163::y164::y165::y166::y167::y168::y169::y170::y171::y172::y173::y174::z175::z176::z177::z178::z179::z180::z181::z182::z183::z184::z185::z186::z187::z188::z189::z190::z191::z192::z193::z194::z195::z196::z197::z198::z199::z200::z201::z202::z203::z204::z205::z206::z207::z208::z209::z210::z211::z212::z213::z214::z215::z216::z217::z218::z219::[]).toArray, []⟩ w') :
    Code.wp Try.prog smC Q ⟨(.slice (some ⟨ob, 0, none⟩) N cap::z1::z2::z3::.func (.func 40) #[] #[.pointer (some ⟨wb, 0, none⟩)]::z5::z6::z7::z8::z9::z10::z11::z12::z13::z14::z15::z16::z17::z18::z19::.int .i64 (i0 : Int)::.int .i64 (j0 : Int)::.int .i64 (pp : Int)::z23::z24::z25::z26::z27::z28::z29::z30::z31::z32::z33::z34::z35::z36::z37::z38::z39::z40::z41::z42::z43::z44::z45::z46::z47::z48::z49::z50::z51::z52::z53::z54::z55::z56::z57::z58::z59::z60::z61::z62::z63::z64::z65::z66::z67::z68::z69::z70::z71::z72::z73::z74::z75::z76::z77::z78::z79::z80::z81::z82::z83::z84::z85::z86::z87::z88::z89::z90::z91::z92::z93::z94::z95::z96::z97::z98::z99::z100::z101::z102::z103::z104::z105::z106::z107::z108::z109::z110::z111::z112::z113::z114::z115::z116::z117::z118::z119::z120::z121::z122::z123::z124::z125::z126::z127::z128::z129::z130::z131::z132::z133::z134::z135::z136::z137::z138::z139::z140::z141::z142::z143::z144::z145::z146::z147::z148::z149::z150::z151::z152::z153::z154::z155::z156::z157::z158::z159::z160::z161::z162::z163::z164::z165::z166::z167::z168::z169::z170::z171::z172::z173::z174::z175::z176::z177::z178::z179::z180::z181::z182::z183::z184::z185::z186::z187::z188::z189::z190::z191::z192::z193::z194::z195::z196::z197::z198::z199::z200::z201::z202::z203::z204::z205::z206::z207::z208::z209::z210::z211::z212::z213::z214::z215::z216::z217::z218::z219::[]).toArray, []⟩ w := by
  conv => arg 2; whnf
  have HQ := Lib.hid hQ
  have HP := Lib.hid hP
  have HL := Lib.hid hl
  have HD := Lib.hid hD
  have HCM := Lib.hid hcm
  obtain ⟨R, hR⟩ : ∃ R, bsr (fun k => !decide (c (l.getD (pp - k) 0) (l.getD k 0) < 0)) n0 i0 j0 = R := ⟨_, rfl⟩
  rw [hR] at HQ
  have HR := Lib.hid hR
  clear hQ hP hl hD hcm hR
  go_loopw [20, 21] (fun vi vj wr => ∃ i j n : Nat, vi = .int .i64 i ∧ vj = .int .i64 j ∧ i ≤ j ∧ j ≤ N ∧ i0 ≤ i ∧ j ≤ j0 ∧ j ≤ i + n ∧ bsr (fun k => !decide (c (l.getD (pp - k) 0) (l.getD k 0) < 0)) n i j = R ∧ Below w.heap.size w wr) (fun vi vj _ => (intOf vj).toNat - (intOf vi).toNat)
  case atStart => exact ⟨i0, j0, n0, rfl, rfl, hij, hj, Nat.le_refl _, Nat.le_refl _, hn, HR.out, Below.refl _ _⟩
  case round =>
    obtain ⟨i, j, n, rfl, rfl, hij, hj, hi0, hj0, hn, hr, hb⟩ := hrel
    have HRR := Lib.hid hr
    have HB := Lib.hid hb
    by_cases hlt : i < j
    · have hlti : (i : Int) < j := by omega
      clear hr hb
      obtain ⟨n, rfl⟩ : ∃ k, n = k + 1 := ⟨n - 1, by omega⟩
      obtain ⟨h, hh⟩ : ∃ h, (i + j) / 2 = h := ⟨_, rfl⟩
      have hhi : ((i : Int) + j) / 2 = (h : Int) := by omega
      have hhN : h < N := by omega
      obtain ⟨g, hg⟩ : ∃ g, pp - h = g := ⟨_, rfl⟩
      have hgN : g < N := by omega
      have hgi : (pp : Int) - h = (g : Int) := by omega
      obtain ⟨r, hr⟩ : ∃ r, c (l.getD g 0) (l.getD h 0) = r := ⟨_, rfl⟩
      have HX : Hid (D (l.getD h 0)) := Lib.hid (HD.out _ (by rw [List.getD_eq_getElem?_getD, List.getElem?_eq_getElem (by rw [HL.out]; exact hhN)]; exact List.getElem_mem _))
      have HY : Hid (D (l.getD g 0)) := Lib.hid (HD.out _ (by rw [List.getD_eq_getElem?_getD, List.getElem?_eq_getElem (by rw [HL.out]; exact hgN)]; exact List.getElem_mem _))
      have HC : Hid (∀ W, OnlyC w W ob → Calls Try.prog 40 #[.int .i64 (l.getD g 0), .int .i64 (l.getD h 0), .pointer (some ⟨wb, 0, none⟩)] W fun e w' => e = .returned (.int .i64 r) ∧ Below W.heap.size W w') := Lib.hid fun W hW => by
        have := HCM.out _ _ W HY.out HX.out hW
        rw [hr] at this
        exact this
      have HLT : Hid (¬ r < 0 → bsr (fun k => !decide (c (l.getD (pp - k) 0) (l.getD k 0) < 0)) n (h + 1) j = R) := Lib.hid fun h0 => by
        have h1 := HRR.out
        unfold bsr at h1
        rw [if_pos hlt, hh] at h1
        rwa [if_pos (by rw [hg, hr, decide_eq_false h0]; rfl)] at h1
      have HGE : Hid (r < 0 → bsr (fun k => !decide (c (l.getD (pp - k) 0) (l.getD k 0) < 0)) n i h = R) := Lib.hid fun h0 => by
        have h1 := HRR.out
        unfold bsr at h1
        rw [if_pos hlt, hh] at h1
        rwa [if_neg (by rw [hg, hr, decide_eq_true h0]; exact Bool.false_ne_true)] at h1
      have hp : PC wr ob l := Pre.later HP.out HB.out
      have dx := hp.get (j := h) (by rw [HL.out]; exact hhN)
      have dy := hp.get (j := g) (by rw [HL.out]; exact hgN)
      have HHI := Lib.hid (And.intro hh hhN)
      have hai : (g : Int) < N := by omega
      have hhNi : (h : Int) < N := by omega
      generalize l.getD h 0 = x at *
      generalize l.getD g 0 = y at *
      clear hp hr hh hg
      obtain ⟨q, hq⟩ : ∃ q, (!decide (r < 0)) = q := ⟨_, rfl⟩
      have HQB := Lib.hid hq
      clear hq
      go_upto_region 35 with fail
      go_cut [171] from 149 to 174 (fun s wx => s = .bool q ∧ Below wr.heap.size wr wx)
      case first =>
        have t1 := fun s : Later wr => Later.cell dx s
        have t2 := fun s : Later wr => Later.cell dy s
        refine wp_region_later (by kernel_rfl) (by kernel_rfl) ?_
        repeat (go_big_quiet_step ((go_at_call 40; exact Calls.later (HC.out _ (OnlyC.below ob (HB.out.trans ((Later.h _).mono HB.out.size)))))))
        refine wpQuiet_nil ?_
        rintro w4 ⟨s', rfl⟩
        have HB4 := Lib.hid s'.h
        go_wp2
        go_meet
        have hq := HQB.out
        exact ⟨by first | rw [hq] | (rw [← hq]; simp), HB4.out⟩
      case rest =>
        obtain ⟨rfl, hs⟩ := hcut
        have HS := Lib.hid (HB.out.trans (hs.mono HB.out.size))
        clear hs dx dy
        have hhp : (h : Int) ≤ 100000 := by omega
        have hh0 : (0 : Int) ≤ (h : Int) := by omega
        cases q with
        | true =>
          have HR0 := Lib.hid (HLT.out (fun h => by have := HQB.out; rw [decide_eq_true h] at this; cases this))
          go_wp2
          have h1 := HHI.out
          exact ⟨⟨h + 1, j, n, by go_num, rfl, by omega, by omega, by omega, by omega, by omega, HR0.out, HS.out⟩, by simp [intOf]; omega⟩
        | false =>
          have HR0 := Lib.hid (HGE.out (Classical.not_not.1 fun h => by have := HQB.out; rw [decide_eq_false h] at this; cases this))
          go_wp2
          have h1 := HHI.out
          exact ⟨⟨i, h, n, rfl, rfl, by omega, by omega, by omega, by omega, by omega, HR0.out, HS.out⟩, by simp [intOf]; omega⟩
    · have HE : Hid (i = R) := Lib.hid (by
        have h := HRR.out
        cases n with
        | zero => exact h
        | succ n => unfold bsr at h; rwa [if_neg hlt] at h)
      have hE := HE.out
      subst hE
      clear hr hb
      go_wp2
      exact HQ.out _ _ _ _ _ _ _ _ _ _ _ _ _ _ _ _ _ _ _ _ _ _ _ _ _ _ _ _ wr HB.out
end Go.Proofs.Ythbcdckonaljiaa
