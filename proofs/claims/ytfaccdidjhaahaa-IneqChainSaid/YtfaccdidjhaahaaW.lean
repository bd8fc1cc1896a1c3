import Derived.Test.YtfaccdidjhaahaaT
namespace Go.Proofs.Ytfaccdidjhaahaa
open Go.RowKit Go.BigFrame

theorem HasA.grown {w w' : World} {b : Nat} {r : Row} {row : Option Nat} (h : HasA w b r) (hg : w.grownBy w' row) (hne : row ≠ some b) : HasA w' b r := (hg.block b h.lt (Ne.symm hne)).trans h
theorem all_snoc (l : List Row) (p : Row → Bool) (k : Nat) (h : k < l.length) : (l.take (k + 1)).all p = ((l.take k).all p && p l[k]) := by
  rw [take_snoc' l k h, List.all_append]; simp

set_option maxRecDepth 100000 in
set_option maxHeartbeats 1000000 in
theorem neverlaw_any (l : List Row) (A : Option Addr) (cap : Nat) (x : Row) (w : World) (hR : Rd w w.heap.size A l) (hA0 : A = none → cap = 0) :
    Calls Try.prog 6 #[.slice A l.length cap, x.arr] w fun e w' => e = .returned (.bool true) ∧ Below w.heap.size w w' := by
  by_cases hfew : l.length ≤ 12
  · have hd : decide ((l.length : Int) ≤ 12) = true := by simp; omega
    go_enter Try.func6, Try.ntmps6
    go_wp2_with (go_at_call 16; refine (few_any _ _ _ _).mono ?_; rintro e w1 ⟨rfl, rfl⟩)
    have hB : Below w.heap.size w (w.alloc x.oa) := (Below.refl _ _).alloc (Nat.le_refl _) _
    have hX : HasA (w.alloc x.oa) w.heap.size x := HasA.new w x
    generalize w.alloc x.oa = W at hB hX ⊢
    go_loopw [5, 14] (fun b i wr => ∃ k : Nat, k ≤ l.length ∧ i = .int .i64 k ∧ b = .bool ((l.take k).all fun r => r.holds x) ∧ HasA wr w.heap.size x ∧ Below w.heap.size w wr) (fun _ i _ => l.length - (intOf i).toNat)
    case atStart => exact ⟨0, by omega, rfl, rfl, hX, hB⟩
    case round =>
      clear hX hB
      obtain ⟨k, hk, rfl, rfl, hX, hB⟩ := hrel
      by_cases hlt : k < l.length
      · obtain ⟨b, o, rfl, hb, c0, c1, c2, c3, c4, c5, c6, c7, c8⟩ := (hR.below hB (Nat.le_refl _)).at_ k hlt
        have hs := all_snoc l (fun r => r.holds x) k hlt
        have HS := Lib.hid hs
        clear hs
        have hz := hX.lt
        generalize l[k] = r at c0 c1 c2 c3 c4 c5 c6 c7 c8 HS
        generalize (l.take k).all (fun r => r.holds x) = bb at *
        cases bb
        · go_wp2_with fail
          exact ⟨⟨k + 1, by omega, by go_num, by rw [HS.out]; rfl, hX.alloc _, hB.alloc hB.size _⟩, by simp [intOf]; omega⟩
        · have d0 := hX.cell 0 (by omega); have d1 := hX.cell 1 (by omega); have d2 := hX.cell 2 (by omega); have d3 := hX.cell 3 (by omega)
          have d4 := hX.cell 4 (by omega); have d5 := hX.cell 5 (by omega); have d6 := hX.cell 6 (by omega); have d7 := hX.cell 7 (by omega)
          go_wp2_with fail
          refine (lholds_any r x _).mono ?_; rintro e w1 ⟨rfl, hb1⟩
          go_wp2_with fail
          exact ⟨⟨k + 1, by omega, by go_num, by rw [HS.out]; rfl, (hX.alloc _).below hb1 (hX.alloc _).lt, (hB.alloc hB.size _).trans (hb1.mono (by have := hB.size; simp; omega))⟩, by simp [intOf]; omega⟩
      · have hkl : k = l.length := by omega
        subst hkl
        rw [List.take_length]
        cases hbb : l.all (fun r => r.holds x)
        · go_wp2_with fail
          refine (awake_any _).mono ?_; rintro e w1 ⟨rfl, hb1⟩
          go_wp2_with fail
          go_returns
          exact ⟨rfl, hB.trans (hb1.mono hB.size)⟩
        · have hns : neverS l = false := never_sound (x := x) (List.all_eq_true.1 hbb)
          have HNS := Lib.hid hns
          clear hns hbb
          go_wp2_with (at_builtin; go_must (refine append_rd rfl _ _ rfl w.heap.size _ [] rfl (Own.made wr hB.size) _ A l cap rfl (hR.below (hB.alloc hB.size _) (Nat.le_refl _)) hA0 (by simp; omega) (by have := hB.size; simp; omega) ?_); intro V' w2 ho hg hat)
          rw [List.nil_append] at ho
          obtain ⟨A2, cap2, rfl, _, hRd⟩ := ho.form
          have hB2 : Below w.heap.size w w2 := (hB.alloc hB.size _).grown hg (by have := hB.size; simp; omega) (fun q hq => by have h1 : some wr.heap.size = some q := hq; injection h1 with h1; have := hB.size; omega)
          refine (never_any l A2 cap2 _ (by omega) hRd).mono ?_; rintro e w3 ⟨rfl, hb1⟩
          rw [HNS.out]
          replace hB2 := hB2.trans (hb1.mono hB2.size)
          clear hb1
          go_wp2_with fail
          refine (awake_any _).mono ?_; rintro e w4 ⟨rfl, hb1⟩
          go_wp2_with fail
          go_returns
          exact ⟨rfl, hB2.trans (hb1.mono hB2.size)⟩
  · have hd : decide ((l.length : Int) ≤ 12) = false := by simp; omega
    go_enter Try.func6, Try.ntmps6
    go_wp2_with (go_at_call 16; refine (few_any _ _ _ _).mono ?_; rintro e w1 ⟨rfl, rfl⟩)
    refine (awake_any _).mono ?_; rintro e w1 ⟨rfl, hb1⟩
    go_wp2_with fail
    go_returns
    exact ⟨rfl, ((Below.refl _ _).alloc (Nat.le_refl _) _).trans (hb1.mono (by simp))⟩

set_option maxHeartbeats 400000 in
theorem step_out (A : Option Addr) (n cap : Nat) (v : Int) (w : World) (hv : v < 0 ∨ 8 ≤ v) : Calls Try.prog 17 #[.slice A n cap, .int .i64 v] w fun e w' => e = .returned (.tuple #[.slice none 0 0, .bool false]) ∧ Below w.heap.size w w' := by
  by_cases h1 : v < 0
  · go_enter Try.func17, Try.ntmps17
    go_wp2_with fail
    go_ret2
    exact ⟨rfl, Below.refl _ _⟩
  · have h2 : 8 ≤ v := by omega
    go_enter Try.func17, Try.ntmps17
    go_wp2_with fail
    go_ret2
    exact ⟨rfl, Below.refl _ _⟩
end Go.Proofs.Ytfaccdidjhaahaa
