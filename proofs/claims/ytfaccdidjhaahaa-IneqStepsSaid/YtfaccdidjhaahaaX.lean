import Derived.Test.YtfaccdidjhaahaaW
namespace Go.Proofs.Ytfaccdidjhaahaa
open Go.RowKit Go.BigFrame

set_option maxRecDepth 100000 in
set_option maxHeartbeats 2000000 in
theorem stepslaw_any (l : List Row) (A : Option Addr) (cap : Nat) (v : Int) (x : Row) (w : World) (hR : Rd w w.heap.size A l) (hA0 : A = none → cap = 0) :
    Calls Try.prog 5 #[.slice A l.length cap, .int .i64 v, x.arr] w fun e w' => e = .returned (.bool true) ∧ Below w.heap.size w w' := by
  by_cases hfew : l.length ≤ 12
  · have hd : decide ((l.length : Int) ≤ 12) = true := by simp; omega
    have hP : Own ((w.alloc x.oa).alloc (.cells #[] 24)) w.heap.size (.slice (some ⟨w.heap.size + 1, 0, none⟩) 0 0) [] := by simpa using Own.made (w.alloc x.oa) (B := w.heap.size) (by simp)
    have hRP : Rd ((w.alloc x.oa).alloc (.cells #[] 24)) w.heap.size A l := hR.below (((Below.refl w.heap.size w).alloc (Nat.le_refl _) x.oa).alloc (by simp) (.cells #[] 24)) (Nat.le_refl _)
    have HP := Lib.hid hP
    have HRP := Lib.hid hRP
    clear hP hRP
    go_enter Try.func5, Try.ntmps5
    go_wp2_with (first | (go_at_call 16; refine (few_any _ _ _ _).mono ?_; rintro e w1 ⟨rfl, rfl⟩) | (at_builtin; go_must (refine append_rd rfl _ _ rfl w.heap.size _ [] rfl HP.out _ A l cap rfl HRP.out hA0 (by simp; omega) (by simp; omega) ?_); intro V' w2 ho hg hat))
    clear HP HRP
    rw [List.nil_append] at ho
    obtain ⟨A2, cap2, rfl, _, hRd⟩ := ho.form
    have hX : HasA w2 w.heap.size x := ((HasA.new w x).alloc _).grown hg (fun e => by have h1 : some (w.heap.size + 1) = some w.heap.size := e; injection h1 with h1; omega)
    have hB2 : Below w.heap.size w w2 := (((Below.refl _ _).alloc (Nat.le_refl _) _).alloc (by simp) _).grown hg (by simp; omega) (fun q hq => by have h1 : some (w.heap.size + 1) = some q := hq; injection h1 with h1; omega)
    clear hg hat ho
    by_cases hv : v < 0 ∨ 8 ≤ v
    · refine (step_out A2 _ cap2 v _ hv).mono ?_; rintro e w3 ⟨rfl, hb1⟩
      replace hB2 := hB2.trans (hb1.mono hB2.size)
      clear hb1
      go_wp2_with fail
      refine (awake_any _).mono ?_; rintro e w4 ⟨rfl, hb1⟩
      go_wp2_with fail
      go_returns
      exact ⟨rfl, hB2.trans (hb1.mono hB2.size)⟩
    · obtain ⟨v, rfl⟩ : ∃ n : Nat, v = n := ⟨v.toNat, by omega⟩
      have hv8 : v < 8 := by omega
      clear hv
      refine (step_any l A2 cap2 v _ (by omega) hv8 hRd).mono ?_; rintro e w3 ⟨hb1, hp⟩
      replace hB2 := hB2.trans (hb1.mono hB2.size)
      replace hX := hX.below hb1 hX.lt
      clear hRd
      cases hst : stepS v l with
      | none =>
        rw [hst] at hp
        subst hp
        clear hst hb1
        go_wp2_with fail
        refine (awake_any _).mono ?_; rintro e w4 ⟨rfl, hb1⟩
        go_wp2_with fail
        go_returns
        exact ⟨rfl, hB2.trans (hb1.mono hB2.size)⟩
      | some out =>
        rw [hst] at hp
        obtain ⟨V3, rfl, hO⟩ := hp
        obtain ⟨hgood, hol⟩ := step_good (x := x) hv8 hst
        have HG := Lib.hid hgood
        clear hgood hst
        obtain ⟨A3, cap3, rfl, _, hR3⟩ := hO.form
        clear hO hb1
        go_wp2_with fail
        go_loopw [9, 36] (fun b i wr => ∃ k : Nat, k ≤ l.length ∧ i = .int .i64 k ∧ b = .bool ((l.take k).all fun r => r.holds x) ∧ Below w3.heap.size w3 wr) (fun _ i _ => l.length - (intOf i).toNat)
        case atStart => exact ⟨0, by omega, rfl, rfl, Below.refl _ _⟩
        case round =>
          obtain ⟨k, hk, rfl, rfl, hB⟩ := hrel
          have hXr := hX.below hB hX.lt
          by_cases hlt : k < l.length
          · obtain ⟨b, o, rfl, hb, c0, c1, c2, c3, c4, c5, c6, c7, c8⟩ := (hR.below (hB2.trans (hB.mono hB2.size)) (Nat.le_refl _)).at_ k hlt
            have hs := all_snoc l (fun r => r.holds x) k hlt
            have HS := Lib.hid hs
            clear hs
            have hz := hXr.lt
            generalize l[k] = r at c0 c1 c2 c3 c4 c5 c6 c7 c8 HS
            generalize (l.take k).all (fun r => r.holds x) = bb at *
            cases bb
            · go_wp2_with fail
              exact ⟨⟨k + 1, by omega, by go_num, by rw [HS.out]; rfl, hB.alloc hB.size _⟩, by simp [intOf]; omega⟩
            · have d0 := hXr.cell 0 (by omega); have d1 := hXr.cell 1 (by omega); have d2 := hXr.cell 2 (by omega); have d3 := hXr.cell 3 (by omega)
              have d4 := hXr.cell 4 (by omega); have d5 := hXr.cell 5 (by omega); have d6 := hXr.cell 6 (by omega); have d7 := hXr.cell 7 (by omega)
              go_wp2_with fail
              refine (lholds_any r x _).mono ?_; rintro e w4 ⟨rfl, hb1⟩
              go_wp2_with fail
              exact ⟨⟨k + 1, by omega, by go_num, by rw [HS.out]; rfl, (hB.alloc hB.size _).trans (hb1.mono (by have := hB.size; simp; omega))⟩, by simp [intOf]; omega⟩
          · have hkl : k = l.length := by omega
            subst hkl
            rw [List.take_length]
            have hbt : l.all (fun r => r.holds x) = true → ∀ s ∈ l, s.holds x = true := fun h => List.all_eq_true.1 h
            have HBT := Lib.hid hbt
            clear hbt
            generalize l.all (fun r => r.holds x) = bb at *
            have HBp := Lib.hid hB
            clear hXr hB
            go_wp2_with fail
            go_loopw [49] (fun i w4 => ∃ k : Nat, k ≤ out.length ∧ i = .int .i64 k ∧ Below w3.heap.size w3 w4) (fun i _ => out.length - (intOf i).toNat)
            case atStart => exact ⟨0, by omega, rfl, HBp.out⟩
            case round =>
              clear HBp
              obtain ⟨k, hk2, rfl, hB⟩ := hrel
              have hXr := hX.below hB hX.lt
              by_cases hlt2 : k < out.length
              · obtain ⟨b, o, rfl, hb, c0, c1, c2, c3, c4, c5, c6, c7, c8⟩ := (hR3.below hB (Nat.le_refl _)).at_ k hlt2
                have hg := HG.out _ (List.getElem_mem hlt2)
                have hz := hXr.lt
                generalize out[k] = r at c0 c1 c2 c3 c4 c5 c6 c7 c8 hg
                obtain ⟨hgr, hgz, hgh⟩ := hg
                have HGH := Lib.hid hgh
                clear hgh
                go_wp2_with fail
                clear c0 c1 c2 c3 c4 c5 c6 c7 c8
                have hRr : HasR (wr.alloc r.o) wr.heap.size r := HasR.new wr r
                have hXa := hXr.alloc r.o
                have hBa := hB.alloc hB.size r.o
                generalize wr.alloc r.o = W5 at *
                generalize wr.heap.size = gr at *
                refine (lright_any r _).mono ?_; rintro e w5 ⟨rfl, hb1⟩
                replace hRr := hRr.below hb1 hRr.lt
                replace hXa := hXa.below hb1 hXa.lt
                replace hBa := hBa.trans (hb1.mono hBa.size)
                clear hb1
                have hcv := hRr.cell v hv8
                cases bb
                · go_wp2_with fail
                  exact ⟨⟨k + 1, by omega, by go_num, hBa⟩, by simp [intOf]; omega⟩
                · have hhr : r.holds x = true := HGH.out (HBT.out rfl)
                  obtain ⟨c0, c1, c2, c3, c4, c5, c6, c7, c8⟩ := hRr.cells
                  have d0 := hXa.cell 0 (by omega); have d1 := hXa.cell 1 (by omega); have d2 := hXa.cell 2 (by omega); have d3 := hXa.cell 3 (by omega)
                  have d4 := hXa.cell 4 (by omega); have d5 := hXa.cell 5 (by omega); have d6 := hXa.cell 6 (by omega); have d7 := hXa.cell 7 (by omega)
                  go_wp2_with fail
                  refine (lholds_any r x _).mono ?_; rintro e w6 ⟨rfl, hb1⟩
                  go_wp2_with fail
                  exact ⟨⟨k + 1, by omega, by go_num, hBa.trans (hb1.mono hBa.size)⟩, by simp [intOf]; omega⟩
              · have hB9 := hB2.trans (hB.mono hB2.size)
                go_wp2_with fail
                refine (awake_any _).mono ?_; rintro e w4 ⟨rfl, hb1⟩
                go_wp2_with fail
                go_returns
                exact ⟨rfl, hB9.trans (hb1.mono hB9.size)⟩
  · have hd : decide ((l.length : Int) ≤ 12) = false := by simp; omega
    go_enter Try.func5, Try.ntmps5
    go_wp2_with (go_at_call 16; refine (few_any _ _ _ _).mono ?_; rintro e w1 ⟨rfl, rfl⟩)
    refine (awake_any _).mono ?_; rintro e w1 ⟨rfl, hb1⟩
    go_wp2_with fail
    go_returns
    exact ⟨rfl, ((Below.refl _ _).alloc (Nat.le_refl _) _).trans (hb1.mono (by simp))⟩
end Go.Proofs.Ytfaccdidjhaahaa
