import Derived.Test.YtaofdbboalcceaaCa
/- THE DOCUMENT's Uses, Sets, Next, isWord. -/
namespace Go.Proofs.Ytaofdbboalcceaa
open Go.RowKit Go.BigFrame

abbrev Ins.obj (i : Ins) : Obj := .cells #[.int .i64 i.kind, .int .i64 i.op, .int .i64 i.dst, .int .i64 i.a, .int .i64 i.b, .int .i64 i.n, .string i.text, .int .i64 i.r0, .int .i64 i.r1, .int .i64 i.r2, .int .i64 i.r3, .int .i64 i.r4, .int .i64 i.r5, .int .i64 i.to_, .int .i64 i.els] 38
theorem Ins.cells {w : World} {b : Nat} {i : Ins} (h : w.heap[b]? = some i.obj) : w.cell? ⟨b, 0, none⟩ = some (.int .i64 i.kind) ∧ w.cell? ⟨b, 1, none⟩ = some (.int .i64 i.op) ∧ w.cell? ⟨b, 2, none⟩ = some (.int .i64 i.dst) ∧ w.cell? ⟨b, 3, none⟩ = some (.int .i64 i.a) ∧ w.cell? ⟨b, 4, none⟩ = some (.int .i64 i.b) ∧
    w.cell? ⟨b, 5, none⟩ = some (.int .i64 i.n) ∧ w.cell? ⟨b, 6, none⟩ = some (.string i.text) ∧ w.cell? ⟨b, 7, none⟩ = some (.int .i64 i.r0) ∧ w.cell? ⟨b, 8, none⟩ = some (.int .i64 i.r1) ∧ w.cell? ⟨b, 9, none⟩ = some (.int .i64 i.r2) ∧ w.cell? ⟨b, 10, none⟩ = some (.int .i64 i.r3) ∧
    w.cell? ⟨b, 11, none⟩ = some (.int .i64 i.r4) ∧ w.cell? ⟨b, 12, none⟩ = some (.int .i64 i.r5) ∧ w.cell? ⟨b, 13, none⟩ = some (.int .i64 i.to_) ∧ w.cell? ⟨b, 14, none⟩ = some (.int .i64 i.els) :=
  ⟨cell_of_heap h 0 _ rfl, cell_of_heap h 1 _ rfl, cell_of_heap h 2 _ rfl, cell_of_heap h 3 _ rfl, cell_of_heap h 4 _ rfl, cell_of_heap h 5 _ rfl, cell_of_heap h 6 _ rfl, cell_of_heap h 7 _ rfl, cell_of_heap h 8 _ rfl, cell_of_heap h 9 _ rfl, cell_of_heap h 10 _ rfl, cell_of_heap h 11 _ rfl, cell_of_heap h 12 _ rfl, cell_of_heap h 13 _ rfl, cell_of_heap h 14 _ rfl⟩
theorem kind_cases (k : Int) : k = 1 ∨ k = 2 ∨ k = 3 ∨ k = 4 ∨ k = 5 ∨ k = 6 ∨ k = 7 ∨ k = 8 ∨ k = 9 ∨ k = 10 ∨ k = 11 ∨ k = 12 ∨ k = 13 ∨ (k < 1 ∨ 13 < k) := by omega
set_option maxRecDepth 1000000 in
set_option maxHeartbeats 4000000 in
theorem refUses_any (i : Ins) (w : World) : Calls Try.prog 43 #[i.agg] w fun e w' => SlN i.uses e w' ∧ Below w.heap.size w w' := by
  obtain ⟨k, op, dst, a, b, n, text, r0, r1, r2, r3, r4, r5, to_, els⟩ := i
  have hb0 := Below.one w (Ins.obj ⟨k, op, dst, a, b, n, text, r0, r1, r2, r3, r4, r5, to_, els⟩)
  have bx := heap_alloc_new w (Ins.obj ⟨k, op, dst, a, b, n, text, r0, r1, r2, r3, r4, r5, to_, els⟩)
  simp only [Ins.obj, Ins.agg] at hb0 bx ⊢
  have hfin : ∀ (V : Value) (w' : World) (l : List Int), OwnN w' V l → (Ins.uses ⟨k, op, dst, a, b, n, text, r0, r1, r2, r3, r4, r5, to_, els⟩ = l) → SlN (Ins.uses ⟨k, op, dst, a, b, n, text, r0, r1, r2, r3, r4, r5, to_, els⟩) (.returned V) w' := fun V w' l ho hl => by
    rw [hl]
    obtain ⟨A, cap, hV, _, hR⟩ := ho.form
    exact ⟨A, cap, by rw [hV], hR⟩
  by_cases h1 : kA k = true ∧ kB k = false
  · have hc : k = 2 ∨ k = 4 ∨ k = 6 ∨ k = 10 ∨ k = 12 ∨ k = 13 := by simp [kA, kB] at h1; omega
    clear h1
    rcases hc with rfl | rfl | rfl | rfl | rfl | rfl
    all_goals
      go_enter Try.func43, Try.ntmps43
      go_wp2_with (first
        | (at_builtin; go_must (refine append_one rfl _ _ rfl (.slice none 0 0) [] rfl (OwnN.nil _) (w.heap.size + 1) a rfl (by simpa using heap_alloc_new (w.alloc _) (.cells #[.int .i64 a] 3)) (by simp) ?_); intro V1 w1 ho1 hg1 hat1; have hx1 := (hg1.block w.heap.size (by simp <;> omega) (by simp [Value.ownBlock])).trans (alloc_keeps bx (.cells #[.int .i64 a] 3)); have c0 := cell_of_heap hx1 0 _ rfl))
      go_returns
      exact ⟨hfin _ _ _ ho1 rfl, (hb0.alloc hb0.size _).grown hg1 (by simp; omega) (fun k hk => by simp [Value.ownBlock] at hk)⟩
  · by_cases h2 : kB k = true
    · have hc : k = 3 ∨ k = 7 := by simp [kB] at h2; omega
      clear h1 h2
      rcases hc with rfl | rfl
      all_goals
        go_enter Try.func43, Try.ntmps43
        go_wp2_with (first
          | (at_builtin; refine append_one rfl _ _ rfl V1 [a] rfl (ho1.alloc _) w1.heap.size b rfl (heap_alloc_new w1 (.cells #[.int .i64 b] 3)) (by simp) ?_; intro V2 w2 ho2 hg2 hat2)
          | (at_builtin; go_must (refine append_one rfl _ _ rfl (.slice none 0 0) [] rfl (OwnN.nil _) (w.heap.size + 1) a rfl (by simpa using heap_alloc_new (w.alloc _) (.cells #[.int .i64 a] 3)) (by simp) ?_); intro V1 w1 ho1 hg1 hat1; have hx1 := (hg1.block w.heap.size (by simp <;> omega) (by simp [Value.ownBlock])).trans (alloc_keeps bx (.cells #[.int .i64 a] 3)); have c0 := cell_of_heap hx1 0 _ rfl; have c4 := cell_of_heap hx1 4 _ rfl))
        go_returns
        have hs1 := hg1.size
        have hB1 : Below w.heap.size w w1 := (hb0.alloc hb0.size _).grown hg1 (by simp; omega) (fun k hk => by simp [Value.ownBlock] at hk)
        exact ⟨hfin _ _ _ ho2 rfl, (hB1.alloc hB1.size _).grown hg2 (by have := hB1.size; simp; omega) (fun k hk => by
          rcases hat1 with hh | hh
          · rw [hh] at hk; simp [Value.ownBlock] at hk
          · rw [hh] at hk; injection hk with hk; simp at hk; omega)⟩
    · have hkB : kB k = false := by simpa using h2
      have hkA : kA k = false := by
        by_cases hh : kA k = true
        · exact absurd ⟨hh, hkB⟩ h1
        · simpa using hh
      clear h1 h2
      have q2 : (k == 2) = false := by simp [kA] at hkA; simp; omega
      have q3 : (k == 3) = false := by simp [kA] at hkA; simp; omega
      have q4 : (k == 4) = false := by simp [kA] at hkA; simp; omega
      have q6 : (k == 6) = false := by simp [kA] at hkA; simp; omega
      have q7 : (k == 7) = false := by simp [kA] at hkA; simp; omega
      have q10 : (k == 10) = false := by simp [kA] at hkA; simp; omega
      have q12 : (k == 12) = false := by simp [kA] at hkA; simp; omega
      have q13 : (k == 13) = false := by simp [kA] at hkA; simp; omega
      by_cases h8 : k = 8
      · subst h8
        clear q2 q3 q4 q6 q7 q10 q12 q13 hkA hkB
        have hu : ∀ m : Nat, (m ≤ 6 ∧ (m = 6 ∨ (n ≤ m)) ∧ ((m : Int) ≤ n ∨ m = 0)) → Ins.uses ⟨8, op, dst, a, b, n, text, r0, r1, r2, r3, r4, r5, to_, els⟩ = [r0, r1, r2, r3, r4, r5].take m := fun m ⟨h1, h2, h3⟩ => by
          show [r0, r1, r2, r3, r4, r5].take n.toNat = _
          by_cases h6 : m = 6
          · subst h6
            rw [List.take_of_length_le (by simp; omega), List.take_of_length_le (by simp)]
          · rw [show n.toNat = m by omega]
        have HU := Lib.hid hu
        clear hu
        go_enter Try.func43, Try.ntmps43
        go_wp2
        obtain ⟨wB, hwB⟩ : ∃ wB, wB = w.alloc (.cells #[.int .i64 8, .int .i64 op, .int .i64 dst, .int .i64 a, .int .i64 b, .int .i64 n, .string text, .int .i64 r0, .int .i64 r1, .int .i64 r2, .int .i64 r3, .int .i64 r4, .int .i64 r5, .int .i64 to_, .int .i64 els] 38) := ⟨_, rfl⟩
        have hsz : wB.heap.size = w.heap.size + 1 := by rw [hwB]; simp
        rw [← hwB] at hb0 bx ⊢
        clear hwB
        go_loopw [3, 5] (fun V i w8 => ∃ m : Nat, m ≤ 6 ∧ ((m : Int) ≤ n ∨ m = 0) ∧ i = .int .i64 m ∧ Below wB.heap.size wB w8 ∧ ∃ U, V = U ∧ OwnN w8 U ([r0, r1, r2, r3, r4, r5].take m) ∧ ∀ b, U.ownBlock = some b → wB.heap.size ≤ b) (fun _ i _ => 6 - (intOf i).toNat)
        case atStart => exact ⟨0, by omega, .inr rfl, rfl, Below.refl _ _, _, rfl, OwnN.nil _, fun b hb => by simp [Value.ownBlock] at hb⟩
        case round =>
          obtain ⟨m, hm, hmn, rfl, hb, V, hVu, hO, hOb⟩ := hrel
          have hVu2 := hVu.symm
          subst hVu2
          have bxr := (hb.block _ (Array.getElem?_eq_some_iff.1 bx).1).trans bx
          have c5 := cell_of_heap bxr 5 (.int .i64 n) rfl
          by_cases hlt : (m : Int) < n
          · by_cases h6 : m < 6
            · have qa : decide ((m : Int) < n) = true := by simpa using hlt
              have hx : ∃ x, [r0, r1, r2, r3, r4, r5][m]? = some x ∧ wr.cell? ⟨w.heap.size, 7 + m, none⟩ = some (.int .i64 x) := by
                have hc : m = 0 ∨ m = 1 ∨ m = 2 ∨ m = 3 ∨ m = 4 ∨ m = 5 := by omega
                rcases hc with rfl | rfl | rfl | rfl | rfl | rfl <;> exact ⟨_, rfl, cell_of_heap bxr _ _ rfl⟩
              obtain ⟨x, hx1, hx2⟩ := hx
              have htk : [r0, r1, r2, r3, r4, r5].take (m + 1) = [r0, r1, r2, r3, r4, r5].take m ++ [x] := by rw [List.take_add_one, hx1]; rfl
              have HTK := Lib.hid htk
              clear htk hx1
              have HLE := Lib.hid (show ([r0, r1, r2, r3, r4, r5].take m).length ≤ 90000 by rw [List.length_take]; omega)
              go_wp2_with (first
                | (at_builtin; go_must (refine append_one rfl _ _ rfl V ([r0, r1, r2, r3, r4, r5].take m) rfl (hO.alloc _) wr.heap.size x rfl (heap_alloc_new wr (.cells #[.int .i64 x] 3)) HLE.out ?_); intro V2 w2 ho2 hg2 hat2))
              refine ⟨⟨m + 1, by omega, .inl (by omega), by simp, (hb.alloc hb.size _).grown hg2 (by have := hb.size; simp; omega) hOb, _, rfl, by rw [HTK.out]; exact ho2, fun b hb4 => ?_⟩, by simp [intOf]; omega⟩
              rcases hat2 with hh | hh
              · exact hOb b (by rw [← hh, hb4])
              · rw [hb4] at hh
                injection hh with hh
                have := hb.size
                simp at hh
                omega
            · obtain rfl : m = 6 := by omega
              have qa : decide ((6 : Int) < n) = true := by simpa using hlt
              go_wp2
              go_returns
              exact ⟨hfin _ _ _ hO (HU.out 6 ⟨hm, .inl rfl, hmn⟩), hb0.trans (hb.mono (by omega))⟩
          · have qa : decide ((m : Int) < n) = false := by simpa using hlt
            go_wp2
            go_returns
            exact ⟨hfin _ _ _ hO (HU.out m ⟨hm, .inr (by omega), hmn⟩), hb0.trans (hb.mono (by omega))⟩
      · have q8 : (k == 8) = false := by simpa using h8
        have hu : Ins.uses ⟨k, op, dst, a, b, n, text, r0, r1, r2, r3, r4, r5, to_, els⟩ = [] := by simp [Ins.uses, hkA, hkB, h8]
        have HU := Lib.hid hu
        clear hu hkA hkB h8
        go_enter Try.func43, Try.ntmps43
        go_wp2
        go_returns
        exact ⟨hfin _ _ _ (OwnN.nil _) HU.out, hb0⟩
set_option maxRecDepth 1000000 in
set_option maxHeartbeats 4000000 in
theorem refSets_any (i : Ins) (w : World) : Calls Try.prog 26 #[i.agg] w fun e w' => e = .returned (.int .i64 i.sets) ∧ Below w.heap.size w w' := by
  obtain ⟨k, op, dst, a, b, n, text, r0, r1, r2, r3, r4, r5, to_, els⟩ := i
  have hb0 := Below.one w (Ins.obj ⟨k, op, dst, a, b, n, text, r0, r1, r2, r3, r4, r5, to_, els⟩)
  simp only [Ins.obj, Ins.agg, Ins.sets] at hb0 ⊢
  have hc : (decide (k ≥ 1) = true ∧ decide (1 ≤ k) = true ∧ decide (k ≤ 6) = true ∧ kS k = true) ∨ (decide (k ≥ 1) = true ∧ decide (1 ≤ k) = true ∧ decide (k ≤ 6) = false ∧ (k == 8) = true ∧ kS k = true) ∨ (decide (k ≥ 1) = true ∧ decide (1 ≤ k) = true ∧ decide (k ≤ 6) = false ∧ (k == 8) = false ∧ (k == 9) = true ∧ kS k = true) ∨
      (decide (k ≥ 1) = true ∧ decide (1 ≤ k) = true ∧ decide (k ≤ 6) = false ∧ (k == 8) = false ∧ (k == 9) = false ∧ kS k = false) ∨ (decide (k ≥ 1) = false ∧ decide (1 ≤ k) = false ∧ (k == 8) = false ∧ (k == 9) = false ∧ kS k = false) := by
    simp [kS]; omega
  rcases hc with ⟨q1, q2, q3, q4⟩ | ⟨q1, q2, q3, q5, q4⟩ | ⟨q1, q2, q3, q5, q6, q4⟩ | ⟨q1, q2, q3, q5, q6, q4⟩ | ⟨q1, q2, q5, q6, q4⟩
  all_goals
    rw [q4]
    clear q4
    go_enter Try.func26, Try.ntmps26
    go_wp2
    go_returns
    exact ⟨rfl, hb0⟩
set_option maxRecDepth 1000000 in
set_option maxHeartbeats 4000000 in
theorem refNext_any (i : Ins) (p : Int) (hp : 0 ≤ p ∧ p ≤ 100000) (w : World) : Calls Try.prog 27 #[i.agg, .int .i64 p] w fun e w' => SlN (i.next p) e w' ∧ Below w.heap.size w w' := by
  obtain ⟨k, op, dst, a, b, n, text, r0, r1, r2, r3, r4, r5, to_, els⟩ := i
  have hb0 := Below.one w (Ins.obj ⟨k, op, dst, a, b, n, text, r0, r1, r2, r3, r4, r5, to_, els⟩)
  have bx := heap_alloc_new w (Ins.obj ⟨k, op, dst, a, b, n, text, r0, r1, r2, r3, r4, r5, to_, els⟩)
  simp only [Ins.obj, Ins.agg, Ins.next] at hb0 bx ⊢
  have hwr : wrap64 (p + 1) = p + 1 := by unfold wrap64; omega
  have hone : ∀ (W : World) (x : Int), RdN (W.alloc (.cells #[.int .i64 x] 3)) (some ⟨W.heap.size, 0, none⟩) [x] := fun W x j y hj => by
    cases j with
    | succ j => simp at hj
    | zero =>
      simp at hj
      subst hj
      exact ⟨W.heap.size, 0, rfl, by simp, cell_of_heap (heap_alloc_new W (.cells #[.int .i64 x] 3)) 0 _ rfl⟩
  have htwo : ∀ (W : World) (x y : Int), RdN (W.alloc (.cells #[.int .i64 x, .int .i64 y] 3)) (some ⟨W.heap.size, 0, none⟩) [x, y] := fun W x y j z hj => by
    have hn := heap_alloc_new W (.cells #[.int .i64 x, .int .i64 y] 3)
    match j with
    | 0 => simp at hj; subst hj; exact ⟨W.heap.size, 0, rfl, by simp, cell_of_heap hn 0 _ rfl⟩
    | 1 => simp at hj; subst hj; exact ⟨W.heap.size, 0, rfl, by simp, cell_of_heap hn 1 _ rfl⟩
    | j + 2 => simp at hj
  have h1 := hone (w.alloc (Ins.obj ⟨k, op, dst, a, b, n, text, r0, r1, r2, r3, r4, r5, to_, els⟩))
  have h2 := htwo (w.alloc (Ins.obj ⟨k, op, dst, a, b, n, text, r0, r1, r2, r3, r4, r5, to_, els⟩))
  simp only [Ins.obj] at h1 h2
  rw [show (w.alloc (Ins.obj ⟨k, op, dst, a, b, n, text, r0, r1, r2, r3, r4, r5, to_, els⟩)).heap.size = w.heap.size + 1 by simp] at h1 h2
  by_cases e11 : k = 11
  · subst e11
    go_enter Try.func27, Try.ntmps27
    go_wp2
    go_returns
    exact ⟨⟨_, 1, rfl, h1 _⟩, hb0.alloc hb0.size _⟩
  · rw [if_neg e11]
    have q1 : (k == 11) = false := by simpa using e11
    by_cases e12 : k = 12
    · subst e12
      go_enter Try.func27, Try.ntmps27
      go_wp2
      go_returns
      exact ⟨⟨_, 2, rfl, h2 _ _⟩, hb0.alloc hb0.size _⟩
    · rw [if_neg e12]
      have q2 : (k == 12) = false := by simpa using e12
      by_cases e13 : k = 13
      · subst e13
        go_enter Try.func27, Try.ntmps27
        go_wp2
        go_returns
        exact ⟨⟨none, 0, rfl, fun j y hj => by simp at hj⟩, hb0⟩
      · rw [if_neg e13]
        have q3 : (k == 13) = false := by simpa using e13
        clear e11 e12 e13
        go_enter Try.func27, Try.ntmps27
        go_wp2
        go_returns
        exact ⟨⟨_, 1, rfl, h1 _⟩, hb0.alloc hb0.size _⟩
end Go.Proofs.Ytaofdbboalcceaa
