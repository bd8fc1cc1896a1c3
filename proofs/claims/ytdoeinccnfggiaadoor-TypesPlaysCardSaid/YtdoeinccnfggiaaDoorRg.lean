import Derived.Test.YtdoeinccnfggiaaDoorRf
namespace Go.Proofs.YtdoeinccnfggiaaDoor
open Go.RowKit Go.BigFrame

set_option maxRecDepth 1000000 in
set_option maxHeartbeats 4000000 in
/-- the document's Array -/
theorem refArray_any {w : World} {F : Nat → Prop} {v : Value} {T : List Ty} {Ds : List (ByteArray × List Fld)} (h : RT w F v T Ds) (hne : ∀ d ∈ Ds, 0 < d.2.length) (hD : Ds.length ≤ 1000) (hDl : ∀ d ∈ Ds, d.2.length ≤ 1000) (hF : ∀ k, F k → k < w.heap.size) (hT : 1 ≤ T.length ∧ T.length ≤ 256) (K : Nat) (a n : Int) (hd : deep T (look Ds) K a)
    (hpos : (sz T (look Ds) K a).2 = decide (0 < (sz T (look Ds) K a).1)) :
    Calls Tryd.prog 28 #[v, .int .i64 a, .int .i64 n] w fun e w' => (∃ v', e = .returned (.tuple #[v', .int .i64 (arrL T (look Ds) K a n).2.1, .int .i64 (arrL T (look Ds) K a n).2.2]) ∧ RT w' F v' (arrL T (look Ds) K a n).1 Ds) ∧ Below w.heap.size w w' := by
  have hbd := deep_bound K a hd
  have hs := fun w' (h' : RT w' F v T Ds) => refSize_any hne hD hDl K a w' h' hd
  have hi0 := fun (o o' : Obj) => refIs_any (h.below hne (Below.two w o o')) a
  obtain ⟨A, cap, B, cap2, rfl, h1, h2⟩ := id h
  obtain ⟨L, hL⟩ : ∃ L, T.length = L := ⟨_, rfl⟩
  obtain ⟨L2, hL2⟩ : ∃ L2, Ds.length = L2 := ⟨_, rfl⟩
  rw [hL, hL2] at h hs hi0
  rw [hL, hL2]
  clear hL hL2 h1 h2 hd
  have hi := fun (_ : Unit) => hi0 (oT A L cap B L2 cap2) (oT none 0 0 none 0 0)
  clear hi0
  unfold arrL
  generalize sz T (look Ds) K a = S at *
  obtain ⟨S1, S2⟩ := S
  simp only at hbd hs ⊢
  have hpos' : S2 = decide (0 < S1) := hpos
  clear hpos
  subst hpos'
  cases hp : (atT T a).isSome
  · rw [hp] at hi
    rw [if_pos rfl]
    go_enter Tryd.func28, Tryd.ntmps28
    go_wp2_with (first
      | (go_at_call 36; refine (hi ()).mono ?_; rintro e w1 ⟨rfl, hb1⟩; obtain ⟨q0, q1, hbb⟩ := box2 hb1; have a0 := cell_of_heap q0 0 (.slice A L cap) rfl; have a1 := cell_of_heap q0 1 (.slice B L2 cap2) rfl; have r0 := cell_of_heap q1 0 (.slice none 0 0) rfl; have r1 := cell_of_heap q1 1 (.slice none 0 0) rfl; have z0 := free_of_heap q1 0; have z1 := free_of_heap q1 1; obtain ⟨f2, f3⟩ := res_two q1))
    (try simp only [Exit.inBlock, Exit.then])
    have hB : ∀ u v, Below w.heap.size w ((w1.setCell ⟨w.heap.size + 1, 0, none⟩ u).setCell ⟨w.heap.size + 1, 1, none⟩ v) := fun u v => (hbb.setCell (p := ⟨w.heap.size + 1, 0, none⟩) (by simp) u).setCell (p := ⟨w.heap.size + 1, 1, none⟩) (by simp) v
    refine bodyPost_ret (by simp [results, Tryd.results28, go_sem, f2, f3]; try rfl) rfl ?_
    exact ⟨⟨_, rfl, h.below hne (hB _ _)⟩, hB _ _⟩
  · rw [hp] at hi
    rw [if_neg (by simp)]
    by_cases hz : S1 = 0
    · subst hz
      rw [if_pos (by decide)]
      go_enter Tryd.func28, Tryd.ntmps28
      go_wp2_with (first
        | (go_at_call 36; refine (hi ()).mono ?_; rintro e w1 ⟨rfl, hb1⟩; obtain ⟨q0, q1, hbb⟩ := box2 hb1; have a0 := cell_of_heap q0 0 (.slice A L cap) rfl; have a1 := cell_of_heap q0 1 (.slice B L2 cap2) rfl)
        | (go_at_call 33; refine (hs w1 (h.below hne hbb)).mono ?_; rintro e w2 ⟨rfl, hb2⟩; have q2 := (hb2.block _ (Array.getElem?_eq_some_iff.1 q1).1).trans q1; have q3 := (hb2.block _ (Array.getElem?_eq_some_iff.1 q0).1).trans q0; have a2 := cell_of_heap q3 0 (.slice A L cap) rfl; have a3 := cell_of_heap q3 1 (.slice B L2 cap2) rfl; have hbb2 := hbb.trans (hb2.mono hbb.size); have r0 := cell_of_heap q2 0 (.slice none 0 0) rfl; have r1 := cell_of_heap q2 1 (.slice none 0 0) rfl; have z0 := free_of_heap q2 0; have z1 := free_of_heap q2 1; obtain ⟨f2, f3⟩ := res_two q2))
      (try simp only [Exit.inBlock, Exit.then])
      have hB : ∀ u v, Below w.heap.size w ((w2.setCell ⟨w.heap.size + 1, 0, none⟩ u).setCell ⟨w.heap.size + 1, 1, none⟩ v) := fun u v => (hbb2.setCell (p := ⟨w.heap.size + 1, 0, none⟩) (by simp) u).setCell (p := ⟨w.heap.size + 1, 1, none⟩) (by simp) v
      refine bodyPost_ret (by simp [results, Tryd.results28, go_sem, f2, f3]; try rfl) rfl ?_
      exact ⟨⟨_, rfl, h.below hne (hB _ _)⟩, hB _ _⟩
    · have qz : (S1 == 0) = false := by simpa using hz
      rw [if_neg (by simp; omega)]
      by_cases hbad : n < 1 ∨ 1024 < n ∨ 4096 < S1 * n
      · rw [if_pos hbad]
        by_cases h1 : n < 1
        · have q1' : decide (n < 1) = true := by simpa using h1
          clear h1 hbad hz
          go_enter Tryd.func28, Tryd.ntmps28
          go_wp2_with (first
            | (go_at_call 36; refine (hi ()).mono ?_; rintro e w1 ⟨rfl, hb1⟩; obtain ⟨q0, q1, hbb⟩ := box2 hb1; have a0 := cell_of_heap q0 0 (.slice A L cap) rfl; have a1 := cell_of_heap q0 1 (.slice B L2 cap2) rfl)
            | (go_at_call 33; refine (hs w1 (h.below hne hbb)).mono ?_; rintro e w2 ⟨rfl, hb2⟩; have q2 := (hb2.block _ (Array.getElem?_eq_some_iff.1 q1).1).trans q1; have q3 := (hb2.block _ (Array.getElem?_eq_some_iff.1 q0).1).trans q0; have a2 := cell_of_heap q3 0 (.slice A L cap) rfl; have a3 := cell_of_heap q3 1 (.slice B L2 cap2) rfl; have hbb2 := hbb.trans (hb2.mono hbb.size); have r0 := cell_of_heap q2 0 (.slice none 0 0) rfl; have r1 := cell_of_heap q2 1 (.slice none 0 0) rfl; have z0 := free_of_heap q2 0; have z1 := free_of_heap q2 1; obtain ⟨f2, f3⟩ := res_two q2))
          (try simp only [Exit.inBlock, Exit.then])
          have hB : ∀ u v, Below w.heap.size w ((w2.setCell ⟨w.heap.size + 1, 0, none⟩ u).setCell ⟨w.heap.size + 1, 1, none⟩ v) := fun u v => (hbb2.setCell (p := ⟨w.heap.size + 1, 0, none⟩) (by simp) u).setCell (p := ⟨w.heap.size + 1, 1, none⟩) (by simp) v
          refine bodyPost_ret (by simp [results, Tryd.results28, go_sem, f2, f3]; try rfl) rfl ?_
          exact ⟨⟨_, rfl, h.below hne (hB _ _)⟩, hB _ _⟩
        · have q1' : decide (n < 1) = false := by simp; omega
          by_cases h2 : 1024 < n
          · have q2' : decide (n > 1024) = true := by simpa using h2
            clear h1 h2 hbad hz
            go_enter Tryd.func28, Tryd.ntmps28
            go_wp2_with (first
              | (go_at_call 36; refine (hi ()).mono ?_; rintro e w1 ⟨rfl, hb1⟩; obtain ⟨q0, q1, hbb⟩ := box2 hb1; have a0 := cell_of_heap q0 0 (.slice A L cap) rfl; have a1 := cell_of_heap q0 1 (.slice B L2 cap2) rfl)
              | (go_at_call 33; refine (hs w1 (h.below hne hbb)).mono ?_; rintro e w2 ⟨rfl, hb2⟩; have q2 := (hb2.block _ (Array.getElem?_eq_some_iff.1 q1).1).trans q1; have q3 := (hb2.block _ (Array.getElem?_eq_some_iff.1 q0).1).trans q0; have a2 := cell_of_heap q3 0 (.slice A L cap) rfl; have a3 := cell_of_heap q3 1 (.slice B L2 cap2) rfl; have hbb2 := hbb.trans (hb2.mono hbb.size); have r0 := cell_of_heap q2 0 (.slice none 0 0) rfl; have r1 := cell_of_heap q2 1 (.slice none 0 0) rfl; have z0 := free_of_heap q2 0; have z1 := free_of_heap q2 1; obtain ⟨f2, f3⟩ := res_two q2))
            (try simp only [Exit.inBlock, Exit.then])
            have hB : ∀ u v, Below w.heap.size w ((w2.setCell ⟨w.heap.size + 1, 0, none⟩ u).setCell ⟨w.heap.size + 1, 1, none⟩ v) := fun u v => (hbb2.setCell (p := ⟨w.heap.size + 1, 0, none⟩) (by simp) u).setCell (p := ⟨w.heap.size + 1, 1, none⟩) (by simp) v
            refine bodyPost_ret (by simp [results, Tryd.results28, go_sem, f2, f3]; try rfl) rfl ?_
            exact ⟨⟨_, rfl, h.below hne (hB _ _)⟩, hB _ _⟩
          · have q2' : decide (n > 1024) = false := by simp; omega
            have hm1 : 0 ≤ S1 * n := Int.mul_nonneg hbd.1 (by omega)
            have hm2 : S1 * n ≤ 5000000 * 1024 := Int.mul_le_mul hbd.2 (by omega) (by omega) (by omega)
            have hwr : wrap64 (n * S1) = n * S1 := by rw [Int.mul_comm]; unfold wrap64; omega
            have q3' : decide (n * S1 > 4096) = true := by rw [Int.mul_comm]; simp; omega
            clear h1 h2 hbad hz hm1 hm2
            go_enter Tryd.func28, Tryd.ntmps28
            go_wp2_with (first
              | (go_at_call 33; refine (hs w2 (h.below hne hbb2)).mono ?_; rintro e w3 ⟨rfl, hb3⟩; have q4 := (hb3.block _ (Array.getElem?_eq_some_iff.1 q2).1).trans q2; have q5 := (hb3.block _ (Array.getElem?_eq_some_iff.1 q3).1).trans q3; have a4 := cell_of_heap q5 0 (.slice A L cap) rfl; have a5 := cell_of_heap q5 1 (.slice B L2 cap2) rfl; have hbb3 := hbb2.trans (hb3.mono hbb2.size); have r0 := cell_of_heap q4 0 (.slice none 0 0) rfl; have r1 := cell_of_heap q4 1 (.slice none 0 0) rfl; have z0 := free_of_heap q4 0; have z1 := free_of_heap q4 1; obtain ⟨f2, f3⟩ := res_two q4)
              | (go_at_call 36; refine (hi ()).mono ?_; rintro e w1 ⟨rfl, hb1⟩; obtain ⟨q0, q1, hbb⟩ := box2 hb1; have a0 := cell_of_heap q0 0 (.slice A L cap) rfl; have a1 := cell_of_heap q0 1 (.slice B L2 cap2) rfl)
              | (go_at_call 33; refine (hs w1 (h.below hne hbb)).mono ?_; rintro e w2 ⟨rfl, hb2⟩; have q2 := (hb2.block _ (Array.getElem?_eq_some_iff.1 q1).1).trans q1; have q3 := (hb2.block _ (Array.getElem?_eq_some_iff.1 q0).1).trans q0; have a2 := cell_of_heap q3 0 (.slice A L cap) rfl; have a3 := cell_of_heap q3 1 (.slice B L2 cap2) rfl; have hbb2 := hbb.trans (hb2.mono hbb.size)))
            (try simp only [Exit.inBlock, Exit.then])
            have hB : ∀ u v, Below w.heap.size w ((w3.setCell ⟨w.heap.size + 1, 0, none⟩ u).setCell ⟨w.heap.size + 1, 1, none⟩ v) := fun u v => (hbb3.setCell (p := ⟨w.heap.size + 1, 0, none⟩) (by simp) u).setCell (p := ⟨w.heap.size + 1, 1, none⟩) (by simp) v
            refine bodyPost_ret (by simp [results, Tryd.results28, go_sem, f2, f3]; try rfl) rfl ?_
            exact ⟨⟨_, rfl, h.below hne (hB _ _)⟩, hB _ _⟩
      · rw [if_neg hbad]
        have q1' : decide (n < 1) = false := by simp; omega
        have q2' : decide (n > 1024) = false := by simp; omega
        have hm1 : 0 ≤ S1 * n := Int.mul_nonneg hbd.1 (by omega)
        have hm2 : S1 * n ≤ 5000000 * 1024 := Int.mul_le_mul hbd.2 (by omega) (by omega) (by omega)
        have hwr : wrap64 (n * S1) = n * S1 := by rw [Int.mul_comm]; unfold wrap64; omega
        have q3' : decide (n * S1 > 4096) = false := by rw [Int.mul_comm]; simp; omega
        clear hbad hz hm1 hm2
        go_enter Tryd.func28, Tryd.ntmps28
        go_wp2_with (first
          | (go_at_call 33; refine (hs w2 (h.below hne hbb2)).mono ?_; rintro e w3 ⟨rfl, hb3⟩; have q4 := (hb3.block _ (Array.getElem?_eq_some_iff.1 q2).1).trans q2; have q5 := (hb3.block _ (Array.getElem?_eq_some_iff.1 q3).1).trans q3; have a4 := cell_of_heap q5 0 (.slice A L cap) rfl; have a5 := cell_of_heap q5 1 (.slice B L2 cap2) rfl; have hbb3 := hbb2.trans (hb3.mono hbb2.size))
          | (go_at_call 36; refine (hi ()).mono ?_; rintro e w1 ⟨rfl, hb1⟩; obtain ⟨q0, q1, hbb⟩ := box2 hb1; have a0 := cell_of_heap q0 0 (.slice A L cap) rfl; have a1 := cell_of_heap q0 1 (.slice B L2 cap2) rfl)
          | (go_at_call 33; refine (hs w1 (h.below hne hbb)).mono ?_; rintro e w2 ⟨rfl, hb2⟩; have q2 := (hb2.block _ (Array.getElem?_eq_some_iff.1 q1).1).trans q1; have q3 := (hb2.block _ (Array.getElem?_eq_some_iff.1 q0).1).trans q0; have a2 := cell_of_heap q3 0 (.slice A L cap) rfl; have a3 := cell_of_heap q3 1 (.slice B L2 cap2) rfl; have hbb2 := hbb.trans (hb2.mono hbb.size))
          | (go_at_call 37; refine (refPut_any (h.avoid hne hbb3 (r := w.heap.size + 1) (Nat.le_add_right _ _)) hne (fun k hk => by rcases hk with hk | rfl; exact Nat.lt_of_lt_of_le (hF k hk) hbb3.size; exact (Array.getElem?_eq_some_iff.1 q4).1) hT ⟨5, a, n, ⟨#[]⟩⟩).mono ?_; rintro e w4 ⟨⟨v2, rfl, hR2⟩, hb4⟩; obtain ⟨A3, c3, B3, c4, rfl, k1, k2⟩ := id hR2; have q6 := (hb4.block _ (Array.getElem?_eq_some_iff.1 q4).1).trans q4; have hbb4 := hbb3.trans (hb4.mono hbb3.size); have r0 := cell_of_heap q6 0 (.slice none 0 0) rfl; have r1 := cell_of_heap q6 1 (.slice none 0 0) rfl; have z0 := free_of_heap q6 0; have z1 := free_of_heap q6 1; obtain ⟨f2, f3⟩ := res_two q6))
        (try simp only [Exit.inBlock, Exit.then])
        have hB : ∀ u v, Below w.heap.size w ((w4.setCell ⟨w.heap.size + 1, 0, none⟩ u).setCell ⟨w.heap.size + 1, 1, none⟩ v) := fun u v => (hbb4.setCell (p := ⟨w.heap.size + 1, 0, none⟩) (by simp) u).setCell (p := ⟨w.heap.size + 1, 1, none⟩) (by simp) v
        refine bodyPost_ret (by simp [results, Tryd.results28, go_sem, f2, f3]; try rfl) rfl ?_
        exact ⟨⟨_, rfl, hR2.stored hne _ _⟩, hB _ _⟩
end Go.Proofs.YtdoeinccnfggiaaDoor
