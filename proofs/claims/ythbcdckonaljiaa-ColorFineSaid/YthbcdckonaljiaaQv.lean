import Derived.Test.YthbcdckonaljiaaZe1
namespace Go.Proofs.Ythbcdckonaljiaa
open Go.RowKit Go.BigFrame

def OwU (base : Nat) (l : List Int) (e : Ending) (w : World) : Prop := ∃ V, e = .returned V ∧ OwnN w V l ∧ ∀ b, V.ownBlock = some b → base ≤ b
set_option maxRecDepth 1000000 in
set_option maxHeartbeats 4000000 in
theorem Uses_callO (op dst a b n : Int) (text : ByteArray) (r0 r1 r2 r3 r4 r5 to_ els : Int) (w : World) : Calls Try.prog 58 #[Ins.agg ⟨8, op, dst, a, b, n, text, r0, r1, r2, r3, r4, r5, to_, els⟩] w fun e w' => OwU w.heap.size (Ins.uses ⟨8, op, dst, a, b, n, text, r0, r1, r2, r3, r4, r5, to_, els⟩) e w' ∧ Below w.heap.size w w' := by
  have hk := fun w => uses_any 8 w
  rw [show kA 8 = false from rfl, show kB 8 = false from rfl] at hk
  have hu : Ins.uses ⟨8, op, dst, a, b, n, text, r0, r1, r2, r3, r4, r5, to_, els⟩ = [r0, r1, r2, r3, r4, r5].take n.toNat := rfl
  rw [hu]
  clear hu
  have hb0 := Below.one w (Ins.obj ⟨8, op, dst, a, b, n, text, r0, r1, r2, r3, r4, r5, to_, els⟩)
  have bx := heap_alloc_new w (Ins.obj ⟨8, op, dst, a, b, n, text, r0, r1, r2, r3, r4, r5, to_, els⟩)
  have hR : ∀ m, m ≤ 6 → RdN (w.alloc (Ins.obj ⟨8, op, dst, a, b, n, text, r0, r1, r2, r3, r4, r5, to_, els⟩)) (some ⟨w.heap.size, 7, none⟩) ([r0, r1, r2, r3, r4, r5].take m) := fun m hm j x hj => by
    rw [List.getElem?_take] at hj
    by_cases hjm : j < m
    · rw [if_pos hjm] at hj
      refine ⟨w.heap.size, 7, rfl, by simp, ?_⟩
      have hc : j = 0 ∨ j = 1 ∨ j = 2 ∨ j = 3 ∨ j = 4 ∨ j = 5 := by omega
      rcases hc with rfl | rfl | rfl | rfl | rfl | rfl <;> (simp at hj; subst hj; exact cell_of_heap bx _ _ rfl)
    · rw [if_neg hjm] at hj
      cases hj
  have hap : ∀ m, 1 ≤ m → m ≤ 6 → ∃ V' w', (Builtin.append_ #[45, 45] 45 #[.slice none 0 0, .slice (some ⟨w.heap.size, 7, none⟩) m 6]).run Try.prog (w.alloc (Ins.obj ⟨8, op, dst, a, b, n, text, r0, r1, r2, r3, r4, r5, to_, els⟩)) = .ok V' w' ∧ OwnN w' V' ([r0, r1, r2, r3, r4, r5].take m) ∧ Below w.heap.size w w' ∧ ∀ b, V'.ownBlock = some b → w.heap.size ≤ b := fun m h1 h6 => by
    have hlen : ([r0, r1, r2, r3, r4, r5].take m).length = m := by rw [List.length_take]; simp; omega
    obtain ⟨V', w', hr, ho, hg, hat⟩ := run_append_n (w.alloc (Ins.obj ⟨8, op, dst, a, b, n, text, r0, r1, r2, r3, r4, r5, to_, els⟩)) 45 (.slice none 0 0) [] (OwnN.nil _) (some ⟨w.heap.size, 7, none⟩) ([r0, r1, r2, r3, r4, r5].take m) 6 (hR m h6) (by omega) (by simp; omega)
    rw [hlen] at hr
    exact ⟨V', w', hr, by simpa using ho, hb0.grown hg hb0.size (fun k hk => by simp [Value.ownBlock] at hk), fun b hb => by
      rcases hat with h | h
      · rw [h] at hb; simp [Value.ownBlock] at hb
      · rw [h] at hb; injection hb with hb; simp at hb; omega⟩
  simp only [Ins.obj] at hb0 hap
  simp only [Ins.agg]
  clear hR bx
  by_cases hn : n ≤ 0
  · have ht : n.toNat = 0 := by omega
    rw [ht]
    clear ht hap
    have hc : n < 0 ∨ n = 0 := by omega
    clear hn
    rcases hc with hc | rfl
    all_goals
      go_enter Try.func58, Try.ntmps58
      go_wp2_with (first
        | (go_at_call 84; refine (hk _).mono ?_; rintro e w1 ⟨rfl, hw⟩; subst hw))
      go_returns
      exact ⟨⟨.slice none 0 0, rfl, OwnN.nil _, fun b hb => by simp [Value.ownBlock] at hb⟩, hb0⟩
  · have hc : n = 1 ∨ n = 2 ∨ n = 3 ∨ n = 4 ∨ n = 5 ∨ n = 6 ∨ 6 < n := by omega
    clear hn
    rcases hc with rfl | rfl | rfl | rfl | rfl | rfl | h6
    · obtain ⟨V', w', hr, ho, hb, hfr⟩ := hap 1 (by omega) (by omega)
      clear hap
      go_enter Try.func58, Try.ntmps58
      go_wp2_with (first
        | (go_at_call 84; refine (hk _).mono ?_; rintro e w1 ⟨rfl, hw⟩; subst hw)
        | (at_builtin; refine append_ran (t := 45) rfl _ _ rfl rfl rfl hr ?_))
      go_returns
      exact ⟨⟨V', rfl, ho, hfr⟩, hb⟩
    · obtain ⟨V', w', hr, ho, hb, hfr⟩ := hap 2 (by omega) (by omega)
      clear hap
      go_enter Try.func58, Try.ntmps58
      go_wp2_with (first
        | (go_at_call 84; refine (hk _).mono ?_; rintro e w1 ⟨rfl, hw⟩; subst hw)
        | (at_builtin; refine append_ran (t := 45) rfl _ _ rfl rfl rfl hr ?_))
      go_returns
      exact ⟨⟨V', rfl, ho, hfr⟩, hb⟩
    · obtain ⟨V', w', hr, ho, hb, hfr⟩ := hap 3 (by omega) (by omega)
      clear hap
      go_enter Try.func58, Try.ntmps58
      go_wp2_with (first
        | (go_at_call 84; refine (hk _).mono ?_; rintro e w1 ⟨rfl, hw⟩; subst hw)
        | (at_builtin; refine append_ran (t := 45) rfl _ _ rfl rfl rfl hr ?_))
      go_returns
      exact ⟨⟨V', rfl, ho, hfr⟩, hb⟩
    · obtain ⟨V', w', hr, ho, hb, hfr⟩ := hap 4 (by omega) (by omega)
      clear hap
      go_enter Try.func58, Try.ntmps58
      go_wp2_with (first
        | (go_at_call 84; refine (hk _).mono ?_; rintro e w1 ⟨rfl, hw⟩; subst hw)
        | (at_builtin; refine append_ran (t := 45) rfl _ _ rfl rfl rfl hr ?_))
      go_returns
      exact ⟨⟨V', rfl, ho, hfr⟩, hb⟩
    · obtain ⟨V', w', hr, ho, hb, hfr⟩ := hap 5 (by omega) (by omega)
      clear hap
      go_enter Try.func58, Try.ntmps58
      go_wp2_with (first
        | (go_at_call 84; refine (hk _).mono ?_; rintro e w1 ⟨rfl, hw⟩; subst hw)
        | (at_builtin; refine append_ran (t := 45) rfl _ _ rfl rfl rfl hr ?_))
      go_returns
      exact ⟨⟨V', rfl, ho, hfr⟩, hb⟩
    · obtain ⟨V', w', hr, ho, hb, hfr⟩ := hap 6 (by omega) (by omega)
      clear hap
      go_enter Try.func58, Try.ntmps58
      go_wp2_with (first
        | (go_at_call 84; refine (hk _).mono ?_; rintro e w1 ⟨rfl, hw⟩; subst hw)
        | (at_builtin; refine append_ran (t := 45) rfl _ _ rfl rfl rfl hr ?_))
      go_returns
      exact ⟨⟨V', rfl, ho, hfr⟩, hb⟩
    · obtain ⟨V', w', hr, ho, hb, hfr⟩ := hap 6 (by omega) (by omega)
      clear hap
      have hto : [r0, r1, r2, r3, r4, r5].take n.toNat = [r0, r1, r2, r3, r4, r5].take 6 := by rw [List.take_of_length_le (by simp; omega), List.take_of_length_le (by simp)]
      rw [hto]
      clear hto
      go_enter Try.func58, Try.ntmps58
      go_wp2_with (first
        | (go_at_call 84; refine (hk _).mono ?_; rintro e w1 ⟨rfl, hw⟩; subst hw)
        | (at_builtin; refine append_ran (t := 45) rfl _ _ rfl rfl rfl hr ?_))
      go_returns
      exact ⟨⟨V', rfl, ho, hfr⟩, hb⟩
set_option maxRecDepth 1000000 in
set_option maxHeartbeats 4000000 in
theorem Uses_own (i : Ins) (w : World) : Calls Try.prog 58 #[i.agg] w fun e w' => OwU w.heap.size i.uses e w' ∧ Below w.heap.size w w' := by
  obtain ⟨k, op, dst, a, b, n, text, r0, r1, r2, r3, r4, r5, to_, els⟩ := i
  by_cases h8 : k = 8
  · subst h8
    exact Uses_callO op dst a b n text r0 r1 r2 r3 r4 r5 to_ els w
  have q8 : (k == 8) = false := by simpa using h8
  have hb0 := Below.one w (Ins.obj ⟨k, op, dst, a, b, n, text, r0, r1, r2, r3, r4, r5, to_, els⟩)
  have bx := heap_alloc_new w (Ins.obj ⟨k, op, dst, a, b, n, text, r0, r1, r2, r3, r4, r5, to_, els⟩)
  have hk := fun w => uses_any k w
  simp only [Ins.obj, Ins.agg] at hb0 bx ⊢
  cases hA : kA k
  · have hB : kB k = false := by simp [kA] at hA; simp [kB]; omega
    have hu : Ins.uses ⟨k, op, dst, a, b, n, text, r0, r1, r2, r3, r4, r5, to_, els⟩ = [] := by simp [Ins.uses, hA, hB, h8]
    rw [hu]
    rw [hA, hB] at hk
    clear hu hA hB h8
    go_enter Try.func58, Try.ntmps58
    go_wp2_with (first
      | (go_at_call 84; refine (hk _).mono ?_; rintro e w1 ⟨rfl, hw⟩; subst hw))
    go_returns
    exact ⟨⟨.slice none 0 0, rfl, OwnN.nil _, fun b hb => by simp [Value.ownBlock] at hb⟩, hb0⟩
  · cases hB : kB k
    · have hu : Ins.uses ⟨k, op, dst, a, b, n, text, r0, r1, r2, r3, r4, r5, to_, els⟩ = [a] := by simp [Ins.uses, hA, hB, h8]
      rw [hu]
      rw [hA, hB] at hk
      clear hu hA hB h8
      go_enter Try.func58, Try.ntmps58
      go_wp2_with (first
        | (go_at_call 84; refine (hk _).mono ?_; rintro e w1 ⟨rfl, hw⟩; subst hw)
        | (at_builtin; go_must (refine append_one rfl _ _ rfl (.slice none 0 0) [] rfl (OwnN.nil _) (w.heap.size + 1) a rfl (by simpa using heap_alloc_new (w.alloc _) (.cells #[.int .i64 a] 3)) (by simp) ?_); intro V1 w2 ho1 hg1 hat1; have hx1 := (hg1.block w.heap.size (by simp <;> omega) (by simp [Value.ownBlock])).trans (alloc_keeps bx (.cells #[.int .i64 a] 3)); have c0 := cell_of_heap hx1 0 _ rfl))
      go_returns
      exact ⟨⟨V1, rfl, ho1, fun b hb => by
        rcases hat1 with h | h
        · rw [h] at hb; simp [Value.ownBlock] at hb
        · rw [h] at hb; injection hb with hb; simp at hb; omega⟩, (hb0.alloc hb0.size _).grown hg1 (by simp; omega) (fun k hk => by simp [Value.ownBlock] at hk)⟩
    · have hu : Ins.uses ⟨k, op, dst, a, b, n, text, r0, r1, r2, r3, r4, r5, to_, els⟩ = [a, b] := by simp [Ins.uses, hA, hB, h8]
      rw [hu]
      rw [hA, hB] at hk
      clear hu hA hB h8
      go_enter Try.func58, Try.ntmps58
      go_wp2_with (first
        | (go_at_call 84; refine (hk _).mono ?_; rintro e w1 ⟨rfl, hw⟩; subst hw)
        | (at_builtin; refine append_one rfl _ _ rfl V1 [a] rfl (ho1.alloc _) w2.heap.size b rfl (heap_alloc_new w2 (.cells #[.int .i64 b] 3)) (by simp) ?_; intro V2 w3 ho2 hg2 hat2; have hx2 := (hg2.block w.heap.size (by have := hg1.size; simp at this; simp; omega) (fun e => by rcases hat1 with hh | hh; (rw [hh] at e; simp [Value.ownBlock] at e); (rw [hh] at e; injection e with e; simp at e; omega))).trans (alloc_keeps hx1 (.cells #[.int .i64 b] 3)); have d0 := cell_of_heap hx2 0 _ rfl)
        | (at_builtin; go_must (refine append_one rfl _ _ rfl (.slice none 0 0) [] rfl (OwnN.nil _) (w.heap.size + 1) a rfl (by simpa using heap_alloc_new (w.alloc _) (.cells #[.int .i64 a] 3)) (by simp) ?_); intro V1 w2 ho1 hg1 hat1; have hx1 := (hg1.block w.heap.size (by simp <;> omega) (by simp [Value.ownBlock])).trans (alloc_keeps bx (.cells #[.int .i64 a] 3)); have c0 := cell_of_heap hx1 0 _ rfl; have c4 := cell_of_heap hx1 4 _ rfl))
      go_returns
      have hs1 := hg1.size
      have hB1 : Below w.heap.size w w2 := (hb0.alloc hb0.size _).grown hg1 (by simp; omega) (fun k hk => by simp [Value.ownBlock] at hk)
      exact ⟨⟨V2, rfl, ho2, fun b hb => by
        rcases hat2 with h | h
        · rw [h] at hb
          rcases hat1 with h | h
          · rw [h] at hb; simp [Value.ownBlock] at hb
          · rw [h] at hb; injection hb with hb; simp at hb; omega
        · rw [h] at hb; injection hb with hb; have := hB1.size; simp at hb; omega⟩, (hB1.alloc hB1.size _).grown hg2 (by have := hB1.size; simp; omega) (fun k hk => by
        rcases hat1 with hh | hh
        · rw [hh] at hk; simp [Value.ownBlock] at hk
        · rw [hh] at hk; injection hk with hk; simp at hk; omega)⟩
end Go.Proofs.Ythbcdckonaljiaa
