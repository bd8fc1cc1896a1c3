import Derived.Test.YtdoeinccnfggiaaDoorRs
namespace Go.Proofs.YtdoeinccnfggiaaDoor
open Go.RowKit Go.BigFrame

theorem RT.both {w W w1 : World} {F F1 X : Nat → Prop} {v : Value} {T : List Ty} {Ds : List (ByteArray × List Fld)} (h : RT w (fun k => F k ∨ X k) v T Ds) (hne : ∀ d ∈ Ds, 0 < d.2.length) (hW : Below w.heap.size w W) (hWs : W.heap.size = w.heap.size + 3) (hc : Chg W w1 F) (hF1 : ∀ k, F1 k → F k ∨ W.heap.size ≤ k) : RT w1 (F3 F1 X w.heap.size) v T Ds :=
  h.move hne (Nat.le_trans hW.size hc.size) fun k hk hn => ⟨(hc.block k (by omega) (fun h => hn (.inl h))).trans (hW.block k hk), fun hf => by
    rcases hf with hf | hf | hf
    · rcases hF1 k hf with h | h
      · exact hn (.inl h)
      · omega
    · exact hn (.inr hf)
    · omega⟩
abbrev Stp.agg (s : Stp) (C : Option Addr) (cap : Nat) : Value := .agg #[.int .i64 s.verb, .int .i64 s.elem, .int .i64 s.n, .string s.name, .slice C s.fields.length cap]
set_option maxRecDepth 1000000 in
set_option maxHeartbeats 2000000 in
theorem does_ptr {w : World} {p : Nat} {F X : Nat → Prop} {v : Value} {T : List Ty} {Ds : List (ByteArray × List Fld)} (h : Both w p F X v T Ds) (hne : ∀ d ∈ Ds, 0 < d.2.length) (hT : 1 ≤ T.length ∧ T.length ≤ 256) (s : Stp) (hs : s.verb = 0) (C : Option Addr) (cap : Nat) :
    Calls Tryd.prog 20 #[.pointer (some ⟨p, 0, none⟩), v, s.agg C cap] w fun e w' => ∃ v', e = .returned (.tuple #[v', .bool true]) ∧ Turn2 w w' p F X v' (ptrL T s.elem).1 Ds := by
  obtain ⟨A, cA, B, cB, rfl, _, _⟩ := id h.rt
  obtain ⟨L, hL⟩ : ∃ L, T.length = L := ⟨_, rfl⟩
  obtain ⟨L2, hL2⟩ : ∃ L2, Ds.length = L2 := ⟨_, rfl⟩
  rw [hL, hL2] at h ⊢
  clear hL hL2
  obtain ⟨s1, s2, s3, s4, s5⟩ := s
  simp only at hs
  subst hs
  obtain ⟨b0, b1, b2, hWs, hWB⟩ := box3 w (oT A L cA B L2 cB) (oS ⟨0, s2, s3, s4, s5⟩ C cap) (oT none 0 0 none 0 0)
  obtain ⟨W, hW⟩ : ∃ W, ((w.alloc (oT A L cA B L2 cB)).alloc (oS ⟨0, s2, s3, s4, s5⟩ C cap)).alloc (oT none 0 0 none 0 0) = W := ⟨_, rfl⟩
  rw [hW] at b0 b1 b2 hWs hWB
  simp only at hW b1 ⊢
  generalize s5.length = LS at *
  have e0 := cell_of_heap b1 0 (.int .i64 0) rfl
  have e1 := cell_of_heap b1 1 (.int .i64 s2) rfl
  have hp := pointer_any (h.tb.below hWB) s2
  have hr := fun w1 F1 h1 h2 h3 h4 => refPointer_any (w := w1) (F := F1) (T := T) (v := .agg #[.slice A L cA, .slice B L2 cB]) (Ds := Ds) h1 h2 h3 h4 s2
  have hq := h.lt
  generalize ptrL T s2 = R at *
  obtain ⟨T1, R2, R3⟩ := R
  simp only at *
  go_enter Tryd.func20, Tryd.ntmps20
  go_wp2_with (first
    | (go_at_call 21; refine hp.mono ?_; rintro e w1 ⟨rfl, ht⟩; obtain ⟨F1, t1, hc, hF1, hF1'⟩ := ht.clip; have d0 := (hc.block w.heap.size (by omega) (fun hh => by have := hq _ hh; omega)).trans b0; have d1 := (hc.block (w.heap.size + 1) (by omega) (fun hh => by have := hq _ hh; omega)).trans b1; have d2 := (hc.block (w.heap.size + 1 + 1) (by omega) (fun hh => by have := hq _ hh; omega)).trans b2; have a0 := cell_of_heap d0 0 (.slice A L cA) rfl; have a1 := cell_of_heap d0 1 (.slice B L2 cB) rfl; have a2 := cell_of_heap d1 1 (.int .i64 s2) rfl; have hc1 := hc.size)
    | (go_at_call 27; refine (hr w1 (F3 F1 X w.heap.size) (h.rt.both hne hWB hWs hc hF1) hne (fun k hk => by rcases hk with hk | hk | hk; exact hF1' k hk; (have := h.lx k hk; omega); omega) hT).mono ?_; rintro e w2 ⟨⟨v2, rfl, hR2⟩, hb2⟩; obtain ⟨A3, c3, B3, c4, rfl, _, _⟩ := id hR2; obtain ⟨n4, n5, n6, n7, n8, n9, f2, f3, hfin⟩ := does_end hWB hWs hq h.lx t1 hc hF1 hF1' hne hR2 hb2 ((hb2.block _ (Array.getElem?_eq_some_iff.1 d2).1).trans d2)))
  all_goals
    (try simp only [Exit.inBlock, Exit.then])
    refine bodyPost_ret (by simp [results, Tryd.results20, go_sem, f2, f3]; try rfl) rfl ?_
    exact ⟨_, rfl, hfin _ _⟩
end Go.Proofs.YtdoeinccnfggiaaDoor

namespace Go.Proofs.YtdoeinccnfggiaaDoor
open Go.RowKit Go.BigFrame

set_option maxRecDepth 1000000 in
set_option maxHeartbeats 2000000 in
theorem does_arr {w : World} {p : Nat} {F X : Nat → Prop} {v : Value} {T : List Ty} {Ds : List (ByteArray × List Fld)} (h : Both w p F X v T Ds) (hne : ∀ d ∈ Ds, 0 < d.2.length) (hT : 1 ≤ T.length ∧ T.length ≤ 256) {K : Nat} (g : Good T (look Ds) K) (hDs : Ds.length ≤ 1000) (hDl : ∀ d ∈ Ds, d.2.length ≤ 1000) (s : Stp) (hs : s.verb = 1) (C : Option Addr) (cap : Nat) :
    Calls Tryd.prog 20 #[.pointer (some ⟨p, 0, none⟩), v, s.agg C cap] w fun e w' => ∃ v', e = .returned (.tuple #[v', .bool true]) ∧ Turn2 w w' p F X v' (arrL T (look Ds) K s.elem s.n).1 Ds := by
  obtain ⟨A, cA, B, cB, rfl, _, _⟩ := id h.rt
  obtain ⟨L, hL⟩ : ∃ L, T.length = L := ⟨_, rfl⟩
  obtain ⟨L2, hL2⟩ : ∃ L2, Ds.length = L2 := ⟨_, rfl⟩
  rw [hL, hL2] at h ⊢
  clear hL hL2
  obtain ⟨s1, s2, s3, s4, s5⟩ := s
  simp only at hs
  subst hs
  obtain ⟨b0, b1, b2, hWs, hWB⟩ := box3 w (oT A L cA B L2 cB) (oS ⟨1, s2, s3, s4, s5⟩ C cap) (oT none 0 0 none 0 0)
  obtain ⟨W, hW⟩ : ∃ W, ((w.alloc (oT A L cA B L2 cB)).alloc (oS ⟨1, s2, s3, s4, s5⟩ C cap)).alloc (oT none 0 0 none 0 0) = W := ⟨_, rfl⟩
  rw [hW] at b0 b1 b2 hWs hWB
  simp only at hW b1 ⊢
  generalize s5.length = LS at *
  have e0 := cell_of_heap b1 0 (.int .i64 1) rfl
  have e1 := cell_of_heap b1 1 (.int .i64 s2) rfl
  have e2 := cell_of_heap b1 2 (.int .i64 s3) rfl
  have hp := array_any (h.tb.below hWB) K s2 s3 (g.dp s2)
  have hr := fun w1 F1 h1 h2 h3 h4 => refArray_any (w := w1) (F := F1) (T := T) (v := .agg #[.slice A L cA, .slice B L2 cB]) (Ds := Ds) h1 h2 hDs hDl h3 h4 K s2 s3 (g.dp s2) (Bool.eq_iff_iff.2 (by simpa using g.pos s2))
  have hq := h.lt
  generalize arrL T (look Ds) K s2 s3 = R at *
  obtain ⟨T1, R2, R3⟩ := R
  simp only at *
  go_enter Tryd.func20, Tryd.ntmps20
  go_wp2_with (first
    | (go_at_call 11; refine hp.mono ?_; rintro e w1 ⟨rfl, ht⟩; obtain ⟨F1, t1, hc, hF1, hF1'⟩ := ht.clip; have d0 := (hc.block w.heap.size (by omega) (fun hh => by have := hq _ hh; omega)).trans b0; have d1 := (hc.block (w.heap.size + 1) (by omega) (fun hh => by have := hq _ hh; omega)).trans b1; have d2 := (hc.block (w.heap.size + 1 + 1) (by omega) (fun hh => by have := hq _ hh; omega)).trans b2; have a0 := cell_of_heap d0 0 (.slice A L cA) rfl; have a1 := cell_of_heap d0 1 (.slice B L2 cB) rfl; have a2 := cell_of_heap d1 1 (.int .i64 s2) rfl; have a3 := cell_of_heap d1 2 (.int .i64 s3) rfl; have hc1 := hc.size)
    | (go_at_call 28; refine (hr w1 (F3 F1 X w.heap.size) (h.rt.both hne hWB hWs hc hF1) hne (fun k hk => by rcases hk with hk | hk | hk; exact hF1' k hk; (have := h.lx k hk; omega); omega) hT).mono ?_; rintro e w2 ⟨⟨v2, rfl, hR2⟩, hb2⟩; obtain ⟨A3, c3, B3, c4, rfl, _, _⟩ := id hR2; obtain ⟨n4, n5, n6, n7, n8, n9, f2, f3, hfin⟩ := does_end hWB hWs hq h.lx t1 hc hF1 hF1' hne hR2 hb2 ((hb2.block _ (Array.getElem?_eq_some_iff.1 d2).1).trans d2)))
  all_goals
    (try simp only [Exit.inBlock, Exit.then])
    refine bodyPost_ret (by simp [results, Tryd.results20, go_sem, f2, f3]; try rfl) rfl ?_
    exact ⟨_, rfl, hfin _ _⟩
set_option maxRecDepth 1000000 in
set_option maxHeartbeats 2000000 in
theorem does_str {w : World} {p : Nat} {F X : Nat → Prop} {v : Value} {T : List Ty} {Ds : List (ByteArray × List Fld)} (h : Both w p F X v T Ds) (hne : ∀ d ∈ Ds, 0 < d.2.length) (hT : 1 ≤ T.length ∧ T.length ≤ 256) (s : Stp) (hs : s.verb = 2) (C : Option Addr) (cap : Nat) :
    Calls Tryd.prog 20 #[.pointer (some ⟨p, 0, none⟩), v, s.agg C cap] w fun e w' => ∃ v', e = .returned (.tuple #[v', .bool true]) ∧ Turn2 w w' p F X v' (strL T s.name).1 Ds := by
  obtain ⟨A, cA, B, cB, rfl, _, _⟩ := id h.rt
  obtain ⟨L, hL⟩ : ∃ L, T.length = L := ⟨_, rfl⟩
  obtain ⟨L2, hL2⟩ : ∃ L2, Ds.length = L2 := ⟨_, rfl⟩
  rw [hL, hL2] at h ⊢
  clear hL hL2
  obtain ⟨s1, s2, s3, s4, s5⟩ := s
  simp only at hs
  subst hs
  obtain ⟨b0, b1, b2, hWs, hWB⟩ := box3 w (oT A L cA B L2 cB) (oS ⟨2, s2, s3, s4, s5⟩ C cap) (oT none 0 0 none 0 0)
  obtain ⟨W, hW⟩ : ∃ W, ((w.alloc (oT A L cA B L2 cB)).alloc (oS ⟨2, s2, s3, s4, s5⟩ C cap)).alloc (oT none 0 0 none 0 0) = W := ⟨_, rfl⟩
  rw [hW] at b0 b1 b2 hWs hWB
  simp only at hW b1 ⊢
  generalize s5.length = LS at *
  have e0 := cell_of_heap b1 0 (.int .i64 2) rfl
  have e1 := cell_of_heap b1 3 (.string s4) rfl
  have hp := struct_any (h.tb.below hWB) s4
  have hr := fun w1 F1 h1 h2 h3 h4 => refStruct_any (w := w1) (F := F1) (T := T) (v := .agg #[.slice A L cA, .slice B L2 cB]) (Ds := Ds) h1 h2 h3 h4 s4
  have hq := h.lt
  generalize strL T s4 = R at *
  obtain ⟨T1, R2, R3⟩ := R
  simp only at *
  go_enter Tryd.func20, Tryd.ntmps20
  go_wp2_with (first
    | (go_at_call 13; refine hp.mono ?_; rintro e w1 ⟨rfl, ht⟩; obtain ⟨F1, t1, hc, hF1, hF1'⟩ := ht.clip; have d0 := (hc.block w.heap.size (by omega) (fun hh => by have := hq _ hh; omega)).trans b0; have d1 := (hc.block (w.heap.size + 1) (by omega) (fun hh => by have := hq _ hh; omega)).trans b1; have d2 := (hc.block (w.heap.size + 1 + 1) (by omega) (fun hh => by have := hq _ hh; omega)).trans b2; have a0 := cell_of_heap d0 0 (.slice A L cA) rfl; have a1 := cell_of_heap d0 1 (.slice B L2 cB) rfl; have a2 := cell_of_heap d1 3 (.string s4) rfl; have hc1 := hc.size)
    | (go_at_call 29; refine (hr w1 (F3 F1 X w.heap.size) (h.rt.both hne hWB hWs hc hF1) hne (fun k hk => by rcases hk with hk | hk | hk; exact hF1' k hk; (have := h.lx k hk; omega); omega) hT).mono ?_; rintro e w2 ⟨⟨v2, rfl, hR2⟩, hb2⟩; obtain ⟨A3, c3, B3, c4, rfl, _, _⟩ := id hR2; obtain ⟨n4, n5, n6, n7, n8, n9, f2, f3, hfin⟩ := does_end hWB hWs hq h.lx t1 hc hF1 hF1' hne hR2 hb2 ((hb2.block _ (Array.getElem?_eq_some_iff.1 d2).1).trans d2)))
  all_goals
    (try simp only [Exit.inBlock, Exit.then])
    refine bodyPost_ret (by simp [results, Tryd.results20, go_sem, f2, f3]; try rfl) rfl ?_
    exact ⟨_, rfl, hfin _ _⟩
set_option maxRecDepth 1000000 in
set_option maxHeartbeats 2000000 in
theorem does_none {w : World} {p : Nat} {F X : Nat → Prop} {v : Value} {T : List Ty} {Ds : List (ByteArray × List Fld)} (h : Both w p F X v T Ds) (hne : ∀ d ∈ Ds, 0 < d.2.length) (s : Stp) (hs : s.verb ≠ 0 ∧ s.verb ≠ 1 ∧ s.verb ≠ 2 ∧ s.verb ≠ 3) (C : Option Addr) (cap : Nat) :
    Calls Tryd.prog 20 #[.pointer (some ⟨p, 0, none⟩), v, s.agg C cap] w fun e w' => ∃ v', e = .returned (.tuple #[v', .bool true]) ∧ Turn2 w w' p F X v' T Ds := by
  obtain ⟨A, cA, B, cB, rfl, _, _⟩ := id h.rt
  obtain ⟨L, hL⟩ : ∃ L, T.length = L := ⟨_, rfl⟩
  obtain ⟨L2, hL2⟩ : ∃ L2, Ds.length = L2 := ⟨_, rfl⟩
  rw [hL, hL2] at h ⊢
  clear hL hL2
  obtain ⟨s1, s2, s3, s4, s5⟩ := s
  dsimp only at hs
  obtain ⟨b0, b1, b2, hWs, hWB⟩ := box3 w (oT A L cA B L2 cB) (oS ⟨s1, s2, s3, s4, s5⟩ C cap) (oT none 0 0 none 0 0)
  obtain ⟨W, hW⟩ : ∃ W, ((w.alloc (oT A L cA B L2 cB)).alloc (oS ⟨s1, s2, s3, s4, s5⟩ C cap)).alloc (oT none 0 0 none 0 0) = W := ⟨_, rfl⟩
  rw [hW] at b0 b1 b2 hWs hWB
  try dsimp only at b1
  generalize s5.length = LS at *
  have e0 := cell_of_heap b1 0 (.int .i64 s1) rfl
  have a0 := cell_of_heap b0 0 (.slice A L cA) rfl
  have a1 := cell_of_heap b0 1 (.slice B L2 cB) rfl
  have r0 := cell_of_heap b2 0 (.slice none 0 0) rfl
  have r1 := cell_of_heap b2 1 (.slice none 0 0) rfl
  have z0 := free_of_heap b2 0
  have z1 := free_of_heap b2 1
  obtain ⟨f2, f3⟩ := res_two b2
  have q0 : (s1 == 0) = false := by simpa using hs.1
  have q1 : (s1 == 1) = false := by simpa using hs.2.1
  have q2 : (s1 == 2) = false := by simpa using hs.2.2.1
  have q3 : (s1 == 3) = false := by simpa using hs.2.2.2
  clear hs
  have hB : ∀ u v, Below w.heap.size w ((W.setCell ⟨w.heap.size + 1 + 1, 0, none⟩ u).setCell ⟨w.heap.size + 1 + 1, 1, none⟩ v) := fun u v => (hWB.setCell (p := ⟨w.heap.size + 1 + 1, 0, none⟩) (by simp only; omega) u).setCell (p := ⟨w.heap.size + 1 + 1, 1, none⟩) (by simp only; omega) v
  have hfin : ∀ u v, Turn2 w ((W.setCell ⟨w.heap.size + 1 + 1, 0, none⟩ u).setCell ⟨w.heap.size + 1 + 1, 1, none⟩ v) p F X (.agg #[.slice A L cA, .slice B L2 cB]) T Ds := fun u v =>
    ⟨F, ⟨h.tb.below (hB u v), h.rt.below hne (hB u v), fun k hk => Nat.lt_of_lt_of_le (h.lt k hk) (hB u v).size, fun k hk => Nat.lt_of_lt_of_le (h.lx k hk) (hB u v).size⟩, Chg.of_below (hB u v) F, fun k hk => .inl hk⟩
  go_enter Tryd.func20, Tryd.ntmps20
  go_wp2
  all_goals
    (try simp only [Exit.inBlock, Exit.then])
    refine bodyPost_ret (by simp [results, Tryd.results20, go_sem, f2, f3]; try rfl) rfl ?_
    exact ⟨_, rfl, hfin _ _⟩
end Go.Proofs.YtdoeinccnfggiaaDoor
