import Derived.Test.YtdoeinccnfggiaaDoorRg
namespace Go.Proofs.YtdoeinccnfggiaaDoor
open Go.RowKit Go.BigFrame

/-- F, and the two blocks from q on -/
abbrev F2 (F : Nat → Prop) (q : Nat) : Nat → Prop := fun k => F k ∨ (q ≤ k ∧ k < q + 2)
theorem RT.avoid2 {w w1 : World} {F : Nat → Prop} {v : Value} {T : List Ty} {Ds : List (ByteArray × List Fld)} (h : RT w F v T Ds) (hne : ∀ d ∈ Ds, 0 < d.2.length) (hb : Below w.heap.size w w1) : RT w1 (F2 F w.heap.size) v T Ds :=
  h.move hne hb.size fun k hk hn => ⟨hb.block k hk, fun hf => by rcases hf with hf | hf; exact hn hf; omega⟩
theorem RT.set2 {w2 : World} {F : Nat → Prop} {v : Value} {T : List Ty} {Ds : List (ByteArray × List Fld)} {r : Nat} (h : RT w2 F v T Ds) (hne : ∀ d ∈ Ds, 0 < d.2.length) (hr : F r) (u u' : Value) : RT ((w2.setCell ⟨r, 0, none⟩ u).setCell ⟨r, 1, none⟩ u') F v T Ds :=
  h.move hne (by simp [World.setCell]) fun k _ hn => ⟨by
    have hkr : k ≠ r := fun e => hn (e ▸ hr)
    rw [Below.heap_setCell _ _ _ _ (by simpa using hkr), Below.heap_setCell _ _ _ _ (by simpa using hkr)], hn⟩
theorem RT.less {w : World} {F F' : Nat → Prop} {v : Value} {T : List Ty} {Ds : List (ByteArray × List Fld)} (h : RT w F' v T Ds) (hne : ∀ d ∈ Ds, 0 < d.2.length) (hF : ∀ k, F k → F' k) : RT w F v T Ds :=
  h.move hne (Nat.le_refl _) fun k _ hn => ⟨rfl, fun hf => hn (hF k hf)⟩
theorem set2_heap {w2 : World} {r : Nat} {a b : Value} {t : TypeId} (hr : w2.heap[r]? = some (.cells #[a, b] t (0, 0))) (u u' : Value) : ((w2.setCell ⟨r, 0, none⟩ u).setCell ⟨r, 1, none⟩ u').heap[r]? = some (.cells #[u, u'] t (0, 0)) := by
  rw [heap_setCell (j := 1) (heap_setCell (j := 0) hr u) u']
  rfl
theorem set2_other {w2 : World} {r k : Nat} (hk : k ≠ r) (u u' : Value) : ((w2.setCell ⟨r, 0, none⟩ u).setCell ⟨r, 1, none⟩ u').heap[k]? = w2.heap[k]? := by
  rw [Below.heap_setCell _ _ _ _ (by simpa using hk), Below.heap_setCell _ _ _ _ (by simpa using hk)]
set_option maxRecDepth 1000000 in
set_option maxHeartbeats 2000000 in
/-- the document's Define where its Struct tells an error -/
theorem refDefine_err {w : World} {F : Nat → Prop} {v : Value} {T : List Ty} {Ds : List (ByteArray × List Fld)} (h : RT w F v T Ds) (hne : ∀ d ∈ Ds, 0 < d.2.length) (hF : ∀ k, F k → k < w.heap.size) (hT : 1 ≤ T.length ∧ T.length ≤ 256) (s : ByteArray) (vl : Value) (he : (strL T s).2.2 ≠ 0) :
    Calls Tryd.prog 30 #[v, .string s, vl] w fun e w' => (∃ v', e = .returned (.tuple #[v', .int .i64 (strL T s).2.2]) ∧ RT w' F v' (strL T s).1 Ds) ∧ Below w.heap.size w w' := by
  obtain ⟨A, cap, B, cap2, rfl, h1, h2⟩ := id h
  obtain ⟨L, hL⟩ : ∃ L, T.length = L := ⟨_, rfl⟩
  obtain ⟨L2, hL2⟩ : ∃ L2, Ds.length = L2 := ⟨_, rfl⟩
  rw [hL, hL2] at h
  rw [hL, hL2]
  clear hL hL2 h1 h2
  obtain ⟨q0, q1, hbb⟩ := @box2 w ((w.alloc (oT A L cap B L2 cap2)).alloc (oT none 0 0 none 0 0)) (oT A L cap B L2 cap2) (oT none 0 0 none 0 0) (Below.refl _ _)
  obtain ⟨W, hW⟩ : ∃ W, (w.alloc (oT A L cap B L2 cap2)).alloc (oT none 0 0 none 0 0) = W := ⟨_, rfl⟩
  have hWs : W.heap.size = w.heap.size + 2 := by rw [← hW]; simp
  rw [hW] at q0 q1 hbb
  have a0 := cell_of_heap q0 0 (.slice A L cap) rfl
  have a1 := cell_of_heap q0 1 (.slice B L2 cap2) rfl
  have hst := refStruct_any (h.avoid2 hne hbb) hne (fun k hk => by rcases hk with hk | hk; exact Nat.lt_of_lt_of_le (hF k hk) hbb.size; omega) hT s
  generalize strL T s = R at *
  obtain ⟨T1, R2, R3⟩ := R
  simp only at *
  have qn : (R3 != 0) = true := by simpa using he
  clear he
  go_enter Tryd.func30, Tryd.ntmps30
  go_wp2_with (first
    | (go_at_call 29; refine hst.mono ?_; rintro e w2 ⟨⟨v2, rfl, hR2⟩, hb2⟩; obtain ⟨A3, c3, B3, c4, rfl, k1, k2⟩ := id hR2; have p0 := (hb2.block _ (Array.getElem?_eq_some_iff.1 q0).1).trans q0; have p1 := (hb2.block _ (Array.getElem?_eq_some_iff.1 q1).1).trans q1; have b0 := cell_of_heap p0 0 (.slice A L cap) rfl; have b1 := cell_of_heap p0 1 (.slice B L2 cap2) rfl; have z0 := free_of_heap p0 0; have z1 := free_of_heap p0 1; have s0 := set2_heap p0 (.slice A3 T1.length c3) (.slice B3 Ds.length c4); have s1 := (set2_other (w2 := w2) (r := w.heap.size) (k := w.heap.size + 1) (by omega) (.slice A3 T1.length c3) (.slice B3 Ds.length c4)).trans p1; have c0 := cell_of_heap s0 0 (.slice A3 T1.length c3) rfl; have c1 := cell_of_heap s0 1 (.slice B3 Ds.length c4) rfl; have r0 := cell_of_heap s1 0 (.slice none 0 0) rfl; have r1 := cell_of_heap s1 1 (.slice none 0 0) rfl; have y0 := free_of_heap s1 0; have y1 := free_of_heap s1 1; obtain ⟨f2, f3⟩ := res_two s1))
  (try simp only [Exit.inBlock, Exit.then])
  refine bodyPost_ret (by simp [results, Tryd.results30, go_sem, f2, f3]; try rfl) rfl ?_
  have hbw := hbb.trans (hb2.mono hbb.size)
  exact ⟨⟨_, rfl, ((hR2.set2 hne (r := w.heap.size) (.inr ⟨Nat.le_refl _, by omega⟩) _ _).set2 hne (r := w.heap.size + 1) (.inr ⟨Nat.le_add_right _ _, by omega⟩) _ _).less hne (fun k hk => .inl hk)⟩,
    (((hbw.setCell (p := ⟨w.heap.size, 0, none⟩) (Nat.le_refl _) _).setCell (p := ⟨w.heap.size, 1, none⟩) (Nat.le_refl _) _).setCell (p := ⟨w.heap.size + 1, 0, none⟩) (Nat.le_add_right _ _) _).setCell (p := ⟨w.heap.size + 1, 1, none⟩) (Nat.le_add_right _ _) _⟩
end Go.Proofs.YtdoeinccnfggiaaDoor

namespace Go.Proofs.YtdoeinccnfggiaaDoor
open Go.RowKit Go.BigFrame

set_option maxRecDepth 1000000 in
set_option maxHeartbeats 2000000 in
/-- the document's Define where the struct has fields already -/
theorem refDefine_twice {w : World} {F : Nat → Prop} {v : Value} {T : List Ty} {Ds : List (ByteArray × List Fld)} (h : RT w F v T Ds) (hne : ∀ d ∈ Ds, 0 < d.2.length) (hDs : Ds.length ≤ 1000) (hF : ∀ k, F k → k < w.heap.size) (hT : 1 ≤ T.length ∧ T.length ≤ 256) (s : ByteArray) (vl : Value) (he : (strL T s).2.2 = 0) (hD : (look Ds s).isSome = true) :
    Calls Tryd.prog 30 #[v, .string s, vl] w fun e w' => (∃ v', e = .returned (.tuple #[v', .int .i64 7]) ∧ RT w' F v' (strL T s).1 Ds) ∧ Below w.heap.size w w' := by
  obtain ⟨A, cap, B, cap2, rfl, h1, h2⟩ := id h
  obtain ⟨L, hL⟩ : ∃ L, T.length = L := ⟨_, rfl⟩
  obtain ⟨L2, hL2⟩ : ∃ L2, Ds.length = L2 := ⟨_, rfl⟩
  rw [hL, hL2] at h
  rw [hL, hL2]
  clear hL hL2 h1 h2
  obtain ⟨q0, q1, hbb⟩ := @box2 w ((w.alloc (oT A L cap B L2 cap2)).alloc (oT none 0 0 none 0 0)) (oT A L cap B L2 cap2) (oT none 0 0 none 0 0) (Below.refl _ _)
  obtain ⟨W, hW⟩ : ∃ W, (w.alloc (oT A L cap B L2 cap2)).alloc (oT none 0 0 none 0 0) = W := ⟨_, rfl⟩
  have hWs : W.heap.size = w.heap.size + 2 := by rw [← hW]; simp
  rw [hW] at q0 q1 hbb
  have a0 := cell_of_heap q0 0 (.slice A L cap) rfl
  have a1 := cell_of_heap q0 1 (.slice B L2 cap2) rfl
  have hst := refStruct_any (h.avoid2 hne hbb) hne (fun k hk => by rcases hk with hk | hk; exact Nat.lt_of_lt_of_le (hF k hk) hbb.size; omega) hT s
  generalize strL T s = R at *
  obtain ⟨T1, R2, R3⟩ := R
  simp only at *
  subst he
  have HD := Lib.hid hD
  clear hD
  go_enter Tryd.func30, Tryd.ntmps30
  go_wp2_with (first
    | (go_at_call 29; refine hst.mono ?_; rintro e w2 ⟨⟨v2, rfl, hR2⟩, hb2⟩; obtain ⟨A3, c3, B3, c4, rfl, k1, k2⟩ := id hR2; have p0 := (hb2.block _ (Array.getElem?_eq_some_iff.1 q0).1).trans q0; have p1 := (hb2.block _ (Array.getElem?_eq_some_iff.1 q1).1).trans q1; have b0 := cell_of_heap p0 0 (.slice A L cap) rfl; have b1 := cell_of_heap p0 1 (.slice B L2 cap2) rfl; have z0 := free_of_heap p0 0; have z1 := free_of_heap p0 1; have s0 := set2_heap p0 (.slice A3 T1.length c3) (.slice B3 Ds.length c4); have s1 := (set2_other (w2 := w2) (r := w.heap.size) (k := w.heap.size + 1) (by omega) (.slice A3 T1.length c3) (.slice B3 Ds.length c4)).trans p1; have c0 := cell_of_heap s0 0 (.slice A3 T1.length c3) rfl; have c1 := cell_of_heap s0 1 (.slice B3 Ds.length c4) rfl; have hR3 := hR2.set2 hne (r := w.heap.size) (.inr ⟨Nat.le_refl _, by omega⟩) (.slice A3 T1.length c3) (.slice B3 Ds.length c4))
    | (go_at_call 38; refine (refFields_any hR3 hne hDs s).mono ?_; rintro e w4 ⟨hh, hb4⟩; obtain ⟨C, c, l, hlk, rfl, hRF, hlp⟩ := hh.resolve_right (fun hx => by have := HD.out; rw [hx.1] at this; cases this); have t0 := (hb4.block _ (Array.getElem?_eq_some_iff.1 s0).1).trans s0; have t1 := (hb4.block _ (Array.getElem?_eq_some_iff.1 s1).1).trans s1; have e0 := cell_of_heap t0 0 (.slice A3 T1.length c3) rfl; have e1 := cell_of_heap t0 1 (.slice B3 Ds.length c4) rfl; have r0 := cell_of_heap t1 0 (.slice none 0 0) rfl; have r1 := cell_of_heap t1 1 (.slice none 0 0) rfl; have y0 := free_of_heap t1 0; have y1 := free_of_heap t1 1; obtain ⟨f2, f3⟩ := res_two t1; have hR4 := hR3.below hne hb4))
  (try simp only [Exit.inBlock, Exit.then])
  refine bodyPost_ret (by simp [results, Tryd.results30, go_sem, f2, f3]; try rfl) rfl ?_
  have hbw := hbb.trans (hb2.mono hbb.size)
  have hb3 := (hbw.setCell (p := ⟨w.heap.size, 0, none⟩) (Nat.le_refl _) (.slice A3 T1.length c3)).setCell (p := ⟨w.heap.size, 1, none⟩) (Nat.le_refl _) (.slice B3 Ds.length c4)
  have hb5 := hb3.trans (hb4.mono hb3.size)
  exact ⟨⟨_, rfl, (hR4.set2 hne (r := w.heap.size + 1) (.inr ⟨Nat.le_add_right _ _, by omega⟩) _ _).less hne (fun k hk => .inl hk)⟩,
    (hb5.setCell (p := ⟨w.heap.size + 1, 0, none⟩) (Nat.le_add_right _ _) _).setCell (p := ⟨w.heap.size + 1, 1, none⟩) (Nat.le_add_right _ _) _⟩
end Go.Proofs.YtdoeinccnfggiaaDoor
