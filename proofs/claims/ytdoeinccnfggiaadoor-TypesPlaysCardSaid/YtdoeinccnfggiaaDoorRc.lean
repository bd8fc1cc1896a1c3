import Derived.Test.YtdoeinccnfggiaaDoorRb
namespace Go.Proofs.YtdoeinccnfggiaaDoor
open Go.RowKit Go.BigFrame

theorem box2 {w w1 : World} {o o' : Obj} (hb : Below ((w.alloc o).alloc o').heap.size ((w.alloc o).alloc o') w1) : w1.heap[w.heap.size]? = some o ∧ w1.heap[w.heap.size + 1]? = some o' ∧ Below w.heap.size w w1 := by
  have hs : ((w.alloc o).alloc o').heap.size = w.heap.size + 2 := by simp
  have h2 := heap_alloc_new (w.alloc o) o'
  rw [show (w.alloc o).heap.size = w.heap.size + 1 by simp] at h2
  exact ⟨(hb.block _ (by omega)).trans (alloc_keeps (heap_alloc_new w o) o'), (hb.block _ (by omega)).trans h2, (Below.two w o o').trans (hb.mono (by omega))⟩
theorem res_two {w1 : World} {r : Nat} {a b : Value} {t : TypeId} (hr : w1.heap[r]? = some (.cells #[a, b] t (0, 0))) : (∀ u, (w1.setCell ⟨r, 0, none⟩ u).cell? ⟨r, 0, none⟩ = some u) ∧ ∀ u v, ((w1.setCell ⟨r, 0, none⟩ u).setCell ⟨r, 1, none⟩ v).cell? ⟨r, 1, none⟩ = some v :=
  ⟨fun u => cell_of_heap (heap_setCell (j := 0) hr u) 0 u rfl, fun u v => cell_of_heap (heap_setCell (j := 1) (heap_setCell (j := 0) hr u) v) 1 v rfl⟩
/-- a table that avoids a local block r too -/
theorem RT.avoid {w w1 : World} {F : Nat → Prop} {v : Value} {T : List Ty} {Ds : List (ByteArray × List Fld)} (h : RT w F v T Ds) (hne : ∀ d ∈ Ds, 0 < d.2.length) (hb : Below w.heap.size w w1) {r : Nat} (hr : w.heap.size ≤ r) : RT w1 (fun k => F k ∨ k = r) v T Ds :=
  h.move hne hb.size fun k hk hn => ⟨hb.block k hk, fun hf => by rcases hf with hf | hf; exact hn hf; omega⟩
theorem RT.stored {w2 : World} {F : Nat → Prop} {v : Value} {T : List Ty} {Ds : List (ByteArray × List Fld)} {r : Nat} (h : RT w2 (fun k => F k ∨ k = r) v T Ds) (hne : ∀ d ∈ Ds, 0 < d.2.length) (u u' : Value) : RT ((w2.setCell ⟨r, 0, none⟩ u).setCell ⟨r, 1, none⟩ u') F v T Ds :=
  h.move hne (by simp [World.setCell]) fun k _ hn => ⟨by
    have hkr : k ≠ r := fun e => hn (.inr e)
    rw [Below.heap_setCell _ _ _ _ (by simpa using hkr), Below.heap_setCell _ _ _ _ (by simpa using hkr)], fun hf => hn (.inl hf)⟩
abbrev oT (A : Option Addr) (L cap : Nat) (B : Option Addr) (L2 cap2 : Nat) : Obj := .cells #[.slice A L cap, .slice B L2 cap2] 44
set_option maxRecDepth 1000000 in
set_option maxHeartbeats 1000000 in
/-- the document's Pointer -/
theorem refPointer_any {w : World} {F : Nat → Prop} {v : Value} {T : List Ty} {Ds : List (ByteArray × List Fld)} (h : RT w F v T Ds) (hne : ∀ d ∈ Ds, 0 < d.2.length) (hF : ∀ k, F k → k < w.heap.size) (hT : 1 ≤ T.length ∧ T.length ≤ 256) (n : Int) :
    Calls Tryd.prog 27 #[v, .int .i64 n] w fun e w' => (∃ v', e = .returned (.tuple #[v', .int .i64 (ptrL T n).2.1, .int .i64 (ptrL T n).2.2]) ∧ RT w' F v' (ptrL T n).1 Ds) ∧ Below w.heap.size w w' := by
  have hb2 : ∀ o o', Below w.heap.size w ((w.alloc o).alloc o') := Below.two w
  obtain ⟨A, cap, B, cap2, rfl, h1, h2⟩ := id h
  obtain ⟨L, hL⟩ : ∃ L, T.length = L := ⟨_, rfl⟩
  obtain ⟨L2, hL2⟩ : ∃ L2, Ds.length = L2 := ⟨_, rfl⟩
  rw [hL, hL2] at h
  rw [hL, hL2]
  clear hL hL2 h1 h2
  unfold ptrL
  cases hp : (atT T n).isSome
  · rw [if_neg (by simp)]
    go_enter Tryd.func27, Tryd.ntmps27
    go_wp2_with (first
      | (go_at_call 36; have hi := refIs_any (h.below hne (hb2 (oT A L cap B L2 cap2) (oT none 0 0 none 0 0))) n; rw [hp] at hi; refine hi.mono ?_; rintro e w1 ⟨rfl, hb1⟩; obtain ⟨q0, q1, hbb⟩ := box2 hb1; have a0 := cell_of_heap q0 0 (.slice A L cap) rfl; have a1 := cell_of_heap q0 1 (.slice B L2 cap2) rfl; have r0 := cell_of_heap q1 0 (.slice none 0 0) rfl; have r1 := cell_of_heap q1 1 (.slice none 0 0) rfl; have z0 := free_of_heap q1 0; have z1 := free_of_heap q1 1; obtain ⟨f2, f3⟩ := res_two q1))
    (try simp only [Exit.inBlock, Exit.then])
    have hB : ∀ u v, Below w.heap.size w ((w1.setCell ⟨w.heap.size + 1, 0, none⟩ u).setCell ⟨w.heap.size + 1, 1, none⟩ v) := fun u v => (hbb.setCell (p := ⟨w.heap.size + 1, 0, none⟩) (by simp) u).setCell (p := ⟨w.heap.size + 1, 1, none⟩) (by simp) v
    refine bodyPost_ret (by simp [results, Tryd.results27, go_sem, f2, f3]; try rfl) rfl ?_
    exact ⟨⟨_, rfl, h.below hne (hB _ _)⟩, hB _ _⟩
  · rw [if_pos rfl]
    go_enter Tryd.func27, Tryd.ntmps27
    go_wp2_with (first
      | (go_at_call 36; have hi := refIs_any (h.below hne (hb2 (oT A L cap B L2 cap2) (oT none 0 0 none 0 0))) n; rw [hp] at hi; refine hi.mono ?_; rintro e w1 ⟨rfl, hb1⟩; obtain ⟨q0, q1, hbb⟩ := box2 hb1; have a0 := cell_of_heap q0 0 (.slice A L cap) rfl; have a1 := cell_of_heap q0 1 (.slice B L2 cap2) rfl)
      | (go_at_call 37; refine (refPut_any (h.avoid hne hbb (r := w.heap.size + 1) (Nat.le_add_right _ _)) hne (fun k hk => by rcases hk with hk | rfl; exact Nat.lt_of_lt_of_le (hF k hk) hbb.size; exact (Array.getElem?_eq_some_iff.1 q1).1) hT ⟨4, n, 0, ⟨#[]⟩⟩).mono ?_; rintro e w2 ⟨⟨v2, rfl, hR2⟩, hb2'⟩; obtain ⟨A3, c3, B3, c4, rfl, k1, k2⟩ := id hR2; have q2 := (hb2'.block _ (Array.getElem?_eq_some_iff.1 q1).1).trans q1; have r0 := cell_of_heap q2 0 (.slice none 0 0) rfl; have r1 := cell_of_heap q2 1 (.slice none 0 0) rfl; have z0 := free_of_heap q2 0; have z1 := free_of_heap q2 1; obtain ⟨f2, f3⟩ := res_two q2))
    (try simp only [Exit.inBlock, Exit.then])
    have hbw := hbb.trans (hb2'.mono hbb.size)
    have hB : ∀ u v, Below w.heap.size w ((w2.setCell ⟨w.heap.size + 1, 0, none⟩ u).setCell ⟨w.heap.size + 1, 1, none⟩ v) := fun u v => (hbw.setCell (p := ⟨w.heap.size + 1, 0, none⟩) (by simp) u).setCell (p := ⟨w.heap.size + 1, 1, none⟩) (by simp) v
    refine bodyPost_ret (by simp [results, Tryd.results27, go_sem, f2, f3]; try rfl) rfl ?_
    exact ⟨⟨_, rfl, hR2.stored hne _ _⟩, hB _ _⟩
end Go.Proofs.YtdoeinccnfggiaaDoor
