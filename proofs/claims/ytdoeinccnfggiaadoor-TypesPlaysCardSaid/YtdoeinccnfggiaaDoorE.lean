import Derived.Test.YtdoeinccnfggiaaDoorD
namespace Go.Proofs.YtdoeinccnfggiaaDoor
open Go.RowKit Go.BigFrame

abbrev tyN (k : Nat) : Ty := ⟨k, 0, 0, ⟨#[]⟩⟩
def tys (k : Nat) : List Ty := (List.range k).map tyN
theorem tys_succ (k : Nat) : tys (k + 1) = tys k ++ [tyN k] := by simp [tys, List.range_succ]
theorem tys_len (k : Nat) : (tys k).length = k := by simp [tys]
def noF : ByteArray → Option (List Fld) := fun _ => none
/-- a table that was made since w -/
def Fresh (w w' : World) (p : Nat) (T : List Ty) (D : ByteArray → Option (List Fld)) : Prop := ∃ F : Nat → Prop, Tb w' p F T D ∧ Below w.heap.size w w' ∧ ∀ k, F k → w.heap.size ≤ k
theorem Fresh.turn {w w1 w2 : World} {p : Nat} {T' : List Ty} {D' : ByteArray → Option (List Fld)} {F : Nat → Prop} (hb : Below w.heap.size w w1) (hF : ∀ k, F k → w.heap.size ≤ k) (ht : Turn w1 w2 p F T' D') : Fresh w w2 p T' D' := by
  obtain ⟨F', h1, h2, h3⟩ := ht
  refine ⟨F', h1, hb.trans (h2.below hb.size hF), fun k hk => ?_⟩
  rcases h3 k hk with h | h
  · exact hF k h
  · have := hb.size
    omega
theorem Fresh.below {w w1 w2 : World} {p : Nat} {T : List Ty} {D} (h : Fresh w w1 p T D) (hb : Below w1.heap.size w1 w2) : Fresh w w2 p T D := by
  obtain ⟨F, h1, h2, h3⟩ := h
  exact ⟨F, h1.below hb, h2.trans (hb.mono h2.size), h3⟩
set_option maxRecDepth 1000000 in
set_option maxHeartbeats 2000000 in
theorem new_any (w : World) : Calls Tryd.prog 10 #[] w fun e w' => e = .returned (.pointer (some ⟨w.heap.size + 1, 0, none⟩)) ∧ Fresh w w' (w.heap.size + 1) (tys 4) noF := by
  have hB1 : Below w.heap.size w ((w.alloc (.map #[] 0)).alloc (.cells #[.slice none 0 0, .map (some w.heap.size)] 66)) := (Below.one w _).alloc (by simp) _
  have hM := MapS.made w
  have hp := heap_alloc_new (w.alloc (.map #[] 0)) (.cells #[.slice none 0 0, .map (some w.heap.size)] 66)
  have hsz : (w.alloc (.map #[] 0)).heap.size = w.heap.size + 1 := by simp
  have hM2 : MapS ((w.alloc (.map #[] 0)).alloc (.cells #[.slice none 0 0, .map (some w.heap.size)] 66)) w.heap.size 0 (fun _ => none) := hM.below (Below.one _ _) (by omega)
  obtain ⟨W, hW⟩ : ∃ W, (w.alloc (.map #[] 0)).alloc (.cells #[.slice none 0 0, .map (some w.heap.size)] 66) = W := ⟨_, rfl⟩
  rw [hW] at hB1 hp hM2
  rw [hsz] at hp
  have h0 : Fresh w W (w.heap.size + 1) (tys 0) noF :=
    ⟨fun k => k = w.heap.size ∨ k = w.heap.size + 1, ⟨.slice none 0 0, w.heap.size, 0, fun _ => none, hp, World.ownsRow_nil W 0 51 4, hM2, .inr rfl, .inl rfl, fun b hb => by simp [Value.ownBlock] at hb, fun s => ⟨fun _ => rfl, fun l hl => by simp [noF] at hl⟩, by simp [tys]⟩, hB1, fun k hk => by omega⟩
  clear hM hM2 hp hB1
  have hmm := @run_makeMap Tryd.prog
  go_enter Tryd.func10, Tryd.ntmps10
  go_wp2
  clear hW hmm hsz
  go_loopw [2] (fun i wr => ∃ k : Nat, k ≤ 4 ∧ i = .int .i64 k ∧ Fresh w wr (w.heap.size + 1) (tys k) noF) (fun i _ => 4 - (intOf i).toNat)
  case atStart => exact ⟨0, by omega, rfl, h0⟩
  case round =>
    obtain ⟨k, hk, rfl, hFr⟩ := hrel
    by_cases hlt : k < 4
    · obtain ⟨F, ⟨V, Mb, n, g, h1, h2, h3, h4, h5, h6, h7, h8⟩, hB, hF⟩ := hFr
      have hc := cell_of_heap h1 0 V rfl
      have hVp := h2.off h1 (by decide)
      have hplt := (Array.getElem?_eq_some_iff.1 h1).1
      obtain ⟨A, cap, hV, _, _⟩ := h2.form
      have hl := tys_len k
      rw [hl] at hV
      subst hV
      have hk3 : decide ((k : Int) ≤ 3) = true := by simp; omega
      have hb : Below wr.heap.size wr (wr.alloc (.cells (tyN k).l.toArray 51)) := Below.one _ _
      go_wp2_with (at_builtin; go_must (refine append_ty rfl _ _ rfl (.slice A k cap) (tys k) rfl (h2.alloc _) wr.heap.size (tyN k) rfl (heap_alloc_new _ _) (by omega) ?_); intro V' w2 ho hg hat; have hp2 : w2.heap[w.heap.size + 1]? = some (.cells #[.slice A k cap, .map (some Mb)] 66 (0, 0)) := (by rw [hg.block _ (by simp; omega) hVp]; exact alloc_keeps h1 _); have hc2 := cell_of_heap hp2 0 (.slice A k cap) rfl; have hz2 := free_of_heap hp2 0; obtain ⟨A2, cap2, rfl, _⟩ := ho.form)
      have hl2 : (tys k ++ [tyN k]).length = k + 1 := by simp [hl]
      rw [hl2] at ho hat
      have ht := Turn.put rfl h1 h2 h3 h4 h5 h6 h7 (by omega) hb ho hg hat
      exact ⟨⟨k + 1, by omega, rfl, by rw [tys_succ]; exact Fresh.turn hB hF ht⟩, by simp [intOf]; omega⟩
    · obtain rfl : k = 4 := by omega
      go_wp2
      go_returns
      exact ⟨rfl, hFr⟩
end Go.Proofs.YtdoeinccnfggiaaDoor
