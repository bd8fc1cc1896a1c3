import Derived.Test.YtdoeinccnfggiaaDoorRu
namespace Go.Proofs.YtdoeinccnfggiaaDoor
open Go.RowKit Go.BigFrame

/-- as does_end, where a list of the step's own (block vb) has turned behind the calls -/
theorem does_end2 {w W w1 w2 w9 : World} {p : Nat} {F F1 X : Nat → Prop} {T1 : List Ty} {Ds1 : List (ByteArray × List Fld)} {a b : Value} {vb : Option Nat} (hW : Below w.heap.size w W) (hWs : W.heap.size = w.heap.size + 3) (hF : ∀ k, F k → k < w.heap.size) (hX : ∀ k, X k → k < w.heap.size)
    (t1 : Tb w1 p F1 T1 (look Ds1)) (hc : Chg W w1 F) (hF1 : ∀ k, F1 k → F k ∨ W.heap.size ≤ k) (hF1' : ∀ k, F1 k → k < w1.heap.size) (hne : ∀ d ∈ Ds1, 0 < d.2.length) (hR : RT w2 (fun k => F3 F1 X w.heap.size k ∨ vb = some k) (.agg #[a, b]) T1 Ds1) (hb : Below w1.heap.size w1 w2)
    (hq : w2.heap[w.heap.size + 1 + 1]? = some (oT none 0 0 none 0 0)) (hvb : ∀ k, vb = some k → W.heap.size ≤ k ∧ k < w1.heap.size ∧ ¬ F1 k) (h9 : Chg (w2.alloc (.cells #[a, b] 44)) w9 (fun k => vb = some k)) :
    w9.cell? ⟨w2.heap.size, 0, none⟩ = some a ∧ w9.cell? ⟨w2.heap.size, 1, none⟩ = some b ∧ w9.cell? ⟨w.heap.size + 1 + 1, 0, none⟩ = some (.slice none 0 0) ∧ w9.cell? ⟨w.heap.size + 1 + 1, 1, none⟩ = some (.slice none 0 0) ∧
    w9.frozen? ⟨w.heap.size + 1 + 1, 0, none⟩ = false ∧ w9.frozen? ⟨w.heap.size + 1 + 1, 1, none⟩ = false ∧
    (∀ u, (w9.setCell ⟨w.heap.size + 1 + 1, 0, none⟩ u).cell? ⟨w.heap.size + 1 + 1, 0, none⟩ = some u) ∧ (∀ u v, ((w9.setCell ⟨w.heap.size + 1 + 1, 0, none⟩ u).setCell ⟨w.heap.size + 1 + 1, 1, none⟩ v).cell? ⟨w.heap.size + 1 + 1, 1, none⟩ = some v) ∧
    ∀ u v, Turn2 w ((w9.setCell ⟨w.heap.size + 1 + 1, 0, none⟩ u).setCell ⟨w.heap.size + 1 + 1, 1, none⟩ v) p F X (.agg #[a, b]) T1 Ds1 := by
  have hlt : w.heap.size + 1 + 1 < w2.heap.size := (Array.getElem?_eq_some_iff.1 hq).1
  have hs1 := hc.size
  have hs2 := hb.size
  have hs9 := h9.size
  rw [show (w2.alloc (.cells #[a, b] 44)).heap.size = w2.heap.size + 1 by simp] at hs9
  have hnv : ∀ k, k < w.heap.size + 3 → ¬ vb = some k := fun k hk e => by have := (hvb k e).1; omega
  have n0 : w9.heap[w2.heap.size]? = some (.cells #[a, b] 44 (0, 0)) := (h9.block _ (by simp) (fun e => by have := (hvb _ e).2.1; omega)).trans (heap_alloc_new w2 (.cells #[a, b] 44))
  have s1 : w9.heap[w.heap.size + 1 + 1]? = some (oT none 0 0 none 0 0) := (h9.block _ (by simp; omega) (hnv _ (by omega))).trans (alloc_keeps hq _)
  obtain ⟨f2, f3⟩ := res_two s1
  refine ⟨cell_of_heap n0 0 _ rfl, cell_of_heap n0 1 _ rfl, cell_of_heap s1 0 _ rfl, cell_of_heap s1 1 _ rfl, free_of_heap s1 0, free_of_heap s1 1, f2, f3, fun u v => ?_⟩
  have hk9 : ∀ k, k < w2.heap.size → ¬ vb = some k → w9.heap[k]? = w2.heap[k]? := fun k hk hn => (h9.block k (by simp; omega) hn).trans (Below.heap_alloc _ _ _ hk)
  have hcw : Chg w w1 F := (Chg.of_below hW F).trans hc (fun i hi => .inl hi)
  have h19 : Below w.heap.size w1 w9 := ⟨h9.os.trans hb.os, h9.tape.trans hb.tape, h9.output.trans hb.output, by omega, fun k hk => (hk9 k (by omega) (hnv k (by omega))).trans (hb.block k (by omega))⟩
  have hb4 : Below w.heap.size w1 ((w9.setCell ⟨w.heap.size + 1 + 1, 0, none⟩ u).setCell ⟨w.heap.size + 1 + 1, 1, none⟩ v) := (h19.setCell (p := ⟨w.heap.size + 1 + 1, 0, none⟩) (by simp only; omega) _).setCell (p := ⟨w.heap.size + 1 + 1, 1, none⟩) (by simp only; omega) _
  refine ⟨F1, ⟨t1.same fun k hk hlt => ?_, (hR.move hne (by omega) fun k hk hn => ⟨hk9 k hk fun e => hn (.inr e), fun e => hn (.inl e)⟩ : RT w9 (F3 F1 X w.heap.size) _ _ _) |>.set2 hne (r := w.heap.size + 1 + 1) (.inr (.inr ⟨by omega, by omega⟩)) u v |>.less hne (fun k hk => hk.imp id .inl), fun k hk => Nat.lt_of_lt_of_le (hF1' k hk) hb4.size, fun k hk => by have := hX k hk; have := hb4.size; omega⟩, hcw.after hb4, fun k hk => ?_⟩
  · have hkr : k ≠ w.heap.size + 1 + 1 := fun e => by
      rcases hF1 k hk with h | h
      · have := hF k h; omega
      · omega
    rw [set2_other hkr, hk9 k (by omega) (fun e => (hvb k e).2.2 hk)]
    exact hb.block k hlt
  · rcases hF1 k hk with h | h
    · exact .inl h
    · exact .inr (by omega)
theorem FRdO.chg {w w' : World} {F : Nat → Prop} {A : Option Addr} {l : List Fld} (h : FRdO w A l) (hc : Chg w w' F) (hA : 0 < l.length → ∀ b o, A = some ⟨b, o, none⟩ → ¬ F b) : FRdO w' A l := fun j f hf => by
  obtain ⟨b, o, e1, e2, e3, e4⟩ := h j f hf
  have hk := hc.block b e2 (hA (by have := (List.getElem?_eq_some_iff.1 hf).1; omega) b o e1)
  exact ⟨b, o, e1, Nat.lt_of_lt_of_le e2 hc.size, (World.cell?_of_block (a := ⟨b, _, none⟩) hk).trans e3, (World.cell?_of_block (a := ⟨b, _, none⟩) hk).trans e4⟩
/-- the block of a list of fields of one's own: its type cells can be counted up -/
def Bump (w : World) (V : Value) (L : Nat) : Prop := 0 < L → ∃ b cap cs, V = .slice (some ⟨b, 0, none⟩) L cap ∧ w.heap[b]? = some (.cells cs 31 (0, 0)) ∧ ∀ j, j < L → ∃ n, cs[j * 2 + 1]? = some (.int .i64 n)
theorem OwnF.bump {w : World} {V : Value} {l : List Fld} (h : OwnF w V l) : Bump w V l.length := fun hl => by
  have h0 := h
  obtain ⟨h1, h2⟩ := h
  rcases h2 with ⟨rfl, hn⟩ | ⟨g, cap, cur, rfl, hB, hg, hnc, _, hsz, htake⟩
  · omega
  · refine ⟨g, cap, cur, rfl, hg, fun j hj => ⟨l[j].type, ?_⟩⟩
    have := World.ownsRow.cellAt h0 (j * 2 + 1) (by omega)
    rw [fcells_at l j 1 hj (by omega)] at this
    simp [World.cell?, hg] at this
    simpa using this
theorem Bump.chg {w w' : World} {V : Value} {L : Nat} (h : Bump w V L) (hk : ∀ b, V.ownBlock = some b → b < w.heap.size → w'.heap[b]? = w.heap[b]?) : Bump w' V L := fun hl => by
  obtain ⟨b, cap, cs, e1, e2, e3⟩ := h hl
  exact ⟨b, cap, cs, e1, (hk b (by rw [e1]; rfl) (Array.getElem?_eq_some_iff.1 e2).1).trans e2, e3⟩
theorem Bump.set {w : World} {V : Value} {L b cap j : Nat} {n : Int} (h : Bump w V L) (hV : V = .slice (some ⟨b, 0, none⟩) L cap) (hj : j < L) : Bump (w.setCell ⟨b, j * 2 + 1, none⟩ (.int .i64 n)) V L := fun hl => by
  obtain ⟨b', cap', cs, e1, e2, e3⟩ := h hl
  rw [hV] at e1
  injection e1 with e1 _ _
  injection e1 with e1
  injection e1 with e1
  subst e1
  refine ⟨b, cap, _, hV, heap_setCell e2 _, fun i hi => ?_⟩
  by_cases hij : i = j
  · subst hij
    obtain ⟨m, hm⟩ := e3 i hi
    have := (Array.getElem?_eq_some_iff.1 hm).1
    exact ⟨n, by simp [this]⟩
  · obtain ⟨m, hm⟩ := e3 i hi
    exact ⟨m, by rw [Array.getElem?_setIfInBounds_ne (by omega)]; exact hm⟩
end Go.Proofs.YtdoeinccnfggiaaDoor
