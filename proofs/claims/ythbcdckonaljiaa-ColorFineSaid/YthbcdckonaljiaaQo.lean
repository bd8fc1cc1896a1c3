import Derived.Test.YthbcdckonaljiaaDz
import Derived.Test.YthbcdckonaljiaaZa
import Derived.Test.YthbcdckonaljiaaZj
import Derived.Test.YthbcdckonaljiaaShelf
import Derived.StillTailTactics
import Derived.WalkMore
namespace Go.Proofs.Ythbcdckonaljiaa
open Go.RowKit Go.BigFrame

def gSt (x : Nat × Nat) : List Value := [.int .i64 x.1, .int .i64 x.2]
def OwnSt (w : World) (V : Value) (l : List (Nat × Nat)) : Prop := w.ownsRow 0 126 2 V l.length (l.flatMap gSt)
theorem info_st : (Try.prog.info? 126).map (fun i => (i.zero, i.size, i.bytes)) = some (some (.agg #[.int .i64 0, .int .i64 0]), 2, 16) := by kernel_rfl
theorem OwnSt.keepS {w w' : World} {V : Value} {l : List (Nat × Nat)} (h : OwnSt w V l) (hk : ∀ b, V.ownBlock = some b → w'.heap[b]? = w.heap[b]?) : OwnSt w' V l := by
  obtain ⟨h1, h2⟩ := h
  refine ⟨h1, ?_⟩
  rcases h2 with h2 | ⟨g, cap, cur, e, h3, h4, h5⟩
  · exact Or.inl h2
  · exact Or.inr ⟨g, cap, cur, e, h3, by rw [hk g (by rw [e]; rfl)]; exact h4, h5⟩
theorem gSt_len (l : List (Nat × Nat)) : (l.flatMap gSt).length = l.length * 2 := by
  induction l with
  | nil => rfl
  | cons a l ih => rw [List.flatMap_cons, List.length_append, ih]; simp [gSt]; omega
theorem gSt_at : ∀ (l : List (Nat × Nat)) (t : Nat) (x : Nat × Nat), l[t]? = some x → (l.flatMap gSt)[t * 2]? = some (.int .i64 x.1) ∧ (l.flatMap gSt)[t * 2 + 1]? = some (.int .i64 x.2)
  | [], t, x, h => by simp at h
  | a::l, 0, x, h => by simp at h; subst h; simp [gSt]
  | a::l, t + 1, x, h => by
    have := gSt_at l t x (by simpa using h)
    rw [List.flatMap_cons, List.getElem?_append_right (by simp [gSt]; omega), List.getElem?_append_right (by simp [gSt]; omega)]
    simpa [gSt, show (t + 1) * 2 - 2 = t * 2 by omega, show (t + 1) * 2 + 1 - 2 = t * 2 + 1 by omega] using this
theorem OwnSt.cells {w : World} {g cap n t : Nat} {l : List (Nat × Nat)} (h : OwnSt w (.slice (some ⟨g, 0, none⟩) n cap) l) {x : Nat × Nat} (hx : l[t]? = some x) : w.cell? ⟨g, t * 2, none⟩ = some (.int .i64 x.1) ∧ w.cell? ⟨g, t * 2 + 1, none⟩ = some (.int .i64 x.2) := by
  have ht := (List.getElem?_eq_some_iff.1 hx).1
  have hl := gSt_len l
  obtain rfl : l.length = n := by
    rcases h.2 with ⟨h2, _⟩ | ⟨_, _, _, e, _⟩
    · cases h2
    · injection e with _ e _; exact e.symm
  have h1 := World.ownsRow.cellAt h (t * 2) (by omega)
  have h2 := World.ownsRow.cellAt h (t * 2 + 1) (by omega)
  obtain ⟨e1, e2⟩ := gSt_at l t x hx
  exact ⟨h1.trans e1, h2.trans e2⟩
theorem OwnSt.frz {w : World} {g cap n : Nat} {l : List (Nat × Nat)} (h : OwnSt w (.slice (some ⟨g, 0, none⟩) n cap) l) (k : Nat) : w.frozen? ⟨g, k, none⟩ = false := by
  obtain ⟨_, h2⟩ := h
  rcases h2 with ⟨h2, _⟩ | ⟨g', cap', cur, e, _, hg, _⟩
  · cases h2
  · injection e with e1 e2 e3
    injection e1 with e1
    injection e1 with e1
    subst e1
    exact free_of_heap hg k
theorem OwnSt.lt {w : World} {V : Value} {l : List (Nat × Nat)} (h : OwnSt w V l) : ∀ b, V.ownBlock = some b → b < w.heap.size := fun b hb => (World.ownsRow.lt h b hb).2
theorem OwnSt.form {w : World} {V : Value} {l : List (Nat × Nat)} (h : OwnSt w V l) (hl : 0 < l.length) : ∃ g cap, V = .slice (some ⟨g, 0, none⟩) l.length cap ∧ g < w.heap.size := by
  obtain ⟨g, cap, e, _, h2⟩ := World.ownsRow.form h hl
  exact ⟨g, cap, e, h2⟩
theorem OwnSt.bump {w : World} {g cap n j k : Nat} {a : Nat} {l : List (Nat × Nat)} (h : OwnSt w (.slice (some ⟨g, 0, none⟩) n cap) (l ++ [(a, j)])) : OwnSt (w.setCell ⟨g, l.length * 2 + 1, none⟩ (.int .i64 k)) (.slice (some ⟨g, 0, none⟩) n cap) (l ++ [(a, k)]) := by
  obtain ⟨h1, h2⟩ := h
  have hll : (l ++ [(a, k)]).length = (l ++ [(a, j)]).length := by simp
  refine ⟨by rw [gSt_len], ?_⟩
  rcases h2 with ⟨h2, _⟩ | ⟨g', cap', cur, e, h3, hg, hnc, hcm, hsz, htake⟩
  · cases h2
  · injection e with e1 e2 e3
    injection e1 with e1
    injection e1 with e1
    subst e1 e3
    refine Or.inr ⟨g, cap, cur.setIfInBounds (l.length * 2 + 1) (.int .i64 k), by rw [hll, e2], h3, heap_setCell_same w g _ cur _ _ hg, by rw [hll]; exact hnc, hcm, by simpa using hsz, ?_⟩
    have hlen : (l ++ [(a, j)]).length = l.length + 1 := by simp
    rw [hll]
    rw [Array.toList_setIfInBounds, List.take_set, htake]
    rw [List.flatMap_append, List.flatMap_append, List.set_append_right _ _ (by rw [gSt_len]; omega)]
    congr 1
    rw [gSt_len, show l.length * 2 + 1 - l.length * 2 = 1 by omega]
    rfl
theorem OwnSt.pop {w : World} {g cap n : Nat} {l : List (Nat × Nat)} {x : Nat × Nat} (h : OwnSt w (.slice (some ⟨g, 0, none⟩) (n + 1) cap) (l ++ [x])) (hl : l.length = n) : OwnSt w (.slice (some ⟨g, 0, none⟩) n cap) l := by
  obtain ⟨h1, h2⟩ := h
  refine ⟨by rw [gSt_len], ?_⟩
  rcases h2 with ⟨h2, _⟩ | ⟨g', cap', cur, e, hB, hg, hnc, hcm, hsz, htake⟩
  · cases h2
  · injection e with e1 e2 e3
    injection e1 with e1
    injection e1 with e1
    subst e1 e3
    refine Or.inr ⟨g, cap, cur, by rw [hl], hB, hg, by rw [List.length_append] at hnc; omega, hcm, hsz, ?_⟩
    have := congrArg (List.take (l.length * 2)) htake
    rw [List.take_take] at this
    simp only [List.length_append, List.length_singleton] at this ⊢
    rw [Nat.min_eq_left (by omega)] at this
    rw [this, List.flatMap_append, List.take_append_of_le_length (by rw [gSt_len]; omega), List.take_of_length_le (by rw [gSt_len]; omega)]
set_option maxRecDepth 1000000 in
theorem append_step {ops : Array Oper} {rest : List Oper} {o : Oper} {a : Act} {w : World} {Q : Exit → Act → World → Prop} (hgd : o.guard = none) (s x : Operand)
    (ho : o.op = .call { callee := .builtin .append, args := #[s, x], argTypes := #[127, 127] }) (V : Value) (k : List (Nat × Nat)) (hs : a.eval s = V) (hown : OwnSt w V k)
    (g : Nat) (y : Nat × Nat) (hx : a.eval x = .slice (some ⟨g, 0, none⟩) 1 1) (hg : w.heap[g]? = some (.cells #[.int .i64 y.1, .int .i64 y.2] 126 (0, 0))) (hn : k.length ≤ 90000)
    (h : ∀ V' w', OwnSt w' V' (k ++ [y]) → w.grownBy w' V.ownBlock → (V'.ownBlock = V.ownBlock ∨ V'.ownBlock = some w.heap.size) → wpList Try.prog ops Q rest (a.put o.dst V') w') :
    wpList Try.prog ops Q (o::rest) a w := by
  obtain ⟨i0, hi, hz0, hz1, hz2⟩ := info_parts info_st
  obtain ⟨V', w', hr, h1, h2, _, h4⟩ := run_append_own_at (P := Try.prog) w 0 127 o.type 126 i0 (.agg #[.int .i64 0, .int .i64 0]) 2 16 (by kernel_rfl) hi hz0 hz1 hz2 rfl (by decide) V k.length (k.flatMap gSt) hown ⟨g, 0, none⟩ 1 1 (gSt y) rfl
    (fun j u hu => World.news_of_block hg j u hu) (fun u hu => by
      simp only [gSt, List.mem_cons, List.not_mem_nil, or_false] at hu
      rcases hu with rfl | rfl <;> rfl) (by simp only [maxLen]; omega) (by omega) (Nat.zero_le _)
  exact append_ran hgd s x ho hs hx hr (h V' w' (by unfold OwnSt; rw [List.length_append, List.flatMap_append]; simpa using h1) h2 h4)
structure OrM (w wr : World) (base sb N : Nat) (V V5 : Value) (T : List (Nat × Nat)) (S L : List Nat) : Prop where
  seen : Pre gB 1 4 wr sb (bl N fun p => decide (p ∈ S))
  st : OwnSt wr V T
  out : OwnN wr V5 (L.map fun n : Nat => (n : Int))
  vb : ∀ b, V.ownBlock = some b → base ≤ b ∧ b ≠ sb
  ob : ∀ b, V5.ownBlock = some b → base ≤ b ∧ b ≠ sb ∧ V.ownBlock ≠ some b
  bel : Below base w wr
  le : base ≤ sb
  les : base ≤ wr.heap.size
theorem OwnN.lt2 {w : World} {V : Value} {l : List Int} (h : OwnN w V l) : ∀ b, V.ownBlock = some b → b < w.heap.size := fun b hb => (World.ownsRow.lt h b hb).2
theorem OrM.later {w wr w' : World} {base sb N : Nat} {V V5 : Value} {T : List (Nat × Nat)} {S L : List Nat} (h : OrM w wr base sb N V V5 T S L) (hb : Below wr.heap.size wr w') : OrM w w' base sb N V V5 T S L :=
  ⟨Pre.later h.seen hb, h.st.keepS fun b e => hb.block b (h.st.lt b e), h.out.later hb, h.vb, h.ob, h.bel.trans (hb.mono h.les), h.le, Nat.le_trans h.les hb.size⟩
theorem OrM.mark {w wr : World} {base sb N n : Nat} {V V5 : Value} {T : List (Nat × Nat)} {S L : List Nat} (h : OrM w wr base sb N V V5 T S L) (hn : n < N) : OrM w (wr.setCell ⟨sb, n, none⟩ (.bool true)) base sb N V V5 T (S ++ [n]) L := by
  refine ⟨?_, h.st.keepS fun b e => heap_setCell_other wr ⟨sb, n, none⟩ b _ (fun e2 => (h.vb b e).2 e2), h.out.keepS fun b e => heap_setCell_other wr ⟨sb, n, none⟩ b _ (fun e2 => (h.ob b e).2.1 e2), h.vb, h.ob, h.bel.setCell h.le _, h.le, by simpa using h.les⟩
  have h1 := PreB.set h.seen (j := n) (by simpa [bl] using hn) true
  rw [bl_set] at h1
  have e : setM (fun p => decide (p ∈ S)) n = fun p => decide (p ∈ S ++ [n]) := by
    funext p
    unfold setM
    rw [Bool.eq_iff_iff]
    simp only [Bool.or_eq_true, decide_eq_true_eq, List.mem_append, List.mem_singleton]
    exact Or.comm
  rwa [e] at h1
theorem OrM.bump {w wr : World} {base sb N g n cap a j k : Nat} {V5 : Value} {T : List (Nat × Nat)} {S L : List Nat} (h : OrM w wr base sb N (.slice (some ⟨g, 0, none⟩) n cap) V5 (T ++ [(a, j)]) S L) : OrM w (wr.setCell ⟨g, T.length * 2 + 1, none⟩ (.int .i64 k)) base sb N (.slice (some ⟨g, 0, none⟩) n cap) V5 (T ++ [(a, k)]) S L :=
  ⟨h.seen.other (by have := (h.vb g rfl).2; exact this) _, h.st.bump, h.out.keepS fun b e => heap_setCell_other wr ⟨g, T.length * 2 + 1, none⟩ b _ (fun e2 => (h.ob b e).2.2 (by rw [e2]; rfl)), h.vb, h.ob, h.bel.setCell (h.vb g rfl).1 _, h.le, by simpa using h.les⟩
theorem OrM.push {w wr w' : World} {base sb N : Nat} {V V' V5 : Value} {T : List (Nat × Nat)} {S L : List Nat} {x : Nat × Nat} {o : Obj} (h : OrM w wr base sb N V V5 T S L) (ho : OwnSt w' V' (T ++ [x])) (hg : (wr.alloc o).grownBy w' V.ownBlock) (hv : V'.ownBlock = V.ownBlock ∨ V'.ownBlock = some (wr.alloc o).heap.size) : OrM w w' base sb N V' V5 (T ++ [x]) S L := by
  have hv' : V'.ownBlock = V.ownBlock ∨ V'.ownBlock = some (wr.heap.size + 1) := by simpa using hv
  have hsl := Pre.lt h.seen
  have hkeep : ∀ b, b < wr.heap.size → V.ownBlock ≠ some b → w'.heap[b]? = wr.heap[b]? := fun b hb hne => (hg.block b (by simp; omega) (fun e => hne e.symm)).trans (heap_alloc_old wr o hb)
  have hles := h.les
  refine ⟨h.seen.of_heap (hkeep sb hsl fun e => (h.vb sb e).2 rfl), ho, h.out.keepS fun b e => hkeep b (h.out.lt2 b e) (h.ob b e).2.2, fun b e => ?_, fun b e => ?_, Below.grown (h.bel.alloc h.les o) hg (by simp; omega) (fun k hk => (h.vb k hk).1), h.le, by have := hg.size; simp at this; omega⟩
  · rcases hv' with e2 | e2
    · rw [e2] at e; exact h.vb b e
    · rw [e2] at e; injection e with e; subst e; omega
  · obtain ⟨h1, h2, h3⟩ := h.ob b e
    refine ⟨h1, h2, ?_⟩
    rcases hv' with e2 | e2
    · rw [e2]; exact h3
    · rw [e2]; intro e3; injection e3 with e3; have := h.out.lt2 b e; omega
theorem OrM.leave {w wr w' : World} {base sb N : Nat} {V V5 V6 : Value} {T : List (Nat × Nat)} {S L : List Nat} {x : Nat} {o : Obj} (h : OrM w wr base sb N V V5 T S L) (ho : OwnN w' V6 ((L.map fun n : Nat => (n : Int)) ++ [(x : Int)])) (hg : (wr.alloc o).grownBy w' V5.ownBlock) (hv : V6.ownBlock = V5.ownBlock ∨ V6.ownBlock = some (wr.alloc o).heap.size) : OrM w w' base sb N V V6 T S (L ++ [x]) := by
  have hv' : V6.ownBlock = V5.ownBlock ∨ V6.ownBlock = some (wr.heap.size + 1) := by simpa using hv
  have hsl := Pre.lt h.seen
  have hkeep : ∀ b, b < wr.heap.size → V5.ownBlock ≠ some b → w'.heap[b]? = wr.heap[b]? := fun b hb hne => (hg.block b (by simp; omega) (fun e => hne e.symm)).trans (heap_alloc_old wr o hb)
  have hles := h.les
  refine ⟨h.seen.of_heap (hkeep sb hsl fun e => (h.ob sb e).2.1 rfl), h.st.keepS fun b e => hkeep b (h.st.lt b e) (fun e2 => (h.ob b e2).2.2 e), by rw [List.map_append]; exact ho, h.vb, fun b e => ?_, Below.grown (h.bel.alloc h.les o) hg (by simp; omega) (fun k hk => (h.ob k hk).1), h.le, by have := hg.size; simp at this; omega⟩
  rcases hv' with e2 | e2
  · rw [e2] at e; exact h.ob b e
  · rw [e2] at e; injection e with e; subst e
    exact ⟨by omega, by omega, fun e3 => by have := h.st.lt _ e3; omega⟩
theorem OrM.pop {w wr : World} {base sb N g n cap : Nat} {V5 : Value} {T : List (Nat × Nat)} {x : Nat × Nat} {S L : List Nat} (h : OrM w wr base sb N (.slice (some ⟨g, 0, none⟩) (n + 1) cap) V5 (T ++ [x]) S L) (hl : T.length = n) : OrM w wr base sb N (.slice (some ⟨g, 0, none⟩) n cap) V5 T S L :=
  ⟨h.seen, h.st.pop hl, h.out, h.vb, h.ob, h.bel, h.le, h.les⟩
noncomputable def or1 : Code := ((((Try.f101.body).map loopsOf).getD [])[0]?).getD .skip
noncomputable def or2 : Code := ((loopsOf (inLoop or1))[0]?).getD .skip
set_option maxRecDepth 1000000 in
set_option maxHeartbeats 8000000 in
theorem or2_any (nx : Nat → List Nat) (w wr0 : World) (base sb N : Nat) (g t cap4 p j0 : Nat) (V5 : Value) (T : List (Nat × Nat)) (S L Sf Lf : List Nat) (A : Option Addr) (cap Ln : Nat) (ht : T.length = t) (htN : t ≤ 8192) (hLn : (nx p).length = Ln) (hLn2 : Ln ≤ 100)
    (hin : ∀ n ∈ nx p, n < N) (hM : OrM w wr0 base sb N (.slice (some ⟨g, 0, none⟩) (t + 1) cap4) V5 (T ++ [(p, j0)]) S L) (hj0 : j0 ≤ Ln) (hR : RdN wr0 A ((nx p).map fun n : Nat => (n : Int))) (hAg : ∀ b o, A = some ⟨b, o, none⟩ → b ≠ g ∧ b ≠ sb)
    (hrn : Rn nx ((p, j0)::T.reverse) S L Sf Lf)
    (x0 x1 x2 x8 x9 x10 x11 x12 x13 x14 x15 x16 x17 x18 x19 x20 x21 x22 x23 x24 x25 x26 x27 x28 x29 x30 x31 x32 x33 x34 x35 x36 x37 x38 x39 x40 x41 x42 x43 x44 x45 x46 x47 x48 x49 x50 x51 x52 x53 x54 x55 x56 x57 x58 x59 x60 x61 x62 x63 x64 x65 x66 x67 x68 x69 x70 x71 x72 x73 x74 x75 x76 x77 x78 x79 x80 x81 x82 x83 x84 x85 x86 x87 x88 x89 : Value) (Q : Exit → Act → World → Prop)
    (hexit : ∀ (y8 y41 y42 y43 y44 y45 y46 y47 y48 y49 y50 y51 y52 y53 y54 y55 y56 y57 y58 y59 y60 y61 y62 y63 y64 y65 y66 y67 y68 y69 y70 y71 y72 y73 y74 : Value) (w' : World), OrM w w' base sb N (.slice (some ⟨g, 0, none⟩) (t + 1) cap4) V5 (T ++ [(p, Ln)]) S L → Rn nx ((p, Ln)::T.reverse) S L Sf Lf → Q (.exit 2) ⟨(x0::x1::x2::.slice (some ⟨sb, 0, none⟩) N N::.slice (some ⟨g, 0, none⟩) (t + 1) cap4::V5::.pointer (some ⟨g, t * 2, none⟩)::.slice A Ln cap::y8::x9::x10::x11::x12::x13::x14::x15::x16::x17::x18::x19::x20::x21::x22::x23::x24::x25::x26::x27::x28::x29::x30::x31::x32::x33::x34::x35::x36::x37::x38::x39::x40::y41::y42::y43::y44::y45::y46::y47::y48::y49::y50::y51::y52::y53::y54::y55::y56::y57::y58::y59::y60::y61::y62::y63::y64::y65::y66::y67::y68::y69::y70::y71::y72::y73::y74::x75::x76::x77::x78::x79::x80::x81::x82::x83::x84::x85::x86::x87::x88::x89::[]).toArray, []⟩ w')
    (hpush : ∀ (y4 y8 y41 y42 y43 y44 y45 y46 y47 y48 y49 y50 y51 y52 y53 y54 y55 y56 y57 y58 y59 y60 y61 y62 y63 y64 y65 y66 y67 y68 y69 y70 y71 y72 y73 y74 : Value) (w' : World) (n j : Nat), n < N → n ∉ S → OrM w w' base sb N y4 V5 (T ++ [(p, j)] ++ [(n, 0)]) (S ++ [n]) L → Rn nx ((n, 0)::(p, j)::T.reverse) (S ++ [n]) L Sf Lf → j ≤ Ln → Q (.exit 1) ⟨(x0::x1::x2::.slice (some ⟨sb, 0, none⟩) N N::y4::V5::.pointer (some ⟨g, t * 2, none⟩)::.slice A Ln cap::y8::x9::x10::x11::x12::x13::x14::x15::x16::x17::x18::x19::x20::x21::x22::x23::x24::x25::x26::x27::x28::x29::x30::x31::x32::x33::x34::x35::x36::x37::x38::x39::x40::y41::y42::y43::y44::y45::y46::y47::y48::y49::y50::y51::y52::y53::y54::y55::y56::y57::y58::y59::y60::y61::y62::y63::y64::y65::y66::y67::y68::y69::y70::y71::y72::y73::y74::x75::x76::x77::x78::x79::x80::x81::x82::x83::x84::x85::x86::x87::x88::x89::[]).toArray, []⟩ w') :
    Code.wp Try.prog or2 Q ⟨(x0::x1::x2::.slice (some ⟨sb, 0, none⟩) N N::.slice (some ⟨g, 0, none⟩) (t + 1) cap4::V5::.pointer (some ⟨g, t * 2, none⟩)::.slice A Ln cap::x8::x9::x10::x11::x12::x13::x14::x15::x16::x17::x18::x19::x20::x21::x22::x23::x24::x25::x26::x27::x28::x29::x30::x31::x32::x33::x34::x35::x36::x37::x38::x39::x40::x41::x42::x43::x44::x45::x46::x47::x48::x49::x50::x51::x52::x53::x54::x55::x56::x57::x58::x59::x60::x61::x62::x63::x64::x65::x66::x67::x68::x69::x70::x71::x72::x73::x74::x75::x76::x77::x78::x79::x80::x81::x82::x83::x84::x85::x86::x87::x88::x89::[]).toArray, []⟩ wr0 := by
  conv => arg 2; whnf
  have HE := Lib.hid hexit
  have HP := Lib.hid hpush
  have HLN := Lib.hid hLn
  have HIN := Lib.hid hin
  have HAG := Lib.hid hAg
  have HT := Lib.hid ht
  have H0 := Lib.hid (show OrM w wr0 base sb N (.slice (some ⟨g, 0, none⟩) (t + 1) cap4) V5 (T ++ [(p, j0)]) S L ∧ RdN wr0 A ((nx p).map fun n : Nat => (n : Int)) ∧ Rn nx ((p, j0)::T.reverse) S L Sf Lf ∧ j0 ≤ Ln from ⟨hM, hR, hrn, hj0⟩)
  clear hexit hpush hLn hin hAg hM hR hrn hj0 ht
  go_loopg [4] (Ln - j0) (fun gk V wr => ∃ j, gk = Ln - j ∧ j ≤ Ln ∧ V = .slice (some ⟨g, 0, none⟩) (t + 1) cap4 ∧ OrM w wr base sb N (.slice (some ⟨g, 0, none⟩) (t + 1) cap4) V5 (T ++ [(p, j)]) S L ∧ RdN wr A ((nx p).map fun n : Nat => (n : Int)) ∧ Rn nx ((p, j)::T.reverse) S L Sf Lf)
  case atStart => exact ⟨j0, rfl, H0.out.2.2.2, rfl, H0.out.1, H0.out.2.1, H0.out.2.2.1⟩
  case round =>
    obtain ⟨j, hgk, hj, rfl, hm, hr, hn⟩ := hrel
    clear H0
    have hxt : (T ++ [(p, j)])[t]? = some (p, j) := by rw [← HT.out]; simp
    obtain ⟨hc0, hc1⟩ := hm.st.cells hxt
    have hfz := hm.st.frz (t * 2 + 1)
    have hgs : g ≠ sb := (hm.vb g rfl).2
    have hgl : g < wr.heap.size := hm.st.lt g rfl
    simp only at hc0 hc1
    have HM := Lib.hid hm
    have HR := Lib.hid hr
    have HN := Lib.hid hn
    have HGK := Lib.hid hgk
    by_cases hlt : j < Ln
    · obtain ⟨n, hnj⟩ : ∃ n, (nx p)[j]? = some n := ⟨_, List.getElem?_eq_getElem (by rw [HLN.out]; exact hlt)⟩
      have hnN := HIN.out n (List.mem_of_getElem? hnj)
      obtain ⟨b, o, rfl, hbl, hc⟩ := hr j n (by rw [List.getElem?_map, hnj]; rfl)
      have hbg := HAG.out b o rfl
      have hsc := PreB.cell hm.seen (bl_get hnN)
      have hsf := Pre.free hm.seen n
      have hsl := Pre.lt hm.seen
      have HNJ := Lib.hid hnj
      have HNN := Lib.hid hnN
      obtain ⟨z, hz⟩ : ∃ z, decide (n ∈ S) = z := ⟨_, rfl⟩
      rw [hz] at hsc
      have HZ := Lib.hid hz
      have hbg1 := hbg.1
      have hbg2 := hbg.2
      have hgb1 := Ne.symm hbg.1
      have hsg := Ne.symm hgs
      have hnk : (n : Int) < N := by omega
      have hjl : (j : Int) < Ln := by omega
      clear hm hr hn hgk hnj hbg hz
      cases z with
      | true =>
        have HS2 : Hid (n ∈ S) := Lib.hid (by have := HZ.out; simpa using this)
        go_wp2
        go_roundg (Ln - (j + 1))
        case measure => rw [HGK.out]; omega
        case rel => exact ⟨j + 1, rfl, by omega, rfl, by have h := HM.out.bump (k := j + 1); rw [HT.out] at h; exact h, HR.out.keepS (by simp) (fun b o e _ => heap_setCell_other wr ⟨g, t * 2 + 1, none⟩ b _ (HAG.out b o e).1), HN.out.skip HNJ.out HS2.out⟩
      | false =>
        have HS2 : Hid (n ∉ S) := Lib.hid (by have := HZ.out; simpa using this)
        go_upto_region 15 with fail
        obtain ⟨w2, hw2⟩ : ∃ w2, (wr.setCell ⟨g, t * 2 + 1, none⟩ (.int .i64 ((j : Int) + 1))).setCell ⟨sb, n, none⟩ (.bool true) = w2 := ⟨_, rfl⟩
        have hm2 : OrM w w2 base sb N (.slice (some ⟨g, 0, none⟩) (t + 1) cap4) V5 (T ++ [(p, j + 1)]) (S ++ [n]) L := by
          rw [← hw2]
          have h := (HM.out.bump (k := j + 1)).mark HNN.out
          rw [HT.out] at h
          exact h
        rw [hw2]
        have HM2 := Lib.hid hm2
        have HW2 := Lib.hid hw2
        clear hw2 hm2 hc0 hc1 hfz hc hsc hsf
        go_wp2_with (first
          | (at_builtin; refine append_step rfl (.tmp 70) (.tmp 73) rfl (.slice (some ⟨g, 0, none⟩) (t + 1) cap4) (T ++ [(p, j + 1)]) rfl (World.ownsRow.alloc HM2.out.st _) w2.heap.size (n, 0) rfl (heap_alloc_new _ _) (by rw [List.length_append, HT.out]; simp; omega) ?_; intro V' w8 ho8 hg8 hb8))
        exact HP.out _ _ _ _ _ _ _ _ _ _ _ _ _ _ _ _ _ _ _ _ _ _ _ _ _ _ _ _ _ _ _ _ _ _ _ _ w8 n (j + 1) HNN.out HS2.out (HM2.out.push ho8 hg8 hb8) (HN.out.push HNJ.out HS2.out) (by omega)
    · obtain rfl : j = Ln := by omega
      have HX := fun (y8 y41 y42 y43 y44 y45 y46 y47 y48 y49 y50 y51 y52 y53 y54 y55 y56 y57 y58 y59 y60 y61 y62 y63 y64 y65 y66 y67 y68 y69 y70 y71 y72 y73 y74 : Value) => Lib.hid (HE.out y8 y41 y42 y43 y44 y45 y46 y47 y48 y49 y50 y51 y52 y53 y54 y55 y56 y57 y58 y59 y60 y61 y62 y63 y64 y65 y66 y67 y68 y69 y70 y71 y72 y73 y74 wr hm hn)
      clear hm hn hr HE
      go_wp2
      exact (HX _ _ _ _ _ _ _ _ _ _ _ _ _ _ _ _ _ _ _ _ _ _ _ _ _ _ _ _ _ _ _ _ _ _ _).out
theorem rev_own (base : Nat) (W0 w : World) (hb : Below base W0 w) (hw : base ≤ w.heap.size) (V : Value) (l : List Int) (hown : OwnN w V l) (hV : ∀ b, V.ownBlock = some b → base ≤ b) (hl : l.length ≤ 100000) :
    Calls Try.prog 113 #[V] w fun e w' => e = .returned (.tuple #[]) ∧ Below base W0 w' ∧ ∃ A cap, V = .slice A l.length cap ∧ RdN w' A l.reverse ∧ l.length ≤ cap ∧ ∀ b o, A = some ⟨b, o, none⟩ → base ≤ b := by
  have h0 := hown
  obtain ⟨h1, h2⟩ := hown
  rcases h2 with ⟨rfl, hn⟩ | ⟨g, cap, cur, rfl, hB, hg, hnc, hcm, hsz, htake⟩
  · obtain rfl : l = [] := List.eq_nil_of_length_eq_zero hn
    exact (Try.slices_Reverse_int_empty none 0 w).mono fun e w' ⟨h1, h2⟩ => by
      subst h2
      exact ⟨h1, hb, none, 0, rfl, (fun j n hj => by simp at hj), Nat.le_refl _, fun b o e => by cases e⟩
  · have hlt := (Array.getElem?_eq_some_iff.1 hg).1
    have hH : Sort.Holds (Value.int .i64) w g 0 l.toArray := fun j hj => by
      have hj' : j < l.length := by simpa using hj
      have := World.ownsRow.cellAt h0 j (by omega)
      refine ⟨?_, free_of_heap hg _⟩
      rw [Nat.zero_add, this, List.getElem?_map, List.getElem?_eq_getElem hj']
      simp [hj']
    refine (Try.slices_Reverse_int g 0 cap l w hH (by omega)).mono fun e w' ⟨h1, n, h2⟩ => ?_
    subst h2
    refine ⟨h1, ⟨hb.os, hb.tape, hb.output, ?_, fun k hk => ?_⟩, _, cap, rfl, fun j x hj => ⟨g, 0, rfl, ?_, ?_⟩, hnc, fun b o e => ?_⟩
    · have := hb.size
      simp [Sort.putRow, Sort.mapBlock]; omega
    · have := hV g rfl
      have h3 := hb.block k hk
      simp only [Sort.putRow, Sort.mapBlock]
      rw [Array.getElem?_modify, if_neg (by omega)]
      exact h3
    · simp [Sort.putRow, Sort.mapBlock]; omega
    · have hjl := (List.getElem?_eq_some_iff.1 hj).1
      have hls : l.reverse.toArray.size = l.toArray.size := by simp
      have hc := Sort.cell?_putRow (Value.int .i64) (Sort.ahead w n) g 0 l.toArray l.reverse.toArray hH hls j (by simpa using hjl)
      rw [hc]
      rw [List.getElem?_eq_getElem hjl] at hj
      injection hj with hj
      rw [← hj]
      simp at hjl ⊢
      simp [hjl]
    · injection e with e
      injection e with e
      subst e
      exact hV g rfl
theorem OrM.start (w3 : World) (N : Nat) (hN : 0 < N) : OrM w3 (((w3.alloc (.cells (madeCells #[.bool false] N) 4)).alloc (.cells #[.int .i64 0, .int .i64 0] 126)).setCell ⟨w3.heap.size, 0, none⟩ (.bool true)) w3.heap.size w3.heap.size N (.slice (some ⟨w3.heap.size + 1, 0, none⟩) 1 1) (.slice none 0 0) [(0, 0)] [0] [] := by
  have hpm := made_pre (g := gB) (d := 1) (t := 4) w3 #[.bool false] N false rfl (fun k hk => by
    obtain rfl : k = 0 := by omega
    rfl)
  rw [Nat.mul_one, show List.replicate N false = bl N (fun p => decide (p ∈ ([] : List Nat))) by
    apply List.ext_getElem?
    intro j
    by_cases hj : j < N
    · rw [bl_get hj]; simp [hj]
    · rw [List.getElem?_eq_none (by simp; omega), List.getElem?_eq_none (by simp [bl]; omega)]] at hpm
  have hbn := heap_alloc_new (w3.alloc (.cells (madeCells #[.bool false] N) 4)) (.cells #[.int .i64 0, .int .i64 0] 126)
  rw [World.size_alloc] at hbn
  have h : OrM w3 ((w3.alloc (.cells (madeCells #[.bool false] N) 4)).alloc (.cells #[.int .i64 0, .int .i64 0] 126)) w3.heap.size w3.heap.size N (.slice (some ⟨w3.heap.size + 1, 0, none⟩) 1 1) (.slice none 0 0) [(0, 0)] [] [] :=
    ⟨Pre.later hpm (Below.one _ _), ⟨rfl, Or.inr ⟨w3.heap.size + 1, 1, #[.int .i64 0, .int .i64 0], rfl, Nat.zero_le _, hbn, Nat.le_refl _, by decide, rfl, rfl⟩⟩, OwnN.nil _, fun b e => by simp only [Value.ownBlock, Option.some.injEq] at e; omega, (fun b e => by cases e), (Below.one w3 _).alloc (by simp) _, Nat.le_refl _, by simp; omega⟩
  exact h.mark hN
def OrdIs (f : Fn7) (O : List Nat) : Prop := ∃ S L, Ls (nxN f.code) (nxN f.code 0) [0] [] S L ∧ O = (L ++ [0]).reverse
theorem OrdIs.uniq {f : Fn7} {O O' : List Nat} (h : OrdIs f O) (h' : OrdIs f O') : O = O' := by
  obtain ⟨S, L, h1, rfl⟩ := h
  obtain ⟨S', L', h2, rfl⟩ := h'
  rw [(h1.det h2).2]
theorem OrdIs.ordL {f : Fn7} (hf : OkF f) {O : List Nat} (h : OrdIs f O) : OrdL (nxN f.code) f.code.length O := by
  obtain ⟨S, L, h1, rfl⟩ := h
  exact h1.ord (by have := hf.len; omega) fun p q hq => Eg.lt hf hq
def OrdT (f : Fn7) (base : Nat) (e : Ending) (w : World) : Prop := ∃ O A c, OrdIs f O ∧ e = .returned (.slice A O.length c) ∧ RdN w A (O.map fun n : Nat => (n : Int)) ∧ O.length ≤ c ∧ ∀ b o, A = some ⟨b, o, none⟩ → base ≤ b
theorem gOrder_no (f : Fn7) (hf : ¬ OkF f) (C : Option Addr) (cap : Nat) (w : World) (hC : RdI w C f.code) :
    Calls Try.prog 101 #[funcAgg f.nm f.ps f.R f.Fr C f.code.length cap] w fun e w' => e = .returned (.slice none 0 0) ∧ Below w.heap.size w w' := by
  have hB := Below.one w (funcObj f.nm f.ps f.R f.Fr C f.code.length cap)
  have hR := Lib.hid (RightFunc_no f hf C cap _ (hC.below hB))
  simp only [funcObj, funcAgg] at hB hR ⊢
  clear hf hC
  go_enter Try.func101, Try.ntmps101
  go_wp2
  go_step3
  go_wp2_with (first
    | (refine hR.out.mono ?_; rintro e w3 ⟨rfl, hb3⟩))
  try rw [Exit.noGoto_ret]
  go_returns
  exact ⟨rfl, hB.trans (hb3.mono hB.size)⟩
set_option maxRecDepth 1000000 in
set_option maxHeartbeats 16000000 in
theorem gOrder_yes (f : Fn7) (hf : OkF f) (C : Option Addr) (cap : Nat) (w : World) (hC : RdI w C f.code) :
    Calls Try.prog 101 #[funcAgg f.nm f.ps f.R f.Fr C f.code.length cap] w fun e w' => OrdT f w.heap.size e w' ∧ Below w.heap.size w w' := by
  obtain ⟨N, hN⟩ : ∃ N, f.code.length = N := ⟨_, rfl⟩
  have hN2 : N ≤ 8192 := by rw [← hN]; exact hf.len.2
  have hN1 : 0 < N := by rw [← hN]; have := hf.len; omega
  have hB := Below.one w (funcObj f.nm f.ps f.R f.Fr C f.code.length cap)
  have bx := heap_alloc_new w (funcObj f.nm f.ps f.R f.Fr C f.code.length cap)
  have hC1 := hC.below hB
  have hR := RightFunc_yes f hf C cap _ hC1
  obtain ⟨O, _, Sf, L0, hls, hO⟩ := ord_of hf
  rw [hN] at hR hB bx hC1 ⊢
  simp only [funcObj, funcAgg] at hR hB bx hC1 ⊢
  have HR := Lib.hid hR
  have HC1 := Lib.hid hC1
  have HB := Lib.hid hB
  have HF := Lib.hid hf
  have HN := Lib.hid hN
  have HLS := Lib.hid hls
  obtain ⟨W, hW⟩ : ∃ W, w.alloc (.cells #[.string f.nm, .int .i64 f.ps, .int .i64 f.R, .int .i64 f.Fr, .slice C N cap] 26) = W := ⟨_, rfl⟩
  rw [hW] at bx HR HC1 HB
  have HBX := Lib.hid bx
  have hBl := (Array.getElem?_eq_some_iff.1 bx).1
  have hmk := fun W => make_bools N (by omega) W
  have hmp : ∀ W : World, Pre gB 1 4 (W.alloc (.cells (madeCells #[.bool false] N) 4)) W.heap.size (List.replicate N false) := fun W => by
    have h := made_pre (g := gB) (d := 1) (t := 4) W #[.bool false] N false rfl (fun k hk => by
      obtain rfl : k = 0 := by omega
      rfl)
    rwa [Nat.mul_one] at h
  have hmc : ∀ W : World, ((W.alloc (.cells (madeCells #[.bool false] N) 4)).alloc (.cells #[.int .i64 0, .int .i64 0] 126)).cell? ⟨W.heap.size, 0, none⟩ = some (.bool false) := fun W => PreB.cell (Pre.later (hmp W) (Below.one _ _)) (by simp [hN1])
  have hmf : ∀ W : World, ((W.alloc (.cells (madeCells #[.bool false] N) 4)).alloc (.cells #[.int .i64 0, .int .i64 0] 126)).frozen? ⟨W.heap.size, 0, none⟩ = false := fun W => Pre.free (Pre.later (hmp W) (Below.one _ _)) 0
  clear hmp
  have g0 := cell_of_heap bx 0 _ rfl
  have g1 := cell_of_heap bx 1 _ rfl
  have g2 := cell_of_heap bx 2 _ rfl
  have g3 := cell_of_heap bx 3 _ rfl
  have g4 := cell_of_heap bx 4 _ rfl
  clear hf hN hC hB hR hC1 bx hls hO
  go_enter Try.func101, Try.ntmps101
  go_wp2
  go_step3
  go_wp2_with (first
    | (refine HR.out.mono ?_; rintro e w3 ⟨rfl, hb3⟩; have hx3 := (hb3.block _ hBl).trans HBX.out; have h4 := cell_of_heap hx3 4 _ rfl; have hl3 := (Array.getElem?_eq_some_iff.1 hx3).1; have HX3 := Lib.hid hx3; clear hx3; have hnp : (0 : Int) < N := by omega))
  go_step3
  go_wp2
  have hst := OrM.start w3 N hN1
  rw [World.setCell_alloc_past _ _ _ _ (by simp), World.setCell_alloc_at _ _ _ _ _ rfl] at hst
  obtain ⟨ww, hww⟩ : ∃ ww, (w3.alloc (.cells ((madeCells #[.bool false] N).setIfInBounds 0 (.bool true)) 4)).alloc (.cells #[.int .i64 0, .int .i64 0] 126) = ww := ⟨_, rfl⟩
  rw [hww] at hst ⊢
  have HB3 := Lib.hid hb3
  have hws : w.heap.size ≤ w3.heap.size := Nat.le_trans HB.out.size hb3.size
  have H0 := Lib.hid (show OrM w3 ww w3.heap.size w3.heap.size N (.slice (some ⟨w3.heap.size + 1, 0, none⟩) 1 1) (.slice none 0 0) [(0, 0)] [0] [] ∧ Rn (nxN f.code) [(0, 0)] [0] [] Sf (L0 ++ [0]) from ⟨hst, Rn.cons HLS.out (Rn.nil _ _)⟩)
  clear hst hww hb3 hmk hmc hmf g0 g1 g2 g3 g4 h4 hW
  go_loopg [4, 5] (2 * (N - 1) + 1) (fun gk V V5 wr => ∃ (T : List (Nat × Nat)) (S L : List Nat), gk = 2 * (N - S.length) + T.length ∧ OrM w3 wr w3.heap.size w3.heap.size N V V5 T S L ∧ Rn (nxN f.code) T.reverse S L Sf (L0 ++ [0]) ∧ S.Nodup ∧ (∀ x ∈ S, x < N) ∧ T.length + L.length = S.length ∧ (∀ x ∈ T, x.1 < N ∧ x.2 ≤ (nxN f.code x.1).length))
  case atStart => exact ⟨[(0, 0)], [0], [], rfl, H0.out.1, H0.out.2, by simp, (fun x hx => by simp only [List.mem_singleton] at hx; subst hx; exact hN1), rfl, fun x hx => by simp only [List.mem_singleton] at hx; subst hx; exact ⟨hN1, Nat.zero_le _⟩⟩
  case round =>
    obtain ⟨T, S, L, hgk, hm, hrn, hnd, hlt, hlen, hTn⟩ := hrel
    clear H0
    have HGK := Lib.hid hgk
    have HM := Lib.hid hm
    have HRN := Lib.hid hrn
    have HND := Lib.hid hnd
    have HLT := Lib.hid hlt
    have HLEN := Lib.hid hlen
    have HTN := Lib.hid hTn
    have hSN : S.length ≤ N := nodup_leN N S hnd hlt
    rcases List.eq_nil_or_concat T with hT | ⟨T', x, hT⟩
    · subst hT
      cases hrn
      clear hgk hm hnd hlt hlen hTn
      obtain ⟨c4, A4, hV4⟩ : ∃ c A, u4 = .slice A 0 c := by
        rcases HM.out.st.2 with ⟨e, _⟩ | ⟨g, cap, cur, e, _⟩
        · exact ⟨_, _, e⟩
        · exact ⟨_, _, e⟩
      subst hV4
      have HLL : Hid ((((L0 ++ [0]).map fun n : Nat => (n : Int))).length ≤ 100000) := Lib.hid (by have := HLEN.out; rw [List.length_map]; simp only [List.length_nil] at this; omega)
      have HRV := Lib.hid (rev_own w3.heap.size w3 wr HM.out.bel HM.out.les u5 _ HM.out.out (fun b e => (HM.out.ob b e).1) HLL.out)
      have HOR : Hid (OrdIs f (L0 ++ [0]).reverse) := Lib.hid ⟨Sf, L0, HLS.out, rfl⟩
      go_wp2_with (first
        | (refine HRV.out.mono ?_; rintro e w5 ⟨rfl, hb5, A5, c5, hV5, hrd5, hlc5, hfr5⟩))
      subst hV5
      try rw [Exit.noGoto_ret]
      go_returns
      refine ⟨⟨(L0 ++ [0]).reverse, A5, c5, HOR.out, ?_, ?_, by simpa using hlc5, fun b o e => Nat.le_trans hws (hfr5 b o e)⟩, HB.out.trans ((HB3.out.mono HB.out.size).trans (hb5.mono hws))⟩
      · simp
      · rw [List.map_reverse]; exact hrd5
    · rw [List.concat_eq_append] at hT
      subst hT
      obtain ⟨p, j⟩ := x
      obtain ⟨t, ht⟩ : ∃ t, T'.length = t := ⟨_, rfl⟩
      have hTl : (T' ++ [(p, j)]).length = t + 1 := by simp [ht]
      obtain ⟨g, c4, hV, hgl⟩ := hm.st.form (by rw [hTl]; omega)
      rw [hTl] at hV hlen
      subst hV
      have hpN : p < N := (hTn (p, j) (by simp)).1
      obtain ⟨hc0, hc1⟩ := hm.st.cells (t := t) (x := (p, j)) (by rw [← ht]; simp)
      simp only at hc0 hc1
      obtain ⟨i, hi⟩ : ∃ i, f.code[p]? = some i := ⟨_, List.getElem?_eq_getElem (by rw [HN.out]; exact hpN)⟩
      obtain ⟨bb, oo, rfl, hbl, hcs⟩ := ((HC1.out.below HB3.out).below hm.bel) p i hi
      obtain ⟨x0, x1, x2, x3, x4, x5, x6, x7, x8, x9, x10, x11, x12, x13, x14⟩ := RdI.load hcs
      have hx4 : wr.heap[w.heap.size]? = _ := (hm.bel.block _ hl3).trans HX3.out
      have g4 := cell_of_heap hx4 4 _ rfl
      have hll := (Array.getElem?_eq_some_iff.1 hx4).1
      have hna := fun W => Next_fr i p (by omega) W
      have hnl := Ins.next_len i p
      have hnx : i.next p = (nxN f.code p).map fun n : Nat => (n : Int) := nxN_int HF.out hi
      rw [hnx] at hna hnl
      obtain ⟨Ln, hLn⟩ : ∃ Ln, (nxN f.code p).length = Ln := ⟨_, rfl⟩
      have hnl2 : Ln ≤ 100 := by rw [List.length_map, hLn] at hnl; omega
      obtain ⟨kk, op, dst, a, b', n, text, r0, r1, r2, r3, r4, r5, to_, els⟩ := i
      simp only at x0 x1 x2 x3 x4 x5 x6 x7 x8 x9 x10 x11 x12 x13 x14
      have HNA : Hid (∀ W, Calls Try.prog 54 (#[.agg #[.int .i64 kk, .int .i64 op, .int .i64 dst, .int .i64 a, .int .i64 b', .int .i64 n, .string text, .int .i64 r0, .int .i64 r1, .int .i64 r2, .int .i64 r3, .int .i64 r4, .int .i64 r5, .int .i64 to_, .int .i64 els], .int .i64 p]) W fun e w' => (∃ A c, e = .returned (.slice A Ln c) ∧ RdN w' A ((nxN f.code p).map fun n : Nat => (n : Int)) ∧ ∀ b o, A = some ⟨b, o, none⟩ → W.heap.size ≤ b) ∧ Below W.heap.size W w') := Lib.hid fun W => (hna W).mono fun e w' ⟨⟨A, c, h1, h2, h3⟩, h4⟩ => ⟨⟨A, c, by rw [h1, List.length_map, hLn], h2, h3⟩, h4⟩
      have HLn := Lib.hid hLn
      have HT := Lib.hid ht
      have HTL := Lib.hid hTl
      have hpn : (p : Int) < N := by omega
      have htN : t ≤ 8192 := by omega
      clear hgk hm hrn hnd hlt hlen hTn ht hTl hi hcs hx4 hna hnl hnx hLn
      go_upto_region 9 with fail
      go_still_tail 12, (by kernel_rfl)
      go_wp2_with (first
        | (refine (HNA.out _).mono ?_; rintro e w8 ⟨⟨A8, c8, rfl, hrd8, hfr8⟩, hb8⟩))
      have hbw8 : Below wr.heap.size wr w8 := ((Below.refl wr.heap.size wr).drew).trans hb8
      have hm8 := HM.out.later hbw8
      have HA8 : ∀ b o, A8 = some ⟨b, o, none⟩ → b ≠ g ∧ b ≠ w3.heap.size := fun b o e => by
        have h1 : wr.heap.size ≤ b := hfr8 b o e
        have := Pre.lt HM.out.seen
        omega
      have HIN : ∀ n ∈ nxN f.code p, n < N := fun n hn => by rw [← HN.out]; exact Eg.lt HF.out hn
      have hjl : j ≤ Ln := by have := (HTN.out (p, j) (by simp)).2; rw [HLn.out] at this; exact this
      have hrn8 : Rn (nxN f.code) ((p, j)::T'.reverse) S L Sf (L0 ++ [0]) := by have h := HRN.out; rw [List.reverse_append] at h; exact h
      refine or2_any (nxN f.code) w3 w8 w3.heap.size w3.heap.size N g t c4 p j u5 T' S L Sf (L0 ++ [0]) A8 c8 Ln HT.out htN HLn.out hnl2 HIN hm8 hjl hrd8 HA8 hrn8 _ _ _ _ _ _ _ _ _ _ _ _ _ _ _ _ _ _ _ _ _ _ _ _ _ _ _ _ _ _ _ _ _ _ _ _ _ _ _ _ _ _ _ _ _ _ _ _ _ _ _ _ _ _ _ _ _ _ _ _ _ _ _ _ _ _ _ _ _ _ _ _ _ _ _ _ _ _ _ _ _ _ _ _ _ _ ?_ ?_
      · intro z8 z41 z42 z43 z44 z45 z46 z47 z48 z49 z50 z51 z52 z53 z54 z55 z56 z57 z58 z59 z60 z61 z62 z63 z64 z65 z66 z67 z68 z69 z70 z71 z72 z73 z74 w9 hm9 hrn9
        clear hm8 hbw8 hb8 hrd8 hfr8 hc0 hc1 x0 x1 x2 x3 x4 x5 x6 x7 x8 x9 x10 x11 x12 x13 x14 g4 HA8 hrn8 hll hbl
        obtain ⟨hc0, hc1⟩ := hm9.st.cells (t := t) (x := (p, Ln)) (by rw [← HT.out]; simp)
        simp only at hc0 hc1
        have HM9 := Lib.hid hm9
        have HRN9 := Lib.hid (hrn9.pop (Nat.le_of_eq HLn.out))
        clear hm9 hrn9
        have hgl9 : g < w9.heap.size := HM9.out.st.lt g rfl
        have htc : t + 1 ≤ c4 := by
          rcases HM9.out.st.2 with ⟨e, _⟩ | ⟨_, _, _, e, _, _, h, _⟩
          · cases e
          · injection e with _ _ e; rw [e]; have := HT.out; simp only [List.length_append, List.length_cons, List.length_nil] at h; omega
        have htc2 : (t : Int) ≤ c4 := by omega
        have HL9 : Hid (L.length ≤ 9000) := Lib.hid (by have := HLEN.out; have h2 := hSN; omega)
        go_wp2_with (first
          | (at_builtin; refine append_one rfl (.tmp 75) (.tmp 80) rfl u5 (L.map fun n : Nat => (n : Int)) rfl (HM9.out.out.alloc _) w9.heap.size p rfl (heap_alloc_new _ _) (by rw [List.length_map]; have := HL9.out; omega) ?_; intro V6 wa hoa hga hba; have HMA := Lib.hid (HM9.out.leave hoa hga hba); clear hoa hga hba))
        go_roundg (2 * (N - S.length) + T'.length)
        case measure => rw [HGK.out, HTL.out, HT.out]; omega
        case rel =>
          refine ⟨T', S, L ++ [p], rfl, ?_, HRN9.out, HND.out, HLT.out, ?_, fun x hx => HTN.out x (by simp [hx])⟩
          · exact HMA.out.pop HT.out
          · have h1 := HLEN.out; have h2 := HTL.out; have h3 := HT.out; have h4 : (L ++ [p]).length = L.length + 1 := by simp
            omega
      · intro z4 z8 z41 z42 z43 z44 z45 z46 z47 z48 z49 z50 z51 z52 z53 z54 z55 z56 z57 z58 z59 z60 z61 z62 z63 z64 z65 z66 z67 z68 z69 z70 z71 z72 z73 z74 w9 n j' hn hnS hm9 hrn9 hj'
        clear hm8 hbw8 hb8 hrd8 hfr8 hc0 hc1 x0 x1 x2 x3 x4 x5 x6 x7 x8 x9 x10 x11 x12 x13 x14 g4 HA8 hrn8 hll hbl
        have HM9 := Lib.hid hm9
        have HRN9 := Lib.hid hrn9
        have HNS := Lib.hid hnS
        have HNN := Lib.hid hn
        have HJ := Lib.hid hj'
        clear hm9 hrn9 hnS hn hj'
        have hnd2 : (S ++ [n]).Nodup := by
          rw [List.nodup_append]
          exact ⟨HND.out, by simp, fun a ha b hb e => by simp only [List.mem_singleton] at hb; subst hb e; exact HNS.out ha⟩
        have hlt2 : ∀ x ∈ S ++ [n], x < N := fun x hx => by
          rcases List.mem_append.1 hx with h1 | h1
          · exact HLT.out x h1
          · simp only [List.mem_singleton] at h1; subst h1; exact HNN.out
        have hle2 := nodup_leN N _ hnd2 hlt2
        have HND2 := Lib.hid hnd2
        have HLT2 := Lib.hid hlt2
        have HLE2 := Lib.hid hle2
        clear hnd2 hlt2 hle2
        go_wp2
        go_roundg (2 * (N - (S ++ [n]).length) + (T' ++ [(p, j')] ++ [(n, 0)]).length)
        case measure =>
          have := HLE2.out
          rw [HGK.out]
          simp only [List.length_append, List.length_cons, List.length_nil] at this ⊢
          omega
        case rel =>
          refine ⟨T' ++ [(p, j')] ++ [(n, 0)], S ++ [n], L, rfl, HM9.out, ?_, HND2.out, HLT2.out, ?_, fun x hx => ?_⟩
          · simpa using HRN9.out
          · have := HLEN.out
            simp only [List.length_append, List.length_cons, List.length_nil, HT.out] at this ⊢
            omega
          · rcases List.mem_append.1 hx with h1 | h1
            · rcases List.mem_append.1 h1 with h2 | h2
              · exact HTN.out x (by simp [h2])
              · simp only [List.mem_singleton] at h2; subst h2; exact ⟨hpN, by rw [HLn.out]; exact HJ.out⟩
            · simp only [List.mem_singleton] at h1; subst h1; exact ⟨HNN.out, Nat.zero_le _⟩
end Go.Proofs.Ythbcdckonaljiaa
