import Derived.Test.YtgdbkoncaojmoaaDc
import Derived.Test.YtgdbkoncaojmoaaZj
import Derived.Deep.AppendLies
/- MEMORY of the graph's functions: rows of numbers; a row of ints; a row that is taken from at its head. -/
namespace Go.Proofs.Ytgdbkoncaojmoaa
open Go.RowKit Go.BigFrame

def gN (n : Int) : List Value := [.int .i64 n]
theorem PreN.cell {W : World} {b : Nat} {l : List Int} {t : TypeId} (h : Pre gN 1 t W b l) {j : Nat} {v : Int} (hj : l[j]? = some v) : W.cell? ⟨b, j, none⟩ = some (.int .i64 v) := by
  have := h.cell hj (k := 0) (by omega) (v := .int .i64 v) rfl
  simpa using this
theorem PreN.set {W : World} {b : Nat} {l : List Int} {t : TypeId} (h : Pre gN 1 t W b l) {j : Nat} (hj : j < l.length) (v : Int) : Pre gN 1 t (W.setCell ⟨b, j, none⟩ (.int .i64 v)) b (l.set j v) := by
  have := h.store (j := j) (x := l[j]) (y := v) (List.getElem?_eq_getElem hj) (k := 0) (by omega) (v := .int .i64 v) rfl rfl (fun k' hk' => by
    cases k' with
    | zero => exact absurd rfl hk'
    | succ k' => rfl)
  simpa using this
theorem PreN.rd {W : World} {b : Nat} {l : List Int} {t : TypeId} (h : Pre gN 1 t W b l) : RdN W (some ⟨b, 0, none⟩) l := fun j n hn => ⟨b, 0, rfl, Pre.lt h, by rw [Nat.zero_add]; exact PreN.cell h hn⟩
theorem info_n2 : (Try.prog.info? 3).map (fun i => (i.zero, i.size, i.bytes)) = some (some (.int .i64 0), 1, 8) := by kernel_rfl
theorem make_ints (L : Nat) (hL : L ≤ 100000) (W : World) : (Instr.makeSlice 31 (.int .i64 L) (.int .i64 L)).run Try.prog W = .ok (.slice (some ⟨W.heap.size, 0, none⟩) L L) (W.alloc (.cells (madeCells #[.int .i64 0] L) 3)) := by
  obtain ⟨i0, hi, hz0, hz1, hz2⟩ := info_parts info_n2
  have := run_make (P := Try.prog) W 31 3 i0 (.int .i64 0) (by kernel_rfl) hi hz0 .i64 .i64 L L (by omega) (by omega) (by rw [hz2]; omega) (by omega)
  simpa [hz1, Value.cells] using this
theorem made_ints (W : World) (N : Nat) : Pre gN 1 3 (W.alloc (.cells (madeCells #[.int .i64 0] N) 3)) W.heap.size (List.replicate N 0) := by
  have h := made_pre (g := gN) (d := 1) (t := 3) W #[.int .i64 0] N 0 rfl (fun k hk => by
    obtain rfl : k = 0 := by omega
    rfl)
  rwa [Nat.mul_one] at h
/-- a slice of numbers of the call's own is told, in memory from base on -/
def OwT (base : Nat) (l : List Int) (e : Ending) (w : World) : Prop := ∃ V, e = .returned V ∧ OwnN w V l ∧ ∀ b, V.ownBlock = some b → base ≤ b
theorem OwT.slf {base : Nat} {l : List Int} {e : Ending} {w : World} (h : OwT base l e w) : SlF base l e w := by
  obtain ⟨V, rfl, ho, hb⟩ := h
  obtain ⟨A, cap, rfl, h1, h2⟩ := ho.form
  exact ⟨A, cap, rfl, h2, fun b o e => hb b (by rw [e]; rfl)⟩
theorem OwnN.grown {w w' : World} {V : Value} {l : List Int} {row : Option Nat} (h : OwnN w V l) (hg : w.grownBy w' row) (hne : V.ownBlock = none ∨ V.ownBlock ≠ row) : OwnN w' V l := World.ownsRow.kept h hg hne
theorem OwnN.keepS {w w' : World} {V : Value} {l : List Int} (h : OwnN w V l) (hk : ∀ b, V.ownBlock = some b → w'.heap[b]? = w.heap[b]?) : OwnN w' V l := by
  obtain ⟨h1, h2⟩ := h
  refine ⟨h1, ?_⟩
  rcases h2 with h2 | ⟨g, cap, cur, e, h3, h4, h5⟩
  · exact Or.inl h2
  · exact Or.inr ⟨g, cap, cur, e, h3, by rw [hk g (by rw [e]; rfl)]; exact h4, h5⟩
/-- rows, each of the call's own, no two of them in one block -/
structure RowsO (w : World) (base ob N : Nat) (vs : Nat → Value) (B : Nat → List Int) : Prop where
  hob : base ≤ ob
  pre : Pre g1 1 31 w ob ((List.range N).map vs)
  own : ∀ j, j < N → OwnN w (vs j) (B j)
  far : ∀ j b, j < N → (vs j).ownBlock = some b → base ≤ b ∧ b ≠ ob ∧ b < w.heap.size
  two : ∀ i j b, i < N → j < N → i ≠ j → (vs i).ownBlock = some b → (vs j).ownBlock ≠ some b
theorem RowsO.cell {w : World} {base ob N : Nat} {vs : Nat → Value} {B : Nat → List Int} (h : RowsO w base ob N vs B) {n : Nat} (hn : n < N) : w.cell? ⟨ob, n, none⟩ = some (vs n) := Pre1.cell h.pre (by simp [hn])
theorem RowsO.later {w w' : World} {base ob N : Nat} {vs : Nat → Value} {B : Nat → List Int} (h : RowsO w base ob N vs B) (hb : Below w.heap.size w w') : RowsO w' base ob N vs B :=
  ⟨h.hob, Pre.later h.pre hb, fun j hj => (h.own j hj).later hb, fun j b hj e => by obtain ⟨h1, h2, h3⟩ := h.far j b hj e; exact ⟨h1, h2, Nat.lt_of_lt_of_le h3 hb.size⟩, h.two⟩
theorem RowsO.made (W : World) (N : Nat) (base : Nat) (hb : base ≤ W.heap.size) : RowsO (W.alloc (.cells (madeCells #[.slice none 0 0] N) 31)) base W.heap.size N (fun _ => .slice none 0 0) (fun _ => []) := by
  have h := made_pre (g := g1) (d := 1) (t := 31) W #[.slice none 0 0] N (.slice none 0 0) rfl (fun k hk => by
    obtain rfl : k = 0 := by omega
    rfl)
  rw [Nat.mul_one] at h
  refine ⟨hb, ?_, fun j _ => OwnN.nil _, (fun j b _ e => by cases e), (fun i j b _ _ _ e => by cases e)⟩
  rw [show (List.range N).map (fun _ => Value.slice none 0 0) = List.replicate N (.slice none 0 0) by rw [List.map_const', List.length_range]]
  exact h
def rowAt (vs : Nat → Value) (n : Nat) (v : Value) (j : Nat) : Value := if j = n then v else vs j
def addAt (B : Nat → List Int) (n : Nat) (x : Int) (j : Nat) : List Int := if j = n then B n ++ [x] else B j
theorem RowsO.push {w wa w' : World} {base ob N : Nat} {vs : Nat → Value} {B : Nat → List Int} (h : RowsO w base ob N vs B) {n : Nat} (hn : n < N) {x : Int} {v : Value} {o : Obj} (ha : wa = w.alloc o)
    (ho : OwnN w' v (B n ++ [x])) (hg : wa.grownBy w' (vs n).ownBlock) (hv : v.ownBlock = (vs n).ownBlock ∨ v.ownBlock = some (w.heap.size + 1)) (hbase : base ≤ w.heap.size) : RowsO (w'.setCell ⟨ob, n, none⟩ v) base ob N (rowAt vs n v) (addAt B n x) := by
  subst ha
  have hobl := Pre.lt h.pre
  have hsz : w.heap.size + 1 ≤ w'.heap.size := by have := hg.size; simpa using this
  have hkeep : ∀ b, b < w.heap.size → (vs n).ownBlock ≠ some b → w'.heap[b]? = w.heap[b]? := fun b hb hne => (hg.block b (by simp; omega) (fun e => hne e.symm)).trans (heap_alloc_old w o hb)
  have hnob : (vs n).ownBlock ≠ some ob := fun e => (h.far n ob hn e).2.1 rfl
  have hpre : Pre g1 1 31 w' ob ((List.range N).map vs) := h.pre.of_heap (hkeep ob hobl hnob)
  have hvob : ∀ b, v.ownBlock = some b → base ≤ b ∧ b ≠ ob ∧ b < w'.heap.size := fun b hb => by
    rcases hv with e | e
    · rw [e] at hb
      obtain ⟨h1, h2, h3⟩ := h.far n b hn hb
      exact ⟨h1, h2, by omega⟩
    · rw [e] at hb
      injection hb with hb
      subst hb
      refine ⟨by omega, by omega, ?_⟩
      obtain ⟨_, _, _, h2, _⟩ := ho.form
      exact h2 _ e
  have hset : ∀ {u : Value} {l : List Int}, OwnN w' u l → (∀ b, u.ownBlock = some b → b ≠ ob) → OwnN (w'.setCell ⟨ob, n, none⟩ v) u l := fun ho hne => ho.keepS fun b hb => heap_setCell_other w' ⟨ob, n, none⟩ b v (fun e => hne b hb e)
  refine ⟨h.hob, ?_, fun j hj => ?_, fun j b hj e => ?_, fun i j b hi hj hij e => ?_⟩
  · have h1 := Pre1.set hpre (j := n) (by simpa using hn) v
    have h2 : ((List.range N).map vs).set n v = (List.range N).map (rowAt vs n v) := by
      apply List.ext_getElem?
      intro j
      rw [List.getElem?_set]
      by_cases e : n = j
      · subst e; simp [hn, rowAt]
      · rw [if_neg e]
        by_cases hj : j < N
        · simp [hj, rowAt, Ne.symm e]
        · rw [List.getElem?_eq_none (by simpa using hj), List.getElem?_eq_none (by simpa using hj)]
    rw [h2] at h1
    exact h1
  · unfold rowAt addAt
    by_cases e : j = n
    · rw [if_pos e, if_pos e]
      exact hset ho fun b hb => (hvob b hb).2.1
    · rw [if_neg e, if_neg e]
      refine hset ?_ fun b hb => (h.far j b hj hb).2.1
      exact (h.own j hj).keepS fun b hb => hkeep b (h.far j b hj hb).2.2 (fun e2 => h.two n j b hn hj (Ne.symm e) e2 hb)
  · unfold rowAt at e
    simp only [World.size_setCell]
    split at e
    · exact hvob b e
    · obtain ⟨h1, h2, h3⟩ := h.far j b hj e
      exact ⟨h1, h2, by omega⟩
  · unfold rowAt at e ⊢
    by_cases hin : i = n
    · rw [if_pos hin] at e
      rw [if_neg (by omega)]
      rcases hv with e2 | e2
      · exact h.two n j b hn hj (by omega) (by rw [← e2]; exact e)
      · intro e3
        rw [e2] at e
        injection e with e
        have := (h.far j b hj e3).2.2
        omega
    · rw [if_neg hin] at e
      by_cases hjn : j = n
      · rw [if_pos hjn]
        intro e3
        rcases hv with e2 | e2
        · exact h.two i n b hi hn hin e (by rw [← e2]; exact e3)
        · rw [e2] at e3
          injection e3 with e3
          have := (h.far i b hi e).2.2
          omega
      · rw [if_neg hjn]
        exact h.two i j b hi hj hij e
/-- behind an append to row n the rows' block is as it was -/
theorem RowsO.still {w w' : World} {base ob N : Nat} {vs : Nat → Value} {B : Nat → List Int} (h : RowsO w base ob N vs B) {n : Nat} (hn : n < N) {o : Obj} (hg : (w.alloc o).grownBy w' (vs n).ownBlock) : (∀ k, w'.frozen? ⟨ob, k, none⟩ = false) ∧ ob < w'.heap.size ∧ ∀ j, j < N → w'.cell? ⟨ob, j, none⟩ = some (vs j) := by
  have hobl := Pre.lt h.pre
  have hp : Pre g1 1 31 w' ob ((List.range N).map vs) := h.pre.of_heap ((hg.block ob (by simp only [World.size_alloc]; omega) (fun e => (h.far n ob hn e.symm).2.1 rfl)).trans (heap_alloc_old w o hobl))
  exact ⟨fun k => Pre.free hp k, Pre.lt hp, fun j hj => Pre1.cell hp (by simp [hj])⟩
/-- rows that are read -/
def RowsR (w : World) (ob N : Nat) (B : Nat → List Int) : Prop := ∀ j, j < N → ∃ A c, w.cell? ⟨ob, j, none⟩ = some (.slice A (B j).length c) ∧ RdN w A (B j)
theorem RowsO.rd {w : World} {base ob N : Nat} {vs : Nat → Value} {B : Nat → List Int} (h : RowsO w base ob N vs B) : RowsR w ob N B := fun j hj => by
  obtain ⟨A, c, e, _, h2⟩ := (h.own j hj).form
  exact ⟨A, c, by rw [h.cell hj, e], h2⟩
theorem RowsO.far2 {w : World} {base ob N : Nat} {vs : Nat → Value} {B : Nat → List Int} (h : RowsO w base ob N vs B) : ∀ j, j < N → ∀ A n c, w.cell? ⟨ob, j, none⟩ = some (.slice A n c) → ∀ b o, A = some ⟨b, o, none⟩ → base ≤ b ∧ b < w.heap.size := fun j hj A n c hc b o e => by
  rw [h.cell hj] at hc
  injection hc with hc
  have h1 := h.far j b hj (by rw [hc, e]; rfl)
  exact ⟨h1.1, h1.2.2⟩
theorem RowsR.below {w w' : World} {ob N : Nat} {B : Nat → List Int} (h : RowsR w ob N B) (hb : Below w.heap.size w w') : RowsR w' ob N B := fun j hj => by
  obtain ⟨A, c, h1, h2⟩ := h j hj
  exact ⟨A, c, (hb.cell (p := ⟨ob, j, none⟩) (World.block_lt_of_cell? w _ h1)).trans h1, h2.below hb⟩
def RowsRT (base N : Nat) (B : Nat → List Int) (e : Ending) (w : World) : Prop := ∃ ob, e = .returned (.slice (some ⟨ob, 0, none⟩) N N) ∧ base ≤ ob ∧ ob < w.heap.size ∧ RowsR w ob N B ∧ ∀ j, j < N → ∀ A n c, w.cell? ⟨ob, j, none⟩ = some (.slice A n c) → ∀ b o, A = some ⟨b, o, none⟩ → base ≤ b ∧ b < w.heap.size
end Go.Proofs.Ytgdbkoncaojmoaa
