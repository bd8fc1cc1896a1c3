import Derived.Test.YthbcdckonaljiaaZq
import Derived.Test.YthbcdckonaljiaaZg2
import Derived.Test.YthbcdckonaljiaaZw2
import Derived.Test.YthbcdckonaljiaaCv
import Derived.Test.YthbcdckonaljiaaZa
import Derived.Deep.CutRange
import Derived.Deep.RegionWith
import Derived.Deep.RegionHeld3
/- FlowStraight: what the law makes, in memory; its parts. -/
namespace Go.Proofs.Ythbcdckonaljiaa
open Go.RowKit Go.BigFrame

def b4l (x : B4) : List Value := [.int .u8 x.x0, .int .u8 x.x1, .int .u8 x.x2, .int .u8 x.x3]
def RdB4 (w : World) (A : Option Addr) (l : List B4) : Prop := ∀ (j : Nat) x, l[j]? = some x → ∃ b o, A = some ⟨b, o, none⟩ ∧ b < w.heap.size ∧ ∀ k, k < 4 → w.cell? ⟨b, o + (j * 4 + k), none⟩ = (b4l x)[k]?
theorem RdB4.below {w w' : World} {A : Option Addr} {l : List B4} (h : RdB4 w A l) (hb : Below w.heap.size w w') : RdB4 w' A l := fun j x hx => by
  obtain ⟨b, o, e1, e2, e3⟩ := h j x hx
  exact ⟨b, o, e1, Nat.lt_of_lt_of_le e2 hb.size, fun k hk => (hb.cell (p := ⟨b, _, none⟩) e2).trans (e3 k hk)⟩
def RgB4 (w : World) (b : Nat) (rg : List Int) : Prop := w.heap[b]? = some (.cells (rg.map (Value.int .i64)).toArray 27 (0, 0))
theorem RgB4.cell {w : World} {b : Nat} {rg : List Int} (h : RgB4 w b rg) {j : Nat} (hj : j < rg.length) : w.cell? ⟨b, j, none⟩ = some (.int .i64 (rgAt rg j)) :=
  cell_of_heap h j _ (by simp [rgAt, List.getD, hj])
theorem RgB4.set {w : World} {b : Nat} {rg : List Int} (h : RgB4 w b rg) (j : Nat) (n : Int) : RgB4 (w.setCell ⟨b, j, none⟩ (.int .i64 n)) b (rg.set j n) := by
  unfold RgB4
  rw [heap_setCell h]
  simp [List.map_set]
structure Sg (w wr : World) (B : Nat) (V : Value) (code : List Ins) (rg : List Int) : Prop where
  fb : wr.heap[B]? = some (.cells #[.string ⟨#[102]⟩, .int .i64 0, .int .i64 10, .int .i64 0, V] 26 (0, 0))
  own : OwnI wr (B + 2) V code
  rb : RgB4 wr (B + 1) rg
  b : Below B w wr
  s : B + 2 ≤ wr.heap.size
theorem Sg.later {w wr w' : World} {B : Nat} {V : Value} {code : List Ins} {rg : List Int} (h : Sg w wr B V code rg) (hb : Below wr.heap.size wr w') : Sg w w' B V code rg :=
  ⟨(hb.block _ (by have := h.s; omega)).trans h.fb, h.own.keep fun g _ hg _ => hb.block g hg, (hb.block _ (by have := h.s; omega)).trans h.rb, h.b.trans (hb.mono (by have := h.s; omega)), Nat.le_trans h.s hb.size⟩
theorem Sg.reg {w wr : World} {B : Nat} {V : Value} {code : List Ins} {rg : List Int} (h : Sg w wr B V code rg) (j : Nat) (n : Int) : Sg w (wr.setCell ⟨B + 1, j, none⟩ (.int .i64 n)) B V code (rg.set j n) :=
  ⟨(heap_setCell_other wr ⟨B + 1, j, none⟩ B _ (by simp only; omega)).trans h.fb, h.own.keep fun g hB _ _ => heap_setCell_other wr ⟨B + 1, j, none⟩ g _ (by simp only; omega), h.rb.set j n, h.b.setCell (p := ⟨B + 1, j, none⟩) (by simp only; omega) _, by simpa using h.s⟩
/-- the code has one more -/
theorem Sg.app {w wr W' : World} {B : Nat} {V V' : Value} {code : List Ins} {rg : List Int} {x : Ins} (h : Sg w wr B V code rg) (hb : Below wr.heap.size wr (wr.alloc (.cells x.l.toArray 31))) (ho : OwnI W' (B + 2) V' (code ++ [x])) (hg : (wr.alloc (.cells x.l.toArray 31)).grownBy W' V.ownBlock) (hV : ∀ g, V.ownBlock = some g → B + 2 ≤ g) :
    Sg w (W'.setCell ⟨B, 4, none⟩ V') B V' (code ++ [x]) rg := by
  have hs := h.s
  have hsz : B + 2 ≤ (wr.alloc (.cells x.l.toArray 31)).heap.size := Nat.le_trans hs hb.size
  have e0 : W'.heap[B]? = some (.cells #[.string ⟨#[102]⟩, .int .i64 0, .int .i64 10, .int .i64 0, V] 26 (0, 0)) := ((hg.block B (by omega) (fun e => by have := hV B e.symm; omega)).trans (hb.block B (by omega))).trans h.fb
  have e1 : W'.heap[B + 1]? = _ := ((hg.block (B + 1) (by omega) (fun e => by have := hV (B + 1) e.symm; omega)).trans (hb.block (B + 1) (by omega))).trans h.rb
  have hsW : B + 2 ≤ W'.heap.size := Nat.le_trans hsz hg.size
  refine ⟨?_, ho.keep fun g hB _ _ => heap_setCell_other W' ⟨B, 4, none⟩ g _ (by simp only; omega), (heap_setCell_other W' ⟨B, 4, none⟩ (B + 1) _ (by simp only; omega)).trans e1, ?_, by simpa using hsW⟩
  · rw [heap_setCell e0]
    rfl
  · exact (Below.grown (h.b.trans (hb.mono (by omega))) hg (by omega) (fun k hk => by have := hV k hk; omega)).setCell (p := ⟨B, 4, none⟩) (Nat.le_refl _) _
theorem Sg.fb_app {w wr W' : World} {B : Nat} {V : Value} {code : List Ins} {rg : List Int} {o : Obj} (h : Sg w wr B V code rg) (hg : (wr.alloc o).grownBy W' V.ownBlock) (hV : ∀ g, V.ownBlock = some g → B + 2 ≤ g) :
    W'.heap[B]? = some (.cells #[.string ⟨#[102]⟩, .int .i64 0, .int .i64 10, .int .i64 0, V] 26 (0, 0)) := by
  have hs := h.s
  have hb := Below.one wr o
  exact ((hg.block B (by have := hb.size; omega) (fun e => by have := hV B e.symm; omega)).trans (hb.block B (by omega))).trans h.fb
theorem OwnI.base {w : World} {base : Nat} {V : Value} {l : List Ins} (h : OwnI w base V l) : ∀ g, V.ownBlock = some g → base ≤ g := fun g hg => by
  obtain ⟨_, h2⟩ := h
  rcases h2 with ⟨rfl, _⟩ | ⟨g', cap, cur, rfl, hB, _⟩
  · cases hg
  · simp [Value.ownBlock] at hg
    omega
def regc (k : Nat) : List Int := (List.range 10).map fun j => if j < k then 3 * (j : Int) - 5 else 0
theorem regc_len (k : Nat) : (regc k).length = 10 := by simp [regc]
theorem regc_set {k : Nat} (hk : k < 5) : (regc k).set k (3 * (k : Int) - 5) = regc (k + 1) := by
  have : k = 0 ∨ k = 1 ∨ k = 2 ∨ k = 3 ∨ k = 4 := by omega
  rcases this with rfl | rfl | rfl | rfl | rfl <;> rfl
theorem regc_five : regc 5 = reg0 := rfl
theorem conS_next (k : Nat) : (List.range k).map conS ++ [conS k] = (List.range (k + 1)).map conS := by rw [List.range_succ, List.map_append]; rfl
def seqNs : Code → Nat → Code
  | .seq a _, 0 => a
  | .seq _ b, n + 1 => seqNs b n
  | c, _ => c
def inBks : Code → Code
  | .block _ c => c
  | c => c
noncomputable def sloop1 : Code := ((((Try.f3.body).map loopsOf).getD [])[0]?).getD .skip
noncomputable def sloop2 : Code := ((((Try.f3.body).map loopsOf).getD [])[1]?).getD .skip
noncomputable def sloop3 : Code := ((((Try.f3.body).map loopsOf).getD [])[2]?).getD .skip
noncomputable def sbody : Code := inBks (seqNs (inLoop sloop2) 2)
end Go.Proofs.Ythbcdckonaljiaa
