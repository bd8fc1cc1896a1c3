import Derived.Test.YtihbgppcacaekaaDoorWb
import Derived.Test.YtihbgppcacaekaaDoorWl
import Derived.Laws.EntriesVeiled
import Derived.OwnWalk
import Derived.Maps.AppendAt
import Derived.Laws.AppendOwnNone
import Derived.Deep.CutBlock
import Derived.Deep.LoopGhost
import Derived.Lib.OthersKept
/- LINES, OBJECTS, IMAGES IN MEMORY. -/
namespace Go.Proofs.YtihbgppcacaekaaDoor
open Go.RowKit Go.BigFrame

theorem cell_of_heap {w : World} {p : Nat} {cs : Array Value} {t : TypeId} {fz : Nat × Nat} (h : w.heap[p]? = some (.cells cs t fz)) (j : Nat) (v : Value) (hj : cs[j]? = some v) : w.cell? ⟨p, j, none⟩ = some v := by
  simp [World.cell?, h, hj]
theorem alloc_keeps {w : World} {p : Nat} {o : Obj} (h : w.heap[p]? = some o) (o' : Obj) : (w.alloc o').heap[p]? = some o := by
  rw [Below.heap_alloc _ _ _ (Array.getElem?_eq_some_iff.1 h).1]
  exact h
theorem bytes_same {a b : ByteArray} (h : (a.toList == b.toList) = true) : a = b := by
  rw [Go.ByteArray.toList_eq, Go.ByteArray.toList_eq] at h
  have h1 := eq_of_beq h
  cases a
  cases b
  simp at h1
  rw [h1]
theorem bytes_other {a b : ByteArray} (h : (a.toList == b.toList) = false) : a ≠ b := by
  rintro rfl
  simp at h
theorem bytes_beq (a b : ByteArray) : (a.toList == b.toList) = decide (a = b) := by
  by_cases h : a = b
  · subst h; simp
  · cases hh : (a.toList == b.toList)
    · simp [h]
    · exact absurd (bytes_same hh) h
theorem heap_setCell {w : World} {p j : Nat} {cs : Array Value} {t : TypeId} {fz : Nat × Nat} (h : w.heap[p]? = some (.cells cs t fz)) (v : Value) : (w.setCell ⟨p, j, none⟩ v).heap[p]? = some (.cells (cs.setIfInBounds j v) t fz) := by
  simp [World.setCell, Array.getElem?_modify, h]
theorem free_of_heap {w : World} {p : Nat} {cs : Array Value} {t : TypeId} (h : w.heap[p]? = some (.cells cs t (0, 0))) (j : Nat) : w.frozen? ⟨p, j, none⟩ = false := by simp [World.frozen?, h]
theorem size_zero {s : ByteArray} (h : s.size = 0) : s = ⟨#[]⟩ := by
  cases s with
  | mk d =>
    have : d.size = 0 := h
    rw [Array.eq_empty_of_size_eq_zero this]
theorem Below.one (w : World) (o : Obj) : Below w.heap.size w (w.alloc o) := (Below.refl _ _).alloc (Nat.le_refl _) _
/-- the slice (A, length of l) reads as the numbers l, wherever it begins -/
def RdN (w : World) (A : Option Addr) (l : List Int) : Prop := ∀ (j : Nat) n, l[j]? = some n → ∃ b o, A = some ⟨b, o, none⟩ ∧ b < w.heap.size ∧ w.cell? ⟨b, o + j, none⟩ = some (.int .i64 n)
theorem RdN.below {w w' : World} {A : Option Addr} {l : List Int} (h : RdN w A l) (hb : Below w.heap.size w w') : RdN w' A l := fun j n hn => by
  obtain ⟨b, o, e1, e2, e3⟩ := h j n hn
  exact ⟨b, o, e1, Nat.lt_of_lt_of_le e2 hb.size, (hb.cell (p := ⟨b, _, none⟩) e2).trans e3⟩

abbrev Ln.l (i : Ln) : List Value := [.int .i64 i.op, .int .i64 i.r, .int .i64 i.a, .int .i64 i.b, .int .i64 i.n, .string i.text]
abbrev Ln.agg (i : Ln) : Value := .agg #[.int .i64 i.op, .int .i64 i.r, .int .i64 i.a, .int .i64 i.b, .int .i64 i.n, .string i.text]
def Ln.obj (i : Ln) : Obj := .cells #[.int .i64 i.op, .int .i64 i.r, .int .i64 i.a, .int .i64 i.b, .int .i64 i.n, .string i.text] 36 (0, 0)
abbrev obL (f : Ob) (C : Option Addr) (cap : Nat) : List Value := [.string f.name, .int .i64 f.slots, .int .i64 f.frame, .slice C f.lines.length cap]
abbrev obAgg (f : Ob) (C : Option Addr) (cap : Nat) : Value := .agg #[.string f.name, .int .i64 f.slots, .int .i64 f.frame, .slice C f.lines.length cap]
abbrev obObj (f : Ob) (C : Option Addr) (cap : Nat) : Obj := .cells #[.string f.name, .int .i64 f.slots, .int .i64 f.frame, .slice C f.lines.length cap] 39 (0, 0)
abbrev glL (g : Gb) : List Value := [.string g.name, .int .i64 g.at_, .int .i64 g.size, .int .i64 g.init]
abbrev imAgg (u : Im) (F G : Option Addr) (cF cG : Nat) : Value := .agg #[.slice F u.objs.length cF, .slice G u.globs.length cG, .int .i64 u.top]
abbrev imObj (u : Im) (F G : Option Addr) (cF cG : Nat) : Obj := .cells #[.slice F u.objs.length cF, .slice G u.globs.length cG, .int .i64 u.top] 25 (0, 0)
/-- the slice (A, length of l) reads as the lines l, wherever it begins -/
def RdL (w : World) (A : Option Addr) (l : List Ln) : Prop := ∀ (j : Nat) i, l[j]? = some i → ∃ b o, A = some ⟨b, o, none⟩ ∧ b < w.heap.size ∧ ∀ k, k < 6 → w.cell? ⟨b, o + (j * 6 + k), none⟩ = i.l[k]?
theorem RdL.below {w w' : World} {A : Option Addr} {l : List Ln} (h : RdL w A l) (hb : Below w.heap.size w w') : RdL w' A l := fun j i hi => by
  obtain ⟨b, o, e1, e2, e3⟩ := h j i hi
  exact ⟨b, o, e1, Nat.lt_of_lt_of_le e2 hb.size, fun k hk => (hb.cell (p := ⟨b, _, none⟩) e2).trans (e3 k hk)⟩
theorem RdL.load {w : World} {b o : Nat} {i : Ln} {j : Nat} (h : ∀ k, k < 6 → w.cell? ⟨b, o + (j * 6 + k), none⟩ = i.l[k]?) : w.cell? ⟨b, o + j * 6, none⟩ = some (.int .i64 i.op) ∧ w.cell? ⟨b, o + j * 6 + 1, none⟩ = some (.int .i64 i.r) ∧ w.cell? ⟨b, o + j * 6 + 2, none⟩ = some (.int .i64 i.a) ∧ w.cell? ⟨b, o + j * 6 + 3, none⟩ = some (.int .i64 i.b) ∧ w.cell? ⟨b, o + j * 6 + 4, none⟩ = some (.int .i64 i.n) ∧ w.cell? ⟨b, o + j * 6 + 5, none⟩ = some (.string i.text) :=
  ⟨h 0 (by omega), h 1 (by omega), h 2 (by omega), h 3 (by omega), h 4 (by omega), h 5 (by omega)⟩
theorem Ln.cells {w : World} {p : Nat} {i : Ln} (h : w.heap[p]? = some i.obj) : w.cell? ⟨p, 0, none⟩ = some (.int .i64 i.op) ∧ w.cell? ⟨p, 1, none⟩ = some (.int .i64 i.r) ∧ w.cell? ⟨p, 2, none⟩ = some (.int .i64 i.a) ∧ w.cell? ⟨p, 3, none⟩ = some (.int .i64 i.b) ∧ w.cell? ⟨p, 4, none⟩ = some (.int .i64 i.n) ∧ w.cell? ⟨p, 5, none⟩ = some (.string i.text) :=
  ⟨cell_of_heap h 0 _ rfl, cell_of_heap h 1 _ rfl, cell_of_heap h 2 _ rfl, cell_of_heap h 3 _ rfl, cell_of_heap h 4 _ rfl, cell_of_heap h 5 _ rfl⟩
/-- a table of objects -/
def RdO (w : World) (F : Option Addr) (l : List Ob) : Prop := ∀ (k : Nat) f, l[k]? = some f → ∃ b o C cap, F = some ⟨b, o, none⟩ ∧ b < w.heap.size ∧ (∀ j, j < 4 → w.cell? ⟨b, o + (k * 4 + j), none⟩ = (obL f C cap)[j]?) ∧ RdL w C f.lines
/-- a table of globals -/
def RdG (w : World) (G : Option Addr) (l : List Gb) : Prop := ∀ (k : Nat) g, l[k]? = some g → ∃ b o, G = some ⟨b, o, none⟩ ∧ b < w.heap.size ∧ ∀ j, j < 4 → w.cell? ⟨b, o + (k * 4 + j), none⟩ = (glL g)[j]?
structure RdU (w : World) (F G : Option Addr) (u : Im) : Prop where
  fs : RdO w F u.objs
  gs : RdG w G u.globs
theorem RdO.below {w w' : World} {F : Option Addr} {l : List Ob} (h : RdO w F l) (hb : Below w.heap.size w w') : RdO w' F l := fun k f hk => by
  obtain ⟨b, o, C, cap, e1, e2, e3, e4⟩ := h k f hk
  exact ⟨b, o, C, cap, e1, Nat.lt_of_lt_of_le e2 hb.size, fun j hj => (hb.cell (p := ⟨b, o + (k * 4 + j), none⟩) e2).trans (e3 j hj), e4.below hb⟩
theorem RdG.below {w w' : World} {F : Option Addr} {l : List Gb} (h : RdG w F l) (hb : Below w.heap.size w w') : RdG w' F l := fun k f hk => by
  obtain ⟨b, o, e1, e2, e3⟩ := h k f hk
  exact ⟨b, o, e1, Nat.lt_of_lt_of_le e2 hb.size, fun j hj => (hb.cell (p := ⟨b, o + (k * 4 + j), none⟩) e2).trans (e3 j hj)⟩
theorem RdU.below {w w' : World} {F G : Option Addr} {u : Im} (h : RdU w F G u) (hb : Below w.heap.size w w') : RdU w' F G u := ⟨h.fs.below hb, h.gs.below hb⟩
theorem ob_cells {w : World} {b o k : Nat} {f : Ob} {C : Option Addr} {cap : Nat} (h : ∀ j, j < 4 → w.cell? ⟨b, o + (k * 4 + j), none⟩ = (obL f C cap)[j]?) : w.cell? ⟨b, o + k * 4, none⟩ = some (.string f.name) ∧ w.cell? ⟨b, o + k * 4 + 1, none⟩ = some (.int .i64 f.slots) ∧ w.cell? ⟨b, o + k * 4 + 2, none⟩ = some (.int .i64 f.frame) ∧ w.cell? ⟨b, o + k * 4 + 3, none⟩ = some (.slice C f.lines.length cap) :=
  ⟨h 0 (by omega), h 1 (by omega), h 2 (by omega), h 3 (by omega)⟩
theorem gl_cells {w : World} {b o k : Nat} {g : Gb} (h : ∀ j, j < 4 → w.cell? ⟨b, o + (k * 4 + j), none⟩ = (glL g)[j]?) : w.cell? ⟨b, o + k * 4, none⟩ = some (.string g.name) ∧ w.cell? ⟨b, o + k * 4 + 1, none⟩ = some (.int .i64 g.at_) ∧ w.cell? ⟨b, o + k * 4 + 2, none⟩ = some (.int .i64 g.size) ∧ w.cell? ⟨b, o + k * 4 + 3, none⟩ = some (.int .i64 g.init) :=
  ⟨h 0 (by omega), h 1 (by omega), h 2 (by omega), h 3 (by omega)⟩
/-! field: where a line's part stands -/
def offR (p : Int) : Nat := if p = 114 then 1 else if p = 97 then 2 else if p = 98 then 3 else 4
theorem field_any (b : Nat) (p : Int) (w : World) : Calls Tryd.prog 40 #[.pointer (some ⟨b, 0, none⟩), .int .i32 p] w fun e w' => e = .returned (.pointer (some ⟨b, offR p, none⟩)) ∧ w = w' := by
  by_cases h1 : p = 114
  · subst h1
    go_enter Tryd.func40, Tryd.ntmps40
    go_wp2
    go_returns
    exact ⟨rfl, rfl⟩
  have q1 : (p == 114) = false := by simpa using h1
  by_cases h2 : p = 97
  · subst h2
    go_enter Tryd.func40, Tryd.ntmps40
    go_wp2
    go_returns
    exact ⟨rfl, rfl⟩
  have q2 : (p == 97) = false := by simpa using h2
  by_cases h3 : p = 98
  · subst h3
    go_enter Tryd.func40, Tryd.ntmps40
    go_wp2
    go_returns
    exact ⟨rfl, rfl⟩
  have q3 : (p == 98) = false := by simpa using h3
  have e : offR p = 4 := by unfold offR; rw [if_neg h1, if_neg h2, if_neg h3]
  rw [e]
  go_enter Tryd.func40, Tryd.ntmps40
  go_wp2
  go_returns
  exact ⟨rfl, rfl⟩
end Go.Proofs.YtihbgppcacaekaaDoor
