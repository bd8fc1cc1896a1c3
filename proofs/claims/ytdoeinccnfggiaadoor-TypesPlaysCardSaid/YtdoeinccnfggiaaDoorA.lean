import Derived.Test.YtdoeinccnfggiaaDoorM
namespace Go.Proofs.YtdoeinccnfggiaaDoor
open Go.RowKit

structure Ty where
  kind : Int
  elem : Int
  n : Int
  name : ByteArray
instance : DecidableEq Ty := fun a b => decidable_of_iff (a.kind = b.kind ∧ a.elem = b.elem ∧ a.n = b.n ∧ a.name = b.name)
  ⟨fun h => by cases a; cases b; simp_all, fun h => by subst h; simp⟩
structure Fld where
  name : ByteArray
  type : Int
abbrev Ty.l (x : Ty) : List Value := [.int .i64 x.kind, .int .i64 x.elem, .int .i64 x.n, .string x.name]
abbrev Ty.agg (x : Ty) : Value := .agg #[.int .i64 x.kind, .int .i64 x.elem, .int .i64 x.n, .string x.name]
abbrev Fld.l (x : Fld) : List Value := [.string x.name, .int .i64 x.type]
abbrev ty0 : Ty := ⟨0, 0, 0, ⟨#[]⟩⟩
def tcells (l : List Ty) : List Value := l.flatMap Ty.l
theorem tcells_len (l : List Ty) : (tcells l).length = l.length * 4 := by
  induction l with
  | nil => rfl
  | cons r l ih => simp [tcells] at ih ⊢; omega
theorem tcells_app (l m : List Ty) : tcells (l ++ m) = tcells l ++ tcells m := by simp [tcells]
theorem tcells_at (l : List Ty) (k j : Nat) (hk : k < l.length) (hj : j < 4) : (tcells l)[k * 4 + j]? = (l[k]).l[j]? := by
  induction l generalizing k with
  | nil => simp at hk
  | cons r l ih =>
    cases k with
    | zero => simp only [tcells, List.flatMap_cons, Nat.zero_mul, Nat.zero_add]; rw [List.getElem?_append_left (by simpa using hj)]; rfl
    | succ k =>
      simp only [tcells, List.flatMap_cons]
      rw [List.getElem?_append_right (by simp; omega)]
      have := ih k (by simpa using hk)
      simp only [tcells] at this
      simpa [show (k + 1) * 4 + j - 4 = k * 4 + j by omega] using this
def fcells (l : List Fld) : List Value := l.flatMap Fld.l
theorem fcells_len (l : List Fld) : (fcells l).length = l.length * 2 := by
  induction l with
  | nil => rfl
  | cons r l ih => simp [fcells] at ih ⊢; omega
theorem fcells_at (l : List Fld) (k j : Nat) (hk : k < l.length) (hj : j < 2) : (fcells l)[k * 2 + j]? = (l[k]).l[j]? := by
  induction l generalizing k with
  | nil => simp at hk
  | cons r l ih =>
    cases k with
    | zero => simp only [fcells, List.flatMap_cons, Nat.zero_mul, Nat.zero_add]; rw [List.getElem?_append_left (by simpa using hj)]; rfl
    | succ k =>
      simp only [fcells, List.flatMap_cons]
      rw [List.getElem?_append_right (by simp; omega)]
      have := ih k (by simpa using hk)
      simp only [fcells] at this
      simpa [show (k + 1) * 2 + j - 2 = k * 2 + j by omega] using this

/-- what is at a number -/
def atT (T : List Ty) (n : Int) : Option Ty := if 0 ≤ n ∧ n < T.length then T[n.toNat]? else none
/-- the first place of a type, from k on -/
def find1 (x : Ty) : List Ty → Nat → Option Nat
  | [], _ => none
  | y :: l, k => if y = x then some k else find1 x l (k + 1)
theorem find1_none (x : Ty) : ∀ (l : List Ty) (k : Nat), (∀ (i : Nat) y, l[i]? = some y → y ≠ x) → find1 x l k = none
  | [], _, _ => rfl
  | y :: l, k, h => by
    unfold find1
    rw [if_neg (h 0 y rfl)]
    exact find1_none x l (k + 1) fun i z hz => h (i + 1) z (by simpa using hz)
theorem find1_some (x : Ty) : ∀ (l : List Ty) (k i : Nat), l[i]? = some x → (∀ (j : Nat) y, j < i → l[j]? = some y → y ≠ x) → find1 x l k = some (k + i)
  | [], _, _, h, _ => by simp at h
  | y :: l, k, 0, h, _ => by
    simp at h
    simp [find1, h]
  | y :: l, k, i + 1, h, hn => by
    unfold find1
    rw [if_neg (hn 0 y (by omega) rfl), find1_some x l (k + 1) i (by simpa using h) fun j z hj hz => hn (j + 1) z (by omega) (by simpa using hz)]
    congr 1
    omega
def putL (l : List Ty) (x : Ty) : List Ty × Int × Int :=
  match find1 x l 0 with
  | some i => (l, (i : Int), 0)
  | none => if l.length = 256 then (l, 0, 4) else (l ++ [x], (l.length : Int), 0)
/-- how many words a type has, asked so deep -/
def sz (T : List Ty) (D : ByteArray → Option (List Fld)) : Nat → Int → Int × Bool
  | 0, _ => (0, false)
  | k + 1, n =>
    match atT T n with
    | none => (0, false)
    | some x => if x.kind = 0 then (0, false) else if x.kind = 5 then ((sz T D k x.elem).1 * x.n, true)
      else if x.kind = 6 then (((D x.name).getD []).foldl (fun s f => s + (sz T D k f.type).1) 0, decide (((D x.name).getD []).foldl (fun s f => s + (sz T D k f.type).1) 0 > 0))
      else (1, true)
/-- that depth is enough, and nothing on the way is great -/
def deep (T : List Ty) (D : ByteArray → Option (List Fld)) : Nat → Int → Prop
  | 0, _ => False
  | k + 1, n => ∀ x, atT T n = some x → (x.kind = 5 → deep T D k x.elem ∧ 0 ≤ (sz T D k x.elem).1 * x.n ∧ (sz T D k x.elem).1 * x.n ≤ 5000000) ∧
      (x.kind = 6 → ∀ l, D x.name = some l → (∀ f ∈ l, deep T D k f.type) ∧ ∀ j, j ≤ l.length → 0 ≤ (l.take j).foldl (fun s f => s + (sz T D k f.type).1) 0 ∧ (l.take j).foldl (fun s f => s + (sz T D k f.type).1) 0 ≤ 5000000)

/-- between w and w' only blocks of F may have turned -/
structure Chg (w w' : World) (F : Nat → Prop) : Prop where
  os : w'.os = w.os
  tape : w'.tape = w.tape
  output : w'.output = w.output
  size : w.heap.size ≤ w'.heap.size
  block : ∀ k, k < w.heap.size → ¬ F k → w'.heap[k]? = w.heap[k]?
theorem Chg.refl (w : World) (F) : Chg w w F := ⟨rfl, rfl, rfl, Nat.le_refl _, fun _ _ _ => rfl⟩
theorem Chg.trans {a b c : World} {F G : Nat → Prop} (h : Chg a b F) (k : Chg b c G) (hG : ∀ i, G i → F i ∨ a.heap.size ≤ i) : Chg a c F :=
  ⟨k.os.trans h.os, k.tape.trans h.tape, k.output.trans h.output, Nat.le_trans h.size k.size, fun i hi hn => by
    rw [k.block i (Nat.lt_of_lt_of_le hi h.size) (fun hg => (hG i hg).elim hn (fun hh => by omega)), h.block i hi hn]⟩
theorem Chg.of_below {w w' : World} (h : Below w.heap.size w w') (F) : Chg w w' F := ⟨h.os, h.tape, h.output, h.size, fun k hk _ => h.block k hk⟩
theorem Chg.below {w w' : World} {F} {B : Nat} (h : Chg w w' F) (hB : B ≤ w.heap.size) (hF : ∀ i, F i → B ≤ i) : Below B w w' :=
  ⟨h.os, h.tape, h.output, h.size, fun k hk => h.block k (by omega) (fun hf => by have := hF k hf; omega)⟩
end Go.Proofs.YtdoeinccnfggiaaDoor
