import Derived.WalkKit
import Derived.ProofKit
import Derived.StringKeys
import Derived.Maps.Own
import Derived.Maps.OwnOps
import Derived.Test.YtkcclefonmnpnaaQZa
import Derived.Maps.RangeRun
import Derived.Maps.RangeWalk
import Derived.Test.YtkcclefonmnpnaaQZg
import Derived.Deep.LoopGhost
import Derived.Outline
import Derived.Deep.CutRange
import Derived.Test.YtkcclefonmnpnaaQZe1
/- MAPS WITH NUMBERS AS KEYS, of any program. -/
namespace Go.Proofs.Ytkcclefonmnpnaa
open Go.MapKept Go.RowKit

/-- MAPS WITH NUMBERS AS KEYS: block b of w is a map of at most n entries with numbers as keys, that holds g -/
def MapI (w : World) (b n : Nat) (g : Int → Option Value) : Prop := ∃ (es : Array MapEntry) (clock : Nat), w.heap[b]? = some (.map es clock) ∧ es.size ≤ n ∧
  (∀ (i j : Nat) ei ej, es[i]? = some ei → es[j]? = some ej → ei.key = ej.key → i = j) ∧ (∀ (i : Nat) e, es[i]? = some e → ∃ s, e.key = .int .i64 s) ∧
  (∀ (i : Nat) e s, es[i]? = some e → e.key = .int .i64 s → g s = some e.val) ∧ (∀ s v, g s = some v → ∃ (i : Nat) (e : MapEntry), es[i]? = some e ∧ e.key = .int .i64 s)
def updM (g : Int → Option Value) (s : Int) (v : Value) : Int → Option Value := fun s' => if s' = s then some v else g s'
end Go.Proofs.Ytkcclefonmnpnaa

/- SETS OF NUMBERS, AS MAPS TO BOOLS; the range over one. -/
namespace Go.Proofs.Ytkcclefonmnpnaa
open Go.MapKept Go.RowKit

structure Ents (es : Array MapEntry) (clock : Nat) (S : Int → Bool) : Prop where
  dist : ∀ (i j : Nat) ei ej, es[i]? = some ei → es[j]? = some ej → ei.key = ej.key → i = j
  form : ∀ (i : Nat) e, es[i]? = some e → ∃ s, e.key = .int .i64 s ∧ S s = true ∧ e.val = .bool true
  has : ∀ s, S s = true → ∃ (i : Nat) (e : MapEntry), es[i]? = some e ∧ e.key = .int .i64 s
  born : ∀ (i j : Nat) ei ej, es[i]? = some ei → es[j]? = some ej → ei.born = ej.born → i = j
  old : ∀ (i : Nat) e, es[i]? = some e → e.born < clock
/-- block b is the set S -/
def SetI (w : World) (b : Nat) (S : Int → Bool) : Prop := ∃ es clock, w.heap[b]? = some (.map es clock) ∧ Ents es clock S
def insS_ (S : Int → Bool) (s : Int) : Int → Bool := fun x => decide (x = s) || S x
section
variable {P : Program}
/-- an entry that was just laid, its value not yet stored -/
def HalfI (w : World) (b : Nat) (S : Int → Bool) (s : Int) (clock : Nat) : Prop := ∃ es, w.heap[b]? = some (.map (es.push { key := .int .i64 s, val := .bool false, born := clock }) (clock + 1)) ∧ Ents es clock S ∧ ∀ (i : Nat) e, es[i]? = some e → e.key ≠ .int .i64 s
/-- block r is an iterator over the set S in block b; l: what is still to come -/
def RgD (w : World) (r b : Nat) (S : Int → Bool) (l : List Int) : Prop := ∃ (es : Array MapEntry) (clock c0 : Nat) (seen : Array Nat), Ents es clock S ∧ w.heap[b]? = some (.map es clock) ∧ clock ≤ c0 ∧ w.heap[r]? = some (.mapIter (some b) clock seen c0) ∧
  l = (es.toList.filter fun e => !seen.contains e.born).map fun e => match e.key with | .int _ n => n | _ => 0
section
variable (w : World) {ops : Array Oper} {rest : List Oper} {o : Oper} {a : Act} {Q : Exit → Act → World → Prop}
end
end
end Go.Proofs.Ytkcclefonmnpnaa

/- REGISTERS THAT ARE LIVE (plain). -/
namespace Go.Proofs.Ytkcclefonmnpnaa

theorem OkF.next {f : Fn7} (hf : OkF f) {p : Nat} {i : Ins} (h : f.code[p]? = some i) : ∀ n ∈ i.next p, 0 ≤ n ∧ n.toNat < f.code.length := by
  intro n hn
  have hi := hf.ok i (List.mem_of_getElem? h)
  have hp := (List.getElem?_eq_some_iff.1 h).1
  unfold Ins.next at hn
  split at hn
  · rename_i h1
    have := hi.to_ (Or.inl h1)
    simp only [List.mem_singleton] at hn
    subst hn
    omega
  · split at hn
    · rename_i h1
      have a := hi.to_ (Or.inr h1)
      have b := hi.els h1
      simp only [List.mem_cons, List.not_mem_nil, or_false] at hn
      rcases hn with rfl | rfl <;> omega
    · split at hn
      · cases hn
      · simp only [List.mem_singleton] at hn
        subst hn
        by_cases hl : p = f.code.length - 1
        · subst hl
          have h1 := hf.last i h
          have h2 := hi.kind
          omega
        · omega
/-- a register is live ahead of an instruction -/
inductive Lv (l : List Ins) : Nat → Int → Prop
  | use {p : Nat} {i : Ins} {r : Int} (h : l[p]? = some i) (hu : r ∈ i.uses) : Lv l p r
  | step {p : Nat} {i : Ins} {n r : Int} (h : l[p]? = some i) (hn : n ∈ i.next p) (hs : i.sets ≠ r) (hl : Lv l n.toNat r) : Lv l p r
abbrev Sets := Nat → Int → Bool
def upd2 (S : Sets) (p : Nat) (r : Int) : Sets := fun q x => if q = p then decide (x = r) || S q x else S q x
/-- how many pairs are not there yet -/
def pot2 (N R : Nat) (S : Sets) : Nat := ((List.range N).flatMap fun p => (List.range R).map fun r => (p, r)).countP fun x => !S x.1 (x.2 : Int)
/-- an instruction's set has all that it needs -/
def ClU (l : List Ins) (S : Sets) (p : Nat) : Prop := ∀ i, l[p]? = some i → ∀ r ∈ i.uses, S p r = true
def Cl (l : List Ins) (S : Sets) (p : Nat) : Prop := ∀ i, l[p]? = some i → (∀ r ∈ i.uses, S p r = true) ∧ ∀ n ∈ i.next p, ∀ r, S n.toNat r = true → i.sets ≠ r → S p r = true
/-- what a pass keeps: Sp is what it began with -/
structure Ps (l : List Ins) (N R : Nat) (Sp S : Sets) (ch : Bool) : Prop where
  lo : ∀ p r, S p r = true → Lv l p r
  st : ch = false → S = Sp
  mv : ch = true → pot2 N R S < pot2 N R Sp
end Go.Proofs.Ytkcclefonmnpnaa

/- live.flow: its sets in memory; its closure. -/
namespace Go.Proofs.Ytkcclefonmnpnaa
open Go.RowKit Go.BigFrame

structure Fl (W1 w : World) (sb N : Nat) (S : Sets) (cb : Nat) (ch : Bool) : Prop where
  h : Pre g1 1 115 w sb ((List.range N).map fun p => .map (some (sb + 2 + p)))
  bx : w.heap[sb + 1]? = some (.cells #[.slice (some ⟨sb, 0, none⟩) N N] 113 (0, 0))
  r : ∀ p, p < N → SetI w (sb + 2 + p) (S p)
  c : w.heap[cb]? = some (.cells #[.bool ch] 4 (0, 0))
  cn : sb + 2 + N ≤ cb
  b : Below sb W1 w
/-- all but the blocks mb and cb is as it was -/
structure Kp (w w' : World) (mb cb : Nat) : Prop where
  s : w.heap.size ≤ w'.heap.size
  k : ∀ b, b < w.heap.size → b ≠ mb → b ≠ cb → w'.heap[b]? = w.heap[b]?
end Go.Proofs.Ytkcclefonmnpnaa

/- live.flow: its inner loops. -/
namespace Go.Proofs.Ytkcclefonmnpnaa
open Go.RowKit Go.BigFrame

noncomputable def lf2 : Code := ((((Try.f102.body).map loopsOf).getD [])[1]?).getD .skip
noncomputable def lf3 : Code := ((loopsOf (inLoop lf2))[0]?).getD .skip
noncomputable def lf4 : Code := ((loopsOf (inLoop lf3))[0]?).getD .skip
noncomputable def lf5 : Code := ((loopsOf (inLoop lf3))[1]?).getD .skip
noncomputable def lf6 : Code := ((loopsOf (inLoop lf5))[0]?).getD .skip
end Go.Proofs.Ytkcclefonmnpnaa

/- live.flow: the loop over the next ones. -/
namespace Go.Proofs.Ytkcclefonmnpnaa
open Go.RowKit Go.BigFrame

end Go.Proofs.Ytkcclefonmnpnaa

/- live.flow: a pass. -/
namespace Go.Proofs.Ytkcclefonmnpnaa
open Go.RowKit Go.BigFrame

theorem Ins.next_len (i : Ins) (p : Int) : (i.next p).length ≤ 2 := by
  unfold Ins.next
  split
  · simp
  · split
    · simp
    · split <;> simp
/-- a pass: k instructions are still to come -/
def Pass (f : Fn7) (Rn : Nat) (W1 : World) (sb N : Nat) (Sp : Sets) (cb : Nat) (g : Nat) (ap : Value) (wr : World) : Prop :=
  ∃ (ab : Nat) (S : Sets) (ch : Bool), ap = .pointer (some ⟨ab, 0, none⟩) ∧ g ≤ N ∧ wr.heap[ab]? = some (.cells #[.int .i64 ((g : Int) - 1)] 3 (0, 0)) ∧ Fl W1 wr sb N S cb ch ∧ Ps f.code N Rn Sp S ch ∧ (ch = false → ∀ q, g ≤ q → q < N → Cl f.code Sp q)
end Go.Proofs.Ytkcclefonmnpnaa
