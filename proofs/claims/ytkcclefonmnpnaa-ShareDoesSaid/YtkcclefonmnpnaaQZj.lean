import Derived.Test.YtkcclefonmnpnaaQZi
import Derived.Deep.CutRange
import Derived.Carry
import Derived.Test.YtkcclefonmnpnaaShelf
import Derived.Test.YtkcclefonmnpnaaQZf
import Derived.Test.YtkcclefonmnpnaaQZg
import Derived.StillTailTactics
import Derived.RegionTactic
import Derived.BigRegion
import Derived.Deep.RegionWith
import Derived.Laws.OwnMore
import Derived.Laws.AppendOwnNone
/- live.flow: passes. -/
namespace Go.Proofs.Ytkcclefonmnpnaa
open Go.RowKit Go.BigFrame

def Outer (f : Fn7) (Rn : Nat) (W1 : World) (sb N : Nat) (g : Nat) (cp : Value) (wr : World) : Prop :=
  ∃ (cb : Nat) (S : Sets) (ch : Bool), cp = .pointer (some ⟨cb, 0, none⟩) ∧ Fl W1 wr sb N S cb ch ∧ (∀ p r, S p r = true → Lv f.code p r) ∧ (ch = true → g = pot2 N Rn S + 1) ∧ (ch = false → g = 0 ∧ ∀ q, q < N → Cl f.code S q)
end Go.Proofs.Ytkcclefonmnpnaa

/- live.flow. -/
namespace Go.Proofs.Ytkcclefonmnpnaa
open Go.RowKit Go.BigFrame

/-- a slice of sets -/
structure MapsW (w : World) (sb N : Nat) (S : Sets) : Prop where
  h : Pre g1 1 115 w sb ((List.range N).map fun p => .map (some (sb + 2 + p)))
  r : ∀ p, p < N → SetI w (sb + 2 + p) (S p)
def LiveM (f : Fn7) (N base : Nat) (e : Ending) (w : World) : Prop := ∃ sb S, e = .returned (.slice (some ⟨sb, 0, none⟩) N N) ∧ base ≤ sb ∧ MapsW w sb N S ∧ ∀ p, p < N → ∀ r, S p r = true ↔ Lv f.code p r
def hdrm (N sb k : Nat) : List Value := (List.range N).map fun j => if j < k then .map (some (sb + 2 + j)) else .map none
structure Lpm (W1 wr : World) (N k : Nat) : Prop where
  h : Pre g1 1 115 wr W1.heap.size (hdrm N W1.heap.size k)
  bx : wr.heap[W1.heap.size + 1]? = some (.cells #[.slice (some ⟨W1.heap.size, 0, none⟩) N N] 113 (0, 0))
  r : ∀ j, j < k → SetI wr (W1.heap.size + 2 + j) (fun _ => false)
  s : wr.heap.size = W1.heap.size + 2 + k
  b : Below W1.heap.size W1 wr
end Go.Proofs.Ytkcclefonmnpnaa

/- live.sorted. -/
namespace Go.Proofs.Ytkcclefonmnpnaa
open Go.RowKit Go.BigFrame

def isort (l : List Int) : List Int := l.mergeSort fun x y => decide (x ≤ y)
def SortT (S : Int → Bool) (e : Ending) (w : World) : Prop := ∃ A l cap, e = .returned (.slice A l.length cap) ∧ RdN w A l ∧ l.Pairwise (· < ·) ∧ ∀ x, x ∈ l ↔ S x = true
end Go.Proofs.Ytkcclefonmnpnaa

/- live.Ahead. -/
namespace Go.Proofs.Ytkcclefonmnpnaa
open Go.RowKit Go.BigFrame

theorem RightFunc_yes (f : Fn7) (hf : OkF f) (C : Option Addr) (cap : Nat) (w : World) (hC : RdI w C f.code) : Calls Try.prog 48 #[funcAgg f.nm f.ps f.R f.Fr C f.code.length cap] w fun e w' => e = .returned (.bool true) ∧ Below w.heap.size w w' :=
  (RightFunc_any f C cap w hC).mono fun e w' ⟨⟨b, h1, h2⟩, hb⟩ => ⟨by rw [h1, h2.2 hf], hb⟩
/-- a slice that reads as a set, in order -/
def RowV (w : World) (v : Value) (P : Int → Prop) : Prop := ∃ A l cap, v = .slice A l.length cap ∧ RdN w A l ∧ l.Pairwise (· < ·) ∧ ∀ x, x ∈ l ↔ P x
/-- rows, the first k of them done -/
def RowsK (w : World) (ob N k : Nat) (P : Nat → Int → Prop) : Prop := ∃ vs : List Value, vs.length = N ∧ Pre g1 1 33 w ob vs ∧ (∀ (j : Nat) (v : Value), vs[j]? = some v → ∃ A n c, v = Value.slice A n c) ∧ ∀ j, j < k → ∃ v, vs[j]? = some v ∧ RowV w v (P j)
def RowsT (N : Nat) (P : Nat → Int → Prop) (e : Ending) (w : World) : Prop := ∃ ob, e = .returned (.slice (some ⟨ob, 0, none⟩) N N) ∧ RowsK w ob N N P
end Go.Proofs.Ytkcclefonmnpnaa

/- live.Behind. -/
namespace Go.Proofs.Ytkcclefonmnpnaa
open Go.RowKit Go.BigFrame

noncomputable def lb1 : Code := ((((Try.f85.body).map loopsOf).getD [])[0]?).getD .skip
noncomputable def lb2 : Code := ((loopsOf (inLoop lb1))[0]?).getD .skip
noncomputable def lb3 : Code := ((loopsOf (inLoop lb2))[0]?).getD .skip
/-- a register is live behind an instruction -/
def Bh (l : List Ins) (p : Nat) (r : Int) : Prop := ∃ i, l[p]? = some i ∧ ∃ n ∈ i.next p, Lv l n.toNat r
end Go.Proofs.Ytkcclefonmnpnaa

/- live.Pure, and the document's. -/
namespace Go.Proofs.Ytkcclefonmnpnaa
open Go.RowKit Go.BigFrame

def stdy (op : Int) : Bool := decide (1 ≤ op ∧ op ≤ 23 ∧ ¬ (4 ≤ op ∧ op ≤ 7))
def pur (i : Ins) : Bool := decide (i.kind = 1 ∨ i.kind = 2 ∨ i.kind = 4 ∨ i.kind = 5) || (decide (i.kind = 3) && stdy i.op)
set_option maxRecDepth 1000000 in
theorem steady_any (op : Int) (w : World) : Calls Try.prog 82 #[.int .i64 op] w fun e w' => e = .returned (.bool (stdy op)) ∧ w = w' := by
  have h1 := one_any op
  have h2 := two_any op
  have hc : (decide (20 ≤ op ∧ op ≤ 23) = true ∧ stdy op = true) ∨ (decide (20 ≤ op ∧ op ≤ 23) = false ∧ decide (1 ≤ op ∧ op ≤ 19) = false ∧ stdy op = false) ∨ (decide (20 ≤ op ∧ op ≤ 23) = false ∧ decide (1 ≤ op ∧ op ≤ 19) = true ∧ decide (op < 4) = true ∧ stdy op = true) ∨
      (decide (20 ≤ op ∧ op ≤ 23) = false ∧ decide (1 ≤ op ∧ op ≤ 19) = true ∧ decide (op < 4) = false ∧ decide (op > 7) = true ∧ decide (7 < op) = true ∧ stdy op = true) ∨ (decide (20 ≤ op ∧ op ≤ 23) = false ∧ decide (1 ≤ op ∧ op ≤ 19) = true ∧ decide (op < 4) = false ∧ decide (op > 7) = false ∧ decide (7 < op) = false ∧ stdy op = false) := by
    unfold stdy
    simp only [decide_eq_true_eq, decide_eq_false_iff_not]
    omega
  generalize stdy op = z at *
  generalize decide (20 ≤ op ∧ op ≤ 23) = a1 at *
  generalize decide (1 ≤ op ∧ op ≤ 19) = a2 at *
  rcases hc with ⟨q1, q2⟩ | ⟨q1, q2, q3⟩ | ⟨q1, q2, q3, q4⟩ | ⟨q1, q2, q3, q4, q5, q6⟩ | ⟨q1, q2, q3, q4, q5, q6⟩
  all_goals
    subst_vars
    have H1 := Lib.hid h1
    have H2 := Lib.hid h2
    clear h1 h2
    go_enter Try.func82, Try.ntmps82
    go_wp2_with (first
      | (go_at_call 99; refine (H1.out _).mono ?_; rintro e w3 ⟨rfl, rfl⟩)
      | (go_at_call 100; refine (H2.out _).mono ?_; rintro e w3 ⟨rfl, rfl⟩))
    go_returns
    exact ⟨rfl, rfl⟩
set_option maxRecDepth 1000000 in
set_option maxHeartbeats 4000000 in
theorem Pure_any (i : Ins) (w : World) : Calls Try.prog 52 #[i.agg] w fun e w' => e = .returned (.bool (pur i)) ∧ Below w.heap.size w w' := by
  have HST := Lib.hid (fun W => steady_any i.op W)
  have hB := Below.one w i.obj
  obtain ⟨z, hz⟩ : ∃ z, pur i = z := ⟨_, rfl⟩
  rw [hz]
  obtain ⟨k, op, dst, a, b, n, text, r0, r1, r2, r3, r4, r5, to_, els⟩ := i
  unfold pur at hz
  simp only [Ins.agg, Ins.obj] at hB hz HST ⊢
  obtain ⟨s, hs⟩ : ∃ s, stdy op = s := ⟨_, rfl⟩
  rw [hs] at hz HST
  rcases kind_cases k with rfl | rfl | rfl | rfl | rfl | rfl | rfl | rfl | rfl | rfl | rfl | rfl | rfl | hk
  case inr.inr.inr.inr.inr.inr.inr.inr.inr.inr.inr.inr.inr =>
    have q1 : (k == 1) = false := by simp; omega
    have q2 : (k == 2) = false := by simp; omega
    have q4 : (k == 4) = false := by simp; omega
    have q5 : (k == 5) = false := by simp; omega
    have q3 : (k == 3) = false := by simp; omega
    have hz2 : z = false := by
      rw [← hz]
      simp
      omega
    subst hz2
    clear hz hs hk
    go_enter Try.func52, Try.ntmps52
    go_wp2
    go_returns
    exact ⟨rfl, hB⟩
  all_goals
    simp at hz
    subst hz
    clear hs
    go_enter Try.func52, Try.ntmps52
    go_wp2_with (first
      | (go_at_call 82; refine (HST.out _).mono ?_; rintro e w3 ⟨rfl, rfl⟩))
    go_returns
    exact ⟨rfl, hB⟩
end Go.Proofs.Ytkcclefonmnpnaa

/- live.Dead. -/
namespace Go.Proofs.Ytkcclefonmnpnaa
open Go.RowKit Go.BigFrame

noncomputable def deadB (l : List Ins) (p : Nat) : Bool := tb (∃ i, l[p]? = some i ∧ pur i = true ∧ ¬ Bh l p i.dst)
noncomputable def deadK (l : List Ins) (k : Nat) : List Int := ((List.range k).filter (deadB l)).map fun (n : Nat) => (n : Int)
noncomputable def deadL (l : List Ins) : List Int := deadK l l.length
end Go.Proofs.Ytkcclefonmnpnaa

/- the document's In; its Ahead's inner loop. -/
namespace Go.Proofs.Ytkcclefonmnpnaa
open Go.RowKit Go.BigFrame

theorem RdN.keepS {w w' : World} {A : Option Addr} {l : List Int} (h : RdN w A l) (hs : w.heap.size ≤ w'.heap.size) (hk : ∀ b o, A = some ⟨b, o, none⟩ → b < w.heap.size → w'.heap[b]? = w.heap[b]?) : RdN w' A l := fun j n hn => by
  obtain ⟨b, o, e1, e2, e3⟩ := h j n hn
  exact ⟨b, o, e1, by omega, by rw [← e3]; simp only [World.cell?, hk b o e1 e2]⟩
/-- a list of places that grows: what is of nx, from the j-th on, is added unless it is there -/
structure Grow (N : Nat) (nx T0 T : List Int) (k : Nat) : Prop where
  ext : ∃ E, T = T0 ++ E
  nd : T.Nodup
  bd : ∀ x ∈ T, 0 ≤ x ∧ x < (N : Int)
  all : ∀ (j : Nat) n, j < k → nx[j]? = some n → n ∈ T
  only : ∀ x ∈ T, x ∈ T0 ∨ x ∈ nx
end Go.Proofs.Ytkcclefonmnpnaa

/- the document's live Ahead. -/
namespace Go.Proofs.Ytkcclefonmnpnaa
open Go.RowKit Go.BigFrame

/-- what is gone through -/
structure Seen (f : Fn7) (a : Nat) (r : Int) (T : List Int) (k : Nat) : Prop where
  hd : T[0]? = some (a : Int)
  nd : T.Nodup
  bd : ∀ x ∈ T, 0 ≤ x ∧ x < (f.code.length : Int)
  kl : k ≤ T.length
  done : ∀ (j : Nat) p i, j < k → T[j]? = some p → f.code[p.toNat]? = some i → r ∉ i.uses ∧ (i.sets = r ∨ ∀ n ∈ i.next p.toNat, n ∈ T)
  way : ∀ p ∈ T, Lv f.code p.toNat r → Lv f.code a r
end Go.Proofs.Ytkcclefonmnpnaa

/- A function without some of its instructions; what is reached (plain). -/
namespace Go.Proofs.Ytkcclefonmnpnaa

/-- kept places below k; how many -/
def kl (G : Nat → Bool) (k : Nat) : List Nat := (List.range k).filter fun p => !G p
def toI (G : Nat → Bool) (p : Nat) : Nat := (kl G p).length
/-- an instruction whose jumps are turned -/
def fixI (G : Nat → Bool) (i : Ins) : Ins := { i with to_ := if i.kind = 11 ∨ i.kind = 12 then (toI G i.to_.toNat : Int) else i.to_, els := if i.kind = 12 then (toI G i.els.toNat : Int) else i.els }
def insD (l : List Ins) (p : Nat) : Ins := l.getD p ⟨0, 0, 0, 0, 0, 0, ⟨#[]⟩, 0, 0, 0, 0, 0, 0, 0, 0⟩
theorem insD_some {l : List Ins} {p : Nat} {i : Ins} (h : l[p]? = some i) : insD l p = i := by simp [insD, List.getD, h]
theorem insD_in {l : List Ins} {p : Nat} (h : p < l.length) : l[p]? = some (insD l p) := by simp [insD, List.getD, h]
def wout (G : Nat → Bool) (l : List Ins) : List Ins := (kl G l.length).map fun p => fixI G (insD l p)
/-- what is reached -/
inductive Rch (l : List Ins) : Nat → Prop
  | zero (h : 0 < l.length) : Rch l 0
  | step {p : Nat} {i : Ins} {n : Int} (hr : Rch l p) (h : l[p]? = some i) (hn : n ∈ i.next p) : Rch l n.toNat
/-- which may go -/
structure Fits (G : Nat → Bool) (f : Fn7) : Prop where
  tgt : ∀ (p : Nat) i, f.code[p]? = some i → G p = false → ∀ n ∈ i.next p, toI G n.toNat < toI G f.code.length
  last : ∀ (p : Nat) i, f.code[p]? = some i → G p = false → toI G p + 1 = toI G f.code.length → 11 ≤ i.kind
  pos : 0 < toI G f.code.length
def wF (G : Nat → Bool) (f : Fn7) : Fn7 := { f with code := wout G f.code }
theorem next_low {i : Ins} (h : ¬ 11 ≤ i.kind) (p : Int) : i.next p = [p + 1] := by
  unfold Ins.next
  rw [if_neg (by omega), if_neg (by omega), if_neg (by omega)]
/-- what is not reached goes -/
noncomputable def GU (f : Fn7) (p : Nat) : Bool := !tb (Rch f.code p)
def AllRch (f : Fn7) : Prop := ∀ p, p < f.code.length → Rch f.code p
noncomputable def uF (f : Fn7) : Fn7 := wF (GU f) f
noncomputable def dF (f : Fn7) : Fn7 := wF (deadB f.code) f
/-- what Sweep makes -/
inductive Swp : Fn7 → Fn7 → Prop
  | done {f : Fn7} (h : deadL (uF f).code = []) : Swp f (uF f)
  | more {f g : Fn7} (h : deadL (uF f).code ≠ []) (hs : Swp (dF (uF f)) g) : Swp f g
end Go.Proofs.Ytkcclefonmnpnaa

/- live.reached. -/
namespace Go.Proofs.Ytkcclefonmnpnaa
open Go.RowKit Go.BigFrame

def bl (N : Nat) (m : Nat → Bool) : List Bool := (List.range N).map m
def setM (m : Nat → Bool) (p : Nat) : Nat → Bool := fun q => decide (q = p) || m q
theorem bl_get {N : Nat} {m : Nat → Bool} {p : Nat} (h : p < N) : (bl N m)[p]? = some (m p) := by simp [bl, h]
theorem bl_set {N : Nat} {m : Nat → Bool} {p : Nat} : (bl N m).set p true = bl N (setM m p) := by
  apply List.ext_getElem?
  intro j
  by_cases hj : j < N
  · rw [List.getElem?_set, bl_get hj, bl_get hj]
    by_cases h : p = j
    · subst h; simp [bl, hj, setM]
    · rw [if_neg h]; simp [setM, Ne.symm h]
  · rw [List.getElem?_eq_none (by simp [bl]; omega), List.getElem?_eq_none (by simp [bl]; omega)]
def cntF (N : Nat) (m : Nat → Bool) : Nat := (List.range N).countP fun p => !m p
/-- what is marked, and what is still to do -/
structure Mk (f : Fn7) (m : Nat → Bool) (T : List Int) : Prop where
  lo : ∀ p, m p = true → Rch f.code p
  td : ∀ x ∈ T, 0 ≤ x ∧ Rch f.code x.toNat
  z : m 0 = true ∨ (0 : Int) ∈ T
  cl : ∀ p i, m p = true → f.code[p]? = some i → ∀ n ∈ i.next p, m n.toNat = true ∨ n ∈ T
  len : T.length + 2 * cntF f.code.length m ≤ 2 * f.code.length + 1
def ReachT (f : Fn7) (N base : Nat) (e : Ending) (w : World) : Prop := ∃ ob, e = .returned (.slice (some ⟨ob, 0, none⟩) N N) ∧ base ≤ ob ∧ Pre gB 1 4 w ob (bl N fun p => tb (Rch f.code p))
end Go.Proofs.Ytkcclefonmnpnaa
