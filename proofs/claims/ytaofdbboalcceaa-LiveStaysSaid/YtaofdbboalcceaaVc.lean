import Derived.Test.YtaofdbboalcceaaFp
import Derived.Test.YtaofdbboalcceaaVa
import Derived.Test.YtaofdbboalcceaaFy
import Derived.Test.YtaofdbboalcceaaCm
import Derived.Deep.LoopGhost
import Derived.Outline
/- REGISTERS THAT ARE LIVE (plain). -/
namespace Go.Proofs.Ytaofdbboalcceaa

theorem OkF.next {f : Fn7} (hf : OkF f) {p : Nat} {i : Ins} (h : f.code[p]? = some i) : ∀ n ∈ i.next p, 0 ≤ n ∧ n.toNat < f.code.length := by
  intro n hn
  have hi := hf.ok i (List.mem_of_getElem? h)
  have hp := (List.getElem?_eq_some_iff.1 h).1
  unfold Ins.next at hn
  split at hn
  · rename_i h1
    have := hi.to_ (Or.inl h1)
    simp only [List.mem_singleton] at hn
    subst hn
    omega
  · split at hn
    · rename_i h1
      have a := hi.to_ (Or.inr h1)
      have b := hi.els h1
      simp only [List.mem_cons, List.not_mem_nil, or_false] at hn
      rcases hn with rfl | rfl <;> omega
    · split at hn
      · cases hn
      · simp only [List.mem_singleton] at hn
        subst hn
        by_cases hl : p = f.code.length - 1
        · subst hl
          have h1 := hf.last i h
          have h2 := hi.kind
          omega
        · omega
theorem OkF.uses {f : Fn7} (hf : OkF f) {p : Nat} {i : Ins} (h : f.code[p]? = some i) : ∀ r ∈ i.uses, 0 ≤ r ∧ r < f.R := (hf.ok i (List.mem_of_getElem? h)).uses
/-- a register is live ahead of an instruction -/
inductive Lv (l : List Ins) : Nat → Int → Prop
  | use {p : Nat} {i : Ins} {r : Int} (h : l[p]? = some i) (hu : r ∈ i.uses) : Lv l p r
  | step {p : Nat} {i : Ins} {n r : Int} (h : l[p]? = some i) (hn : n ∈ i.next p) (hs : i.sets ≠ r) (hl : Lv l n.toNat r) : Lv l p r
theorem Lv.bound {f : Fn7} (hf : OkF f) {p : Nat} {r : Int} (h : Lv f.code p r) : (0 ≤ r ∧ r < f.R) ∧ p < f.code.length := by
  induction h with
  | use h hu => exact ⟨hf.uses h _ hu, (List.getElem?_eq_some_iff.1 h).1⟩
  | step h hn hs hl ih => exact ⟨ih.1, (List.getElem?_eq_some_iff.1 h).1⟩
theorem Lv.iff {l : List Ins} {p : Nat} {i : Ins} (h : l[p]? = some i) (r : Int) : Lv l p r ↔ r ∈ i.uses ∨ (i.sets ≠ r ∧ ∃ n ∈ i.next p, Lv l n.toNat r) := by
  constructor
  · intro hl
    cases hl with
    | use h' hu => rw [h] at h'; injection h' with h'; subst h'; exact Or.inl hu
    | step h' hn hs hl => rw [h] at h'; injection h' with h'; subst h'; exact Or.inr ⟨hs, _, hn, hl⟩
  · rintro (hu | ⟨hs, n, hn, hl⟩)
    · exact Lv.use h hu
    · exact Lv.step h hn hs hl
abbrev Sets := Nat → Int → Bool
def upd2 (S : Sets) (p : Nat) (r : Int) : Sets := fun q x => if q = p then decide (x = r) || S q x else S q x
theorem upd2_same {S : Sets} {p : Nat} {r : Int} (h : S p r = true) : upd2 S p r = S := by
  funext q x
  unfold upd2
  split
  · rename_i hq; subst hq
    by_cases hx : x = r
    · subst hx; simp [h]
    · simp [hx]
  · rfl
theorem upd2_other {S : Sets} {p q : Nat} {r : Int} (h : q ≠ p) : upd2 S p r q = S q := by
  funext x
  unfold upd2
  rw [if_neg h]
theorem countP_lt {α : Type} {p q : α → Bool} : ∀ {l : List α}, (∀ x ∈ l, p x = true → q x = true) → (∃ x ∈ l, q x = true ∧ p x = false) → l.countP p < l.countP q
  | [], _, h => by obtain ⟨x, hx, _⟩ := h; cases hx
  | y :: l, h1, h2 => by
    rw [List.countP_cons, List.countP_cons]
    have hle : l.countP p ≤ l.countP q := List.countP_mono_left fun x hx => h1 x (by simp [hx])
    obtain ⟨x, hx, hq, hp⟩ := h2
    rcases List.mem_cons.1 hx with rfl | hx
    · simp [hq, hp]; omega
    · have ih := countP_lt (fun x hx => h1 x (by simp [hx])) ⟨x, hx, hq, hp⟩
      have := h1 y (by simp)
      by_cases hy : p y = true
      · simp [hy, this hy]; omega
      · simp [hy]; omega
/-- how many pairs are not there yet -/
def pot2 (N R : Nat) (S : Sets) : Nat := ((List.range N).flatMap fun p => (List.range R).map fun r => (p, r)).countP fun x => !S x.1 (x.2 : Int)
theorem pot2_lt {N R : Nat} {S : Sets} {p : Nat} {r : Int} (hp : p < N) (hr : 0 ≤ r ∧ r < (R : Int)) (h : S p r = false) : pot2 N R (upd2 S p r) < pot2 N R S := by
  refine countP_lt (fun x _ hx => ?_) ⟨(p, r.toNat), ?_, ?_, ?_⟩
  · simp only [Bool.not_eq_true'] at hx ⊢
    unfold upd2 at hx
    split at hx
    · simp at hx; exact hx.2
    · exact hx
  · rw [List.mem_flatMap]
    exact ⟨p, List.mem_range.2 hp, List.mem_map.2 ⟨r.toNat, List.mem_range.2 (by omega), rfl⟩⟩
  · simp only
    rw [Int.toNat_of_nonneg hr.1, h]; rfl
  · simp only [upd2]
    rw [Int.toNat_of_nonneg hr.1]
    simp
/-- an instruction's set has all that it needs -/
def ClU (l : List Ins) (S : Sets) (p : Nat) : Prop := ∀ i, l[p]? = some i → ∀ r ∈ i.uses, S p r = true
def Cl (l : List Ins) (S : Sets) (p : Nat) : Prop := ∀ i, l[p]? = some i → (∀ r ∈ i.uses, S p r = true) ∧ ∀ n ∈ i.next p, ∀ r, S n.toNat r = true → i.sets ≠ r → S p r = true
theorem Cl.all {l : List Ins} {S : Sets} (h : ∀ p, p < l.length → Cl l S p) {p : Nat} {r : Int} (hl : Lv l p r) : S p r = true := by
  induction hl with
  | use h' hu => exact (h _ (List.getElem?_eq_some_iff.1 h').1 _ h').1 _ hu
  | step h' hn hs hl ih => exact (h _ (List.getElem?_eq_some_iff.1 h').1 _ h').2 _ hn _ ih hs
/-- what a pass keeps: Sp is what it began with -/
structure Ps (l : List Ins) (N R : Nat) (Sp S : Sets) (ch : Bool) : Prop where
  lo : ∀ p r, S p r = true → Lv l p r
  st : ch = false → S = Sp
  mv : ch = true → pot2 N R S < pot2 N R Sp
theorem Ps.start {l : List Ins} {N R : Nat} {S : Sets} (h : ∀ p r, S p r = true → Lv l p r) : Ps l N R S S false := ⟨h, fun _ => rfl, fun e => by cases e⟩
theorem Ps.add {l : List Ins} {N R : Nat} {Sp S : Sets} {ch : Bool} (h : Ps l N R Sp S ch) {p : Nat} {r : Int} (hp : p < N) (hr : 0 ≤ r ∧ r < (R : Int)) (hl : Lv l p r) (hs : S p r = false) : Ps l N R Sp (upd2 S p r) true := by
  refine ⟨fun q x hq => ?_, (fun e => by cases e), fun _ => ?_⟩
  · unfold upd2 at hq
    split at hq
    · rename_i e; subst e
      simp only [Bool.or_eq_true, decide_eq_true_eq] at hq
      rcases hq with rfl | hq
      · exact hl
      · exact h.lo _ _ hq
    · exact h.lo _ _ hq
  · have h1 := pot2_lt (R := R) hp hr hs
    cases ch with
    | false => rw [h.st rfl] at h1 ⊢; exact h1
    | true => exact Nat.lt_trans h1 (h.mv rfl)
end Go.Proofs.Ytaofdbboalcceaa

/- live.flow: its sets in memory; its closure. -/
namespace Go.Proofs.Ytaofdbboalcceaa
open Go.RowKit Go.BigFrame

theorem umap : Try.prog.underlying 84 = some (.map 3 4) := by kernel_rfl
theorem uint : Try.prog.underlying 3 = some (.int .i64) := by kernel_rfl
theorem zbool (w : World) : (zeroValue 4).run Try.prog w = .ok (.bool false) w := by kernel_rfl
structure Fl (W1 w : World) (sb N : Nat) (S : Sets) (cb : Nat) (ch : Bool) : Prop where
  h : Pre g1 1 84 w sb ((List.range N).map fun p => .map (some (sb + 2 + p)))
  bx : w.heap[sb + 1]? = some (.cells #[.slice (some ⟨sb, 0, none⟩) N N] 82 (0, 0))
  r : ∀ p, p < N → SetI w (sb + 2 + p) (S p)
  c : w.heap[cb]? = some (.cells #[.bool ch] 4 (0, 0))
  cn : sb + 2 + N ≤ cb
  b : Below sb W1 w
theorem Fl.cell {W1 w : World} {sb N : Nat} {S : Sets} {cb : Nat} {ch : Bool} (h : Fl W1 w sb N S cb ch) {p : Nat} (hp : p < N) : w.cell? ⟨sb, p, none⟩ = some (.map (some (sb + 2 + p))) :=
  Pre1.cell h.h (by simp [hp])
theorem Fl.lt {W1 w : World} {sb N : Nat} {S : Sets} {cb : Nat} {ch : Bool} (h : Fl W1 w sb N S cb ch) : cb < w.heap.size := (Array.getElem?_eq_some_iff.1 h.c).1
theorem Fl.later {W1 w w' : World} {sb N : Nat} {S : Sets} {cb : Nat} {ch : Bool} (h : Fl W1 w sb N S cb ch) (hb : Below w.heap.size w w') : Fl W1 w' sb N S cb ch := by
  have hl := h.lt
  have hn := h.cn
  exact ⟨Pre.later h.h hb, (hb.block _ (by omega)).trans h.bx, fun p hp => (h.r p hp).below hb (h.r p hp).lt, (hb.block _ hl).trans h.c, hn, h.b.trans (hb.mono (by omega))⟩
/-- all but the blocks mb and cb is as it was -/
structure Kp (w w' : World) (mb cb : Nat) : Prop where
  s : w.heap.size ≤ w'.heap.size
  k : ∀ b, b < w.heap.size → b ≠ mb → b ≠ cb → w'.heap[b]? = w.heap[b]?
theorem Kp.refl (w : World) (mb cb : Nat) : Kp w w mb cb := ⟨Nat.le_refl _, fun _ _ _ _ => rfl⟩
theorem Kp.trans {a b c : World} {mb cb : Nat} (h1 : Kp a b mb cb) (h2 : Kp b c mb cb) : Kp a c mb cb :=
  ⟨Nat.le_trans h1.s h2.s, fun x hx h3 h4 => (h2.k x (Nat.lt_of_lt_of_le hx h1.s) h3 h4).trans (h1.k x hx h3 h4)⟩
theorem Kp.below {w w' : World} {mb cb : Nat} (h : Below w.heap.size w w') : Kp w w' mb cb := ⟨h.size, fun b hb _ _ => h.block b hb⟩
theorem Fl.set {W1 w w' : World} {sb N : Nat} {S : Sets} {cb : Nat} {ch : Bool} (h : Fl W1 w sb N S cb ch) {p : Nat} (hp : p < N) {r : Int} (hs : SetI w' (sb + 2 + p) (insS_ (S p) r)) (hg : w.grownBy w' (some (sb + 2 + p))) (hz : w'.heap.size = w.heap.size) :
    Fl W1 w' sb N (upd2 S p r) cb ch ∧ Kp w w' (sb + 2 + p) cb := by
  have hl := h.lt
  have hn := h.cn
  have hk : ∀ b, b < w.heap.size → b ≠ sb + 2 + p → w'.heap[b]? = w.heap[b]? := fun b hb hne => hg.block b hb (fun e => hne (by injection e))
  refine ⟨⟨Pre.of_heap h.h (hk _ (by omega) (by omega)), (hk _ (by omega) (by omega)).trans h.bx, fun q hq => ?_, (hk _ hl (by omega)).trans h.c, hn, Below.grown h.b hg (by omega) (fun k hk => by injection hk; omega)⟩, by omega, fun b hb h1 _ => hk b hb h1⟩
  by_cases hqp : q = p
  · subst hqp
    have e : upd2 S q r q = insS_ (S q) r := by funext x; simp [upd2, insS_]
    rw [e]; exact hs
  · rw [upd2_other hqp]
    exact (h.r q hq).of_block (hk _ (h.r q hq).lt (by omega))
theorem Fl.mark {W1 w : World} {sb N : Nat} {S : Sets} {cb : Nat} {ch : Bool} (h : Fl W1 w sb N S cb ch) (v : Bool) : Fl W1 (w.setCell ⟨cb, 0, none⟩ (.bool v)) sb N S cb v ∧ ∀ mb, Kp w (w.setCell ⟨cb, 0, none⟩ (.bool v)) mb cb := by
  have hl := h.lt
  have hn := h.cn
  have ho : ∀ b, b ≠ cb → (w.setCell ⟨cb, 0, none⟩ (.bool v)).heap[b]? = w.heap[b]? := fun b hb => heap_setCell_other w ⟨cb, 0, none⟩ b _ hb
  exact ⟨⟨Pre.other h.h (by simp only; omega) _, (ho _ (by omega)).trans h.bx, fun p hp => (h.r p hp).of_block (ho _ (by omega)), by rw [heap_setCell h.c]; rfl, hn, h.b.setCell (by simp only; omega) _⟩, fun mb => ⟨by simp, fun b _ _ hne => ho b hne⟩⟩
set_option maxRecDepth 1000000 in
set_option maxHeartbeats 4000000 in
theorem add_yes {W1 w : World} {sb N : Nat} {S : Sets} {cb : Nat} {ch : Bool} (h : Fl W1 w sb N S cb ch) {ab p : Nat} (ha : w.heap[ab]? = some (.cells #[.int .i64 (p : Int)] 3 (0, 0))) (hp : p < N) {r : Int} (hr : S p r = true) :
    Calls Try.prog 85 #[.int .i64 r, .pointer (some ⟨sb + 1, 0, none⟩), .pointer (some ⟨ab, 0, none⟩), .pointer (some ⟨cb, 0, none⟩)] w fun e w' => e = .returned (.tuple #[]) ∧ w = w' := by
  have c0 := cell_of_heap h.bx 0 _ rfl
  have c1 := cell_of_heap ha 0 _ rfl
  have c2 := h.cell hp
  have hlk := (h.r p hp).lookup umap uint (zbool w) r
  rw [hr] at hlk
  clear h ha hr
  go_enter Try.func85, Try.ntmps85
  go_wp2
  go_returns
  exact ⟨rfl, rfl⟩
set_option maxRecDepth 1000000 in
set_option maxHeartbeats 4000000 in
theorem add_no {W1 w : World} {sb N : Nat} {S : Sets} {cb : Nat} {ch : Bool} (h : Fl W1 w sb N S cb ch) {ab p : Nat} (ha : w.heap[ab]? = some (.cells #[.int .i64 (p : Int)] 3 (0, 0))) (hp : p < N) {r : Int} (hr : S p r = false) :
    Calls Try.prog 85 #[.int .i64 r, .pointer (some ⟨sb + 1, 0, none⟩), .pointer (some ⟨ab, 0, none⟩), .pointer (some ⟨cb, 0, none⟩)] w fun e w' => e = .returned (.tuple #[]) ∧ Fl W1 w' sb N (upd2 S p r) cb true ∧ Kp w w' (sb + 2 + p) cb := by
  have c0 := cell_of_heap h.bx 0 _ rfl
  have c1 := cell_of_heap ha 0 _ rfl
  have c2 := h.cell hp
  have hs := h.r p hp
  have hlk := hs.lookup umap uint (zbool w) r
  rw [hr] at hlk
  have HF := Lib.hid h
  have HR := Lib.hid hr
  have HS := Lib.hid hs
  clear h ha hr hs
  go_enter Try.func85, Try.ntmps85
  go_wp2_with (first
    | (refine wpList_mapEntry_set _ rfl _ _ 84 rfl umap uint (zbool w) (sb + 2 + p) (S p) rfl HS.out r HR.out rfl ?_; intro w1 clock hh1 hg1 hz1)
    | (refine wpList_entryStore_set _ rfl _ _ _ 84 rfl (sb + 2 + p) (S p) r clock rfl hh1 rfl rfl ?_; intro w2 hs2 hg2 hz2; have ⟨hf2, hk2⟩ := HF.out.set hp hs2 ((hg1.trans hg2)) (hz2.trans hz1); have ff := free_of_heap hf2.c 0; have fl := hf2.lt; have fc := cell_of_heap hf2.c 0 _ rfl; have HF2 := Lib.hid hf2; have HK2 := Lib.hid hk2; clear hf2 hk2))
  go_returns
  have h3 := HF2.out.mark true
  exact ⟨rfl, h3.1, HK2.out.trans (h3.2 _)⟩
end Go.Proofs.Ytaofdbboalcceaa
