import Derived.Test.YtfaccdidjhaahaaF
import Derived.OwnWalk
import Derived.Maps.AppendAt
namespace Go.Proofs.Ytfaccdidjhaahaa
open Go.RowKit

abbrev Row.l (r : Row) : List Value := [.int .i64 r.f0, .int .i64 r.f1, .int .i64 r.f2, .int .i64 r.f3, .int .i64 r.f4, .int .i64 r.f5, .int .i64 r.f6, .int .i64 r.f7, .int .i64 r.c]
def cellsOf (l : List Row) : List Value := l.flatMap Row.l
theorem cellsOf_len (l : List Row) : (cellsOf l).length = l.length * 9 := by
  induction l with
  | nil => rfl
  | cons r l ih => simp [cellsOf] at ih ⊢; omega
theorem cellsOf_app (l m : List Row) : cellsOf (l ++ m) = cellsOf l ++ cellsOf m := by simp [cellsOf]
theorem cellsOf_at (l : List Row) (k j : Nat) (hk : k < l.length) (hj : j < 9) : (cellsOf l)[k * 9 + j]? = (l[k]).l[j]? := by
  induction l generalizing k with
  | nil => simp at hk
  | cons r l ih =>
    cases k with
    | zero => simp only [cellsOf, List.flatMap_cons, Nat.zero_mul, Nat.zero_add]; rw [List.getElem?_append_left (by simpa using hj)]; rfl
    | succ k =>
      simp only [cellsOf, List.flatMap_cons]
      rw [List.getElem?_append_right (by simp; omega)]
      have := ih k (by simpa using hk)
      simp only [cellsOf] at this
      simpa [show (k + 1) * 9 + j - 9 = k * 9 + j by omega] using this

/-- the slice (A, length n) reads, in w, as the rows l, and lies below block B -/
def Rd (w : World) (B : Nat) (A : Option Addr) (l : List Row) : Prop :=
  0 < l.length → ∃ b o, A = some ⟨b, o, none⟩ ∧ b < B ∧ ∀ j, j < l.length * 9 → w.cell? ⟨b, o + j, none⟩ = (cellsOf l)[j]?
theorem Rd.nil (w : World) (B : Nat) (A : Option Addr) : Rd w B A [] := fun h => by simp at h
theorem Rd.below {w w' : World} {B B' : Nat} {A : Option Addr} {l : List Row} (h : Rd w B A l) (hb : Below B' w w') (hB : B ≤ B') : Rd w' B A l := fun hl => by
  obtain ⟨b, o, e, hlt, hc⟩ := h hl
  exact ⟨b, o, e, hlt, fun j hj => (hb.cell (p := ⟨b, o + j, none⟩) (show b < B' by omega)).trans (hc j hj)⟩
theorem Rd.more {w : World} {B B' : Nat} {A : Option Addr} {l : List Row} (h : Rd w B A l) (hB : B ≤ B') : Rd w B' A l := fun hl => by
  obtain ⟨b, o, e, hlt, hc⟩ := h hl
  exact ⟨b, o, e, by omega, hc⟩
theorem Rd.at_ {w : World} {B : Nat} {A : Option Addr} {l : List Row} (h : Rd w B A l) (k : Nat) (hk : k < l.length) : ∃ b o, A = some ⟨b, o, none⟩ ∧ b < B ∧
    w.cell? ⟨b, o + k * 9, none⟩ = some (.int .i64 l[k].f0) ∧ w.cell? ⟨b, o + k * 9 + 1, none⟩ = some (.int .i64 l[k].f1) ∧ w.cell? ⟨b, o + k * 9 + 2, none⟩ = some (.int .i64 l[k].f2) ∧
    w.cell? ⟨b, o + k * 9 + 3, none⟩ = some (.int .i64 l[k].f3) ∧ w.cell? ⟨b, o + k * 9 + 4, none⟩ = some (.int .i64 l[k].f4) ∧ w.cell? ⟨b, o + k * 9 + 5, none⟩ = some (.int .i64 l[k].f5) ∧
    w.cell? ⟨b, o + k * 9 + 6, none⟩ = some (.int .i64 l[k].f6) ∧ w.cell? ⟨b, o + k * 9 + 7, none⟩ = some (.int .i64 l[k].f7) ∧ w.cell? ⟨b, o + k * 9 + 8, none⟩ = some (.int .i64 l[k].c) := by
  obtain ⟨b, o, e, hlt, hc⟩ := h (by omega)
  have hh : ∀ j, j < 9 → w.cell? ⟨b, o + k * 9 + j, none⟩ = (l[k]).l[j]? := fun j hj => by
    rw [Nat.add_assoc, hc (k * 9 + j) (by omega), cellsOf_at l k j hk hj]
  exact ⟨b, o, e, hlt, hh 0 (by omega), hh 1 (by omega), hh 2 (by omega), hh 3 (by omega), hh 4 (by omega), hh 5 (by omega), hh 6 (by omega), hh 7 (by omega), hh 8 (by omega)⟩

/-- the slice value V is the call's own (in blocks from B on), and reads as the rows l -/
def Own (w : World) (B : Nat) (V : Value) (l : List Row) : Prop := w.ownsRow B 24 9 V l.length (cellsOf l)
theorem Own.nil (w : World) (B : Nat) : Own w B (.slice none 0 0) [] := World.ownsRow_nil w B 24 9
theorem Own.form {w : World} {B : Nat} {V : Value} {l : List Row} (h : Own w B V l) : ∃ A cap, V = .slice A l.length cap ∧ (A = none ∨ ∃ g, A = some ⟨g, 0, none⟩ ∧ B ≤ g) ∧ Rd w w.heap.size A l := by
  have h0 := h
  obtain ⟨h1, h2⟩ := h
  rcases h2 with ⟨rfl, hn⟩ | ⟨g, cap, cur, rfl, hB, hg, hnc, _, hsz, htake⟩
  · exact ⟨none, 0, by rw [hn], .inl rfl, fun hp => by omega⟩
  · refine ⟨_, _, rfl, .inr ⟨g, rfl, hB⟩, fun hp => ⟨g, 0, rfl, (Array.getElem?_eq_some_iff.1 hg).1, fun j hj => ?_⟩⟩
    rw [Nat.zero_add]
    exact World.ownsRow.cellAt h0 j hj
theorem Own.lt {w : World} {B : Nat} {V : Value} {l : List Row} (h : Own w B V l) : ∀ g, V.ownBlock = some g → B ≤ g ∧ g < w.heap.size := World.ownsRow.lt h
def Ne2 (V U : Value) : Prop := ∀ g, V.ownBlock = some g → U.ownBlock ≠ some g
theorem Ne2.symm {V U : Value} (h : Ne2 V U) : Ne2 U V := fun g hg hv => h g hv hg
theorem Own.keep {w w' : World} {B : Nat} {V U : Value} {l : List Row} (h : Own w B V l) (hg : w.grownBy w' U.ownBlock) (hd : Ne2 V U) : Own w' B V l :=
  World.ownsRow.kept h hg (by
    cases hV : V.ownBlock with
    | none => exact .inl rfl
    | some g => exact .inr (fun e => hd g hV e.symm))
theorem Ne2.app {w : World} {B : Nat} {V V' U : Value} {l : List Row} (h : Ne2 V U) (hU : Own w B U l) (hat : V'.ownBlock = V.ownBlock ∨ V'.ownBlock = some w.heap.size) : Ne2 V' U := fun g hg hu => by
  rcases hat with e | e
  · exact h g (e ▸ hg) hu
  · have := (hU.lt g hu).2
    rw [e] at hg; injection hg with hg; omega
theorem Ne2.nil (U : Value) : Ne2 (.slice none 0 0) U := fun g hg => by simp [Value.ownBlock] at hg
theorem Own.below {w w' : World} {B : Nat} {V : Value} {l : List Row} (h : Own w B V l) (hb : Below w.heap.size w w') : Own w' B V l :=
  World.ownsRow.kept h ⟨hb.os, hb.tape, hb.output, hb.size, fun k hk _ => hb.block k hk⟩ (row := none) (by cases hv : V.ownBlock <;> simp)
theorem Own.alloc {w : World} {B : Nat} {V : Value} {l : List Row} (h : Own w B V l) (o : Obj) : Own (w.alloc o) B V l := World.ownsRow.alloc h o

theorem i24' : (Try.prog.info? 24).map (fun i => (i.zero, i.size, i.bytes)) = some (some row0.enc, 9, 72) := by kernel_rfl
theorem row_one (r : Row) : ∀ u ∈ r.l, u.oneCell' = true := by intro u hu; simp at hu; rcases hu with rfl | rfl | rfl | rfl | rfl | rfl | rfl | rfl | rfl <;> rfl

/-- append of one row onto a list of the call's own -/
theorem append_row {ops : Array Oper} {rest : List Oper} {o : Oper} {a : Act} {w : World} {Q : Exit → Act → World → Prop} (hgd : o.guard = none) (s x : Operand)
    (ho : o.op = .call { callee := .builtin .append, args := #[s, x], argTypes := #[29, 29] }) (B : Nat) (V : Value) (l : List Row) (hs : a.eval s = V) (hown : Own w B V l)
    (g : Nat) (r : Row) (hx : a.eval x = .slice (some ⟨g, 0, none⟩) 1 1) (hr : HasR w g r) (hn : l.length ≤ 100000) (hB : B ≤ w.heap.size)
    (h : ∀ V' w', Own w' B V' (l ++ [r]) → w.grownBy w' V.ownBlock → (V'.ownBlock = V.ownBlock ∨ V'.ownBlock = some w.heap.size) → wpList Try.prog ops Q rest (a.put o.dst V') w') :
    wpList Try.prog ops Q (o :: rest) a w := by
  obtain ⟨i0, hi, hz0, hz1, hz2⟩ := info_parts i24'
  refine wpList_append_own_at w hgd s x 29 ho B 24 i0 row0.enc 9 72 (by kernel_rfl) hi hz0 hz1 hz2 rfl (by decide) V l.length (cellsOf l) hs hown ⟨g, 0, none⟩ 1 1 r.l hx rfl ?_ (row_one r) (by simp only [maxLen]; omega) (by omega) hB ?_
  · intro j u hu
    have hadd : (⟨g, 0, none⟩ : Addr).add j = ⟨g, j, none⟩ := by unfold Addr.add; split <;> simp_all
    rw [hadd]
    unfold HasR at hr
    simpa [World.cell?, hr] using hu
  · intro V' w' h1 h2 _ h4
    exact h V' w' (by unfold Own; rw [List.length_append, cellsOf_app]; simpa [cellsOf] using h1) h2 h4
end Go.Proofs.Ytfaccdidjhaahaa
