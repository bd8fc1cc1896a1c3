import Derived.Test.YtkcclefonmnpnaaQZg
import Derived.Test.YtkcclefonmnpnaaQZa
import Derived.Deep.CutRange
import Derived.StillTailTactics
import Derived.RegionTactic
import Derived.BigRegion
import Derived.ChangeAlike
import Derived.Outline
import Derived.Test.YtkcclefonmnpnaaQZf
/- flow.Ahead: the innermost loop, by itself. -/
namespace Go.Proofs.Ytkcclefonmnpnaa
open Go.RowKit Go.BigFrame

noncomputable def loop3 : Code := ((((Try.f47.body).map loopsOf).getD [])[2]?).getD .skip
noncomputable def loop4 : Code := ((loopsOf (inLoop loop3))[0]?).getD .skip
noncomputable def loop5 : Code := ((loopsOf (inLoop loop4))[0]?).getD .skip
/-- a row, of which the first r are joined -/
def part (old u : List Vl) (r : Nat) : List Vl := (jrow old u).take r ++ old.drop r
/-- all that was there stays, but for one block -/
structure But (q : Nat) (W W' : World) : Prop where
  below : Below q W W'
  same : ∀ b, b < W.heap.size → b ≠ q → W'.heap[b]? = W.heap[b]?
abbrev put2 (W : World) (q : Nat) (y : Vl) : World := (W.setCell ⟨q, 0, none⟩ (.int .i64 y.k)).setCell ⟨q, 1, none⟩ (.int .i64 y.n)
/-- behind 'j := Join(out[n][r], v[r])' -/
def Cut38 (W Wx : World) (y : Vl) (a : Value) : Prop := ∃ jb, a = .pointer (some ⟨jb, 0, none⟩) ∧ Below W.heap.size W Wx ∧ Wx.heap[jb]? = some y.obj ∧ W.heap.size ≤ jb
end Go.Proofs.Ytkcclefonmnpnaa

/- flow.Ahead: the loop over what comes next, by itself. -/
namespace Go.Proofs.Ytkcclefonmnpnaa
open Go.RowKit Go.BigFrame

/-- what the loop over what comes next keeps -/
structure Four (f : Fn7) (W1 wr : World) (ob L Rn nb p : Nat) (i : Ins) (v : List Vl) (nl : List Int) (NA : Option Addr) (G : Nat) (V : Value) (M : List (List Vl)) (Cm : List Bool) (T : List Nat) (m : Nat) : Prop where
  mid : Mid f p i v (nl.take m) M Cm T
  mem : Mem W1 wr ob L Rn M Cm
  que : Que wr (ob + 2 + L) V T
  meas : T.length + 2 * pot M Cm ≤ G
  rd : RdN wr NA nl
  far : ∀ b o, NA = some ⟨b, o, none⟩ → ob + 2 + L ≤ b ∧ V.ownBlock ≠ some b
  urow : PreV wr nb (upd i v)
end Go.Proofs.Ytkcclefonmnpnaa

/- flow.Ahead: the loop over the list of what is to do, by itself. -/
namespace Go.Proofs.Ytkcclefonmnpnaa
open Go.RowKit Go.BigFrame

end Go.Proofs.Ytkcclefonmnpnaa

/- flow.Ahead: the walk. -/
namespace Go.Proofs.Ytkcclefonmnpnaa
open Go.RowKit Go.BigFrame

/-- what Ahead tells -/
def AheadT (f : Fn7) (e : Ending) (w : World) : Prop := ∃ ob M, e = .returned (.slice (some ⟨ob, 0, none⟩) f.code.length f.code.length) ∧ Ans f M ∧ RdM w ob f.R.toNat M ∧ ob < w.heap.size
end Go.Proofs.Ytkcclefonmnpnaa

/- flow.Ahead of a function that may not be; code.Clone; a value that is Never. -/
namespace Go.Proofs.Ytkcclefonmnpnaa
open Go.RowKit Go.BigFrame

/-- a number is told, that is not negative just if a value is Never -/
def IdxV (l : List Vl) (e : Ending) : Prop := ∃ i : Int, e = .returned (.int .i64 i) ∧ (i ≥ 0 ↔ ∃ x ∈ l, x.k = 0)
def NevV (l : List Vl) (e : Ending) : Prop := ∃ b : Bool, e = .returned (.bool b) ∧ (b = true ↔ ∃ x ∈ l, x.k = 0)
end Go.Proofs.Ytkcclefonmnpnaa


/- A struct stored within a block; what Fold makes (plain). -/
namespace Go.Proofs.Ytkcclefonmnpnaa
open Go.RowKit Go.BigFrame

theorem run_storeVar_at {P : Program} (w : World) (g o : Nat) (t ty : TypeId) (old : Array Value) (vs : List Value) (hg : w.heap[g]? = some (.cells old t (0, 0))) (hi : (P.info? ty).map (·.size) = some vs.length)
    (hfit : o + vs.length ≤ old.size) (h1 : ∀ v ∈ vs, v.oneCell' = true) :
    (storeVar ty ⟨g, o, none⟩ (.agg vs.toArray)).run P w = .ok () (w.setRow g (old.toList.take o ++ vs ++ old.toList.drop (o + vs.length)).toArray) := by
  have := run_storeCells_at P g o t vs 0 old w hg (by omega) h1
  cases hq : P.info? ty with
  | none => simp [hq] at hi
  | some i =>
    have hs : i.size = vs.length := by simpa [hq] using hi
    simp only [Nat.add_zero] at this
    simp [storeVar, sizeOf, typeInfo, hq, Value.cells, hs, this]
theorem wpList_store_at {P : Program} {ops : Array Oper} {rest : List Oper} {o : Oper} {a : Act} {w : World} {Q : Exit → Act → World → Prop} (hgd : o.guard = none) (ty : TypeId) (x y : Operand) (ho : o.op = .store ty x y)
    (g off : Nat) (vs : List Value) (hx : a.eval x = .pointer (some ⟨g, off, none⟩)) (hy : a.eval y = .agg vs.toArray)
    (t : TypeId) (old : Array Value) (hg : w.heap[g]? = some (.cells old t (0, 0))) (hi : (P.info? ty).map (·.size) = some vs.length)
    (hfit : off + vs.length ≤ old.size) (h1 : ∀ v ∈ vs, v.oneCell' = true)
    (h : wpList P ops Q rest (a.put o.dst undef) (w.setRow g (old.toList.take off ++ vs ++ old.toList.drop (off + vs.length)).toArray)) : wpList P ops Q (o :: rest) a w :=
  wpList_plain hgd fun _ hK => by
    unfold Oper.wp execOp
    simp only [ho, hx, hy, Instr.storeAt, Instr.sureAddr, Sem.run_bind, Sem.run_pure, Result.andThen_ok, run_storeVar_at w g off t ty old vs hg hi hfit h1]
    exact hK _ _ h
theorem PreI.setRow {W : World} {b : Nat} {l : List Ins} {cs : Array Value} (h1 : W.heap[b]? = some (.cells cs 32 (0, 0))) (h2 : ∀ j x, l[j]? = some x → ∀ k, k < 15 → cs[j * 15 + k]? = (Ins.l x)[k]?) {p : Nat} (hp : p < l.length) (y : Ins) :
    p * 15 + 15 ≤ cs.size ∧ PreI (W.setRow b (cs.toList.take (p * 15) ++ Ins.l y ++ cs.toList.drop (p * 15 + 15)).toArray) b (l.set p y) := by
  have hx := List.getElem?_eq_getElem hp
  have h14 := h2 p _ hx 14 (by omega)
  have hsz : p * 15 + 15 ≤ cs.size := by
    have : (Ins.l l[p])[14]? = some (.int .i64 (l[p]).els) := rfl
    rw [this] at h14
    have := (Array.getElem?_eq_some_iff.1 h14).1
    omega
  refine ⟨hsz, ⟨_, setRow_heap W b cs _ _ _ h1, fun j x hj k hk => ?_⟩⟩
  have hlt : (cs.toList.take (p * 15)).length = p * 15 := by simp; omega
  rw [List.getElem?_toArray]
  by_cases hjp : p = j
  · subst hjp
    rw [List.getElem?_set_self hp] at hj
    injection hj with hj
    subst hj
    rw [List.append_assoc, List.getElem?_append_right (by rw [hlt]; omega), hlt, List.getElem?_append_left (by rw [ins_len]; omega)]
    congr 1
    omega
  · rw [List.getElem?_set_ne hjp] at hj
    have h3 := h2 j x hj k hk
    by_cases hlt2 : j < p
    · have : (j + 1) * 15 ≤ p * 15 := Nat.mul_le_mul_right 15 hlt2
      rw [List.append_assoc, List.getElem?_append_left (by rw [hlt]; omega), List.getElem?_take, if_pos (by omega), ← h3]
      simp
    · have : (p + 1) * 15 ≤ j * 15 := Nat.mul_le_mul_right 15 (by omega)
      rw [List.getElem?_append_right (by rw [List.length_append, hlt, ins_len]; omega), List.length_append, hlt, ins_len, List.getElem?_drop, ← h3]
      simp only [Array.getElem?_toList]
      congr 1
      omega
/-- an instruction, with what is known in place -/
def foldI (i : Ins) (p : Nat) (v : List Vl) : Ins :=
  if v.any (fun x => x.k == 0) then i
  else if i.kind = 4 ∨ i.kind = 2 ∨ i.kind = 3 then
    (if (setV i v).2 = true ∧ (setV i v).1.k = 1 then ⟨1, 0, i.dst, 0, 0, (setV i v).1.n, ⟨#[]⟩, 0, 0, 0, 0, 0, 0, 0, -1⟩ else i)
  else if i.kind = 12 then
    (match nextV i p v with
     | [n] => ⟨11, 0, -1, 0, 0, 0, ⟨#[]⟩, 0, 0, 0, 0, 0, 0, n, -1⟩
     | _ => i)
  else i
def insAt (l : List Ins) (p : Nat) : Ins := l.getD p zeroI
def foldL (f : Fn7) (M : List (List Vl)) : List Ins := (List.range f.code.length).map fun p => foldI (insAt f.code p) p (row M p)
def foldTo (f : Fn7) (M : List (List Vl)) (p : Nat) : List Ins := (foldL f M).take p ++ f.code.drop p
def foldN (f : Fn7) (M : List (List Vl)) : Nat → Nat
  | 0 => 0
  | p + 1 => foldN f M p + (if foldI (insAt f.code p) p (row M p) = insAt f.code p then 0 else 1)
end Go.Proofs.Ytkcclefonmnpnaa

/- flow.Fold: its loop, by itself. -/
namespace Go.Proofs.Ytkcclefonmnpnaa
open Go.RowKit Go.BigFrame

theorem PreI.cells {W : World} {b : Nat} {l : List Ins} (h : PreI W b l) {p : Nat} {i : Ins} (hp : l[p]? = some i) : W.cell? ⟨b, p * 15, none⟩ = some (.int .i64 i.kind) ∧ W.cell? ⟨b, p * 15 + 1, none⟩ = some (.int .i64 i.op) ∧ W.cell? ⟨b, p * 15 + 2, none⟩ = some (.int .i64 i.dst) ∧ W.cell? ⟨b, p * 15 + 3, none⟩ = some (.int .i64 i.a) ∧ W.cell? ⟨b, p * 15 + 4, none⟩ = some (.int .i64 i.b) ∧ W.cell? ⟨b, p * 15 + 5, none⟩ = some (.int .i64 i.n) ∧ W.cell? ⟨b, p * 15 + 6, none⟩ = some (.string i.text) ∧ W.cell? ⟨b, p * 15 + 7, none⟩ = some (.int .i64 i.r0) ∧ W.cell? ⟨b, p * 15 + 8, none⟩ = some (.int .i64 i.r1) ∧ W.cell? ⟨b, p * 15 + 9, none⟩ = some (.int .i64 i.r2) ∧ W.cell? ⟨b, p * 15 + 10, none⟩ = some (.int .i64 i.r3) ∧ W.cell? ⟨b, p * 15 + 11, none⟩ = some (.int .i64 i.r4) ∧ W.cell? ⟨b, p * 15 + 12, none⟩ = some (.int .i64 i.r5) ∧ W.cell? ⟨b, p * 15 + 13, none⟩ = some (.int .i64 i.to_) ∧ W.cell? ⟨b, p * 15 + 14, none⟩ = some (.int .i64 i.els) :=
  ⟨Pre.cell h hp (k := 0) (by omega) rfl, Pre.cell h hp (k := 1) (by omega) rfl, Pre.cell h hp (k := 2) (by omega) rfl, Pre.cell h hp (k := 3) (by omega) rfl, Pre.cell h hp (k := 4) (by omega) rfl, Pre.cell h hp (k := 5) (by omega) rfl, Pre.cell h hp (k := 6) (by omega) rfl, Pre.cell h hp (k := 7) (by omega) rfl, Pre.cell h hp (k := 8) (by omega) rfl, Pre.cell h hp (k := 9) (by omega) rfl, Pre.cell h hp (k := 10) (by omega) rfl, Pre.cell h hp (k := 11) (by omega) rfl, Pre.cell h hp (k := 12) (by omega) rfl, Pre.cell h hp (k := 13) (by omega) rfl, Pre.cell h hp (k := 14) (by omega) rfl⟩
noncomputable def foldLoop : Code := ((((Try.f37.body).map loopsOf).getD [])[0]?).getD .skip
end Go.Proofs.Ytkcclefonmnpnaa

/- flow.Fold: rounds of its loop. -/
namespace Go.Proofs.Ytkcclefonmnpnaa
open Go.RowKit Go.BigFrame

end Go.Proofs.Ytkcclefonmnpnaa
