import Derived.Test.YtihbgppcacaekaaDoorRb
import Derived.Test.YtihbgppcacaekaaDoorWg
/- SINGLE OPERATIONS, more of them. -/
namespace Go.Proofs.YtihbgppcacaekaaDoor
open Go.RowKit Go.BigFrame
section
variable {ρ : Operand → Value} {o : Oper} {w w' : World} {r : Value}
theorem adT {x y z : Int} (h : wrap64 (x + y) = z) (p r : Operand) (ho : o.op = .binOp .add 3 p r 3) (hp : ρ p = .int .i64 x) (hr : ρ r = .int .i64 y) : (execOp ρ o).run Tryd.prog w = .ok (.value (.int .i64 z)) w := by
  unfold execOp
  simp only [ho, hp, hr]
  simp [go_sem]
  rw [IntKind.wrap_i64]
  unfold wrap64 at h
  exact h
theorem asnT (x : Operand) (ho : o.op = .assign x) : (execOp ρ o).run Tryd.prog w = .ok (.value (ρ x)) w := by
  unfold execOp
  simp only [ho, Sem.run_pure]
theorem extT (x : Operand) (k : Nat) (ho : o.op = .extract x k) (vs : Array Value) (hx : ρ x = .tuple vs) (hk : vs[k]? = some r) : (execOp ρ o).run Tryd.prog w = .ok (.value r) w := by
  unfold execOp
  simp only [ho, hx]
  simp [go_sem, hk]
theorem sz3 (w : World) : (sizeOf 3).run Tryd.prog w = .ok 1 w := by kernel_rfl
theorem sz9 (w : World) : (sizeOf 9).run Tryd.prog w = .ok 1 w := by kernel_rfl
theorem stoI (x y : Operand) (ho : o.op = .store 3 x y) (b j : Nat) (n : Int) (u : Value) (hx : ρ x = .pointer (some ⟨b, j, none⟩)) (hy : ρ y = .int .i64 n) (hc : w.cell? ⟨b, j, none⟩ = some u) (hf : w.frozen? ⟨b, j, none⟩ = false) : (execOp ρ o).run Tryd.prog w = .ok .skip (w.setCell ⟨b, j, none⟩ (.int .i64 n)) := by
  unfold execOp
  simp only [ho, hx, hy]
  simp [go_sem, hc, hf]
theorem stoS (x y : Operand) (ho : o.op = .store 9 x y) (b j : Nat) (n : ByteArray) (u : Value) (hx : ρ x = .pointer (some ⟨b, j, none⟩)) (hy : ρ y = .string n) (hc : w.cell? ⟨b, j, none⟩ = some u) (hf : w.frozen? ⟨b, j, none⟩ = false) : (execOp ρ o).run Tryd.prog w = .ok .skip (w.setCell ⟨b, j, none⟩ (.string n)) := by
  unfold execOp
  simp only [ho, hx, hy]
  simp [go_sem, hc, hf]
theorem ix_s (w : World) (b m N c : Nat) (hm : m < N) : (Instr.indexAt 73 (.slice (some ⟨b, 0, none⟩) N c) (.int .i64 m)).run Tryd.prog w = .ok (.pointer (some ⟨b, m, none⟩)) w := by
  have h1 : (m : Int) < N := by omega
  have h2 : (0 : Int) ≤ m := by omega
  simp [go_sem, h1, h2]
theorem naS (w : World) : (isAgg 9).run Tryd.prog w = .ok false w := by kernel_rfl
theorem fa_l5 (w : World) (b : Nat) : (Instr.fieldAt 36 (.pointer (some ⟨b, 0, none⟩)) 5).run Tryd.prog w = .ok (.pointer (some ⟨b, 5, none⟩)) w := by kernel_rfl
end
/-- what is held on to in a region whose values are known, a world that grows, and one store -/
structure SG (W : World) (vals : List Value) (G : Bool → World → Prop) (c : Nat) (s : Nat → Option Value) (w : World) : Prop where
  b : Below W.heap.size W w
  g : ∀ i v, s i = some v → vals[i]? = some v
  m : G (s c).isSome w
section
variable {W w w' : World} {vals : List Value} {G : Bool → World → Prop} {c : Nat} {s : Nat → Option Value}
theorem SG.told (h : SG W vals G c s w) {j : Nat} {v : Value} (hv : vals[j]? = some v) (hs : (s j).isSome = true) : s j = some v := by
  cases hj : s j with
  | none => rw [hj] at hs; cases hs
  | some u =>
    have := h.g j u hj
    rw [hv] at this
    exact this.symm
theorem SG.step (h : SG W vals G c s w) (i : Nat) (v : Value) (hi : i ≠ c) (hv : vals[i]? = some v) : SG W vals G c (updT s i v) w :=
  ⟨h.b, Mk.upd h.g i v hv, by simpa [updT, Ne.symm hi] using h.m⟩
theorem SG.grow (h : SG W vals G c s w) (hG : ∀ q w w', Below w.heap.size w w' → G q w → G q w') (hb : Below w.heap.size w w') (i : Nat) (v : Value) (hi : i ≠ c) (hv : vals[i]? = some v) : SG W vals G c (updT s i v) w' :=
  ⟨h.b.trans (hb.mono h.b.size), Mk.upd h.g i v hv, by simpa [updT, Ne.symm hi] using hG _ _ _ hb h.m⟩
theorem SG.store (h : SG W vals G c s w) (hs : s c = none) {b j : Nat} {v : Value} (hB : W.heap.size ≤ b) (hG : ∀ w, G false w → G true (w.setCell ⟨b, j, none⟩ v)) (hv : vals[c]? = some undef) : SG W vals G c (updT s c undef) (w.setCell ⟨b, j, none⟩ v) :=
  ⟨h.b.setCell hB _, Mk.upd h.g c undef hv, by
    have := h.m
    rw [hs] at this
    simpa [updT] using hG _ this⟩
end
end Go.Proofs.YtihbgppcacaekaaDoor
