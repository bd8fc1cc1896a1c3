import Derived.Test.YtaofdbboalcceaaCc
/- THE DOCUMENT's right. -/
namespace Go.Proofs.Ytaofdbboalcceaa
open Go.RowKit Go.BigFrame

/-- a Bool is told, that says whether p -/
def Tru (p : Prop) (e : Ending) : Prop := ∃ b : Bool, e = .returned (.bool b) ∧ (b = true ↔ p)
theorem Tru.no {p : Prop} (h : ¬ p) : Tru p (.returned (.bool false)) := ⟨false, rfl, by simp [h]⟩
abbrev funcObj (nm : ByteArray) (ps R Fr : Int) (C : Option Addr) (L cap : Nat) : Obj := .cells #[.string nm, .int .i64 ps, .int .i64 R, .int .i64 Fr, .slice C L cap] 24
abbrev funcAgg (nm : ByteArray) (ps R Fr : Int) (C : Option Addr) (L cap : Nat) : Value := .agg #[.string nm, .int .i64 ps, .int .i64 R, .int .i64 Fr, .slice C L cap]
theorem box3 (w : World) (o o' o'' : Obj) : (((w.alloc o).alloc o').alloc o'').heap[w.heap.size]? = some o ∧ (((w.alloc o).alloc o').alloc o'').heap[w.heap.size + 1]? = some o' ∧ (((w.alloc o).alloc o').alloc o'').heap[w.heap.size + 1 + 1]? = some o'' ∧
    (((w.alloc o).alloc o').alloc o'').heap.size = w.heap.size + 3 ∧ Below w.heap.size w (((w.alloc o).alloc o').alloc o'') := by
  have h1 := heap_alloc_new w o
  have h2 := heap_alloc_new (w.alloc o) o'
  have h3 := heap_alloc_new ((w.alloc o).alloc o') o''
  rw [show (w.alloc o).heap.size = w.heap.size + 1 by simp] at h2
  rw [show ((w.alloc o).alloc o').heap.size = w.heap.size + 1 + 1 by simp] at h3
  exact ⟨alloc_keeps (alloc_keeps h1 _) _, alloc_keeps h2 _, h3, by simp, ((Below.one w o).alloc (by simp) _).alloc (by simp; omega) _⟩
theorem isWord_any (n : Int) (w : World) : Calls Try.prog 79 #[.int .i64 n] w fun e w' => e = .returned (.bool (decide (-2147483648 ≤ n ∧ n ≤ 2147483647))) ∧ w = w' := by
  by_cases h1 : -2147483648 ≤ n <;> by_cases h2 : n ≤ 2147483647
  all_goals
    first | have q1 : decide (n ≥ -2147483648) = true := (by simpa using h1) | have q1 : decide (n ≥ -2147483648) = false := (by simp; omega)
    first | have q3 : decide (-2147483648 ≤ n) = true := (by simpa using h1) | have q3 : decide (-2147483648 ≤ n) = false := (by simp; omega)
    first | have q2 : decide (n ≤ 2147483647) = true := (by simpa using h2) | have q2 : decide (n ≤ 2147483647) = false := (by simp; omega)
    have hd : decide (-2147483648 ≤ n ∧ n ≤ 2147483647) = (decide (-2147483648 ≤ n) && decide (n ≤ 2147483647)) := by simp
    rw [hd, q3, q2]
    clear hd h1 h2
    go_enter Try.func79, Try.ntmps79
    go_wp2
    go_returns
    exact ⟨rfl, rfl⟩
/-- the state in right, behind the uses: the three boxes -/
structure RSt (w w1 : World) (i o : Ins) (nm : ByteArray) (ps R Fr : Int) (C : Option Addr) (L cap : Nat) : Prop where
  bi : w1.heap[w.heap.size]? = some i.obj
  bf : w1.heap[w.heap.size + 1]? = some (funcObj nm ps R Fr C L cap)
  bo : w1.heap[w.heap.size + 1 + 1]? = some o.obj
  below : Below w.heap.size w w1
theorem RSt.later {w w1 w2 : World} {i o : Ins} {nm : ByteArray} {ps R Fr : Int} {C : Option Addr} {L cap : Nat} (h : RSt w w1 i o nm ps R Fr C L cap) (hb : Below w1.heap.size w1 w2) : RSt w w2 i o nm ps R Fr C L cap :=
  ⟨(hb.block _ (Array.getElem?_eq_some_iff.1 h.bi).1).trans h.bi, (hb.block _ (Array.getElem?_eq_some_iff.1 h.bf).1).trans h.bf, (hb.block _ (Array.getElem?_eq_some_iff.1 h.bo).1).trans h.bo, h.below.trans (hb.mono h.below.size)⟩
/-- a store into the third box -/
theorem RSt.store {w w1 : World} {i o o' : Ins} {nm : ByteArray} {ps R Fr : Int} {C : Option Addr} {L cap : Nat} (h : RSt w w1 i o nm ps R Fr C L cap) (j : Nat) (v : Value) (ho : (o.l.toArray.setIfInBounds j v) = o'.l.toArray) :
    RSt w (w1.setCell ⟨w.heap.size + 1 + 1, j, none⟩ v) i o' nm ps R Fr C L cap :=
  ⟨(Below.heap_setCell _ _ _ _ (by simp only; omega)).trans h.bi, (Below.heap_setCell _ _ _ _ (by simp only; omega)).trans h.bf, by rw [heap_setCell h.bo]; exact congrArg some (congrArg (fun c => Obj.cells c 38 (0, 0)) ho), h.below.setCell (p := ⟨w.heap.size + 1 + 1, j, none⟩) (by simp only; omega) _⟩
theorem RSt.free {w w1 : World} {i o : Ins} {nm : ByteArray} {ps R Fr : Int} {C : Option Addr} {L cap : Nat} (h : RSt w w1 i o nm ps R Fr C L cap) (j : Nat) : w1.frozen? ⟨w.heap.size + 1 + 1, j, none⟩ = false := free_of_heap h.bo j
theorem Ok.tru {i o : Ins} {R Fr : Int} {L : Nat} {be : Bool} (ho : i.mask = o) (h : i = i.mask → Ok i R Fr L) (hbe : be = decide (i = o)) : Tru (Ok i R Fr L) (.returned (.bool be)) := by
  subst hbe
  subst ho
  exact ⟨_, rfl, by rw [decide_eq_true_eq]; exact ⟨h, fun h => h.mask⟩⟩
end Go.Proofs.Ytaofdbboalcceaa
