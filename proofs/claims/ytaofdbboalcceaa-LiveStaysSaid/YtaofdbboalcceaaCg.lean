import Derived.Test.YtaofdbboalcceaaCf
import Derived.Laws.Tables
import Derived.Laws.CopyOwn
/- THE CODE's bare. -/
namespace Go.Proofs.Ytaofdbboalcceaa
open Go.RowKit Go.BigFrame

theorem vIns : Try.prog.underlying 38 = some (.struct (Try.prog.fieldsOf 38)) := by kernel_rfl
theorem sIns : (Try.prog.info? 38).map (·.size) = some 15 := by kernel_rfl
abbrev plainI (k : Int) : Ins := ⟨k, 0, -1, 0, 0, 0, ⟨#[]⟩, 0, 0, 0, 0, 0, 0, 0, -1⟩
abbrev zeroObj : Obj := .cells #[.int .i64 0, .int .i64 0, .int .i64 0, .int .i64 0, .int .i64 0, .int .i64 0, .string ⟨#[]⟩, .int .i64 0, .int .i64 0, .int .i64 0, .int .i64 0, .int .i64 0, .int .i64 0, .int .i64 0, .int .i64 0] 38
theorem plain_one (k : Int) : ((plainI k).l.toArray.all (·.oneCell')) = true := by simp [Value.oneCell']
theorem free15 {w : World} {p : Nat} {cs : Array Value} {t : TypeId} (h : w.heap[p]? = some (.cells cs t (0, 0))) : ∀ j, w.frozen? ⟨p, j, none⟩ = false := fun j => free_of_heap h j
/-- the state in bare, behind its Plain: the argument's box, the result's, and the plain one's -/
structure BSt (w W : World) (i o : Ins) (p5 : Nat) : Prop where
  bi : W.heap[w.heap.size]? = some i.obj
  br : W.heap[w.heap.size + 1]? = some zeroObj
  b5 : W.heap[p5]? = some o.obj
  below : Below w.heap.size w W
  p5 : w.heap.size + 1 < p5
theorem BSt.store {w W : World} {i i' o : Ins} {p5 : Nat} (h : BSt w W i o p5) (j : Nat) (v : Value) (hi : (i.l.toArray.setIfInBounds j v) = i'.l.toArray) : BSt w (W.setCell ⟨w.heap.size, j, none⟩ v) i' o p5 :=
  ⟨by rw [heap_setCell h.bi]; exact congrArg some (congrArg (fun c => Obj.cells c 38 (0, 0)) hi), (Below.heap_setCell _ _ _ _ (by simp only; omega)).trans h.br, (Below.heap_setCell _ _ _ _ (by have := h.p5; simp only; omega)).trans h.b5, h.below.setCell (p := ⟨w.heap.size, j, none⟩) (Nat.le_refl _) _, h.p5⟩
theorem BSt.store5 {w W : World} {i o o' : Ins} {p5 : Nat} (h : BSt w W i o p5) (j : Nat) (v : Value) (ho : (o.l.toArray.setIfInBounds j v) = o'.l.toArray) : BSt w (W.setCell ⟨p5, j, none⟩ v) i o' p5 :=
  ⟨(Below.heap_setCell _ _ _ _ (by have := h.p5; simp only; omega)).trans h.bi, (Below.heap_setCell _ _ _ _ (by have := h.p5; simp only; omega)).trans h.br, by rw [heap_setCell h.b5]; exact congrArg some (congrArg (fun c => Obj.cells c 38 (0, 0)) ho), h.below.setCell (p := ⟨p5, j, none⟩) (by have := h.p5; simp only; omega) _, h.p5⟩
/-- what bare tells -/
def BareT (i : Ins) (e : Ending) : Prop := e = .returned (Ins.agg ⟨if i = i.mask then i.kind else 0, 0, -1, 0, 0, 0, ⟨#[]⟩, 0, 0, 0, 0, 0, 0, 0, -1⟩)
theorem BareT.yes {i : Ins} {o : Ins} (h : i = i.mask) (ho : o = plainI i.kind) : BareT i (.returned o.agg) := by unfold BareT; rw [if_pos h, ho]
theorem BareT.no {i : Ins} {o : Ins} (h : ¬ i = i.mask) (ho : o = plainI 0) : BareT i (.returned o.agg) := by unfold BareT; rw [if_neg h, ho]
end Go.Proofs.Ytaofdbboalcceaa
