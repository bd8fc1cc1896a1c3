import Derived.Test.YtaofdbboalcceaaLa
/- what an instruction is that comes in. -/
namespace Go.Proofs.Ytaofdbboalcceaa
open Go.ChangeShapes Go.WideShapes Go.ChangeAt Go.RowKit

set_option maxRecDepth 100000 in
theorem open_ins {H : Type} {enc : TypeId × Value → H} {w : World} {v : Value} {d : DataW H} {p : List MemPlace} {r : Reach} {b0 : Nat} (h : DataW.Trod enc Try.prog w 0 (fun _ => true) true 38 v d p) (hv : Value.okWide Try.prog w r b0 38 v) :
    ∃ i : Ins, v = i.agg := by
  obtain ⟨cs, rfl, hsz⟩ := okWide_struct oiI hv
  obtain ⟨fuel, hf⟩ := h
  obtain ⟨i, hi⟩ := trod_ins hf
  obtain ⟨c⟩ := cs
  have hi : c = i.l := by simpa [Value.cells] using hi
  exact ⟨i, by rw [hi]⟩
end Go.Proofs.Ytaofdbboalcceaa
