import Derived.Test.YtfaccdidjhaahaaRows
import Derived.Test.YtfaccdidjhaahaaV
import Derived.Test.YtfaccdidjhaahaaM
import Derived.Deep.Slices
/- WHAT AN ARGUMENT OF THESE LAWS IS: a row, an array of 8, a slice of rows. -/
namespace Go.Proofs.Ytfaccdidjhaahaa
open Go.ChangeShapes Go.WideShapes Go.ChangeAt Go.RowKit

theorem Try.own : ownKnob Try.prog.godebug = none := by kernel_rfl
theorem Try.laid : laidOutB Try.prog = true := by kernel_rfl
theorem ua22 : Try.prog.underlying 22 = some (.array 8 3) := by kernel_rfl
theorem ui3 : Try.prog.underlying 3 = some (.int .i64) := by kernel_rfl
theorem ub4 : Try.prog.underlying 4 = some .bool := by kernel_rfl
theorem c3 : Try.prog.cellsOf 3 = 1 := by kernel_rfl
theorem c22 : Try.prog.cellsOf 22 = 8 := by kernel_rfl
theorem c24 : Try.prog.cellsOf 24 = 9 := by kernel_rfl
theorem f24a : ((Try.prog.fieldsOf 24)[0]?).map (fun f => (f.type, f.offset)) = some (22, 0) := by kernel_rfl
theorem f24b : ((Try.prog.fieldsOf 24)[1]?).map (fun f => (f.type, f.offset)) = some (3, 8) := by kernel_rfl
theorem f24s : (Try.prog.fieldsOf 24).size = 2 := by kernel_rfl

section
variable {H : Type} {enc : TypeId × Value → H} {w : World} {base : Nat} {sp : Nat → Bool} {held : Bool} {fuel : Nat} {cs : List Value} {x : DataW H × List MemPlace}
theorem trod_arr (h : DataW.trod enc Try.prog w base sp held fuel 22 cs = some x) : ∃ r : Row, cs = [.int .i64 r.f0, .int .i64 r.f1, .int .i64 r.f2, .int .i64 r.f3, .int .i64 r.f4, .int .i64 r.f5, .int .i64 r.f6, .int .i64 r.f7] := by
  obtain ⟨xs, m, _, _, hl, hxl, hi⟩ := DataW.trod_array ua22 h
  rw [c22] at hl
  rw [c3] at hi
  match cs, hl with
  | [a0, a1, a2, a3, a4, a5, a6, a7], _ =>
    have key : ∀ i, i < 8 → ∃ n, (([a0, a1, a2, a3, a4, a5, a6, a7].drop (i * 1)).take 1) = [Value.int .i64 n] := fun i hi8 => by
      have h1 := hi i hi8
      rw [List.getElem?_eq_getElem (by omega)] at h1
      obtain ⟨n, e, _⟩ := DataW.trod_int ui3 h1
      exact ⟨n, e⟩
    obtain ⟨n0, e0⟩ := key 0 (by omega)
    obtain ⟨n1, e1⟩ := key 1 (by omega)
    obtain ⟨n2, e2⟩ := key 2 (by omega)
    obtain ⟨n3, e3⟩ := key 3 (by omega)
    obtain ⟨n4, e4⟩ := key 4 (by omega)
    obtain ⟨n5, e5⟩ := key 5 (by omega)
    obtain ⟨n6, e6⟩ := key 6 (by omega)
    obtain ⟨n7, e7⟩ := key 7 (by omega)
    simp at e0 e1 e2 e3 e4 e5 e6 e7
    exact ⟨⟨n0, n1, n2, n3, n4, n5, n6, n7, 0⟩, by simp [e0, e1, e2, e3, e4, e5, e6, e7]⟩
theorem trod_row (h : DataW.trod enc Try.prog w base sp held fuel 24 cs = some x) : ∃ r : Row, cs = r.l := by
  obtain ⟨xs, m, _, _, hl, hxl, hi⟩ := DataW.trod_struct u24 h
  rw [c24] at hl
  rw [f24s] at hxl
  have ha := f24a
  have hb := f24b
  match hfa : (Try.prog.fieldsOf 24)[0]?, hfb : (Try.prog.fieldsOf 24)[1]? with
  | some fa, some fb =>
    rw [hfa] at ha
    rw [hfb] at hb
    simp only [Option.map_some, Option.some.injEq, Prod.mk.injEq] at ha hb
    have h1 := hi 0 fa hfa
    have h2 := hi 1 fb hfb
    rw [ha.1, ha.2, c22, List.getElem?_eq_getElem (by omega)] at h1
    rw [hb.1, hb.2, c3, List.getElem?_eq_getElem (by omega)] at h2
    obtain ⟨r, e1⟩ := trod_arr h1
    obtain ⟨n, e2, _⟩ := DataW.trod_int ui3 h2
    match cs, hl with
    | [a0, a1, a2, a3, a4, a5, a6, a7, a8], _ =>
      simp at e1 e2
      exact ⟨⟨r.f0, r.f1, r.f2, r.f3, r.f4, r.f5, r.f6, r.f7, n⟩, by simp [e1, e2]⟩
  | none, _ => rw [hfa] at ha; cases ha
  | some _, none => rw [hfb] at hb; cases hb
theorem agg_of {v : Value} {l : List Value} (h : v.cells.toList = l) (hl : 1 < l.length) : v = .agg l.toArray := by
  cases v <;> simp [Value.cells] at h <;> subst h <;> simp at hl ⊢
theorem open_arr {v : Value} {d : DataW H} {p : List MemPlace} (h : DataW.Trod enc Try.prog w base sp held 22 v d p) : ∃ r : Row, v = r.arr := by
  obtain ⟨fuel, hf⟩ := h
  obtain ⟨r, e⟩ := trod_arr hf
  exact ⟨r, agg_of e (by simp)⟩
theorem open_row {v : Value} {d : DataW H} {p : List MemPlace} (h : DataW.Trod enc Try.prog w base sp held 24 v d p) : ∃ r : Row, v = r.enc := by
  obtain ⟨fuel, hf⟩ := h
  obtain ⟨r, e⟩ := trod_row hf
  exact ⟨r, agg_of e (by simp)⟩
end
end Go.Proofs.Ytfaccdidjhaahaa
