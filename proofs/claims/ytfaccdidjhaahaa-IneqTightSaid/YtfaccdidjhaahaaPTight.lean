/- PROVED: IneqTight (layer 19): for every row and all eight numbers the law returns true, and both arguments read afterwards as before. No condition. -/
import Derived.Test.YtfaccdidjhaahaaN
import Derived.Test.YtfaccdidjhaahaaR
namespace Go.Proofs.Ytfaccdidjhaahaa
open Go.ChangeShapes Go.WideShapes Go.ChangeAt Go.RowKit

set_option maxRecDepth 100000 in
theorem ineqTight_walk {H : Type} {enc : TypeId × Value → H} (W : World) (base : Nat) (args : Array Value) (ds : List (DataW H)) (p : List MemPlace)
    (hval : ∀ (j : Nat) t v, (#[24, 22] : Array TypeId)[j]? = some t → args[j]? = some v → Value.okWide Try.prog W .any base t v)
    (hA : DataW.TrodAll enc Try.prog W 0 (fun _ => true) true [24, 22] args.toList ds p) (hlt : ∀ x ∈ p, x.block < W.heap.size)
    (hsz : (DataW.weightsEach Try.prog [24, 22] ds).all (· ≤ reachBytes) = true) :
    Calls Try.prog 4 args W fun e W' => e = .returned (.bool true) ∧ Below W.heap.size W W' := by
  obtain ⟨v0, vs0, d0, ds0, p0, q0, hargs, rfl, rfl, h0, r0⟩ := trodAll_cons hA
  obtain ⟨v1, vs1, d1, ds1, p1, q1, rfl, rfl, rfl, h1, r1⟩ := trodAll_cons r0
  obtain ⟨rfl, rfl, rfl⟩ := trodAll_nil r1
  obtain rfl : args = #[v0, v1] := by cases args; simp_all
  obtain ⟨r, rfl⟩ := open_row h0
  obtain ⟨x, rfl⟩ := open_arr h1
  exact tightlaw_any r x W

set_option maxRecDepth 100000 in
theorem ineqTight_lifted (os : Os) (started : os.Started) (H : Type) (enc : TypeId × Value → H) :
    ReturnsInHanded {} Try.checked os 4 .any (Rows.ineqTightSpec.pre6 enc Try.prog Try.f4 Rows.ineqTightRow.domain false) (Rows.ineqTightSpec.post enc Try.prog Try.f4 false true false false) := by
  refine law_lifted (C := Try.checked) (tb := 4) Try.own started (by kernel_rfl) Try.func4
    (ChangeSpec.witness6 (enc := enc) (C := Try.checked) false ⟨#[], #[row0.enc, row0.arr], []⟩ 8 (by kernel_rfl) (by kernel_rfl) (by kernel_rfl) (by kernel_rfl))
    rfl rfl ub4 Try.laid ?_ ?_ ?_
  · rw [Try.params4]
    intro t ht
    simp at ht
    rcases ht with rfl | rfl
    all_goals exact ⟨by kernel_rfl, of_decide_eq_true (by kernel_rfl)⟩
  · intro ds hl
    rw [Try.params4] at hl
    match ds, hl with
    | [_, _], _ => exact ⟨rfl, rfl, rfl⟩
  · intro W base args ds p hval hA hlt hsz
    rw [Try.params4] at hA hval hsz
    exact ineqTight_walk W base args ds p hval hA hlt hsz

theorem ineqTight_over : Rows.ineqTightRow.holds Try.pinned (OpenSpec.ofChange Rows.ineqTightSpec) :=
  OpenClaim.holds_of_wide 4 Try.f4 rfl rfl rfl rfl rfl rfl rfl ⟨rfl, rfl, rfl, rfl, rfl⟩ rfl rfl rfl rfl rfl (by kernel_rfl) Try.func4 (by kernel_rfl)
    (of_decide_eq_true (by kernel_rfl)) (by unfold Func.isWrapper; first | (rw [if_pos (by decide +kernel)]; kernel_rfl) | (rw [if_neg (by decide +kernel)]; exact ⟨rfl, rfl⟩))
    (fun os started H enc _ => ineqTight_lifted os started H enc)

/-- the given statement -/
theorem ineqTight_proved : Rows.IneqTightSaid := ineqTight_over
#print axioms ineqTight_proved
end Go.Proofs.Ytfaccdidjhaahaa
