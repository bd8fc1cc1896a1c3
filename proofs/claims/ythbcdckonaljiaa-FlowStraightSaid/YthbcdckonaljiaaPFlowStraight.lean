/- PROVED: FlowStraight: for every list of fours of bytes the law returns true, and the arguments read afterwards as before. No condition. -/
import Derived.Test.YthbcdckonaljiaaRows
import Derived.Test.YthbcdckonaljiaaKk
import Derived.Test.YthbcdckonaljiaaZr
import Derived.Test.YthbcdckonaljiaaZg3
namespace Go.Proofs.Ythbcdckonaljiaa
open Go.ChangeShapes Go.WideShapes Go.ChangeAt Go.RowKit

set_option maxRecDepth 100000 in
theorem flowStraight_walk {H : Type} {enc : TypeId × Value → H} (W : World) (base : Nat) (args : Array Value) (ds : List (DataW H)) (p : List MemPlace)
    (hval : ∀ (j : Nat) t v, (#[22] : Array TypeId)[j]? = some t → args[j]? = some v → Value.okWide Try.prog W .any base t v)
    (hA : DataW.TrodAll enc Try.prog W 0 (fun _ => true) true [22] args.toList ds p) (hlt : ∀ x ∈ p, x.block < W.heap.size)
    (hsz : (DataW.weightsEach Try.prog [22] ds).all (· ≤ reachBytes) = true) :
    Calls Try.prog 3 args W fun e W' => e = .returned (.bool true) ∧ Below W.heap.size W W' := by
  obtain ⟨v0, vs0, d0, ds0, p0, q0, hargs, rfl, rfl, h0, r0⟩ := trodAll_cons hA
  obtain ⟨rfl, rfl, rfl⟩ := trodAll_nil r0
  obtain rfl : args = #[v0] := by cases args; simp_all
  obtain ⟨A, l, cap, rfl, hA, hx, hl9⟩ := open_b4s h0 (okWide_slice (show Try.prog.underlying 22 = some (.slice 33) by kernel_rfl) (hval 0 22 v0 rfl rfl))
  exact FlowStraight_any l hl9 hx A cap W (show RdB4 W A l from hA)

set_option maxRecDepth 100000 in
theorem flowStraight_lifted (os : Os) (started : os.Started) (H : Type) (enc : TypeId × Value → H) :
    ReturnsInHanded {} Try.checked os 3 .any (Rows.flowStraightSpec.pre6 enc Try.prog Try.f3 Rows.flowStraightRow.domain false) (Rows.flowStraightSpec.post enc Try.prog Try.f3 false true false false) := by
  refine law_lifted (C := Try.checked) (tb := 4) (by kernel_rfl) started (by kernel_rfl) Try.func3
    (ChangeSpec.witness6 (enc := enc) (C := Try.checked) false ⟨#[], #[.slice none 0 0], []⟩ 8 (by kernel_rfl) (by kernel_rfl) (by kernel_rfl) (by kernel_rfl))
    rfl rfl ub4 (by kernel_rfl) ?_ ?_ ?_
  · rw [Try.params3]
    intro t ht
    simp at ht
    subst ht
    all_goals exact ⟨by kernel_rfl, of_decide_eq_true (by kernel_rfl)⟩
  · intro ds hl
    rw [Try.params3] at hl
    match ds, hl with
    | [_], _ => exact ⟨rfl, rfl, rfl⟩
  · intro W base args ds p hval hA hlt hsz
    rw [Try.params3] at hA hval hsz
    exact flowStraight_walk W base args ds p hval hA hlt hsz

theorem flowStraight_over : Rows.flowStraightRow.holds Try.pinned (OpenSpec.ofChange Rows.flowStraightSpec) :=
  OpenClaim.holds_of_wide 3 Try.f3 rfl rfl rfl rfl rfl rfl rfl ⟨rfl, rfl, rfl, rfl, rfl⟩ rfl rfl rfl rfl rfl (by kernel_rfl) Try.func3 (by kernel_rfl)
    (of_decide_eq_true (by kernel_rfl)) (by unfold Func.isWrapper; first | (rw [if_pos (by decide +kernel)]; kernel_rfl) | (rw [if_neg (by decide +kernel)]; exact ⟨rfl, rfl⟩))
    (fun os started H enc _ => flowStraight_lifted os started H enc)

/-- the given statement -/
theorem flowStraight_proved : Rows.FlowStraightSaid := flowStraight_over
#print axioms flowStraight_proved
end Go.Proofs.Ythbcdckonaljiaa
