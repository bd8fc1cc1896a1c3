/- PROVED: GraphWalk: for every function and numbers the law returns true, and the arguments read afterwards as before. No condition. -/
import Derived.Test.YtgdbkoncaojmoaaRows
import Derived.Test.YtgdbkoncaojmoaaEd
import Derived.Test.YtgdbkoncaojmoaaZg3
namespace Go.Proofs.Ytgdbkoncaojmoaa
open Go.ChangeShapes Go.WideShapes Go.ChangeAt Go.RowKit

set_option maxRecDepth 100000 in
theorem graphWalk_walk {H : Type} {enc : TypeId × Value → H} (W : World) (base : Nat) (args : Array Value) (ds : List (DataW H)) (p : List MemPlace)
    (hval : ∀ (j : Nat) t v, (#[24] : Array TypeId)[j]? = some t → args[j]? = some v → Value.okWide Try.prog W .any base t v)
    (hA : DataW.TrodAll enc Try.prog W 0 (fun _ => true) true [24] args.toList ds p) (hlt : ∀ x ∈ p, x.block < W.heap.size)
    (hsz : (DataW.weightsEach Try.prog [24] ds).all (· ≤ reachBytes) = true) :
    Calls Try.prog 8 args W fun e W' => e = .returned (.bool true) ∧ Below W.heap.size W W' := by
  obtain ⟨v0, vs0, d0, ds0, p0, q0, hargs, rfl, rfl, h0, r0⟩ := trodAll_cons hA
  obtain ⟨rfl, rfl, rfl⟩ := trodAll_nil r0
  obtain rfl : args = #[v0] := by cases args; simp_all
  obtain ⟨f, C, cap, rfl, hC, hl9⟩ := open_func h0 (hval 0 24 v0 rfl rfl)
  exact GraphWalk_any f C cap hl9  W hC

set_option maxRecDepth 100000 in
theorem graphWalk_lifted (os : Os) (started : os.Started) (H : Type) (enc : TypeId × Value → H) :
    ReturnsInHanded {} Try.checked os 8 .any (Rows.graphWalkSpec.pre6 enc Try.prog Try.f8 Rows.graphWalkRow.domain false) (Rows.graphWalkSpec.post enc Try.prog Try.f8 false true false false) := by
  refine law_lifted (C := Try.checked) (tb := 4) (by kernel_rfl) started (by kernel_rfl) Try.func8
    (ChangeSpec.witness6 (enc := enc) (C := Try.checked) false ⟨#[], #[.agg #[.string ⟨#[]⟩, .int .i64 0, .int .i64 0, .int .i64 0, .slice none 0 0]], []⟩ 8 (by kernel_rfl) (by kernel_rfl) (by kernel_rfl) (by kernel_rfl))
    rfl rfl ub4 (by kernel_rfl) ?_ ?_ ?_
  · rw [Try.params8]
    intro t ht
    simp at ht
    subst ht
    all_goals exact ⟨by kernel_rfl, of_decide_eq_true (by kernel_rfl)⟩
  · intro ds hl
    rw [Try.params8] at hl
    match ds, hl with
    | [_], _ => exact ⟨rfl, rfl, rfl⟩
  · intro W base args ds p hval hA hlt hsz
    rw [Try.params8] at hA hval hsz
    exact graphWalk_walk W base args ds p hval hA hlt hsz

theorem graphWalk_over : Rows.graphWalkRow.holds Try.pinned (OpenSpec.ofChange Rows.graphWalkSpec) :=
  OpenClaim.holds_of_wide 8 Try.f8 rfl rfl rfl rfl rfl rfl rfl ⟨rfl, rfl, rfl, rfl, rfl⟩ rfl rfl rfl rfl rfl (by kernel_rfl) Try.func8 (by kernel_rfl)
    (of_decide_eq_true (by kernel_rfl)) (by unfold Func.isWrapper; first | (rw [if_pos (by decide +kernel)]; kernel_rfl) | (rw [if_neg (by decide +kernel)]; exact ⟨rfl, rfl⟩))
    (fun os started H enc _ => graphWalk_lifted os started H enc)

/-- the given statement -/
theorem graphWalk_proved : Rows.GraphWalkSaid := graphWalk_over
#print axioms graphWalk_proved
end Go.Proofs.Ytgdbkoncaojmoaa
