/- PROVED: GraphDominates: for every function and numbers the law returns true, and the arguments read afterwards as before. No condition. -/
import Derived.Test.YtgdbkoncaojmoaaRows
import Derived.Test.YtgdbkoncaojmoaaEm
import Derived.Test.YtgdbkoncaojmoaaZg3
namespace Go.Proofs.Ytgdbkoncaojmoaa
open Go.ChangeShapes Go.WideShapes Go.ChangeAt Go.RowKit

set_option maxRecDepth 100000 in
theorem graphDominates_walk {H : Type} {enc : TypeId × Value → H} (W : World) (base : Nat) (args : Array Value) (ds : List (DataW H)) (p : List MemPlace)
    (hval : ∀ (j : Nat) t v, (#[24, 3, 3] : Array TypeId)[j]? = some t → args[j]? = some v → Value.okWide Try.prog W .any base t v)
    (hA : DataW.TrodAll enc Try.prog W 0 (fun _ => true) true [24, 3, 3] args.toList ds p) (hlt : ∀ x ∈ p, x.block < W.heap.size)
    (hsz : (DataW.weightsEach Try.prog [24, 3, 3] ds).all (· ≤ reachBytes) = true) :
    Calls Try.prog 4 args W fun e W' => e = .returned (.bool true) ∧ Below W.heap.size W W' := by
  obtain ⟨v0, vs0, d0, ds0, p0, q0, hargs, rfl, rfl, h0, r0⟩ := trodAll_cons hA
  obtain ⟨v1, vs1, d1, ds1, p1, q1, rfl, rfl, rfl, h1, r1⟩ := trodAll_cons r0
  obtain ⟨v2, vs2, d2, ds2, p2, q2, rfl, rfl, rfl, h2, r2⟩ := trodAll_cons r1
  obtain ⟨rfl, rfl, rfl⟩ := trodAll_nil r2
  obtain rfl : args = #[v0, v1, v2] := by cases args; simp_all
  obtain ⟨f, C, cap, rfl, hC, hl9⟩ := open_func h0 (hval 0 24 v0 rfl rfl)
  obtain ⟨a, rfl⟩ := okWide_int (k := .i64) oi3 (hval 1 3 v1 rfl rfl)
  obtain ⟨b, rfl⟩ := okWide_int (k := .i64) oi3 (hval 2 3 v2 rfl rfl)
  exact GraphDominates_any f C cap hl9 a b W hC

set_option maxRecDepth 100000 in
theorem graphDominates_lifted (os : Os) (started : os.Started) (H : Type) (enc : TypeId × Value → H) :
    ReturnsInHanded {} Try.checked os 4 .any (Rows.graphDominatesSpec.pre6 enc Try.prog Try.f4 Rows.graphDominatesRow.domain false) (Rows.graphDominatesSpec.post enc Try.prog Try.f4 false true false false) := by
  refine law_lifted (C := Try.checked) (tb := 4) (by kernel_rfl) started (by kernel_rfl) Try.func4
    (ChangeSpec.witness6 (enc := enc) (C := Try.checked) false ⟨#[], #[.agg #[.string ⟨#[]⟩, .int .i64 0, .int .i64 0, .int .i64 0, .slice none 0 0], .int .i64 0, .int .i64 0], []⟩ 8 (by kernel_rfl) (by kernel_rfl) (by kernel_rfl) (by kernel_rfl))
    rfl rfl ub4 (by kernel_rfl) ?_ ?_ ?_
  · rw [Try.params4]
    intro t ht
    simp at ht
    rcases ht with rfl | rfl
    all_goals exact ⟨by kernel_rfl, of_decide_eq_true (by kernel_rfl)⟩
  · intro ds hl
    rw [Try.params4] at hl
    match ds, hl with
    | [_, _, _], _ => exact ⟨rfl, rfl, rfl⟩
  · intro W base args ds p hval hA hlt hsz
    rw [Try.params4] at hA hval hsz
    exact graphDominates_walk W base args ds p hval hA hlt hsz

theorem graphDominates_over : Rows.graphDominatesRow.holds Try.pinned (OpenSpec.ofChange Rows.graphDominatesSpec) :=
  OpenClaim.holds_of_wide 4 Try.f4 rfl rfl rfl rfl rfl rfl rfl ⟨rfl, rfl, rfl, rfl, rfl⟩ rfl rfl rfl rfl rfl (by kernel_rfl) Try.func4 (by kernel_rfl)
    (of_decide_eq_true (by kernel_rfl)) (by unfold Func.isWrapper; first | (rw [if_pos (by decide +kernel)]; kernel_rfl) | (rw [if_neg (by decide +kernel)]; exact ⟨rfl, rfl⟩))
    (fun os started H enc _ => graphDominates_lifted os started H enc)

/-- the given statement -/
theorem graphDominates_proved : Rows.GraphDominatesSaid := graphDominates_over
#print axioms graphDominates_proved
end Go.Proofs.Ytgdbkoncaojmoaa
