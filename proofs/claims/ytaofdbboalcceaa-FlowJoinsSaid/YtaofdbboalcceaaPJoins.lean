/- PROVED: FlowJoins (layer 11): for all three values the law returns true, and the arguments read afterwards as before. No condition. -/
import Derived.Test.YtaofdbboalcceaaRows
import Derived.Test.YtaofdbboalcceaaLj
import Derived.Test.YtaofdbboalcceaaLw
import Derived.Test.YtaofdbboalcceaaLa
namespace Go.Proofs.Ytaofdbboalcceaa
open Go.ChangeShapes Go.WideShapes Go.ChangeAt Go.RowKit

set_option maxRecDepth 100000 in
theorem flowJoins_walk {H : Type} {enc : TypeId × Value → H} (W : World) (base : Nat) (args : Array Value) (ds : List (DataW H)) (p : List MemPlace)
    (hval : ∀ (j : Nat) t v, (#[28, 28, 28] : Array TypeId)[j]? = some t → args[j]? = some v → Value.okWide Try.prog W .any base t v)
    (hA : DataW.TrodAll enc Try.prog W 0 (fun _ => true) true [28, 28, 28] args.toList ds p) (hlt : ∀ x ∈ p, x.block < W.heap.size)
    (hsz : (DataW.weightsEach Try.prog [28, 28, 28] ds).all (· ≤ reachBytes) = true) :
    Calls Try.prog 4 args W fun e W' => e = .returned (.bool true) ∧ Below W.heap.size W W' := by
  obtain ⟨v0, vs0, d0, ds0, p0, q0, hargs, rfl, rfl, h0, r0⟩ := trodAll_cons hA
  obtain ⟨v1, vs1, d1, ds1, p1, q1, rfl, rfl, rfl, h1, r1⟩ := trodAll_cons r0
  obtain ⟨v2, vs2, d2, ds2, p2, q2, rfl, rfl, rfl, h2, r2⟩ := trodAll_cons r1
  obtain ⟨rfl, rfl, rfl⟩ := trodAll_nil r2
  obtain rfl : args = #[v0, v1, v2] := by cases args; simp_all
  obtain ⟨a, rfl⟩ := open_val h0 (hval 0 28 v0 rfl rfl)
  obtain ⟨b, rfl⟩ := open_val h1 (hval 1 28 v1 rfl rfl)
  obtain ⟨c, rfl⟩ := open_val h2 (hval 2 28 v2 rfl rfl)
  exact joins_any a b c W awake11_any

set_option maxRecDepth 100000 in
theorem flowJoins_lifted (os : Os) (started : os.Started) (H : Type) (enc : TypeId × Value → H) :
    ReturnsInHanded {} Try.checked os 4 .any (Rows.flowJoinsSpec.pre6 enc Try.prog Try.f4 Rows.flowJoinsRow.domain false) (Rows.flowJoinsSpec.post enc Try.prog Try.f4 false true false false) := by
  refine law_lifted (C := Try.checked) (tb := 4) Try.own started (by kernel_rfl) Try.func4
    (ChangeSpec.witness6 (enc := enc) (C := Try.checked) false ⟨#[], #[.agg #[.int .i64 0, .int .i64 0], .agg #[.int .i64 0, .int .i64 0], .agg #[.int .i64 0, .int .i64 0]], []⟩ 8 (by kernel_rfl) (by kernel_rfl) (by kernel_rfl) (by kernel_rfl))
    rfl rfl ub4 Try.laid ?_ ?_ ?_
  · rw [Try.params4]
    intro t ht
    simp at ht
    subst ht
    all_goals exact ⟨by kernel_rfl, of_decide_eq_true (by kernel_rfl)⟩
  · intro ds hl
    rw [Try.params4] at hl
    match ds, hl with
    | [_, _, _], _ => exact ⟨rfl, rfl, rfl⟩
  · intro W base args ds p hval hA hlt hsz
    rw [Try.params4] at hA hval hsz
    exact flowJoins_walk W base args ds p hval hA hlt hsz

theorem flowJoins_over : Rows.flowJoinsRow.holds Try.pinned (OpenSpec.ofChange Rows.flowJoinsSpec) :=
  OpenClaim.holds_of_wide 4 Try.f4 rfl rfl rfl rfl rfl rfl rfl ⟨rfl, rfl, rfl, rfl, rfl⟩ rfl rfl rfl rfl rfl (by kernel_rfl) Try.func4 (by kernel_rfl)
    (of_decide_eq_true (by kernel_rfl)) (by unfold Func.isWrapper; first | (rw [if_pos (by decide +kernel)]; kernel_rfl) | (rw [if_neg (by decide +kernel)]; exact ⟨rfl, rfl⟩))
    (fun os started H enc _ => flowJoins_lifted os started H enc)

/-- the given statement -/
theorem flowJoins_proved : Rows.FlowJoinsSaid := flowJoins_over
#print axioms flowJoins_proved
end Go.Proofs.Ytaofdbboalcceaa
