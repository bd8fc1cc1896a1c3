/- PROVED: IneqBounds (layer 19): for every three numbers the law returns true. No condition. -/
import Derived.Test.YtfaccdidjhaahaaZ
namespace Go.Proofs.Ytfaccdidjhaahaa
open Go.ChangeShapes Go.WideShapes Go.ChangeAt Go.RowKit

set_option maxRecDepth 100000 in
theorem ineqBounds_walk {H : Type} {enc : TypeId × Value → H} (W : World) (base : Nat) (args : Array Value) (ds : List (DataW H)) (p : List MemPlace)
    (hval : ∀ (j : Nat) t v, (#[3, 3, 3] : Array TypeId)[j]? = some t → args[j]? = some v → Value.okWide Try.prog W .any base t v)
    (hA : DataW.TrodAll enc Try.prog W 0 (fun _ => true) true [3, 3, 3] args.toList ds p) (hlt : ∀ x ∈ p, x.block < W.heap.size)
    (hsz : (DataW.weightsEach Try.prog [3, 3, 3] ds).all (· ≤ reachBytes) = true) :
    Calls Try.prog 7 args W fun e W' => e = .returned (.bool true) ∧ Below W.heap.size W W' := by
  obtain ⟨v0, vs0, d0, ds0, p0, q0, hargs, rfl, rfl, h0, r0⟩ := trodAll_cons hA
  obtain ⟨v1, vs1, d1, ds1, p1, q1, rfl, rfl, rfl, h1, r1⟩ := trodAll_cons r0
  obtain ⟨v2, vs2, d2, ds2, p2, q2, rfl, rfl, rfl, h2, r2⟩ := trodAll_cons r1
  obtain ⟨rfl, rfl, rfl⟩ := trodAll_nil r2
  obtain rfl : args = #[v0, v1, v2] := by cases args; simp_all
  obtain ⟨a, rfl, _, _, _⟩ := open_int ui3 (hval 0 3 v0 rfl rfl) h0
  obtain ⟨b, rfl, _, _, _⟩ := open_int ui3 (hval 1 3 v1 rfl rfl) h1
  obtain ⟨f, rfl, _, _, _⟩ := open_int ui3 (hval 2 3 v2 rfl rfl) h2
  exact bounds_any a b f W

set_option maxRecDepth 100000 in
theorem ineqBounds_lifted (os : Os) (started : os.Started) (H : Type) (enc : TypeId × Value → H) :
    ReturnsInHanded {} Try.checked os 7 .any (Rows.ineqBoundsSpec.pre6 enc Try.prog Try.f7 Rows.ineqBoundsRow.domain false) (Rows.ineqBoundsSpec.post enc Try.prog Try.f7 false true false false) := by
  refine law_lifted (C := Try.checked) (tb := 4) Try.own started (by kernel_rfl) Try.func7
    (ChangeSpec.witness6 (enc := enc) (C := Try.checked) false ⟨#[], #[.int .i64 0, .int .i64 0, .int .i64 0], []⟩ 8 (by kernel_rfl) (by kernel_rfl) (by kernel_rfl) (by kernel_rfl))
    rfl rfl ub4 Try.laid ?_ ?_ ?_
  · rw [Try.params7]
    intro t ht
    simp at ht
    subst ht
    all_goals exact ⟨by kernel_rfl, of_decide_eq_true (by kernel_rfl)⟩
  · intro ds hl
    rw [Try.params7] at hl
    match ds, hl with
    | [_, _, _], _ => exact ⟨rfl, rfl, rfl⟩
  · intro W base args ds p hval hA hlt hsz
    rw [Try.params7] at hA hval hsz
    exact ineqBounds_walk W base args ds p hval hA hlt hsz

theorem ineqBounds_over : Rows.ineqBoundsRow.holds Try.pinned (OpenSpec.ofChange Rows.ineqBoundsSpec) :=
  OpenClaim.holds_of_wide 7 Try.f7 rfl rfl rfl rfl rfl rfl rfl ⟨rfl, rfl, rfl, rfl, rfl⟩ rfl rfl rfl rfl rfl (by kernel_rfl) Try.func7 (by kernel_rfl)
    (of_decide_eq_true (by kernel_rfl)) (by unfold Func.isWrapper; first | (rw [if_pos (by decide +kernel)]; kernel_rfl) | (rw [if_neg (by decide +kernel)]; exact ⟨rfl, rfl⟩))
    (fun os started H enc _ => ineqBounds_lifted os started H enc)

/-- the given statement -/
theorem ineqBounds_proved : Rows.IneqBoundsSaid := ineqBounds_over
#print axioms ineqBounds_proved
end Go.Proofs.Ytfaccdidjhaahaa
