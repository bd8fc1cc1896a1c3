/- PROVED: IneqNever (layer 19): for every slice of rows and all eight numbers the law returns true, and the arguments read afterwards as before. No condition. -/
import Derived.Test.YtfaccdidjhaahaaW
namespace Go.Proofs.Ytfaccdidjhaahaa
open Go.ChangeShapes Go.WideShapes Go.ChangeAt Go.RowKit

set_option maxRecDepth 100000 in
theorem ineqNever_walk {H : Type} {enc : TypeId × Value → H} (W : World) (base : Nat) (args : Array Value) (ds : List (DataW H)) (p : List MemPlace)
    (hval : ∀ (j : Nat) t v, (#[29, 22] : Array TypeId)[j]? = some t → args[j]? = some v → Value.okWide Try.prog W .any base t v)
    (hA : DataW.TrodAll enc Try.prog W 0 (fun _ => true) true [29, 22] args.toList ds p) (hlt : ∀ x ∈ p, x.block < W.heap.size)
    (hsz : (DataW.weightsEach Try.prog [29, 22] ds).all (· ≤ reachBytes) = true) :
    Calls Try.prog 6 args W fun e W' => e = .returned (.bool true) ∧ Below W.heap.size W W' := by
  obtain ⟨v0, vs0, d0, ds0, p0, q0, hargs, rfl, rfl, h0, r0⟩ := trodAll_cons hA
  obtain ⟨v1, vs1, d1, ds1, p1, q1, rfl, rfl, rfl, h1, r1⟩ := trodAll_cons r0
  obtain ⟨rfl, rfl, rfl⟩ := trodAll_nil r1
  obtain rfl : args = #[v0, v1] := by cases args; simp_all
  obtain ⟨A, l, cap, rfl, hR, hA0⟩ := open_rows h0 (okWide_slice (e := 24) (by kernel_rfl) (hval 0 29 v0 rfl rfl)) (fun x hx => hlt x (List.mem_append_left _ hx))
  obtain ⟨x, rfl⟩ := open_arr h1
  exact neverlaw_any l A cap x W hR hA0

set_option maxRecDepth 100000 in
theorem ineqNever_lifted (os : Os) (started : os.Started) (H : Type) (enc : TypeId × Value → H) :
    ReturnsInHanded {} Try.checked os 6 .any (Rows.ineqNeverSpec.pre6 enc Try.prog Try.f6 Rows.ineqNeverRow.domain false) (Rows.ineqNeverSpec.post enc Try.prog Try.f6 false true false false) := by
  refine law_lifted (C := Try.checked) (tb := 4) Try.own started (by kernel_rfl) Try.func6
    (ChangeSpec.witness6 (enc := enc) (C := Try.checked) false ⟨#[], #[.slice none 0 0, row0.arr], []⟩ 8 (by kernel_rfl) (by kernel_rfl) (by kernel_rfl) (by kernel_rfl))
    rfl rfl ub4 Try.laid ?_ ?_ ?_
  · rw [Try.params6]
    intro t ht
    simp at ht
    rcases ht with rfl | rfl
    all_goals exact ⟨by kernel_rfl, of_decide_eq_true (by kernel_rfl)⟩
  · intro ds hl
    rw [Try.params6] at hl
    match ds, hl with
    | [_, _], _ => exact ⟨rfl, rfl, rfl⟩
  · intro W base args ds p hval hA hlt hsz
    rw [Try.params6] at hA hval hsz
    exact ineqNever_walk W base args ds p hval hA hlt hsz

theorem ineqNever_over : Rows.ineqNeverRow.holds Try.pinned (OpenSpec.ofChange Rows.ineqNeverSpec) :=
  OpenClaim.holds_of_wide 6 Try.f6 rfl rfl rfl rfl rfl rfl rfl ⟨rfl, rfl, rfl, rfl, rfl⟩ rfl rfl rfl rfl rfl (by kernel_rfl) Try.func6 (by kernel_rfl)
    (of_decide_eq_true (by kernel_rfl)) (by unfold Func.isWrapper; first | (rw [if_pos (by decide +kernel)]; kernel_rfl) | (rw [if_neg (by decide +kernel)]; exact ⟨rfl, rfl⟩))
    (fun os started H enc _ => ineqNever_lifted os started H enc)

/-- the given statement -/
theorem ineqNever_proved : Rows.IneqNeverSaid := ineqNever_over
#print axioms ineqNever_proved
end Go.Proofs.Ytfaccdidjhaahaa
