/- PROVED: IneqMore (layer 19): for every slice of rows the law returns true, and the argument read afterwards as before. No condition. -/
import Derived.Test.YtfaccdidjhaahaaRows
import Derived.Test.YtfaccdidjhaahaaMow
import Derived.Test.YtfaccdidjhaahaaV
import Derived.Test.YtfaccdidjhaahaaN
namespace Go.Proofs.Ytfaccdidjhaahaa
open Go.ChangeShapes Go.WideShapes Go.ChangeAt Go.RowKit

set_option maxRecDepth 100000 in
theorem ineqMore_walk {H : Type} {enc : TypeId × Value → H} (W : World) (base : Nat) (args : Array Value) (ds : List (DataW H)) (p : List MemPlace)
    (hval : ∀ (j : Nat) t v, (#[29] : Array TypeId)[j]? = some t → args[j]? = some v → Value.okWide Try.prog W .any base t v)
    (hA : DataW.TrodAll enc Try.prog W 0 (fun _ => true) true [29] args.toList ds p) (hlt : ∀ x ∈ p, x.block < W.heap.size)
    (hsz : (DataW.weightsEach Try.prog [29] ds).all (· ≤ reachBytes) = true) :
    Calls Try.prog 9 args W fun e W' => e = .returned (.bool true) ∧ Below W.heap.size W W' := by
  obtain ⟨v0, vs0, d0, ds0, p0, q0, hargs, rfl, rfl, h0, r0⟩ := trodAll_cons hA
  obtain ⟨rfl, rfl, rfl⟩ := trodAll_nil r0
  obtain rfl : args = #[v0] := by cases args; simp_all
  obtain ⟨A, l, cap, rfl, hR, hA0⟩ := open_rows h0 (okWide_slice (e := 24) (by kernel_rfl) (hval 0 29 v0 rfl rfl)) (fun x hx => hlt x (List.mem_append_left _ hx))
  exact more_any l A cap W hR hA0 (rows_cap h0)

set_option maxRecDepth 100000 in
theorem ineqMore_lifted (os : Os) (started : os.Started) (H : Type) (enc : TypeId × Value → H) :
    ReturnsInHanded {} Try.checked os 9 .any (Rows.ineqMoreSpec.pre6 enc Try.prog Try.f9 Rows.ineqMoreRow.domain false) (Rows.ineqMoreSpec.post enc Try.prog Try.f9 false true false false) := by
  refine law_lifted (C := Try.checked) (tb := 4) Try.own started (by kernel_rfl) Try.func9
    (ChangeSpec.witness6 (enc := enc) (C := Try.checked) false ⟨#[], #[.slice none 0 0], []⟩ 8 (by kernel_rfl) (by kernel_rfl) (by kernel_rfl) (by kernel_rfl))
    rfl rfl ub4 Try.laid ?_ ?_ ?_
  · rw [Try.params9]
    intro t ht
    simp at ht
    subst ht
    all_goals exact ⟨by kernel_rfl, of_decide_eq_true (by kernel_rfl)⟩
  · intro ds hl
    rw [Try.params9] at hl
    match ds, hl with
    | [_], _ => exact ⟨rfl, rfl, rfl⟩
  · intro W base args ds p hval hA hlt hsz
    rw [Try.params9] at hA hval hsz
    exact ineqMore_walk W base args ds p hval hA hlt hsz

theorem ineqMore_over : Rows.ineqMoreRow.holds Try.pinned (OpenSpec.ofChange Rows.ineqMoreSpec) :=
  OpenClaim.holds_of_wide 9 Try.f9 rfl rfl rfl rfl rfl rfl rfl ⟨rfl, rfl, rfl, rfl, rfl⟩ rfl rfl rfl rfl rfl (by kernel_rfl) Try.func9 (by kernel_rfl)
    (of_decide_eq_true (by kernel_rfl)) (by unfold Func.isWrapper; first | (rw [if_pos (by decide +kernel)]; kernel_rfl) | (rw [if_neg (by decide +kernel)]; exact ⟨rfl, rfl⟩))
    (fun os started H enc _ => ineqMore_lifted os started H enc)

/-- the given statement -/
theorem ineqMore_proved : Rows.IneqMoreSaid := ineqMore_over
#print axioms ineqMore_proved
end Go.Proofs.Ytfaccdidjhaahaa
