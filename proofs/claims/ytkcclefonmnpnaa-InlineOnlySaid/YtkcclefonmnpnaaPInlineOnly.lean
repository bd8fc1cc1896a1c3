/- PROVED: InlineOnly: for every unit the law returns true, and the argument read afterwards as before. No condition. -/
import Derived.Test.YtkcclefonmnpnaaRows
import Derived.Test.YtkcclefonmnpnaaJd
import Derived.Test.YtkcclefonmnpnaaZg3
import Derived.Test.YtkcclefonmnpnaaYo
namespace Go.Proofs.Ytkcclefonmnpnaa
open Go.ChangeShapes Go.WideShapes Go.ChangeAt Go.RowKit

set_option maxRecDepth 100000 in
theorem inlineOnly_walk {H : Type} {enc : TypeId × Value → H} (W : World) (base : Nat) (args : Array Value) (ds : List (DataW H)) (p : List MemPlace)
    (hval : ∀ (j : Nat) t v, (#[43] : Array TypeId)[j]? = some t → args[j]? = some v → Value.okWide Try.prog W .any base t v)
    (hA : DataW.TrodAll enc Try.prog W 0 (fun _ => true) true [43] args.toList ds p) (hlt : ∀ x ∈ p, x.block < W.heap.size)
    (hsz : (DataW.weightsEach Try.prog [43] ds).all (· ≤ reachBytes) = true) :
    Calls Try.prog 13 args W fun e W' => e = .returned (.bool true) ∧ Below W.heap.size W W' := by
  obtain ⟨v0, vs0, d0, ds0, p0, q0, hargs, rfl, rfl, h0, r0⟩ := trodAll_cons hA
  obtain ⟨rfl, rfl, rfl⟩ := trodAll_nil r0
  obtain rfl : args = #[v0] := by cases args; simp_all
  obtain ⟨u, F, G, cF, cG, rfl, hU, hl0, hl1, hlc⟩ := open_unit h0 (hval 0 43 v0 rfl rfl)
  exact InlineOnly_any u F G cF cG W hU hl0 hl1 hlc

set_option maxRecDepth 100000 in
theorem inlineOnly_lifted (os : Os) (started : os.Started) (H : Type) (enc : TypeId × Value → H) :
    ReturnsInHanded {} Try.checked os 13 .any (Rows.inlineOnlySpec.pre6 enc Try.prog Try.f13 Rows.inlineOnlyRow.domain false) (Rows.inlineOnlySpec.post enc Try.prog Try.f13 false true false false) := by
  refine law_lifted (C := Try.checked) (tb := 4) (by kernel_rfl) started (by kernel_rfl) Try.func13
    (ChangeSpec.witness6 (enc := enc) (C := Try.checked) false ⟨#[], #[.agg #[.slice none 0 0, .slice none 0 0, .int .i64 0]], []⟩ 8 (by kernel_rfl) (by kernel_rfl) (by kernel_rfl) (by kernel_rfl))
    rfl rfl ub4 (by kernel_rfl) ?_ ?_ ?_
  · rw [Try.params13]
    intro t ht
    simp at ht
    subst ht
    all_goals exact ⟨by kernel_rfl, of_decide_eq_true (by kernel_rfl)⟩
  · intro ds hl
    rw [Try.params13] at hl
    match ds, hl with
    | [_], _ => exact ⟨rfl, rfl, rfl⟩
  · intro W base args ds p hval hA hlt hsz
    rw [Try.params13] at hA hval hsz
    exact inlineOnly_walk W base args ds p hval hA hlt hsz

theorem inlineOnly_over : Rows.inlineOnlyRow.holds Try.pinned (OpenSpec.ofChange Rows.inlineOnlySpec) :=
  OpenClaim.holds_of_wide 13 Try.f13 rfl rfl rfl rfl rfl rfl rfl ⟨rfl, rfl, rfl, rfl, rfl⟩ rfl rfl rfl rfl rfl (by kernel_rfl) Try.func13 (by kernel_rfl)
    (of_decide_eq_true (by kernel_rfl)) (by unfold Func.isWrapper; first | (rw [if_pos (by decide +kernel)]; kernel_rfl) | (rw [if_neg (by decide +kernel)]; exact ⟨rfl, rfl⟩))
    (fun os started H enc _ => inlineOnly_lifted os started H enc)

/-- the given statement -/
theorem inlineOnly_proved : Rows.InlineOnlySaid := inlineOnly_over
#print axioms inlineOnly_proved
end Go.Proofs.Ytkcclefonmnpnaa
