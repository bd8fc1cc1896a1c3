/- PROVED: true for every function. -/
import Derived.Test.YthbcdckonaljiaaRows
import Derived.Test.YthbcdckonaljiaaQl
import Derived.Test.YthbcdckonaljiaaZg3
namespace Go.Proofs.Ythbcdckonaljiaa
open Go.ChangeShapes Go.WideShapes Go.ChangeAt Go.RowKit

set_option maxRecDepth 100000 in
theorem colorFine_walk {H : Type} {enc : TypeId × Value → H} (W : World) (base : Nat) (args : Array Value) (ds : List (DataW H)) (p : List MemPlace)
    (hval : ∀ (j : Nat) t v,(#[26] : Array TypeId)[j]? = some t → args[j]? = some v → Value.okWide Try.prog W .any base t v)
    (hA : DataW.TrodAll enc Try.prog W 0 (fun _ => true) true [26] args.toList ds p) (hlt : ∀ x ∈ p,x.block < W.heap.size)
    (hsz : (DataW.weightsEach Try.prog [26] ds).all (· ≤ reachBytes) = true) :
    Calls Try.prog 4 args W fun e W' => e = .returned (.bool true) ∧ Below W.heap.size W W' := by
  obtain ⟨v0,vs0,d0,ds0,p0,q0,hargs,rfl,rfl,h0,r0⟩ := trodAll_cons hA
  obtain ⟨rfl,rfl,rfl⟩ := trodAll_nil r0
  obtain rfl : args = #[v0] := by cases args; simp_all
  obtain ⟨f,C,cap,rfl,hC,hl9⟩ := open_func h0 (hval 0 26 v0 rfl rfl)
  exact ColorFine_any f C cap hl9 W hC

set_option maxRecDepth 100000 in
theorem colorFine_lifted (os : Os) (started : os.Started) (H : Type) (enc : TypeId × Value → H) :
    ReturnsInHanded {} Try.checked os 4 .any (Rows.colorFineSpec.pre6 enc Try.prog Try.f4 Rows.colorFineRow.domain false) (Rows.colorFineSpec.post enc Try.prog Try.f4 false true false false) := by
  refine law_lifted (C := Try.checked) (tb := 4) (by kernel_rfl) started (by kernel_rfl) Try.func4
    (ChangeSpec.witness6 (enc := enc) (C := Try.checked) false ⟨#[],#[.agg #[.string ⟨#[]⟩,.int .i64 0,.int .i64 0,.int .i64 0,.slice none 0 0]],[]⟩ 8 (by kernel_rfl) (by kernel_rfl) (by kernel_rfl) (by kernel_rfl))
    rfl rfl ub4 (by kernel_rfl) ?_ ?_ ?_
  · rw [Try.params4]
    intro t ht
    simp at ht
    subst ht
    all_goals exact ⟨by kernel_rfl,of_decide_eq_true (by kernel_rfl)⟩
  · intro ds hl
    rw [Try.params4] at hl
    match ds,hl with
    | [_],_ => exact ⟨rfl,rfl,rfl⟩
  · intro W base args ds p hval hA hlt hsz
    rw [Try.params4] at hA hval hsz
    exact colorFine_walk W base args ds p hval hA hlt hsz

theorem colorFine_over : Rows.colorFineRow.holds Try.pinned (OpenSpec.ofChange Rows.colorFineSpec) :=
  OpenClaim.holds_of_wide 4 Try.f4 rfl rfl rfl rfl rfl rfl rfl ⟨rfl,rfl,rfl,rfl,rfl⟩ rfl rfl rfl rfl rfl (by kernel_rfl) Try.func4 (by kernel_rfl)
    (of_decide_eq_true (by kernel_rfl)) (by unfold Func.isWrapper; first | (rw [if_pos (by decide +kernel)]; kernel_rfl) | (rw [if_neg (by decide +kernel)]; exact ⟨rfl,rfl⟩))
    (fun os started H enc _ => colorFine_lifted os started H enc)

/-- the given statement -/
theorem colorFine_proved : Rows.ColorFineSaid := colorFine_over
#print axioms colorFine_proved
end Go.Proofs.Ythbcdckonaljiaa
