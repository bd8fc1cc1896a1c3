/- PROVED: MachPrints (layer 15), its tied card: for every object the law returns true, and the arguments read afterwards as before. The variables that the card lists are tied to the text of the program. -/
import Derived.Test.YtihbgppcacaekaaDoorSb
import Derived.Test.YtihbgppcacaekaaDoorTie
import Derived.Test.YtihbgppcacaekaaDoorCards
import Derived.Test.YtihbgppcacaekaaDoorRi
import Derived.Test.YtihbgppcacaekaaDoorTc
import Derived.SevenTiedAt
namespace Go.Proofs.YtihbgppcacaekaaDoor
open Go.ChangeShapes Go.WideShapes Go.ChangeAt Go.RowKit

set_option maxRecDepth 100000 in
theorem machPrints_walk {H : Type} {enc : TypeId × Value → H} (W : World) (base : Nat) (args : Array Value) (ds : List (DataW H)) (p : List MemPlace)
    (hval : ∀ (j : Nat) t v, (#[39] : Array TypeId)[j]? = some t → args[j]? = some v → Value.okWide Tryd.prog W .any base t v)
    (hA : DataW.TrodAll enc Tryd.prog W 0 (fun _ => true) true [39] args.toList ds p) (hL : laidMetH Tryd.prog laidL W) (hsh : W.ShapedOpen Tryd.prog) :
    Calls Tryd.prog 9 args W fun e W' => e = .returned (.bool true) ∧ Below W.heap.size W W' := by
  obtain ⟨v0, vs0, d0, ds0, p0, q0, hargs, rfl, rfl, h0, r0⟩ := trodAll_cons hA
  obtain ⟨rfl, rfl, rfl⟩ := trodAll_nil r0
  obtain rfl : args = #[v0] := by cases args; simp_all
  have hT := tabs_of_laid hL hsh
  obtain ⟨o, C, cap, rfl, hR, hl⟩ := open_object h0 (hval 0 39 v0 rfl rfl)
  exact machPrints_any o C cap W hT hR hl

set_option maxRecDepth 100000 in
theorem machPrints_lifted (os : Os) (started : os.Started) (H : Type) (enc : TypeId × Value → H) :
    ReturnsInHanded {} Tryd.checked os 9 .any (fun w args => (Rows.machPrintsSpec.pre enc Tryd.prog Tryd.f9 [] false w args ∧ laidMetH Tryd.prog laidL w) ∧ sizedMet enc Tryd.prog Tryd.f9 (OpenSpec.ofChange Rows.machPrintsSpec) false w args) (Rows.machPrintsSpec.post enc Tryd.prog Tryd.f9 false true false false) := by
  refine law_lifted_laid (C := Tryd.checked) (tb := 4) (X := fun w => laidMetH Tryd.prog laidL w) (fun _ _ hh h => h.of_heap hh) ownT started (by kernel_rfl) Tryd.func9
    (ChangeSpec.witness_shaped (enc := enc) (C := Tryd.checked) (os := os) (X := fun w _ => laidMetH Tryd.prog laidL w) false (World.laidAll Tryd.prog os laidL) #[.agg #[.string ⟨#[]⟩, .int .i64 0, .int .i64 0, .slice none 0 0]] 8 (World.laidAll_os _ _ _) (door_shaped os) (by kernel_rfl) (by kernel_rfl) (by kernel_rfl) (door_met os _))
    rfl rfl ub4 laidT ?_ ?_ ?_
  · rw [Tryd.params9]
    intro t ht
    simp at ht
    subst ht
    all_goals exact ⟨by kernel_rfl, of_decide_eq_true (by kernel_rfl)⟩
  · intro ds hl
    rw [Tryd.params9] at hl
    match ds, hl with
    | [_], _ => exact ⟨rfl, rfl, rfl⟩
  · intro W base args ds p hval hA hlt hsz hL hsh
    rw [Tryd.params9] at hA hval
    exact machPrints_walk W base args ds p hval hA hL hsh

theorem machPrints_holds : Rows.MachPrintsSaid :=
  OpenClaim.holds_of_wide 9 Tryd.f9 rfl rfl rfl rfl rfl rfl rfl ⟨rfl, rfl, rfl, rfl, rfl⟩ rfl rfl rfl rfl rfl (by kernel_rfl) Tryd.func9 (by kernel_rfl)
    (of_decide_eq_true (by kernel_rfl)) (by unfold Func.isWrapper; first | (rw [if_pos (by decide +kernel)]; kernel_rfl) | (rw [if_neg (by decide +kernel)]; exact ⟨rfl, rfl⟩))
    (fun os started H enc _ => machPrints_lifted os started H enc)

/-- the given statement -/
theorem machPrints_proved : Rows.MachPrintsCardSaid :=
  Claim7.holds_tied_plain_at .later [] [.data, .data, .data, .data, .sentinel, .sentinel, .listed, .data, .pinned] true (true, "5643ab3686f1fdd7f264256fef9388db55840226781d26ee8cd77f9d9e0bc788") true
    machPrints_holds (fun _ h => by cases h) (by kernel_rfl) (fun _ h => by cases h) machPrints_row_tie rfl ⟨rfl, rfl⟩ (by kernel_rfl) rfl
    (fun f fn hf hfn => by
      obtain rfl : f = 9 := Option.some.inj ((show Tryd.prog.funcNamed "doppel/doppellaw15.MachPrints" = some 9 by kernel_rfl).symm.trans hf) |>.symm
      obtain rfl : fn = Tryd.f9 := (Option.some.inj (Tryd.func9.symm.trans hfn)).symm
      exact ⟨by kernel_rfl, fun j t ht => by
        rw [Tryd.params9] at ht
        have hm : t ∈ [39] := by simpa using Array.mem_of_getElem? ht
        have hall : ([39].all fun u => !Tryd.prog.wantsStandIn u) = true := by kernel_rfl
        exact (show Tryd.prog.wantsStandIn t = false by simpa using List.all_eq_true.1 hall t hm)⟩)
    (by kernel_rfl)
#print axioms machPrints_proved
end Go.Proofs.YtihbgppcacaekaaDoor
