/- PROVED: TypesNobody (layer 03), its tied card: for every number and every string the law returns true, and the arguments read afterwards as before. The variables that the card lists are tied to the text of the program. -/
import Derived.Test.YtdoeinccnfggiaaDoorZ
import Derived.Test.YtdoeinccnfggiaaDoorTie
import Derived.Test.YtdoeinccnfggiaaDoorCards
import Derived.Test.YtdoeinccnfggiaaDoorY
import Derived.SevenTiedAt
namespace Go.Proofs.YtdoeinccnfggiaaDoor
open Go.ChangeShapes Go.WideShapes Go.ChangeAt Go.RowKit

set_option maxRecDepth 100000 in
theorem typesNobody_walk {H : Type} {enc : TypeId × Value → H} (W : World) (base : Nat) (args : Array Value) (ds : List (DataW H)) (p : List MemPlace)
    (hval : ∀ (j : Nat) t v, (#[3, 9] : Array TypeId)[j]? = some t → args[j]? = some v → Value.okWide Tryd.prog W .any base t v)
    (hA : DataW.TrodAll enc Tryd.prog W 0 (fun _ => true) true [3, 9] args.toList ds p) (hL : laidMetH Tryd.prog laidL W) :
    Calls Tryd.prog 7 args W fun e W' => e = .returned (.bool true) ∧ Below W.heap.size W W' := by
  obtain ⟨v0, vs0, d0, ds0, p0, q0, hargs, rfl, rfl, h0, r0⟩ := trodAll_cons hA
  obtain ⟨v1, vs1, d1, ds1, p1, q1, rfl, rfl, rfl, h1, r1⟩ := trodAll_cons r0
  obtain ⟨rfl, rfl, rfl⟩ := trodAll_nil r1
  obtain rfl : args = #[v0, v1] := by cases args; simp_all
  have hT := tab_of_laid hL
  obtain ⟨n, rfl, _, _, _⟩ := open_int ui3 (hval 0 3 v0 rfl rfl) h0
  obtain ⟨s, rfl, _, _, _⟩ := Go.ChangeMaps.open_string us9 (hval 1 9 v1 rfl rfl) h1
  exact nobody_any n s W hT

set_option maxRecDepth 100000 in
theorem typesNobody_lifted (os : Os) (started : os.Started) (H : Type) (enc : TypeId × Value → H) :
    ReturnsInHanded {} Tryd.checked os 7 .any (fun w args => (Rows.typesNobodySpec.pre enc Tryd.prog Tryd.f7 [] false w args ∧ laidMetH Tryd.prog laidL w) ∧ sizedMet enc Tryd.prog Tryd.f7 (OpenSpec.ofChange Rows.typesNobodySpec) false w args) (Rows.typesNobodySpec.post enc Tryd.prog Tryd.f7 false true false false) := by
  refine law_lifted_laid (C := Tryd.checked) (tb := 4) (X := fun w => laidMetH Tryd.prog laidL w) (fun _ _ hh h => h.of_heap hh) ownT started (by kernel_rfl) Tryd.func7
    (ChangeSpec.witness_shaped (enc := enc) (C := Tryd.checked) (os := os) (X := fun w _ => laidMetH Tryd.prog laidL w) false (World.doorLaid Tryd.prog 24 os) #[.int .i64 0, .string ⟨#[]⟩] 8 rfl (World.shaped_of_RefB (by kernel_rfl) (by kernel_rfl)) (by kernel_rfl) (by kernel_rfl) (by kernel_rfl) (door_met os _))
    rfl rfl ub4 laidT ?_ ?_ ?_
  · rw [Tryd.params7]
    intro t ht
    simp at ht
    rcases ht with rfl | rfl
    all_goals exact ⟨by kernel_rfl, of_decide_eq_true (by kernel_rfl)⟩
  · intro ds hl
    rw [Tryd.params7] at hl
    match ds, hl with
    | [_, _], _ => exact ⟨rfl, rfl, rfl⟩
  · intro W base args ds p hval hA hlt hsz hL
    rw [Tryd.params7] at hA hval
    exact typesNobody_walk W base args ds p hval hA hL

theorem typesNobody_holds : Rows.TypesNobodySaid :=
  OpenClaim.holds_of_wide 7 Tryd.f7 rfl rfl rfl rfl rfl rfl rfl ⟨rfl, rfl, rfl, rfl, rfl⟩ rfl rfl rfl rfl rfl (by kernel_rfl) Tryd.func7 (by kernel_rfl)
    (of_decide_eq_true (by kernel_rfl)) (by unfold Func.isWrapper; first | (rw [if_pos (by decide +kernel)]; kernel_rfl) | (rw [if_neg (by decide +kernel)]; exact ⟨rfl, rfl⟩))
    (fun os started H enc _ => typesNobody_lifted os started H enc)

/-- the given statement -/
theorem typesNobody_proved : Rows.TypesNobodyCardSaid :=
  Claim7.holds_tied_plain_at .later [] [.data, .data, .data] true (true, "5cfcebb772ae8f941338a65bbadff338a8379b74d9f4e24b592f696d82b5afba") false
    typesNobody_holds (fun _ h => by cases h) (by kernel_rfl) (fun _ h => by cases h) typesNobody_row_tie rfl ⟨rfl, rfl⟩ (by kernel_rfl) rfl
    (fun f fn hf hfn => by
      obtain rfl : f = 7 := Option.some.inj ((show Tryd.prog.funcNamed "doppel/doppellaw03.TypesNobody" = some 7 by kernel_rfl).symm.trans hf) |>.symm
      obtain rfl : fn = Tryd.f7 := (Option.some.inj (Tryd.func7.symm.trans hfn)).symm
      exact ⟨by kernel_rfl, fun j t ht => by
        rw [Tryd.params7] at ht
        have hm : t ∈ [3, 9] := by simpa using Array.mem_of_getElem? ht
        have hall : ([3, 9].all fun u => !Tryd.prog.wantsStandIn u) = true := by kernel_rfl
        exact (show Tryd.prog.wantsStandIn t = false by simpa using List.all_eq_true.1 hall t hm)⟩)
    (by kernel_rfl)
#print axioms typesNobody_proved
end Go.Proofs.YtdoeinccnfggiaaDoor
