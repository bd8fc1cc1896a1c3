/- PROVED: TypesPointers (layer 03), its tied card: for every two bytes the law returns true, and the arguments read afterwards as before. The variables that the card lists are tied to the text of the program. -/
import Derived.Test.YtdoeinccnfggiaaDoorZ
import Derived.Test.YtdoeinccnfggiaaDoorTie
import Derived.Test.YtdoeinccnfggiaaDoorCards
import Derived.Test.YtdoeinccnfggiaaDoorPw
import Derived.SevenTiedAt
namespace Go.Proofs.YtdoeinccnfggiaaDoor
open Go.ChangeShapes Go.WideShapes Go.ChangeAt Go.RowKit

set_option maxRecDepth 100000 in
theorem typesPointers_walk {H : Type} {enc : TypeId × Value → H} (W : World) (base : Nat) (args : Array Value) (ds : List (DataW H)) (p : List MemPlace)
    (hval : ∀ (j : Nat) t v, (#[5, 5] : Array TypeId)[j]? = some t → args[j]? = some v → Value.okWide Tryd.prog W .any base t v)
    (hA : DataW.TrodAll enc Tryd.prog W 0 (fun _ => true) true [5, 5] args.toList ds p) (hL : laidMetH Tryd.prog laidL W) :
    Calls Tryd.prog 5 args W fun e W' => e = .returned (.bool true) ∧ Below W.heap.size W W' := by
  obtain ⟨v0, vs0, d0, ds0, p0, q0, hargs, rfl, rfl, h0, r0⟩ := trodAll_cons hA
  obtain ⟨v1, vs1, d1, ds1, p1, q1, rfl, rfl, rfl, h1, r1⟩ := trodAll_cons r0
  obtain ⟨rfl, rfl, rfl⟩ := trodAll_nil r1
  obtain rfl : args = #[v0, v1] := by cases args; simp_all
  have hT := tab_of_laid hL
  obtain ⟨a0, rfl, _, _, hx⟩ := open_int u8t5 (hval 0 5 v0 rfl rfl) h0
  obtain ⟨a, rfl, ha⟩ := u8_nat hx
  obtain ⟨b0, rfl, _, _, hy⟩ := open_int u8t5 (hval 1 5 v1 rfl rfl) h1
  obtain ⟨b, rfl, hb⟩ := u8_nat hy
  exact pointers_any a b ha hb W hT

set_option maxRecDepth 100000 in
theorem typesPointers_lifted (os : Os) (started : os.Started) (H : Type) (enc : TypeId × Value → H) :
    ReturnsInHanded {} Tryd.checked os 5 .any (fun w args => (Rows.typesPointersSpec.pre enc Tryd.prog Tryd.f5 [] false w args ∧ laidMetH Tryd.prog laidL w) ∧ sizedMet enc Tryd.prog Tryd.f5 (OpenSpec.ofChange Rows.typesPointersSpec) false w args) (Rows.typesPointersSpec.post enc Tryd.prog Tryd.f5 false true false false) := by
  refine law_lifted_laid (C := Tryd.checked) (tb := 4) (X := fun w => laidMetH Tryd.prog laidL w) (fun _ _ hh h => h.of_heap hh) ownT started (by kernel_rfl) Tryd.func5
    (ChangeSpec.witness_shaped (enc := enc) (C := Tryd.checked) (os := os) (X := fun w _ => laidMetH Tryd.prog laidL w) false (World.doorLaid Tryd.prog 24 os) #[.int .u8 0, .int .u8 0] 8 rfl (World.shaped_of_RefB (by kernel_rfl) (by kernel_rfl)) (by kernel_rfl) (by kernel_rfl) (by kernel_rfl) (door_met os _))
    rfl rfl ub4 laidT ?_ ?_ ?_
  · rw [Tryd.params5]
    intro t ht
    simp at ht
    subst ht
    all_goals exact ⟨by kernel_rfl, of_decide_eq_true (by kernel_rfl)⟩
  · intro ds hl
    rw [Tryd.params5] at hl
    match ds, hl with
    | [_, _], _ => exact ⟨rfl, rfl, rfl⟩
  · intro W base args ds p hval hA hlt hsz hL
    rw [Tryd.params5] at hA hval
    exact typesPointers_walk W base args ds p hval hA hL

theorem typesPointers_holds : Rows.TypesPointersSaid :=
  OpenClaim.holds_of_wide 5 Tryd.f5 rfl rfl rfl rfl rfl rfl rfl ⟨rfl, rfl, rfl, rfl, rfl⟩ rfl rfl rfl rfl rfl (by kernel_rfl) Tryd.func5 (by kernel_rfl)
    (of_decide_eq_true (by kernel_rfl)) (by unfold Func.isWrapper; first | (rw [if_pos (by decide +kernel)]; kernel_rfl) | (rw [if_neg (by decide +kernel)]; exact ⟨rfl, rfl⟩))
    (fun os started H enc _ => typesPointers_lifted os started H enc)

/-- the given statement -/
theorem typesPointers_proved : Rows.TypesPointersCardSaid :=
  Claim7.holds_tied_plain_at .later [] [.data, .data, .data] true (true, "5cfcebb772ae8f941338a65bbadff338a8379b74d9f4e24b592f696d82b5afba") false
    typesPointers_holds (fun _ h => by cases h) (by kernel_rfl) (fun _ h => by cases h) typesPointers_row_tie rfl ⟨rfl, rfl⟩ (by kernel_rfl) rfl
    (fun f fn hf hfn => by
      obtain rfl : f = 5 := Option.some.inj ((show Tryd.prog.funcNamed "doppel/doppellaw03.TypesPointers" = some 5 by kernel_rfl).symm.trans hf) |>.symm
      obtain rfl : fn = Tryd.f5 := (Option.some.inj (Tryd.func5.symm.trans hfn)).symm
      exact ⟨by kernel_rfl, fun j t ht => by
        rw [Tryd.params5] at ht
        have hm : t ∈ [5, 5] := by simpa using Array.mem_of_getElem? ht
        have hall : ([5, 5].all fun u => !Tryd.prog.wantsStandIn u) = true := by kernel_rfl
        exact (show Tryd.prog.wantsStandIn t = false by simpa using List.all_eq_true.1 hall t hm)⟩)
    (by kernel_rfl)
#print axioms typesPointers_proved
end Go.Proofs.YtdoeinccnfggiaaDoor
