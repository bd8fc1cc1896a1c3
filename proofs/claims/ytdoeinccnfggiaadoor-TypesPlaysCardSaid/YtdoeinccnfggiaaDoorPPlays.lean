/- PROVED: TypesPlays (layer 03), its tied card: for every slice of steps, every number and every name the law returns true, and the arguments read afterwards as before. The variables that the card lists are tied to the text of the program. -/
import Derived.Test.YtdoeinccnfggiaaDoorZ
import Derived.Test.YtdoeinccnfggiaaDoorTie
import Derived.Test.YtdoeinccnfggiaaDoorCards
import Derived.Test.YtdoeinccnfggiaaDoorOn
import Derived.Test.YtdoeinccnfggiaaDoorPg
import Derived.SevenTiedAt
namespace Go.Proofs.YtdoeinccnfggiaaDoor
open Go.ChangeShapes Go.WideShapes Go.ChangeAt Go.RowKit

set_option maxRecDepth 100000 in
theorem typesPlays_walk {H : Type} {enc : TypeId × Value → H} (W : World) (base : Nat) (args : Array Value) (ds : List (DataW H)) (p : List MemPlace)
    (hval : ∀ (j : Nat) t v, (#[39, 3, 9] : Array TypeId)[j]? = some t → args[j]? = some v → Value.okWide Tryd.prog W .any base t v)
    (hA : DataW.TrodAll enc Tryd.prog W 0 (fun _ => true) true [39, 3, 9] args.toList ds p) (hL : laidMetH Tryd.prog laidL W) :
    Calls Tryd.prog 6 args W fun e W' => e = .returned (.bool true) ∧ Below W.heap.size W W' := by
  obtain ⟨v0, vs0, d0, ds0, p0, q0, hargs, rfl, rfl, h0, r0⟩ := trodAll_cons hA
  obtain ⟨v1, vs1, d1, ds1, p1, q1, rfl, rfl, rfl, h1, r1⟩ := trodAll_cons r0
  obtain ⟨v2, vs2, d2, ds2, p2, q2, rfl, rfl, rfl, h2, r2⟩ := trodAll_cons r1
  obtain ⟨rfl, rfl, rfl⟩ := trodAll_nil r2
  obtain rfl : args = #[v0, v1, v2] := by cases args; simp_all
  have hT := tab_of_laid hL
  obtain ⟨A, l, cap, rfl, hR, hl⟩ := open_stps h0 (okWide_slice (show Tryd.prog.underlying 39 = some (.slice 48) by kernel_rfl) (hval 0 39 v0 rfl rfl))
  obtain ⟨n, rfl, _, _, _⟩ := open_int ui3 (hval 1 3 v1 rfl rfl) h1
  obtain ⟨s, rfl, _, _, _⟩ := Go.ChangeMaps.open_string us9 (hval 2 9 v2 rfl rfl) h2
  exact plays_any hR hl hT n s

set_option maxRecDepth 100000 in
theorem typesPlays_lifted (os : Os) (started : os.Started) (H : Type) (enc : TypeId × Value → H) :
    ReturnsInHanded {} Tryd.checked os 6 .any (fun w args => (Rows.typesPlaysSpec.pre enc Tryd.prog Tryd.f6 [] false w args ∧ laidMetH Tryd.prog laidL w) ∧ sizedMet enc Tryd.prog Tryd.f6 (OpenSpec.ofChange Rows.typesPlaysSpec) false w args) (Rows.typesPlaysSpec.post enc Tryd.prog Tryd.f6 false true false false) := by
  refine law_lifted_laid (C := Tryd.checked) (tb := 4) (X := fun w => laidMetH Tryd.prog laidL w) (fun _ _ hh h => h.of_heap hh) ownT started (by kernel_rfl) Tryd.func6
    (ChangeSpec.witness_shaped (enc := enc) (C := Tryd.checked) (os := os) (X := fun w _ => laidMetH Tryd.prog laidL w) false (World.doorLaid Tryd.prog 24 os) #[.slice none 0 0, .int .i64 0, .string ⟨#[]⟩] 8 rfl (World.shaped_of_RefB (by kernel_rfl) (by kernel_rfl)) (by kernel_rfl) (by kernel_rfl) (by kernel_rfl) (door_met os _))
    rfl rfl ub4 laidT ?_ ?_ ?_
  · rw [Tryd.params6]
    intro t ht
    simp at ht
    rcases ht with rfl | rfl | rfl
    all_goals exact ⟨by kernel_rfl, of_decide_eq_true (by kernel_rfl)⟩
  · intro ds hl
    rw [Tryd.params6] at hl
    match ds, hl with
    | [_, _, _], _ => exact ⟨rfl, rfl, rfl⟩
  · intro W base args ds p hval hA hlt hsz hL
    rw [Tryd.params6] at hA hval
    exact typesPlays_walk W base args ds p hval hA hL

theorem typesPlays_holds : Rows.TypesPlaysSaid :=
  OpenClaim.holds_of_wide 6 Tryd.f6 rfl rfl rfl rfl rfl rfl rfl ⟨rfl, rfl, rfl, rfl, rfl⟩ rfl rfl rfl rfl rfl (by kernel_rfl) Tryd.func6 (by kernel_rfl)
    (of_decide_eq_true (by kernel_rfl)) (by unfold Func.isWrapper; first | (rw [if_pos (by decide +kernel)]; kernel_rfl) | (rw [if_neg (by decide +kernel)]; exact ⟨rfl, rfl⟩))
    (fun os started H enc _ => typesPlays_lifted os started H enc)

/-- the given statement -/
theorem typesPlays_proved : Rows.TypesPlaysCardSaid :=
  Claim7.holds_tied_plain_at .later [] [.data, .data, .data] true (true, "5cfcebb772ae8f941338a65bbadff338a8379b74d9f4e24b592f696d82b5afba") false
    typesPlays_holds (fun _ h => by cases h) (by kernel_rfl) (fun _ h => by cases h) typesPlays_row_tie rfl ⟨rfl, rfl⟩ (by kernel_rfl) rfl
    (fun f fn hf hfn => by
      obtain rfl : f = 6 := Option.some.inj ((show Tryd.prog.funcNamed "doppel/doppellaw03.TypesPlays" = some 6 by kernel_rfl).symm.trans hf) |>.symm
      obtain rfl : fn = Tryd.f6 := (Option.some.inj (Tryd.func6.symm.trans hfn)).symm
      exact ⟨by kernel_rfl, fun j t ht => by
        rw [Tryd.params6] at ht
        have hm : t ∈ [39, 3, 9] := by simpa using Array.mem_of_getElem? ht
        have hall : ([39, 3, 9].all fun u => !Tryd.prog.wantsStandIn u) = true := by kernel_rfl
        exact (show Tryd.prog.wantsStandIn t = false by simpa using List.all_eq_true.1 hall t hm)⟩)
    (by kernel_rfl)
#print axioms typesPlays_proved
end Go.Proofs.YtdoeinccnfggiaaDoor
