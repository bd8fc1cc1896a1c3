/- PROVED: WordDoes (layer 01), its tied card: for every operation and every two ints the law returns true, and the arguments read afterwards as before. The variables that the card lists are tied to the text of the program. -/
import Derived.Test.YtpadbfjocecofaaDoorE
import Derived.Test.YtpadbfjocecofaaDoorTie
import Derived.Test.YtpadbfjocecofaaDoorCards
import Derived.Test.YtpadbfjocecofaaDoorO
import Derived.SevenTiedAt
namespace Go.Proofs.YtpadbfjocecofaaDoor
open Go.ChangeShapes Go.WideShapes Go.ChangeAt Go.RowKit

set_option maxRecDepth 100000 in
theorem wordDoes_walk {H : Type} {enc : TypeId × Value → H} (W : World) (base : Nat) (args : Array Value) (ds : List (DataW H)) (p : List MemPlace)
    (hval : ∀ (j : Nat) t v, (#[3, 3, 3] : Array TypeId)[j]? = some t → args[j]? = some v → Value.okWide Tryd.prog W .any base t v)
    (hA : DataW.TrodAll enc Tryd.prog W 0 (fun _ => true) true [3, 3, 3] args.toList ds p) (hL : laidMetH Tryd.prog laidL W) :
    Calls Tryd.prog 8 args W fun e W' => e = .returned (.bool true) ∧ Below W.heap.size W W' := by
  obtain ⟨v0, vs0, d0, ds0, p0, q0, hargs, rfl, rfl, h0, r0⟩ := trodAll_cons hA
  obtain ⟨v1, vs1, d1, ds1, p1, q1, rfl, rfl, rfl, h1, r1⟩ := trodAll_cons r0
  obtain ⟨v2, vs2, d2, ds2, p2, q2, rfl, rfl, rfl, h2, r2⟩ := trodAll_cons r1
  obtain ⟨rfl, rfl, rfl⟩ := trodAll_nil r2
  obtain rfl : args = #[v0, v1, v2] := by cases args; simp_all
  have hT := tab_of_laid hL
  obtain ⟨op, rfl, _, _, _⟩ := open_int ui3 (hval 0 3 v0 rfl rfl) h0
  obtain ⟨a, rfl, _, _, _⟩ := open_int ui3 (hval 1 3 v1 rfl rfl) h1
  obtain ⟨b, rfl, _, _, _⟩ := open_int ui3 (hval 2 3 v2 rfl rfl) h2
  exact does_any op a b W hT

set_option maxRecDepth 100000 in
theorem wordDoes_lifted (os : Os) (started : os.Started) (H : Type) (enc : TypeId × Value → H) :
    ReturnsInHanded {} Tryd.checked os 8 .any (fun w args => (Rows.wordDoesSpec.pre enc Tryd.prog Tryd.f8 [] false w args ∧ laidMetH Tryd.prog laidL w) ∧ sizedMet enc Tryd.prog Tryd.f8 (OpenSpec.ofChange Rows.wordDoesSpec) false w args) (Rows.wordDoesSpec.post enc Tryd.prog Tryd.f8 false true false false) := by
  refine law_lifted_laid (C := Tryd.checked) (tb := 4) (X := fun w => laidMetH Tryd.prog laidL w) (fun _ _ hh h => h.of_heap hh) ownT started (by kernel_rfl) Tryd.func8
    (ChangeSpec.witness_shaped (enc := enc) (C := Tryd.checked) (os := os) (X := fun w _ => laidMetH Tryd.prog laidL w) false (World.doorLaid Tryd.prog 33 os) #[.int .i64 0, .int .i64 0, .int .i64 0] 8 rfl (World.shaped_of_RefB (by kernel_rfl) (by kernel_rfl)) (by kernel_rfl) (by kernel_rfl) (by kernel_rfl) (door_met os _))
    rfl rfl ub4 laidT ?_ ?_ ?_
  · rw [Tryd.params8]
    intro t ht
    simp at ht
    subst ht
    all_goals exact ⟨by kernel_rfl, of_decide_eq_true (by kernel_rfl)⟩
  · intro ds hl
    rw [Tryd.params8] at hl
    match ds, hl with
    | [_, _, _], _ => exact ⟨rfl, rfl, rfl⟩
  · intro W base args ds p hval hA hlt hsz hL
    rw [Tryd.params8] at hA hval
    exact wordDoes_walk W base args ds p hval hA hL

theorem wordDoes_holds : Rows.WordDoesSaid :=
  OpenClaim.holds_of_wide 8 Tryd.f8 rfl rfl rfl rfl rfl rfl rfl ⟨rfl, rfl, rfl, rfl, rfl⟩ rfl rfl rfl rfl rfl (by kernel_rfl) Tryd.func8 (by kernel_rfl)
    (of_decide_eq_true (by kernel_rfl)) (by unfold Func.isWrapper; first | (rw [if_pos (by decide +kernel)]; kernel_rfl) | (rw [if_neg (by decide +kernel)]; exact ⟨rfl, rfl⟩))
    (fun os started H enc _ => wordDoes_lifted os started H enc)

/-- the given statement -/
theorem wordDoes_proved : Rows.WordDoesCardSaid :=
  Claim7.holds_tied_plain_at .later [] [.listed, .data] true (true, "c0e1f3a1f8a3a6d39e05ceb511b014fc67cc756a313824ef7c2bcf314ae14196") false
    wordDoes_holds (fun _ h => by cases h) (by kernel_rfl) (fun _ h => by cases h) wordDoes_row_tie rfl ⟨rfl, rfl⟩ (by kernel_rfl) rfl
    (fun f fn hf hfn => by
      obtain rfl : f = 8 := Option.some.inj ((show Tryd.prog.funcNamed "doppel/doppellaw01.WordDoes" = some 8 by kernel_rfl).symm.trans hf) |>.symm
      obtain rfl : fn = Tryd.f8 := (Option.some.inj (Tryd.func8.symm.trans hfn)).symm
      exact ⟨by kernel_rfl, fun j t ht => by
        rw [Tryd.params8] at ht
        have hm : t ∈ [3, 3, 3] := by simpa using Array.mem_of_getElem? ht
        have hall : ([3, 3, 3].all fun u => !Tryd.prog.wantsStandIn u) = true := by kernel_rfl
        exact (show Tryd.prog.wantsStandIn t = false by simpa using List.all_eq_true.1 hall t hm)⟩)
    (by kernel_rfl)
#print axioms wordDoes_proved
end Go.Proofs.YtpadbfjocecofaaDoor
