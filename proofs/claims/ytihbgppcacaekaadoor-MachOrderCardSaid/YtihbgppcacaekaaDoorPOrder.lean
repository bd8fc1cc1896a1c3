/- PROVED: MachOrder (layer 15), its tied card: for every image, byte, input and fuel the law returns true, and the arguments read afterwards as before. The variables that the card lists are tied to the text of the program. -/
import Derived.Test.YtihbgppcacaekaaDoorSb
import Derived.Test.YtihbgppcacaekaaDoorTie
import Derived.Test.YtihbgppcacaekaaDoorCards
import Derived.Test.YtihbgppcacaekaaDoorRi
import Derived.Test.YtihbgppcacaekaaDoorRo
import Derived.SevenTiedAt
namespace Go.Proofs.YtihbgppcacaekaaDoor
open Go.ChangeShapes Go.WideShapes Go.ChangeAt Go.RowKit

theorem u8_nat {n : Int} (h : (Lit.int .u8 n).wf = true) : ∃ m : Nat, n = (m : Int) ∧ m ≤ 255 := by
  have h1 : IntKind.u8.min ≤ n ∧ n ≤ IntKind.u8.max := by simpa [Lit.wf] using h
  have e0 : IntKind.u8.min = 0 := by decide
  have e1 : IntKind.u8.max = 255 := by decide
  rw [e0, e1] at h1
  exact ⟨n.toNat, by omega, by omega⟩
set_option maxRecDepth 100000 in
theorem machOrder_walk {H : Type} {enc : TypeId × Value → H} (W : World) (base : Nat) (args : Array Value) (ds : List (DataW H)) (p : List MemPlace)
    (hval : ∀ (j : Nat) t v, (#[25, 5, 26, 3] : Array TypeId)[j]? = some t → args[j]? = some v → Value.okWide Tryd.prog W .any base t v)
    (hA : DataW.TrodAll enc Tryd.prog W 0 (fun _ => true) true [25, 5, 26, 3] args.toList ds p) (hL : laidMetH Tryd.prog laidL W) (hsh : W.ShapedOpen Tryd.prog) :
    Calls Tryd.prog 7 args W fun e W' => e = .returned (.bool true) ∧ Below W.heap.size W W' := by
  obtain ⟨v0, vs0, d0, ds0, p0, q0, hargs, rfl, rfl, h0, r0⟩ := trodAll_cons hA
  obtain ⟨v1, vs1, d1, ds1, p1, q1, rfl, rfl, rfl, h1, r1⟩ := trodAll_cons r0
  obtain ⟨v2, vs2, d2, ds2, p2, q2, rfl, rfl, rfl, h2, r2⟩ := trodAll_cons r1
  obtain ⟨v3, vs3, d3, ds3, p3, q3, rfl, rfl, rfl, h3, r3⟩ := trodAll_cons r2
  obtain ⟨rfl, rfl, rfl⟩ := trodAll_nil r3
  obtain rfl : args = #[v0, v1, v2, v3] := by cases args; simp_all
  have hT := tabs_of_laid hL hsh
  obtain ⟨u, F, G, cF, cG, rfl, hU, _, _, _, htop, hlc⟩ := open_image h0 (hval 0 25 v0 rfl rfl)
  obtain ⟨a0, rfl, _, _, hx⟩ := open_int u5 (hval 1 5 v1 rfl rfl) h1
  obtain ⟨a, rfl, ha⟩ := u8_nat hx
  obtain ⟨A, l, cap, rfl, hR, hic, _, hby⟩ := open_bytes h2 (hval 2 26 v2 rfl rfl)
  obtain ⟨x, rfl, _, _, _⟩ := open_int ui3 (hval 3 3 v3 rfl rfl) h3
  exact machOrder_any u F G cF cG a ha A cap l x W hT hU hR hic hby htop hlc

set_option maxRecDepth 100000 in
theorem machOrder_lifted (os : Os) (started : os.Started) (H : Type) (enc : TypeId × Value → H) :
    ReturnsInHanded {} Tryd.checked os 7 .any (fun w args => (Rows.machOrderSpec.pre enc Tryd.prog Tryd.f7 [] false w args ∧ laidMetH Tryd.prog laidL w) ∧ sizedMet enc Tryd.prog Tryd.f7 (OpenSpec.ofChange Rows.machOrderSpec) false w args) (Rows.machOrderSpec.post enc Tryd.prog Tryd.f7 false true false false) := by
  refine law_lifted_laid (C := Tryd.checked) (tb := 4) (X := fun w => laidMetH Tryd.prog laidL w) (fun _ _ hh h => h.of_heap hh) ownT started (by kernel_rfl) Tryd.func7
    (ChangeSpec.witness_shaped (enc := enc) (C := Tryd.checked) (os := os) (X := fun w _ => laidMetH Tryd.prog laidL w) false (World.laidAll Tryd.prog os laidL) #[.agg #[.slice none 0 0, .slice none 0 0, .int .i64 0], .int .u8 0, .slice none 0 0, .int .i64 0] 8 (World.laidAll_os _ _ _) (door_shaped os) (by kernel_rfl) (by kernel_rfl) (by kernel_rfl) (door_met os _))
    rfl rfl ub4 laidT ?_ ?_ ?_
  · rw [Tryd.params7]
    intro t ht
    simp at ht
    rcases ht with rfl | rfl | rfl | rfl
    all_goals exact ⟨by kernel_rfl, of_decide_eq_true (by kernel_rfl)⟩
  · intro ds hl
    rw [Tryd.params7] at hl
    match ds, hl with
    | [_, _, _, _], _ => exact ⟨rfl, rfl, rfl⟩
  · intro W base args ds p hval hA hlt hsz hL hsh
    rw [Tryd.params7] at hA hval
    exact machOrder_walk W base args ds p hval hA hL hsh

theorem machOrder_holds : Rows.MachOrderSaid :=
  OpenClaim.holds_of_wide 7 Tryd.f7 rfl rfl rfl rfl rfl rfl rfl ⟨rfl, rfl, rfl, rfl, rfl⟩ rfl rfl rfl rfl rfl (by kernel_rfl) Tryd.func7 (by kernel_rfl)
    (of_decide_eq_true (by kernel_rfl)) (by unfold Func.isWrapper; first | (rw [if_pos (by decide +kernel)]; kernel_rfl) | (rw [if_neg (by decide +kernel)]; exact ⟨rfl, rfl⟩))
    (fun os started H enc _ => machOrder_lifted os started H enc)

/-- the given statement -/
theorem machOrder_proved : Rows.MachOrderCardSaid :=
  Claim7.holds_tied_plain_at .later [] [.data, .data, .data, .data, .sentinel, .sentinel, .listed, .data, .pinned] true (true, "5643ab3686f1fdd7f264256fef9388db55840226781d26ee8cd77f9d9e0bc788") true
    machOrder_holds (fun _ h => by cases h) (by kernel_rfl) (fun _ h => by cases h) machOrder_row_tie rfl ⟨rfl, rfl⟩ (by kernel_rfl) rfl
    (fun f fn hf hfn => by
      obtain rfl : f = 7 := Option.some.inj ((show Tryd.prog.funcNamed "doppel/doppellaw15.MachOrder" = some 7 by kernel_rfl).symm.trans hf) |>.symm
      obtain rfl : fn = Tryd.f7 := (Option.some.inj (Tryd.func7.symm.trans hfn)).symm
      exact ⟨by kernel_rfl, fun j t ht => by
        rw [Tryd.params7] at ht
        have hm : t ∈ [25, 5, 26, 3] := by simpa using Array.mem_of_getElem? ht
        have hall : ([25, 5, 26, 3].all fun u => !Tryd.prog.wantsStandIn u) = true := by kernel_rfl
        exact (show Tryd.prog.wantsStandIn t = false by simpa using List.all_eq_true.1 hall t hm)⟩)
    (by kernel_rfl)
#print axioms machOrder_proved
end Go.Proofs.YtihbgppcacaekaaDoor
