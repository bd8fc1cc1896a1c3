import Derived.Test.YtgdbkoncaojmoaaEf
/- The document's Order. -/
namespace Go.Proofs.Ytgdbkoncaojmoaa
open Go.RowKit Go.BigFrame

set_option maxRecDepth 1000000 in
set_option maxHeartbeats 16000000 in
theorem rOrder_any (f : Fn7) (hf : OkF f) (C : Option Addr) (cap : Nat) (w : World) (hC : RdI w C f.code) :
    Calls Try.prog 16 #[funcAgg f.nm f.ps f.R f.Fr C f.code.length cap] w fun e w' => (∃ O A c, OrdIs f O ∧ e = .returned (.slice A O.length c) ∧ RdN w' A (asI O)) ∧ Below w.heap.size w w' := by
  have hB := Below.one w (funcObj f.nm f.ps f.R f.Fr C f.code.length cap)
  have bx := heap_alloc_new w (funcObj f.nm f.ps f.R f.Fr C f.code.length cap)
  have hC1 := hC.below hB
  obtain ⟨N, hN⟩ : ∃ N, f.code.length = N := ⟨_, rfl⟩
  have hN2 : N ≤ 8192 := by rw [← hN]; exact hf.len.2
  have hN0 : 0 < N := by rw [← hN]; exact hf.len.1
  have HNX : Hid (∀ p, ∀ q ∈ nxN f.code p, q < N) := Lib.hid fun p q hq => by rw [← hN]; exact Eg.lt hf hq
  rw [hN] at hB bx hC1 ⊢
  simp only [funcObj, funcAgg] at hB bx hC1 ⊢
  obtain ⟨W, hW⟩ : ∃ W, w.alloc (.cells #[.string f.nm, .int .i64 f.ps, .int .i64 f.R, .int .i64 f.Fr, .slice C N cap] 24) = W := ⟨_, rfl⟩
  rw [hW] at bx hC1 hB
  have g0 := cell_of_heap bx 0 _ rfl
  have g1 := cell_of_heap bx 1 _ rfl
  have g2 := cell_of_heap bx 2 _ rfl
  have g3 := cell_of_heap bx 3 _ rfl
  have g4 := cell_of_heap bx 4 _ rfl
  have hBl := (Array.getElem?_eq_some_iff.1 bx).1
  have HP : Hid (LvP N [] []) := Lib.hid ⟨List.nodup_nil, (fun x hx => by cases hx), List.nodup_nil, fun x hx => by cases hx⟩
  have HR : Hid (Calls Try.prog 35 #[.agg #[.string f.nm, .int .i64 f.ps, .int .i64 f.R, .int .i64 f.Fr, .slice C N cap], .int .i64 0, .slice none 0 0, .slice none 0 0] W fun e w' => LvT (nxN f.code) 0 [] [] e w' ∧ Below W.heap.size W w') :=
    Lib.hid (leave_any f hf C cap N hN N 0 [] [] none 0 none 0 W hN0 (by simp) HP.out (by simp) hC1 (fun j x hx => by simp at hx) (fun j x hx => by simp at hx))
  have HB := Lib.hid hB
  clear hf hN hC hC1 bx hB
  go_enter Try.func16, Try.ntmps16
  go_wp2_with (first
    | (refine HR.out.mono ?_; rintro e w3 ⟨⟨S1, L1, A1, c1, A2, c2, hls, rfl, hr1, hr2⟩, hb3⟩; have HLS := Lib.hid hls; have HR2 := Lib.hid hr2; have HB3 := Lib.hid hb3; have hL1 : L1.length ≤ N := ((HP.out.add hN0 (by simp)).walk HNX.out (HNX.out 0) hls).1.len.2; clear hls hr1 hr2 hb3 HR))
  clear hW g0 g1 g2 g3 g4
  obtain ⟨M, hM⟩ : ∃ M, L1.length + 1 = M := ⟨_, rfl⟩
  obtain ⟨X, hX⟩ : ∃ X, L1 ++ [0] = X := ⟨_, rfl⟩
  have hXM : X.length = M := by rw [← hX, ← hM, List.length_append]; rfl
  rw [hX] at HR2
  try rw [hM]
  have hM2 : M ≤ 8193 := by omega
  have HX := Lib.hid hX
  have HXM := Lib.hid hXM
  go_loopw [5, 6] (fun V ix wr => ∃ q : Nat, q ≤ M ∧ ix = .int .i64 ((q : Int) - 1) ∧ OwnN wr V (asI (X.drop q).reverse) ∧ (∀ x, V.ownBlock = some x → w3.heap.size ≤ x) ∧ Below w3.heap.size w3 wr) (fun _ ix _ => ((intOf ix) + 1).toNat)
  case atStart => exact ⟨M, Nat.le_refl _, by first | rfl | (rw [← hM]; go_num), by rw [List.drop_eq_nil_of_le (by rw [hXM]; exact Nat.le_refl _)]; exact OwnN.nil _, (fun x hx => by simp [Value.ownBlock] at hx), Below.refl _ _⟩
  case round =>
    obtain ⟨q, hq, rfl, hown, hV, hb⟩ := hrel
    have HOWN := Lib.hid hown
    have HV := Lib.hid hV
    have HBB := Lib.hid hb
    have hsz := hb.size
    clear hX hXM
    cases q with
    | succ p =>
      obtain ⟨m, hm⟩ : ∃ m, X[p]? = some m := ⟨_, List.getElem?_eq_getElem (by rw [HXM.out]; omega)⟩
      obtain ⟨b3, o3, rfl, hbl3, hc3⟩ := (HR2.out.below hb) p (m : Int) (by unfold asI; rw [List.getElem?_map, hm]; rfl)
      have HD : Hid ((X.drop p).reverse = (X.drop (p + 1)).reverse ++ [m]) := Lib.hid (by
        obtain ⟨h1, h2⟩ := List.getElem?_eq_some_iff.1 hm
        rw [List.drop_eq_getElem_cons h1, List.reverse_cons, h2])
      have hll : (asI (X.drop (p + 1)).reverse).length ≤ M := by unfold asI; rw [List.length_map, List.length_reverse, List.length_drop, HXM.out]; omega
      have HLL := Lib.hid hll
      have hpe : ((p + 1 : Nat) : Int) - 1 = p := by omega
      rw [hpe]
      have hp0 : (0 : Int) ≤ p := by omega
      have hpM : (p : Int) < M := by omega
      clear hm hown hV hb hll hpe hM
      go_wp2_with (first
        | (at_builtin; refine append_one rfl (.tmp 19) (.tmp 24) rfl u5 (asI (X.drop (p + 1)).reverse) rfl (HOWN.out.alloc _) wr.heap.size m rfl (heap_alloc_new _ _) (by have := HLL.out; omega) ?_; intro V' w9 ho9 hg9 hb9))
      refine ⟨⟨p, by omega, by go_num, ?_, fun x hx => ?_, ?_⟩, by (try simp [intOf]); try omega⟩
      · rw [HD.out]; unfold asI at ho9 ⊢; rw [List.map_append]; exact ho9
      · rcases hb9 with e | e
        · rw [e] at hx; exact HV.out x hx
        · rw [e] at hx; injection hx with hx; simp at hx; omega
      · exact Below.grown (HBB.out.alloc hsz _) hg9 (by simp; omega) (fun x hx => HV.out x hx)
    | zero =>
      have HQ : Hid ((∃ O A c, OrdIs f O ∧ Ending.returned u5 = .returned (.slice A O.length c) ∧ RdN wr A (asI O)) ∧ Below w.heap.size w wr) := Lib.hid ⟨by
        obtain ⟨A, c, e, _, hr⟩ := hown.form
        refine ⟨X.reverse, A, c, ⟨S1, L1, HLS.out, by rw [HX.out]⟩, ?_, hr⟩
        rw [e]; unfold asI; rw [List.length_map]; rfl, HB.out.trans ((HB3.out.trans (hb.mono HB3.out.size)).mono HB.out.size)⟩
      clear hown hV hb
      go_wp2
      go_returns
      exact HQ.out
end Go.Proofs.Ytgdbkoncaojmoaa
