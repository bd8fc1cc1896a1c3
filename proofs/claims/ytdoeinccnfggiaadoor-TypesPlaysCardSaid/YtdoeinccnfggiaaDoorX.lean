import Derived.Test.YtdoeinccnfggiaaDoorW
namespace Go.Proofs.YtdoeinccnfggiaaDoor
open Go.RowKit Go.BigFrame

theorem aw_D : defD noF ⟨#[115]⟩ awL 0 = awD := by
  unfold defD
  rw [if_pos rfl]
  rfl
theorem aw_at4 : atT awT6 4 = some ⟨5, 1, 3, ⟨#[]⟩⟩ := by decide +kernel
theorem aw_at1 : atT awT6 1 = some ⟨1, 0, 0, ⟨#[]⟩⟩ := by decide +kernel
theorem aw_itoa : Lib.itoa 3 = [51] := by
  rw [Lib.itoa, if_neg (by decide), Lib.decDigits]
  rfl
theorem aw_tx1 : tx awT6 2 1 = ⟨#[105, 110, 116]⟩ := by
  rw [tx, aw_at1]
  rfl
theorem aw_tx : tx awT6 3 4 = ⟨#[105, 110, 116, 91, 51, 93]⟩ := by
  rw [tx, aw_at4]
  show ((tx awT6 2 1 ++ ⟨#[91]⟩) ++ ⟨(Lib.itoa 3).toArray⟩) ++ ⟨#[93]⟩ = _
  rw [aw_tx1, aw_itoa]
  decide +kernel
theorem aw_td1 : tdeep awT6 2 1 := by
  unfold tdeep
  intro y hy
  rw [aw_at1] at hy
  injection hy with hy
  subst hy
  exact ⟨fun h => absurd h (by decide), fun h => absurd h (by decide), fun h => absurd h (by decide), fun _ _ _ => by decide⟩
theorem aw_td : tdeep awT6 3 4 := by
  unfold tdeep
  intro x hx
  rw [aw_at4] at hx
  injection hx with hx
  subst hx
  exact ⟨fun h => absurd h (by decide), fun _ => ⟨⟨aw_td1, by rw [aw_tx1]; decide⟩, by decide, by decide, by rw [aw_itoa]; decide⟩, fun h => absurd h (by decide), fun _ h => absurd rfl h⟩
theorem aw_rd (w : World) : FRd (w.alloc (.cells #[.string ⟨#[97]⟩, .int .i64 1, .string ⟨#[98]⟩, .int .i64 4] 31)) (some ⟨w.heap.size, 0, none⟩) awL := fun j f hf => by
  have hj : j < 2 := (List.getElem?_eq_some_iff.1 hf).1
  have hnew := heap_alloc_new w (.cells #[.string ⟨#[97]⟩, .int .i64 1, .string ⟨#[98]⟩, .int .i64 4] 31)
  have hc : j = 0 ∨ j = 1 := by omega
  rcases hc with rfl | rfl
  · injection hf with hf
    subst hf
    exact ⟨_, rfl, by simp, cell_of_heap hnew 0 _ rfl, cell_of_heap hnew 1 _ rfl⟩
  · injection hf with hf
    subst hf
    exact ⟨_, rfl, by simp, cell_of_heap hnew 2 _ rfl, cell_of_heap hnew 3 _ rfl⟩
theorem aw_dd : ∀ f ∈ awL, deep awT6 noF 3 f.type := fun f hf => deepB_deep _ _ _ _ (List.all_eq_true.1 aw_d2 f hf)
set_option maxRecDepth 1000000 in
set_option maxHeartbeats 2000000 in
theorem awake_any (w : World) (hT : Tab w) : Calls Tryd.prog 9 #[] w fun e w' => e = .returned (.bool true) ∧ Below w.heap.size w w' := by
  go_enter Tryd.func9, Tryd.ntmps9
  go_wp2_with (first
    | (go_at_call 10; refine (new_any _).mono ?_; rintro e w1 ⟨rfl, hf1⟩; obtain ⟨F1, t1, b1, f1, s1⟩ := hf1.open_)
    | (go_at_call 11; have ha := array_any t1 3 1 3 (deepB_deep _ _ _ _ aw_d1); rw [aw_arr] at ha; refine ha.mono ?_; rintro e w2 ⟨rfl, ht2⟩; obtain ⟨F2, t2, b2, f2, s2⟩ := (Fresh.turn b1 f1 ht2).open_)
    | (go_at_call 12; have hd := define_any (t2.below (Below.one w2 (.cells #[.string ⟨#[97]⟩, .int .i64 1, .string ⟨#[98]⟩, .int .i64 4] 31))) 3 ⟨#[115]⟩ (some ⟨w2.heap.size, 0, none⟩) 2 awL (by decide) (aw_rd w2) (fun b hb hF => by injection hb with hb; injection hb with hb; have := s2 b hF; omega) (by rw [aw_str]) (by rw [aw_str]; exact aw_dd); rw [aw_str, show (awT6, (5 : Int), (0 : Int)).1 = awT6 from rfl, aw_def, aw_D, show awL.length = 2 from rfl] at hd; refine hd.mono ?_; rintro e w3 ⟨rfl, ht3⟩; obtain ⟨F3, t3, b3, f3, s3⟩ := (Fresh.turn (b2.alloc b2.size _) f2 ht3).open_)
    | (go_at_call 13; have hs := struct_any t3 ⟨#[115]⟩; rw [aw_str2] at hs; refine hs.mono ?_; rintro e w4 ⟨rfl, ht4⟩; obtain ⟨F4, t4, b4, f4, s4⟩ := (Fresh.turn b3 f3 ht4).open_)
    | (go_at_call 14; have hs := size_any 4 5 w4 t4 (deepB_deep _ _ _ _ aw_d3); rw [aw_sz] at hs; refine hs.mono ?_; rintro e w5 ⟨rfl, hb5⟩)
    | (go_at_call 15; have hs := field_any (t4.below hb5) 3 5 ⟨#[98]⟩ (deepB_deep _ _ _ _ aw_d3); rw [aw_fld] at hs; refine hs.mono ?_; rintro e w6 ⟨rfl, hb6⟩)
    | (go_at_call 22; have hs := text_any 3 4 w6 ((t4.below hb5).below hb6) (((hT.below b4).below hb5).below hb6) aw_td; rw [aw_tx] at hs; refine hs.mono ?_; rintro e w7 ⟨rfl, hb7⟩))
  go_returns
  exact ⟨rfl, b4.trans ((hb5.trans (Below.mono (hb6.trans (hb7.mono hb6.size)) hb5.size)).mono b4.size)⟩
end Go.Proofs.YtdoeinccnfggiaaDoor
