import Derived.Test.YtgdbkoncaojmoaaDp
/- graph.Loop. -/
namespace Go.Proofs.Ytgdbkoncaojmoaa
open Go.RowKit Go.BigFrame

theorem upL_nil {N : Nat} {P : Nat → Prop} (h : ∀ n, n < N → ¬ P n) : upL N P = [] := List.eq_nil_iff_forall_not_mem.2 fun x hx => by
  obtain ⟨n, _, h1, h2⟩ := upL_mem.1 hx
  exact h n h1 h2
noncomputable def lpL (f : Fn7) (h : Int) : List Int := upL f.code.length fun n => 0 ≤ h ∧ IsHd (Eg f.code) h.toNat ∧ InL (Eg f.code) h.toNat n
theorem lpL_no {f : Fn7} {h : Int} (hn : ¬ (0 ≤ h ∧ IsHd (Eg f.code) h.toNat)) : lpL f h = [] := upL_nil fun _ _ g => hn ⟨g.1, g.2.1⟩
theorem gLoop_no (f : Fn7) (hf : ¬ OkF f) (h : Int) (C : Option Addr) (cap : Nat) (w : World) (hC : RdI w C f.code) :
    Calls Try.prog 24 #[funcAgg f.nm f.ps f.R f.Fr C f.code.length cap, .int .i64 h] w fun e w' => e = .returned (.slice none 0 0) ∧ Below w.heap.size w w' := by
  have hB := Below.one w (funcObj f.nm f.ps f.R f.Fr C f.code.length cap)
  have hR := Lib.hid (gReached_no f hf C cap _ (hC.below hB))
  simp only [funcObj, funcAgg] at hB hR ⊢
  clear hf hC
  go_enter Try.func24, Try.ntmps24
  by_cases h1 : h < 0
  · go_wp2_with (first
      | (refine hR.out.mono ?_; rintro e w3 ⟨rfl, hb3⟩))
    go_returns
    exact ⟨rfl, hB.trans (hb3.mono hB.size)⟩
  · have h2 : 0 ≤ h := by omega
    go_wp2_with (first
      | (refine hR.out.mono ?_; rintro e w3 ⟨rfl, hb3⟩))
    go_returns
    exact ⟨rfl, hB.trans (hb3.mono hB.size)⟩
theorem isort_in (l : List Int) (x : Int) : x ∈ isort l ↔ x ∈ l := (List.mergeSort_perm l _).mem_iff
theorem isort_up {l : List Int} (h : l.Nodup) : (isort l).Pairwise (· < ·) := by
  have h1 : (isort l).Pairwise (fun x y => decide (x ≤ y) = true) := List.pairwise_mergeSort (by intro a b c h1 h2; simp at h1 h2 ⊢; omega) (by intro a b; simp; omega) l
  have h2 : (isort l).Pairwise (· ≠ ·) := ((List.mergeSort_perm l _).nodup_iff).2 h
  exact (h1.and h2).imp fun ⟨a, b⟩ => by simp at a; omega
theorem dFn : Try.prog.underlying 24 = some (.struct (Try.prog.fieldsOf 24)) := by kernel_rfl
theorem dsFn : (Try.prog.info? 24).map (·.size) = some 5 := by kernel_rfl
/-- what was told so far, in a world that grows -/
structure IG (W : World) (G : Nat → Value → World → Prop) (s : Nat → Option Value) (w : World) : Prop where
  b : Below W.heap.size W w
  g : ∀ i v, s i = some v → G i v w
theorem IG.step {W : World} {G : Nat → Value → World → Prop} (hG : ∀ i v w w', Below w.heap.size w w' → G i v w → G i v w') {s : Nat → Option Value} {w w' : World} (h : IG W G s w) (hb : Below w.heap.size w w') (i : Nat) (v : Value) (hg : G i v w') : IG W G (updT s i v) w' where
  b := h.b.trans (hb.mono h.b.size)
  g := fun j u hj => by
    by_cases hji : j = i
    · subst hji
      simp only [updT, if_true, Option.some.injEq] at hj
      rw [← hj]; exact hg
    · simp only [updT, hji, if_false] at hj
      exact hG _ _ _ _ hb (h.g j u hj)
theorem some_of {v : Option Value} (h : v.isSome = true) : ∃ u, v = some u := Option.isSome_iff_exists.1 h
def LpG (f : Fn7) (N h : Nat) (W : World) (FA RV : Value) : Nat → Value → World → Prop
  | 0, v, _ => v = FA
  | 1, v, _ => v = .int .i64 (h : Int)
  | 2, v, _ => v = FA
  | 3, v, w => ∃ ob up O, v = .slice (some ⟨ob, 0, none⟩) N N ∧ Pre gN 1 3 w ob (abL N up) ∧ UpT (Eg f.code) (fun n => List.idxOf n O) up
  | 4, v, _ => v = RV
  | 5, v, w => OwnN w v (upL N (Bk (Eg f.code) h)) ∧ ∀ b, v.ownBlock = some b → W.heap.size ≤ b
  | _, _, _ => True
theorem LpG.grow {f : Fn7} {N h : Nat} {W : World} {FA RV : Value} : ∀ i v w w', Below w.heap.size w w' → LpG f N h W FA RV i v w → LpG f N h W FA RV i v w'
  | 0, _, _, _, _, h => h
  | 1, _, _, _, _, h => h
  | 2, _, _, _, _, h => h
  | 3, _, _, _, hb, ⟨ob, up, O, h1, h2, h3⟩ => ⟨ob, up, O, h1, Pre.later h2 hb, h3⟩
  | 4, _, _, _, _, h => h
  | 5, _, _, _, hb, ⟨h1, h2⟩ => ⟨h1.later hb, h2⟩
  | _ + 6, _, _, _, _, _ => trivial
def LpE (f : Fn7) (N h : Nat) (W : World) (s : Value) (wx : World) : Prop := OwnN wx s (upL N (Bk (Eg f.code) h)) ∧ (∀ b, s.ownBlock = some b → W.heap.size ≤ b) ∧ Below W.heap.size W wx
set_option maxRecDepth 1000000 in
set_option maxHeartbeats 16000000 in
theorem gLoop_yes (f : Fn7) (hf : OkF f) (h : Int) (C : Option Addr) (cap : Nat) (w : World) (hC : RdI w C f.code) :
    Calls Try.prog 24 #[funcAgg f.nm f.ps f.R f.Fr C f.code.length cap, .int .i64 h] w fun e w' => SlN (lpL f h) e w' ∧ Below w.heap.size w w' := by
  have hB := Below.one w (funcObj f.nm f.ps f.R f.Fr C f.code.length cap)
  have bx := heap_alloc_new w (funcObj f.nm f.ps f.R f.Fr C f.code.length cap)
  have hC1 := hC.below hB
  have hR := gReached_yes f hf C cap _ hC1
  have hA := fun W h => gAbove_yes f hf C cap W h
  have hBf := fun W h => Before_yes f hf C cap W h
  have hEn := fun h A2 c2 rb O up (hU : UpT (Eg f.code) (fun n => List.idxOf n O) up) W h1 h2 h3 => ends_any f hf h C cap A2 c2 rb hU W h1 h2 h3
  have hlt : ∀ p, R0 (Eg f.code) p → p < f.code.length := fun p h => h.ltN hf
  have hEl : ∀ p q, Eg f.code p q → p < f.code.length := fun p q h => h.lt1
  have hno : ¬ (0 ≤ h ∧ IsHd (Eg f.code) h.toNat) → SlN (lpL f h) (.returned (.slice none 0 0)) w := fun g => by rw [lpL_no g]; exact ⟨none, 0, rfl, fun j n hj => by simp at hj⟩
  obtain ⟨N, hN⟩ : ∃ N, f.code.length = N := ⟨_, rfl⟩
  have hN2 : N ≤ 8192 := by rw [← hN]; exact hf.len.2
  rw [hN] at hR hA hB bx hC1 hlt hBf hEn hEl ⊢
  simp only [funcObj, funcAgg] at hR hA hB bx hC1 hBf hEn ⊢
  have HNO : Hid (¬ (0 ≤ h ∧ IsHd (Eg f.code) h.toNat) → ∀ w' : World, SlN (lpL f h) (.returned (.slice none 0 0)) w') := Lib.hid fun g w' => by rw [lpL_no g]; exact ⟨none, 0, rfl, fun j n hj => by simp at hj⟩
  have HR := Lib.hid hR
  have HA := Lib.hid hA
  have HBF := Lib.hid hBf
  have HEN := Lib.hid hEn
  have HC1 := Lib.hid hC1
  have HLT := Lib.hid hlt
  have HEL := Lib.hid hEl
  have HF := Lib.hid hf
  have HN := Lib.hid hN
  obtain ⟨W, hW⟩ : ∃ W, w.alloc (.cells #[.string f.nm, .int .i64 f.ps, .int .i64 f.R, .int .i64 f.Fr, .slice C N cap] 24) = W := ⟨_, rfl⟩
  rw [hW] at bx HC1 HR hB
  have HB := Lib.hid hB
  have HBX := Lib.hid bx
  have hBl := (Array.getElem?_eq_some_iff.1 bx).1
  have g0 := cell_of_heap bx 0 _ rfl
  have g1 := cell_of_heap bx 1 _ rfl
  have g2 := cell_of_heap bx 2 _ rfl
  have g3 := cell_of_heap bx 3 _ rfl
  have g4 := cell_of_heap bx 4 _ rfl
  clear hf hN hC hR hA hC1 bx hB hlt hno hBf hEn hEl
  go_enter Try.func24, Try.ntmps24
  go_wp2_with fail
  refine HR.out.mono ?_
  rintro e w3 ⟨⟨rb, rfl, hrb, hrp⟩, hb3⟩
  have hx3 := (hb3.block _ hBl).trans HBX.out
  have HX3 := Lib.hid hx3
  have hl3 := (Array.getElem?_eq_some_iff.1 hx3).1
  have HB3 := Lib.hid (HB.out.trans (hb3.mono HB.out.size))
  have HC3 := Lib.hid (HC1.out.below hb3)
  have hrl := Pre.lt hrp
  have HRP := Lib.hid hrp
  have HW3 := Lib.hid (Nat.le_trans HB.out.size hb3.size)
  clear hb3 hrp hrb g0 g1 g2 g3 g4 hW hx3
  by_cases a0 : h < 0
  · have hr := HNO.out (fun g => by omega) w3
    go_wp2
    go_returns
    exact ⟨hr, HB3.out⟩
  · have a0' : 0 ≤ h := by omega
    by_cases a1 : (N : Int) ≤ h
    · have hr := HNO.out (fun g => by have := HLT.out _ g.2.1; omega) w3
      go_wp2
      go_returns
      exact ⟨hr, HB3.out⟩
    · have a1' : h < (N : Int) := by omega
      obtain ⟨p, rfl⟩ : ∃ p : Nat, h = (p : Int) := ⟨h.toNat, by omega⟩
      have hpN : p < N := by omega
      have hcp := PreB.cell HRP.out (bl_get (m := fun p => tb (R0 (Eg f.code) p)) hpN)
      by_cases hpr : R0 (Eg f.code) p
      · rw [tb_true.2 hpr] at hcp
        have HPR := Lib.hid hpr
        clear hpr
        go_upto_region 4 with fail
        clear hcp
        go_cut [6] from 28 to 33 (fun s wx => LpE f N p w3 s wx)
        case first =>
          refine wp_region_grown 6 (IG w3 (LpG f N p w3 (.agg #[.string f.nm, .int .i64 f.ps, .int .i64 f.R, .int .i64 f.Fr, .slice C N cap]) (.slice (some ⟨rb, 0, none⟩) N N))) (by kernel_rfl) (by kernel_rfl) ?_ ?_ ?_
          · exact ⟨(Below.refl _ _).drew, fun i v h => by cases h⟩
          · intro i o s wr hi ho hI hsi hdep
            have hb := hI.b
            have c0 := (hb.block _ hl3).trans HX3.out
            have hr := Below.refl wr.heap.size wr
            rcases (by omega : i = 0 ∨ i = 1 ∨ i = 2 ∨ i = 3 ∨ i = 4 ∨ i = 5) with rfl | rfl | rfl | rfl | rfl | rfl
            all_goals (simp only [List.getElem?_cons_zero, List.getElem?_cons_succ] at ho; obtain rfl := Option.some.inj ho)
            · exact Or.inl ⟨_, _, runT_load 24 (.tmp 2) rfl _ rfl _ _ _ _ c0 dFn rfl dsFn, hI.step LpG.grow hr 0 _ rfl⟩
            · exact Or.inl ⟨_, _, runT_move (.tmp 1) rfl, hI.step LpG.grow hr 1 _ rfl⟩
            · exact Or.inl ⟨_, _, runT_load 24 (.tmp 2) rfl _ rfl _ _ _ _ c0 dFn rfl dsFn, hI.step LpG.grow hr 2 _ rfl⟩
            · obtain ⟨v2, e2⟩ := some_of (hdep ⟨2, .data⟩ (by simp) rfl)
              obtain rfl := hI.g 2 _ e2
              refine Or.inr ⟨19, #[.agg #[.string f.nm, .int .i64 f.ps, .int .i64 f.R, .int .i64 f.Fr, .slice C N cap]], runT_call 19 _ _ rfl rfl _ ?_ Try.func19 (by kernel_rfl) rfl, ?_⟩
              · simp only [List.map_toArray, List.map_cons, List.map_nil]
                rw [evalT_told 2 (by kernel_rfl) e2]
              · exact (HA.out wr (HC3.out.below hb)).mono fun e w' ⟨⟨ob, up, O, he, _, hp, _, hU⟩, hb'⟩ => ⟨_, he, hI.step LpG.grow hb' 3 _ ⟨ob, up, O, rfl, hp, hU⟩⟩
            · exact Or.inl ⟨_, _, runT_move (.tmp 5) rfl, hI.step LpG.grow hr 4 _ rfl⟩
            · obtain ⟨v0, e0⟩ := some_of (hdep ⟨0, .data⟩ (by simp) rfl)
              obtain ⟨v1, e1⟩ := some_of (hdep ⟨1, .data⟩ (by simp) rfl)
              obtain ⟨v3, e3⟩ := some_of (hdep ⟨3, .data⟩ (by simp) rfl)
              obtain ⟨v4, e4⟩ := some_of (hdep ⟨4, .data⟩ (by simp) rfl)
              obtain rfl := hI.g 0 _ e0
              obtain rfl := hI.g 1 _ e1
              obtain ⟨ob, up, O, rfl, hp, hU⟩ := hI.g 3 _ e3
              obtain rfl := hI.g 4 _ e4
              refine Or.inr ⟨39, #[.agg #[.string f.nm, .int .i64 f.ps, .int .i64 f.R, .int .i64 f.Fr, .slice C N cap], .int .i64 (p : Int), .slice (some ⟨ob, 0, none⟩) N N, .slice (some ⟨rb, 0, none⟩) N N], runT_call 39 _ _ rfl rfl _ ?_ Try.func39 (by kernel_rfl) rfl, ?_⟩
              · simp only [List.map_toArray, List.map_cons, List.map_nil]
                rw [evalT_told 0 (by kernel_rfl) e0, evalT_told 1 (by kernel_rfl) e1, evalT_told 3 (by kernel_rfl) e3, evalT_told 4 (by kernel_rfl) e4]
              · exact (HEN.out p (some ⟨ob, 0, none⟩) N rb O up hU wr (HC3.out.below hb) (PreN.rd hp) (Pre.later HRP.out hb)).mono fun e w' ⟨⟨V, he, ho, hv⟩, hb'⟩ => ⟨_, he, hI.step LpG.grow hb' 5 _ ⟨ho, fun b hb2 => Nat.le_trans hb.size (hv b hb2)⟩⟩
          · intro s wr hI hsome
            obtain ⟨v0, e0⟩ := some_of (hsome 0 (by omega))
            obtain ⟨v1, e1⟩ := some_of (hsome 1 (by omega))
            obtain ⟨v2, e2⟩ := some_of (hsome 2 (by omega))
            obtain ⟨v3, e3⟩ := some_of (hsome 3 (by omega))
            obtain ⟨v4, e4⟩ := some_of (hsome 4 (by omega))
            obtain ⟨v5, e5⟩ := some_of (hsome 5 (by omega))
            obtain ⟨h5, h6⟩ := hI.g 5 _ e5
            have HQ : Hid (LpE f N p w3 v5 wr) := Lib.hid ⟨h5, h6, hI.b⟩
            clear h5 h6 hI hsome
            simp only [List.take_succ_cons, List.take_zero, List.drop_succ_cons, List.drop_zero, putsT, e0, e1, e2, e3, e4, e5, Option.getD_some]
            go_frame
            go_wp2
            go_meet
            exact HQ.out
        case rest =>
          obtain ⟨ho, hv, hbc⟩ := hcut
          obtain ⟨A6, c6, rfl, hvl, _⟩ := ho.form
          have HLI : Hid (∀ x, x ∈ upL N (Bk (Eg f.code) p) ↔ ∃ n : Nat, x = n ∧ n < N ∧ Bk (Eg f.code) p n) := Lib.hid fun x => upL_mem
          obtain ⟨L, hL⟩ : ∃ L, upL N (Bk (Eg f.code) p) = L := ⟨_, rfl⟩
          rw [hL] at ho hv HLI ⊢
          obtain ⟨m, hm⟩ : ∃ m, L.length = m := ⟨_, rfl⟩
          rw [hm] at ho hv ⊢
          have HM := Lib.hid hm
          have hxc := (hbc.block _ hl3).trans HX3.out
          have h0 := cell_of_heap hxc 0 _ rfl
          have h1 := cell_of_heap hxc 1 _ rfl
          have h2 := cell_of_heap hxc 2 _ rfl
          have h3 := cell_of_heap hxc 3 _ rfl
          have h4 := cell_of_heap hxc 4 _ rfl
          have hlc := (Array.getElem?_eq_some_iff.1 hxc).1
          have HXC := Lib.hid hxc
          have HO := Lib.hid ho
          have HV := Lib.hid hv
          have HBC := Lib.hid hbc
          have HLL := Lib.hid hL
          clear ho hv hbc hL hvl hm hxc
          by_cases hm0 : m = 0
          · have hrr := HNO.out (fun g => by
              obtain ⟨e, he⟩ := g.2.2
              rw [Int.toNat_natCast] at he
              have := (HLI.out (e : Int)).2 ⟨e, rfl, HLT.out e he.1, he⟩
              rw [List.eq_nil_of_length_eq_zero (HM.out.trans hm0)] at this
              cases this) wc
            subst hm0
            go_wp2
            go_returns
            exact ⟨hrr, HB3.out.trans (HBC.out.mono HW3.out)⟩
          · have hmi : ¬ ((m : Int) = 0) := by omega
            have hmm := @run_makeMap Try.prog
            go_upto_region 10 with (first
              | (show wpList Try.prog _ _ (⟨none, .insert _ _ _ _, _, _, _, _⟩ :: _) _ _; refine wpList_insert_map kvInt _ rfl (.tmp 37) (.tmp 38) (.const (.int .i64 1)) 55 rfl under_mii wc.heap.size _ rfl (MapK.made wc) (p : Int) (.int .i64 1) rfl rfl ?_; intro w5 hm5 hg5 hz5; rw [cntV_one] at hm5; have hb5 : Below wc.heap.size wc w5 := Below.grown (Below.one wc _) hg5 (by simp) (fun k hk => by injection hk with hk; omega); have hx5 := (hb5.block _ hlc).trans HXC.out; have h0 := cell_of_heap hx5 0 _ rfl; have h1 := cell_of_heap hx5 1 _ rfl; have h2 := cell_of_heap hx5 2 _ rfl; have h3 := cell_of_heap hx5 3 _ rfl; have h4 := cell_of_heap hx5 4 _ rfl; have hl5 := (Array.getElem?_eq_some_iff.1 hx5).1; have HM5 := Lib.hid hm5; have HB5 := Lib.hid hb5; have HZ5 := Lib.hid hz5; clear hx5 hm5 hb5 hg5 hz5)
              | (go_at_call 11; refine (HBF.out _ ((HC3.out.below HBC.out).below HB5.out)).mono ?_; rintro e w6 ⟨⟨bb, rfl, hbb, hbl, hrr, hrf⟩, hb6⟩; have HB6 := Lib.hid hb6; have HRR := Lib.hid hrr; have HRF := Lib.hid hrf; have HBB := Lib.hid (show w5.heap.size ≤ bb ∧ bb < w6.heap.size from ⟨hbb, hbl⟩); clear hb6 hrr hrf hbb hbl))
            have hz5 : w5.heap.size = wc.heap.size + 1 := by rw [HZ5.out]; simp
            have hs3c := HBC.out.size
            have hs56 := HB6.out.size
            obtain ⟨T0, hT0⟩ : ∃ T0 : List Nat, L = asI T0 ∧ ∀ q, q ∈ T0 ↔ (q < N ∧ Bk (Eg f.code) p q) := by
              obtain ⟨T0, h1, h2⟩ := upN_is N (Bk (Eg f.code) p)
              exact ⟨T0, by rw [← HLL.out, h1], h2⟩
            obtain ⟨hTe, hTm⟩ := hT0
            have hTl : T0.length ≤ N := by
              have h1 := upL_len N (Bk (Eg f.code) p)
              rw [HLL.out, hTe] at h1
              unfold asI at h1
              rwa [List.length_map] at h1
            have hb3c6 : Below wc.heap.size wc w6 := HB5.out.trans (HB6.out.mono (by omega))
            have hb36 : Below w3.heap.size w3 w6 := HBC.out.trans (hb3c6.mono hs3c)
            have hown6 : OwnN w6 (.slice A6 m c6) (asI T0) := by rw [← hTe]; exact HO.out.later hb3c6
            have hlp : LpM w3 (w6.alloc (.cells #[.int .i64 (p : Int)] 3)) (w6.alloc (.cells #[.int .i64 (p : Int)] 3)) w3.heap.size w5.heap.size w6.heap.size wc.heap.size (.slice A6 m c6) (.slice (some ⟨w6.heap.size, 0, none⟩) 1 1) T0 [p] (oneAt p) := by
              have hvl : ∀ b, (Value.slice A6 m c6).ownBlock = some b → w3.heap.size ≤ b ∧ b < wc.heap.size := fun b e => ⟨HV.out b e, HO.out.lt3 b e⟩
              refine ⟨OwnQ.of (hown6.alloc _), OwnN.one w6 (p : Int), (HM5.out.below HB6.out HM5.out.lt).below (Below.one w6 _) (Nat.lt_of_lt_of_le HM5.out.lt hs56), fun b e => ?_, fun b e => ?_, fun hs => ?_, hb36.alloc (by omega) _, fun b _ => rfl, by simp only [World.size_alloc]; omega⟩
              · have := hvl b e
                refine ⟨fun hs => by unfold Stay at hs; omega, by omega⟩
              · simp only [Value.ownBlock, Option.some.injEq] at e
                subst e
                refine ⟨fun hs => by unfold Stay at hs; omega, by omega, fun e2 => by have := hvl _ e2; omega⟩
              · unfold Stay at hs; omega
            have hsr : Srch (Eg f.code) N p [p] T0 (oneAt p) := Srch.start HPR.out hpN (fun t => (hTm t).trans ⟨fun g => g.2, fun g => ⟨HLT.out t g.1, g⟩⟩) (fun t ht => ((hTm t).1 ht).1)
            have hrows6 : RowsR (w6.alloc (.cells #[.int .i64 (p : Int)] 3)) bb N fun n => upL N fun q => Eg f.code q n := HRR.out.below (Below.one w6 _)
            have hrf6 : ∀ j, j < N → ∀ A n c, (w6.alloc (.cells #[.int .i64 (p : Int)] 3)).cell? ⟨bb, j, none⟩ = some (.slice A n c) → ∀ b o, A = some ⟨b, o, none⟩ → b < (w6.alloc (.cells #[.int .i64 (p : Int)] 3)).heap.size → Stay w3.heap.size w5.heap.size w6.heap.size b := fun j hj A n c hc b o e _ => by
              have h1 := HRF.out j hj A n c (((Below.one w6 (.cells #[.int .i64 (p : Int)] 3)).cell (p := ⟨bb, j, none⟩) HBB.out.2).symm.trans hc) b o e
              exact Or.inr h1
            have HLP := Lib.hid hlp
            have HSR := Lib.hid hsr
            have HRW6 := Lib.hid hrows6
            have HRF6 := Lib.hid hrf6
            have hRP : Hid (Pre gB 1 4 (w6.alloc (.cells #[.int .i64 (p : Int)] 3)) rb (bl N fun p => tb (R0 (Eg f.code) p))) := Lib.hid ((HRP.out.later hb36).later (Below.one w6 _))
            have HTL := Lib.hid hTl
            have HHD : Hid (IsHd (Eg f.code) p) := Lib.hid (by
              have hl : 0 < T0.length := by
                have h1 := HM.out
                rw [hTe] at h1
                unfold asI at h1
                rw [List.length_map] at h1
                omega
              obtain ⟨q, hq⟩ := List.exists_mem_of_length_pos hl
              exact ⟨HPR.out, q, ((hTm q).1 hq).2⟩)
            clear hlp hsr hrows6 hrf6 hb3c6 hb36 hown6 hTe hTm hTl h0 h1 h2 h3 h4
            go_wp2
            refine lp1_any w3 (w6.alloc (.cells #[.int .i64 (p : Int)] 3)) w3.heap.size w5.heap.size w6.heap.size wc.heap.size rb bb N p hN2 _ _ T0 HTL.out HLP.out HSR.out hRP.out (Or.inl hrl) HRW6.out (Or.inr HBB.out) HRF6.out HPR.out HEL.out _ _ _ _ _ _ _ _ _ _ _ _ _ _ _ _ _ _ _ _ _ _ _ _ _ _ _ _ _ _ _ _ _ _ _ _ _ _ _ _ _ _ _ _ _ _ _ _ _ _ _ _ _ _ _ _ _ _ _ _ _ _ _ _ _ _ _ _ _ _ _ _ _ _ _ ?_
            intro z6 z9 z10 z44 z45 z46 z47 z48 z49 z50 z51 z52 z53 z54 z55 z56 z57 z58 z59 z60 z61 z62 z63 z64 z65 z66 z67 z68 z69 z70 z71 z72 z73 z74 z75 w9 Vs cnt hlp9 hs9
            have hVN := hs9.len
            have hal : (asI Vs).length = Vs.length := by unfold asI; rw [List.length_map]
            have HSO := Lib.hid (sort_own w3.heap.size w3 w9 hlp9.bel (by have := hlp9.sz; omega) z9 (asI Vs) hlp9.o (fun b e => Stay.not (hlp9.ob b e).1) (by omega))
            have HEQ : Hid (isort (asI Vs) = lpL f (p : Int)) := Lib.hid (upL_uniq (isort_up (by
              unfold asI
              rw [List.Nodup, List.pairwise_map]
              exact List.Pairwise.imp (fun h e => h (by omega)) hs9.nd)) fun x => by
              rw [isort_in]
              unfold asI
              rw [List.mem_map]
              constructor
              · rintro ⟨n, hn, rfl⟩
                refine ⟨n, rfl, by rw [HN.out]; exact hs9.lt n hn, by omega, by rw [Int.toNat_natCast]; exact HHD.out, by rw [Int.toNat_natCast]; exact (hs9.done n).1 hn⟩
              · rintro ⟨n, rfl, _, _, _, hn⟩
                rw [Int.toNat_natCast] at hn
                exact ⟨n, (hs9.done n).2 hn, rfl⟩)
            clear hlp9 hs9 hVN
            go_wp2_with (first
              | (refine HSO.out.mono ?_; rintro e w10 ⟨rfl, hb10, A10, c10, hV10, hrd10⟩; subst hV10))
            go_returns
            refine ⟨⟨A10, c10, ?_, ?_⟩, HB3.out.trans (hb10.mono HW3.out)⟩
            · rw [← HEQ.out, isort_len, hal]; rfl
            · rw [← HEQ.out]; exact hrd10
      · rw [tb_false.2 hpr] at hcp
        have hr := HNO.out (fun g => hpr (by have := g.2.1; simpa using this)) w3
        clear hpr
        go_wp2
        go_returns
        exact ⟨hr, HB3.out⟩
end Go.Proofs.Ytgdbkoncaojmoaa
