import Derived.Test.YthbcdckonaljiaaQr
namespace Go.Proofs.Ythbcdckonaljiaa
open Go.RowKit Go.BigFrame

theorem preI_read14 {W : World} {b : Nat} {l : List Ins} (h : PreI W b l) : RdI W (some ⟨b, 0, none⟩) l := fun j i hi => by
  refine ⟨b, 0, rfl, Pre.lt h, fun k hk => ?_⟩
  obtain ⟨cs, h1, h2⟩ := h
  rw [Nat.zero_add, cell_of_row W b _ cs _ _ h1]
  exact h2 j i hi k hk
theorem OfT.later {base R : Nat} {f : Fn7} {e : Ending} {w w' : World} (h : OfT base R f e w) (hb : Below w.heap.size w w') : OfT base R f e w' := by
  obtain ⟨ob, he, h2, h3⟩ := h
  exact ⟨ob, he, h2, Pre.later h3 hb⟩
def FeG (f : Fn7) (R : Nat) (FA : Value) : Nat → Value → World → Prop
  | 0, v, _ => v = FA
  | 1, v, w => OfT 0 R f (.returned v) w
  | 2, v, _ => v = FA
  | 3, v, w => MeT 0 R f (.returned v) w
  | 4, v, _ => v = FA
  | 5, v, w => WaT 0 R f (.returned v) w
  | _, _, _ => True
theorem FeG.grow {f : Fn7} {R : Nat} {FA : Value} : ∀ i v w w', Below w.heap.size w w' → FeG f R FA i v w → FeG f R FA i v w'
  | 0, _, _, _, _, h => h
  | 1, _, _, _, hb, h => OfT.later h hb
  | 2, _, _, _, _, h => h
  | 3, _, _, _, hb, h => MeT.later h hb
  | 4, _, _, _, _, h => h
  | 5, _, _, _, hb, h => WaT.later h hb
  | _ + 6, _, _, _, _, _ => trivial
theorem clF_le {f : Fn7} (hf : OkF f) {r p : Nat} (hr : r < f.R.toNat) (hp : (clF f)[r]? = some (p : Int)) {rl : List Int} (hm : ∀ x : Int, x ∈ rl ↔ MeP f r x) : p ≤ frm f r + rl.length := by
  obtain ⟨_, h2, _⟩ := clF_fine hf
  obtain ⟨p', h4, _, h6⟩ := h2 r hr
  have hpp : (p' : Int) = (p : Int) := Option.some.inj (h4.symm.trans hp)
  have := h6 (rl.map Int.toNat) (fun o ho => List.mem_map.2 ⟨(o : Int), (hm _).2 ho, by simp⟩)
  rw [List.length_map] at this
  omega
set_option maxRecDepth 1000000 in
set_option maxHeartbeats 16000000 in
theorem CFew_not (f : Fn7) (hfw : ¬ Fw14 f) (C : Option Addr) (cap : Nat) (hl9 : f.code.length ≤ 9223372036854775807) (w : World) (hC : RdI w C f.code) :
    Calls Try.prog 5 #[funcAgg f.nm f.ps f.R f.Fr C f.code.length cap] w fun e w' => e = .returned (.bool true) ∧ Below w.heap.size w w' := by
  obtain ⟨N, hN⟩ : ∃ N, f.code.length = N := ⟨_, rfl⟩
  have hB := Below.one w (funcObj f.nm f.ps f.R f.Fr C f.code.length cap)
  have bx := heap_alloc_new w (funcObj f.nm f.ps f.R f.Fr C f.code.length cap)
  have hC1 := hC.below hB
  have hS := (few14_any f C cap hl9 _ hC1).mono fun e w' h => (⟨by rw [h.1.val, tb_false.2 hfw], h.2⟩ : e = .returned (.bool false) ∧ Below (w.alloc (funcObj f.nm f.ps f.R f.Fr C f.code.length cap)).heap.size (w.alloc (funcObj f.nm f.ps f.R f.Fr C f.code.length cap)) w')
  rw [hN] at hB bx hC1 hS ⊢
  simp only [funcObj, funcAgg] at hB bx hC1 hS ⊢
  clear hN hC
  go_enter Try.func5, Try.ntmps5
  go_wp2_with fail
  refine hS.mono ?_
  rintro e w3 ⟨rfl, hb3⟩
  dsimp only
  have HB := Lib.hid (hB.trans (hb3.mono hB.size))
  clear hS hB bx hC1 hb3
  go_wp2_with fail
  refine (awake14_any _).mono ?_
  rintro e w4 ⟨rfl, hb4⟩
  dsimp only
  have HB4 := Lib.hid (HB.out.trans (hb4.mono HB.out.size))
  clear hb4
  go_wp2
  go_returns
  exact ⟨rfl, HB4.out⟩
set_option maxRecDepth 1000000 in
set_option maxHeartbeats 16000000 in
theorem CFew_no (f : Fn7) (hfw : Fw14 f) (hf : ¬ OkF f) (C : Option Addr) (cap : Nat) (hl9 : f.code.length ≤ 9223372036854775807) (w : World) (hC : RdI w C f.code) :
    Calls Try.prog 5 #[funcAgg f.nm f.ps f.R f.Fr C f.code.length cap] w fun e w' => e = .returned (.bool true) ∧ Below w.heap.size w w' := by
  obtain ⟨N, hN⟩ : ∃ N, f.code.length = N := ⟨_, rfl⟩
  have hB := Below.one w (funcObj f.nm f.ps f.R f.Fr C f.code.length cap)
  have bx := heap_alloc_new w (funcObj f.nm f.ps f.R f.Fr C f.code.length cap)
  have hC1 := hC.below hB
  have hS := (few14_any f C cap hl9 _ hC1).mono fun e w' h => (⟨by rw [h.1.val, tb_true.2 hfw], h.2⟩ : e = .returned (.bool true) ∧ Below (w.alloc (funcObj f.nm f.ps f.R f.Fr C f.code.length cap)).heap.size (w.alloc (funcObj f.nm f.ps f.R f.Fr C f.code.length cap)) w')
  have hRf := fun W h => (refRightFunc_any f C cap W h).mono fun e w' h' => (⟨by rw [h'.1.val, tb_false.2 hf], h'.2⟩ : e = .returned (.bool false) ∧ Below W.heap.size W w')
  rw [hN] at hB bx hC1 hS hRf ⊢
  simp only [funcObj, funcAgg] at hB bx hC1 hS hRf ⊢
  obtain ⟨W, hW⟩ : ∃ W, w.alloc (.cells #[.string f.nm, .int .i64 f.ps, .int .i64 f.R, .int .i64 f.Fr, .slice C N cap] 26) = W := ⟨_, rfl⟩
  rw [hW] at hB bx hC1 hS
  have HB := Lib.hid hB
  have HBX := Lib.hid bx
  have hBl := (Array.getElem?_eq_some_iff.1 bx).1
  have HC1 := Lib.hid hC1
  have HS := Lib.hid hS
  have HW0 : Hid (Below W.heap.size W W) := Lib.hid (Below.refl _ _)
  have k0 := cell_of_heap bx 0 _ rfl
  have k1 := cell_of_heap bx 1 _ rfl
  have k2 := cell_of_heap bx 2 _ rfl
  have k3 := cell_of_heap bx 3 _ rfl
  have k4 := cell_of_heap bx 4 _ rfl
  have HRF := Lib.hid hRf
  clear hN hC hB bx hC1 hS hRf hf hfw
  go_enter Try.func5, Try.ntmps5
  try rw [hW]
  go_wp2_with fail
  refine (HS.out).mono ?_
  rintro e w3 ⟨rfl, hb3⟩
  dsimp only
  have HB3 := Lib.hid (HW0.out.trans (hb3.mono HW0.out.size))
  clear k0 k1 k2 k3 k4
  have hx := (HB3.out.block _ hBl).trans HBX.out
  have k0 := cell_of_heap hx 0 _ rfl
  have k1 := cell_of_heap hx 1 _ rfl
  have k2 := cell_of_heap hx 2 _ rfl
  have k3 := cell_of_heap hx 3 _ rfl
  have k4 := cell_of_heap hx 4 _ rfl
  have HC3 := Lib.hid (HC1.out.below HB3.out)
  clear hx hb3
  clear hW
  go_wp2_with fail
  refine (HRF.out _ HC3.out).mono ?_
  rintro e w4 ⟨rfl, hb4⟩
  dsimp only
  have HB4 := Lib.hid (HB3.out.trans (hb4.mono HB3.out.size))
  clear k0 k1 k2 k3 k4
  have hx := (HB4.out.block _ hBl).trans HBX.out
  have k0 := cell_of_heap hx 0 _ rfl
  have k1 := cell_of_heap hx 1 _ rfl
  have k2 := cell_of_heap hx 2 _ rfl
  have k3 := cell_of_heap hx 3 _ rfl
  have k4 := cell_of_heap hx 4 _ rfl
  have HC4 := Lib.hid (HC1.out.below HB4.out)
  clear hx hb4
  go_wp2_with fail
  refine (awake14_any _).mono ?_
  rintro e w7 ⟨rfl, hb7⟩
  dsimp only
  have HB7 := Lib.hid (HB4.out.trans (hb7.mono HB4.out.size))
  clear k0 k1 k2 k3 k4
  have hx := (HB7.out.block _ hBl).trans HBX.out
  have k0 := cell_of_heap hx 0 _ rfl
  have k1 := cell_of_heap hx 1 _ rfl
  have k2 := cell_of_heap hx 2 _ rfl
  have k3 := cell_of_heap hx 3 _ rfl
  have k4 := cell_of_heap hx 4 _ rfl
  have HC7 := Lib.hid (HC1.out.below HB7.out)
  clear hx hb7
  go_wp2
  go_returns
  exact ⟨rfl, HB.out.trans (HB7.out.mono HB.out.size)⟩
set_option maxRecDepth 1000000 in
set_option maxHeartbeats 16000000 in
theorem CFew_yes (f : Fn7) (hfw : Fw14 f) (hf : OkF f) (C : Option Addr) (cap : Nat) (hl9 : f.code.length ≤ 9223372036854775807) (w : World) (hC : RdI w C f.code) :
    Calls Try.prog 5 #[funcAgg f.nm f.ps f.R f.Fr C f.code.length cap] w fun e w' => e = .returned (.bool true) ∧ Below w.heap.size w w' := by
  obtain ⟨N, hN⟩ : ∃ N, f.code.length = N := ⟨_, rfl⟩
  have hB := Below.one w (funcObj f.nm f.ps f.R f.Fr C f.code.length cap)
  have bx := heap_alloc_new w (funcObj f.nm f.ps f.R f.Fr C f.code.length cap)
  have hC1 := hC.below hB
  have hS := (few14_any f C cap hl9 _ hC1).mono fun e w' h => (⟨by rw [h.1.val, tb_true.2 hfw], h.2⟩ : e = .returned (.bool true) ∧ Below (w.alloc (funcObj f.nm f.ps f.R f.Fr C f.code.length cap)).heap.size (w.alloc (funcObj f.nm f.ps f.R f.Fr C f.code.length cap)) w')
  obtain ⟨R, hRR⟩ : ∃ R, f.R.toNat = R := ⟨_, rfl⟩
  have hR0 : f.R = (R : Int) := by have := hf.R; have := hf.ps; omega
  have hR2 : R ≤ 4096 := by have := hf.R; omega
  have hOf := fun C cap W h => Of_yes f hf (by have := hfw.2; omega) C cap W h
  have hRf := fun W h => (refRightFunc_any f C cap W h).mono fun e w' h' => (⟨by rw [h'.1.val, tb_true.2 hf], h'.2⟩ : e = .returned (.bool true) ∧ Below W.heap.size W w')
  have hMe := fun W h => Meet_yes f hf C cap W h
  have hWa := fun W h => Waits_yes f hf C cap W h
  have hCl := fun W h => clone_code f hf.len C cap W h
  have hfn := clF_fn hf
  have hle : ∀ (r p : Nat), r < R → (clF f)[r]? = some (p : Int) → ∀ rl : List Int, (∀ x : Int, x ∈ rl ↔ MeP f r x) → p ≤ frm f r + rl.length := fun r p hr hp rl hm => clF_le hf (by rw [hRR]; exact hr) hp hm
  unfold FnL at hfn
  unfold ClonedF at hCl
  rw [hRR] at hOf hMe hWa hfn
  rw [hN] at hB bx hC1 hS hOf hRf hMe hWa hCl ⊢
  simp only [funcObj, funcAgg] at hB bx hC1 hS hOf hRf hMe hWa hCl ⊢
  rw [hR0] at hB bx hC1 hS hOf hRf hMe hWa hCl ⊢
  obtain ⟨W, hW⟩ : ∃ W, w.alloc (.cells #[.string f.nm, .int .i64 f.ps, .int .i64 (R : Int), .int .i64 f.Fr, .slice C N cap] 26) = W := ⟨_, rfl⟩
  rw [hW] at hB bx hC1 hS
  have HB := Lib.hid hB
  have HBX := Lib.hid bx
  have hBl := (Array.getElem?_eq_some_iff.1 bx).1
  have HC1 := Lib.hid hC1
  have HS := Lib.hid hS
  have HW0 : Hid (Below W.heap.size W W) := Lib.hid (Below.refl _ _)
  have k0 := cell_of_heap bx 0 _ rfl
  have k1 := cell_of_heap bx 1 _ rfl
  have k2 := cell_of_heap bx 2 _ rfl
  have k3 := cell_of_heap bx 3 _ rfl
  have k4 := cell_of_heap bx 4 _ rfl
  have HOF := Lib.hid hOf
  have HRF := Lib.hid hRf
  have HME := Lib.hid hMe
  have HWA := Lib.hid hWa
  have HCL := Lib.hid hCl
  have HFN := Lib.hid hfn
  have HLE := Lib.hid hle
  have HF := Lib.hid hf
  have HRR := Lib.hid hRR
  clear hN hC hB bx hC1 hS hOf hRf hMe hWa hCl hfn hle hR0 hRR hf hfw
  go_enter Try.func5, Try.ntmps5
  try rw [hW]
  go_wp2_with fail
  refine (HS.out).mono ?_
  rintro e w3 ⟨rfl, hb3⟩
  dsimp only
  have HB3 := Lib.hid (HW0.out.trans (hb3.mono HW0.out.size))
  clear k0 k1 k2 k3 k4
  have hx := (HB3.out.block _ hBl).trans HBX.out
  have k0 := cell_of_heap hx 0 _ rfl
  have k1 := cell_of_heap hx 1 _ rfl
  have k2 := cell_of_heap hx 2 _ rfl
  have k3 := cell_of_heap hx 3 _ rfl
  have k4 := cell_of_heap hx 4 _ rfl
  have HC3 := Lib.hid (HC1.out.below HB3.out)
  clear hx hb3
  clear hW
  go_wp2_with fail
  refine (HRF.out _ HC3.out).mono ?_
  rintro e w4 ⟨rfl, hb4⟩
  dsimp only
  have HB4 := Lib.hid (HB3.out.trans (hb4.mono HB3.out.size))
  clear k0 k1 k2 k3 k4
  have hx := (HB4.out.block _ hBl).trans HBX.out
  have k0 := cell_of_heap hx 0 _ rfl
  have k1 := cell_of_heap hx 1 _ rfl
  have k2 := cell_of_heap hx 2 _ rfl
  have k3 := cell_of_heap hx 3 _ rfl
  have k4 := cell_of_heap hx 4 _ rfl
  have HC4 := Lib.hid (HC1.out.below HB4.out)
  have HX4 := Lib.hid hx
  have hBl4 := (Array.getElem?_eq_some_iff.1 hx).1
  clear hx hb4
  clear k0 k1 k2 k3 k4
  go_upto_region 3 with fail
  refine wp_region_noPanic ?_
  refine wp_region_grown 6 (IG w4 (FeG f R (.agg #[.string f.nm, .int .i64 f.ps, .int .i64 (R : Int), .int .i64 f.Fr, .slice C N cap]))) (by kernel_rfl) (by kernel_rfl) ?_ ?_ ?_
  · exact ⟨(Below.refl _ _).drew, fun i v h => by cases h⟩
  · intro i o s wr hi ho hI hsi hdep
    have hb := hI.b
    have c0 := (hb.block _ hBl4).trans HX4.out
    have hr := Below.refl wr.heap.size wr
    rcases (by omega : i = 0 ∨ i = 1 ∨ i = 2 ∨ i = 3 ∨ i = 4 ∨ i = 5) with rfl | rfl | rfl | rfl | rfl | rfl
    all_goals (simp only [List.getElem?_cons_zero, List.getElem?_cons_succ] at ho; obtain rfl := Option.some.inj ho)
    · exact Or.inl ⟨_, _, runT_load 26 (.tmp 1) rfl _ rfl _ _ _ _ c0 dFn rfl dsFn, hI.step FeG.grow hr 0 _ rfl⟩
    · obtain ⟨v0, e0⟩ := some_of (hdep ⟨0, .data⟩ (by simp) rfl)
      obtain rfl := hI.g 0 _ e0
      refine Or.inr ⟨13, #[.agg #[.string f.nm, .int .i64 f.ps, .int .i64 (R : Int), .int .i64 f.Fr, .slice C N cap]], runT_call 13 _ _ rfl rfl _ ?_ Try.func13 (by kernel_rfl) rfl, ?_⟩
      · simp only [List.map_toArray, List.map_cons, List.map_nil]
        rw [evalT_told 0 (by kernel_rfl) e0]
      · exact (HOF.out _ _ wr (HC4.out.below hb)).mono fun e w' ⟨⟨ob, he, _, h3⟩, hb'⟩ => ⟨_, he, hI.step FeG.grow hb' 1 _ ⟨ob, rfl, Nat.zero_le _, h3⟩⟩
    · exact Or.inl ⟨_, _, runT_load 26 (.tmp 1) rfl _ rfl _ _ _ _ c0 dFn rfl dsFn, hI.step FeG.grow hr 2 _ rfl⟩
    · obtain ⟨v2, e2⟩ := some_of (hdep ⟨2, .data⟩ (by simp) rfl)
      obtain rfl := hI.g 2 _ e2
      refine Or.inr ⟨19, #[.agg #[.string f.nm, .int .i64 f.ps, .int .i64 (R : Int), .int .i64 f.Fr, .slice C N cap]], runT_call 19 _ _ rfl rfl _ ?_ Try.func19 (by kernel_rfl) rfl, ?_⟩
      · simp only [List.map_toArray, List.map_cons, List.map_nil]
        rw [evalT_told 2 (by kernel_rfl) e2]
      · exact (HME.out wr (HC4.out.below hb)).mono fun e w' ⟨⟨qb, he, _, h3⟩, hb'⟩ => ⟨_, he, hI.step FeG.grow hb' 3 _ ⟨qb, rfl, Nat.zero_le _, h3⟩⟩
    · exact Or.inl ⟨_, _, runT_load 26 (.tmp 1) rfl _ rfl _ _ _ _ c0 dFn rfl dsFn, hI.step FeG.grow hr 4 _ rfl⟩
    · obtain ⟨v4, e4⟩ := some_of (hdep ⟨4, .data⟩ (by simp) rfl)
      obtain rfl := hI.g 4 _ e4
      refine Or.inr ⟨20, #[.agg #[.string f.nm, .int .i64 f.ps, .int .i64 (R : Int), .int .i64 f.Fr, .slice C N cap]], runT_call 20 _ _ rfl rfl _ ?_ Try.func20 (by kernel_rfl) rfl, ?_⟩
      · simp only [List.map_toArray, List.map_cons, List.map_nil]
        rw [evalT_told 4 (by kernel_rfl) e4]
      · exact (HWA.out wr (HC4.out.below hb)).mono fun e w' ⟨⟨xb, L, he, _, h3⟩, hb'⟩ => ⟨_, he, hI.step FeG.grow hb' 5 _ ⟨xb, L, rfl, Nat.zero_le _, h3⟩⟩
  · intro s wr hI hsome
    obtain ⟨v0, e0⟩ := some_of (hsome 0 (by omega))
    obtain ⟨v1, e1⟩ := some_of (hsome 1 (by omega))
    obtain ⟨v2, e2⟩ := some_of (hsome 2 (by omega))
    obtain ⟨v3, e3⟩ := some_of (hsome 3 (by omega))
    obtain ⟨v4, e4⟩ := some_of (hsome 4 (by omega))
    obtain ⟨v5, e5⟩ := some_of (hsome 5 (by omega))
    obtain rfl := hI.g 0 _ e0
    obtain rfl := hI.g 2 _ e2
    obtain rfl := hI.g 4 _ e4
    obtain ⟨ob, he1, _, hp⟩ := hI.g 1 _ e1
    injection he1 with he1
    subst he1
    obtain ⟨qb, he3, _, hq⟩ := hI.g 3 _ e3
    injection he3 with he3
    subst he3
    obtain ⟨kb, L, he5, _, hk, hLl, hLw⟩ := hI.g 5 _ e5
    injection he5 with he5
    subst he5
    have HP := Lib.hid hp
    have HQ := Lib.hid hq.toC
    have HK := Lib.hid hk
    have HLL := Lib.hid hLl
    have HLW := Lib.hid hLw
    have HX5 := Lib.hid ((hI.b.block _ hBl4).trans HX4.out)
    have hBl5 := (Array.getElem?_eq_some_iff.1 HX5.out).1
    have HB5 := Lib.hid (HB4.out.trans (hI.b.mono HB4.out.size))
    have HC5 := Lib.hid (HC4.out.below hI.b)
    have hx := HX5.out
    have k0 := cell_of_heap hx 0 _ rfl
    have k1 := cell_of_heap hx 1 _ rfl
    have k2 := cell_of_heap hx 2 _ rfl
    have k3 := cell_of_heap hx 3 _ rfl
    have k4 := cell_of_heap hx 4 _ rfl
    simp only [List.take_succ_cons, List.take_zero, List.drop_succ_cons, List.drop_zero, putsT, e0, e1, e2, e3, e4, e5, Option.getD_some]
    clear hI hsome e0 e1 e2 e3 e4 e5 hp hq hk hLl hLw hx
    go_frame
    go_wp2_with fail
    refine NoPanic.normal ?_
    go_wp2_with fail
    refine (HCL.out wr HC5.out).mono ?_
    rintro e w6 ⟨⟨nb, rfl, _, hpi⟩, hb6⟩
    dsimp only
    have HPI := Lib.hid (preI_read14 hpi)
    have HB6 := Lib.hid hb6
    clear k0 k1 k2 k3 k4 hpi hb6
    go_wp2_with fail
    refine (HOF.out _ _ w6 HPI.out).mono ?_
    rintro e w7 ⟨⟨ob2, rfl, _, hp2⟩, hb7⟩
    dsimp only
    have hb57 := HB6.out.trans (hb7.mono HB6.out.size)
    have HB7 := Lib.hid (HB5.out.trans (hb57.mono HB5.out.size))
    have HP7 := Lib.hid (Pre.later HP.out hb57)
    have HQ7 := Lib.hid (HQ.out.below hb57)
    have HK7 := Lib.hid (Pre.later HK.out hb57)
    have HA7 := Lib.hid hp2
    have hx := (hb57.block _ hBl5).trans HX5.out
    have k0 := cell_of_heap hx 0 _ rfl
    have k1 := cell_of_heap hx 1 _ rfl
    have k2 := cell_of_heap hx 2 _ rfl
    have k3 := cell_of_heap hx 3 _ rfl
    have k4 := cell_of_heap hx 4 _ rfl
    clear hp2 hb7 hb57 hx
    go_wp2_with fail
    clear k0 k1 k2 k3 k4
    obtain ⟨w9, rfl⟩ : ∃ w9 : World, w9 = w7 := ⟨_, rfl⟩
    go_loopw [56] (fun ix wx => ∃ k : Nat, k ≤ R ∧ ix = .int .i64 k ∧ w9 = wx) (fun ix _ => R - (intOf ix).toNat)
    case atStart => exact ⟨0, by omega, rfl, rfl⟩
    case round =>
      obtain ⟨r, hk, rfl, rfl⟩ := hrel
      by_cases hlt : r < R
      · have hki : (r : Int) < R := by omega
        obtain ⟨p, hp, _⟩ := HFN.out.2.1 r hlt
        have c0 := PC.cell HP7.out hp
        have c3 := PC.cell HA7.out hp
        obtain ⟨bw, hbw⟩ : ∃ bw, L[r]? = some bw := ⟨_, List.getElem?_eq_getElem (by rw [HLL.out]; exact hlt)⟩
        have c1 := PreB.cell HK7.out hbw
        obtain ⟨A, rl, rc, hc, hrd, hpw, hmem⟩ := HQ7.out.2 r hlt
        have hin : ∀ y ∈ rl, 0 ≤ y ∧ y < (R : Int) := fun y hy => by have := ((hmem y).1 hy).bd HF.out; rw [HRR.out] at this; exact this
        have hll := up_len hpw hin
        have hple := HLE.out r p hlt hp rl hmem
        obtain ⟨Ln, hLn⟩ : ∃ Ln, rl.length = Ln := ⟨_, rfl⟩
        rw [hLn] at hc hll hple
        have go1 : bw = true → ¬ (6 + (Ln : Int)) < (p : Int) := fun e => by
          have h6 : frm f r ≤ 6 := by unfold frm; split <;> omega
          omega
        have go2 : bw = false → ¬ (Ln : Int) < (p : Int) := fun e => by
          subst e
          have h6 : frm f r = 0 := by
            unfold frm
            rw [if_neg]
            intro h
            have := (HLW.out r hlt).2 h
            rw [hbw] at this
            cases this
          omega
        have HLT := Lib.hid hlt
        clear hk hp hbw hpw hmem hin hLn hrd hlt hple
        cases bw with
        | true =>
          have hp6 := go1 rfl
          clear go1 go2
          go_wp2
          have := HLT.out
          exact ⟨⟨r + 1, by omega, by go_num, by simp⟩, by simp [intOf]; omega⟩
        | false =>
          have hp6 := go2 rfl
          clear go1 go2
          go_wp2
          have := HLT.out
          exact ⟨⟨r + 1, by omega, by go_num, by simp⟩, by simp [intOf]; omega⟩
      · obtain rfl : r = R := by omega
        have hki : ¬ (r : Int) < (r : Int) := by omega
        clear hlt hk
        go_wp2_with fail
        refine (awake14_any _).mono ?_
        rintro e w10 ⟨rfl, hb10⟩
        dsimp only
        have HB10 := Lib.hid (HB.out.trans ((HB7.out.trans (hb10.mono HB7.out.size)).mono HB.out.size))
        clear hb10
        go_wp2
        go_returns
        exact ⟨rfl, HB10.out⟩
theorem ColorFew_any (f : Fn7) (C : Option Addr) (cap : Nat) (hl9 : f.code.length ≤ 9223372036854775807) (w : World) (hC : RdI w C f.code) :
    Calls Try.prog 5 #[funcAgg f.nm f.ps f.R f.Fr C f.code.length cap] w fun e w' => e = .returned (.bool true) ∧ Below w.heap.size w w' := by
  by_cases hfw : Fw14 f
  · by_cases hf : OkF f
    · exact CFew_yes f hfw hf C cap hl9 w hC
    · exact CFew_no f hfw hf C cap hl9 w hC
  · exact CFew_not f hfw C cap hl9 w hC
end Go.Proofs.Ythbcdckonaljiaa
