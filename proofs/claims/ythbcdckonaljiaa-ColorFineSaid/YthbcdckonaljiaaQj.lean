import Derived.Test.YthbcdckonaljiaaQi
import Derived.Test.YthbcdckonaljiaaZlc
namespace Go.Proofs.Ythbcdckonaljiaa
open Go.RowKit Go.BigFrame

def Fw14 (f : Fn7) : Prop := Sm f ∧ f.code.length ≤ 20
set_option maxRecDepth 1000000 in
set_option maxHeartbeats 8000000 in
theorem few14_any (f : Fn7) (C : Option Addr) (cap : Nat) (hl9 : f.code.length ≤ 9223372036854775807) (w : World) (hC : RdI w C f.code) : Calls Try.prog 11 #[funcAgg f.nm f.ps f.R f.Fr C f.code.length cap] w fun e w' => Tru (Fw14 f) e ∧ Below w.heap.size w w' := by
  have hS := fun W h => Small_any f C cap hl9 W h
  have hF : Fw14 f ↔ (Sm f ∧ f.code.length ≤ 20) := Iff.rfl
  obtain ⟨nm, ps, R, Fr, l⟩ := f
  obtain ⟨L, hL⟩ : ∃ L, l.length = L := ⟨_, rfl⟩
  simp only at hC hl9 hS hF ⊢
  rw [hL] at hl9 hS hF ⊢
  clear hL
  have hB := Below.one w (funcObj nm ps R Fr C L cap)
  have bx := heap_alloc_new w (funcObj nm ps R Fr C L cap)
  have hS1 := (hS _ (hC.below hB)).mono fun e w' h => (⟨h.1.val, h.2⟩ : e = .returned (.bool (tb (Sm ⟨nm, ps, R, Fr, l⟩))) ∧ _)
  have g4 := cell_of_heap bx 4 (.slice C L cap) rfl
  have hlt := (Array.getElem?_eq_some_iff.1 bx).1
  have HO := Lib.hid (⟨(tb_true (p := Sm ⟨nm, ps, R, Fr, l⟩)).1, (tb_false (p := Sm ⟨nm, ps, R, Fr, l⟩)).1⟩ : (tb (Sm ⟨nm, ps, R, Fr, l⟩) = true → Sm ⟨nm, ps, R, Fr, l⟩) ∧ (tb (Sm ⟨nm, ps, R, Fr, l⟩) = false → ¬ Sm ⟨nm, ps, R, Fr, l⟩))
  have HF := Lib.hid hF
  clear hS hF hC
  generalize tb (Sm ⟨nm, ps, R, Fr, l⟩) = bb at *
  simp only [funcObj, funcAgg] at hB bx hS1 g4 hlt ⊢
  cases bb
  · have HT := Lib.hid (Tru.no (fun h : Fw14 ⟨nm, ps, R, Fr, l⟩ => HO.out.2 rfl h.1))
    go_enter Try.func11, Try.ntmps11
    go_wp2_with (first
      | (go_at_call 36; refine hS1.mono ?_; rintro e w3 ⟨rfl, hb3⟩))
    go_returns
    exact ⟨HT.out, hB.trans (hb3.mono hB.size)⟩
  · by_cases h20 : L ≤ 20
    · have HT := Lib.hid (Tru.yes (HF.out.2 ⟨HO.out.1 rfl, h20⟩))
      have q1 : decide ((L : Int) ≤ 20) = true := by simp; omega
      have q2 : decide (L ≤ 20) = true := by simp; omega
      clear h20
      go_enter Try.func11, Try.ntmps11
      go_wp2_with (first
        | (go_at_call 36; refine hS1.mono ?_; rintro e w3 ⟨rfl, hb3⟩; have g4 := (hb3.cell (p := ⟨w.heap.size, 4, none⟩) hlt).trans g4))
      go_returns
      exact ⟨HT.out, hB.trans (hb3.mono hB.size)⟩
    · have HT := Lib.hid (Tru.no (fun h : Fw14 ⟨nm, ps, R, Fr, l⟩ => h20 (HF.out.1 h).2))
      have q1 : decide ((L : Int) ≤ 20) = false := by simp; omega
      have q2 : decide (L ≤ 20) = false := by simp; omega
      clear h20
      go_enter Try.func11, Try.ntmps11
      go_wp2_with (first
        | (go_at_call 36; refine hS1.mono ?_; rintro e w3 ⟨rfl, hb3⟩; have g4 := (hb3.cell (p := ⟨w.heap.size, 4, none⟩) hlt).trans g4))
      go_returns
      exact ⟨HT.out, hB.trans (hb3.mono hB.size)⟩
def slF (l : List Int) : Int := l.foldl (fun n p => max n (p - 6 + 1)) 0
theorem slF_app (l : List Int) (p : Int) : slF (l ++ [p]) = max (slF l) (p - 6 + 1) := by simp [slF]
theorem slF_bd : ∀ (l : List Int) (K : Int), 0 ≤ K → (∀ x ∈ l, x ≤ K + 5) → 0 ≤ slF l ∧ slF l ≤ K := by
  intro l K hK h
  unfold slF
  have : ∀ (l : List Int) (n : Int), 0 ≤ n → n ≤ K → (∀ x ∈ l, x ≤ K + 5) → 0 ≤ l.foldl (fun n p => max n (p - 6 + 1)) n ∧ l.foldl (fun n p => max n (p - 6 + 1)) n ≤ K := by
    intro l
    induction l with
    | nil => exact fun n h1 h2 _ => ⟨h1, h2⟩
    | cons x l ih =>
      intro n h1 h2 h3
      have := h3 x (List.mem_cons_self ..)
      rw [List.foldl_cons]
      exact ih (max n (x - 6 + 1)) (by omega) (by omega) (fun y hy => h3 y (List.mem_cons_of_mem _ hy))
  exact this l 0 (Int.le_refl _) hK h
set_option maxRecDepth 1000000 in
set_option maxHeartbeats 16000000 in
theorem Slots_any (pl : List Int) (ob n cap : Nat) (hn : pl.length = n) (hn2 : n ≤ 5000) (hb : ∀ x ∈ pl, 0 ≤ x ∧ x ≤ 9000) (w : World) (hP : PC w ob pl) :
    Calls Try.prog 18 #[.slice (some ⟨ob, 0, none⟩) n cap] w fun e w' => e = .returned (.int .i64 (slF pl)) ∧ w' = w := by
  have HN := Lib.hid hn
  have HB := Lib.hid hb
  have HP := Lib.hid hP
  clear hn hb hP
  go_enter Try.func18, Try.ntmps18
  go_wp2
  go_loopw [3, 8] (fun v ix wr => ∃ k : Nat, k ≤ n ∧ ix = .int .i64 k ∧ v = .int .i64 (slF (pl.take k)) ∧ w = wr) (fun v ix _ => n - (intOf ix).toNat)
  case atStart => exact ⟨0, by omega, rfl, rfl, rfl⟩
  case round =>
    obtain ⟨k, hk, rfl, rfl, rfl⟩ := hrel
    by_cases hlt : k < n
    · have hki : (k : Int) < n := by omega
      obtain ⟨p, hp⟩ : ∃ p, pl[k]? = some p := ⟨_, List.getElem?_eq_getElem (by rw [HN.out]; exact hlt)⟩
      have c := HP.out.cell hp
      have hpb := HB.out p (List.mem_of_getElem? hp)
      have hs := slF_bd (pl.take k) 8995 (by omega) (fun x hx => by have := HB.out x (List.mem_of_mem_take hx); omega)
      have HE : Hid (slF (pl.take (k + 1)) = max (slF (pl.take k)) (p - 6 + 1)) := Lib.hid (by rw [take_more hp, slF_app])
      have p0 := hpb.1
      have p1 := hpb.2
      have s0 := hs.1
      have s1 := hs.2
      generalize slF (pl.take k) = s at *
      have HLT := Lib.hid hlt
      clear hpb hs hp hlt hk
      go_wp2
      have := HLT.out
      exact ⟨⟨k + 1, by omega, by go_num, by rw [HE.out], by simp⟩, by simp [intOf]; omega⟩
    · obtain rfl : k = n := by omega
      have hki : ¬ (k : Int) < (k : Int) := by omega
      have HE : Hid (slF (pl.take k) = slF pl) := Lib.hid (by rw [List.take_of_length_le (by rw [HN.out]; exact Nat.le_refl _)])
      clear hlt hk
      go_wp2
      go_returns
      exact ⟨congrArg (fun x => Ending.returned (.int .i64 x)) HE.out, rfl⟩
open Go.RowKit Go.BigFrame

set_option maxRecDepth 1000000 in
set_option maxHeartbeats 16000000 in
theorem Fine_no (f : Fn7) (hf : ¬ OkF f) (V : Value) (C : Option Addr) (cap : Nat) (w : World) (hC : RdI w C f.code) :
    Calls Try.prog 15 #[funcAgg f.nm f.ps f.R f.Fr C f.code.length cap, V] w fun e w' => e = .returned (.bool false) ∧ Below w.heap.size w w' := by
  have hB := Below.one w (funcObj f.nm f.ps f.R f.Fr C f.code.length cap)
  have bx := heap_alloc_new w (funcObj f.nm f.ps f.R f.Fr C f.code.length cap)
  have hC1 := hC.below hB
  have hM := fun W h => Meet_no f hf C cap W h
  have hWa := fun W h => Waits_no f hf C cap W h
  simp only [funcObj, funcAgg] at hB bx hC1 hM hWa ⊢
  obtain ⟨W, hW⟩ : ∃ W, w.alloc (.cells #[.string f.nm, .int .i64 f.ps, .int .i64 f.R, .int .i64 f.Fr, .slice C f.code.length cap] 26) = W := ⟨_, rfl⟩
  rw [hW] at hB bx hC1
  have HB := Lib.hid hB
  have HBX := Lib.hid bx
  have hBl := (Array.getElem?_eq_some_iff.1 bx).1
  have HC1 := Lib.hid hC1
  have HM := Lib.hid hM
  have HWA := Lib.hid hWa
  clear hf hC hB bx hC1 hM hWa
  go_enter Try.func15, Try.ntmps15
  go_upto_region 1 with fail
  clear hW
  refine wp_region_noPanic ?_
  refine wp_region_grown 4 (IG W (OfN w.heap.size (.agg #[.string f.nm, .int .i64 f.ps, .int .i64 f.R, .int .i64 f.Fr, .slice C f.code.length cap]))) (by kernel_rfl) (by kernel_rfl) ?_ ?_ ?_
  · exact ⟨(Below.refl _ _).drew, fun i v h => by cases h⟩
  · intro i o s wr hi ho hI hsi hdep
    have hb := hI.b
    have c0 := (hb.block _ hBl).trans HBX.out
    have hr := Below.refl wr.heap.size wr
    rcases (by omega : i = 0 ∨ i = 1 ∨ i = 2 ∨ i = 3) with rfl | rfl | rfl | rfl
    all_goals (simp only [List.getElem?_cons_zero, List.getElem?_cons_succ] at ho; obtain rfl := Option.some.inj ho)
    · exact Or.inl ⟨_, _, runT_load 26 (.tmp 2) rfl _ rfl _ _ _ _ c0 dFn rfl dsFn, hI.step OfN.grow hr 0 _ rfl⟩
    · obtain ⟨v0, e0⟩ := some_of (hdep ⟨0, .data⟩ (by simp) rfl)
      obtain rfl := hI.g 0 _ e0
      refine Or.inr ⟨19, #[.agg #[.string f.nm, .int .i64 f.ps, .int .i64 f.R, .int .i64 f.Fr, .slice C f.code.length cap]], runT_call 19 _ _ rfl rfl _ ?_ Try.func19 (by kernel_rfl) rfl, ?_⟩
      · simp only [List.map_toArray, List.map_cons, List.map_nil]
        rw [evalT_told 0 (by kernel_rfl) e0]
      · exact (HM.out wr (HC1.out.below hb)).mono fun e w' ⟨he, hb'⟩ => ⟨_, he, hI.step OfN.grow hb' 1 _ rfl⟩
    · exact Or.inl ⟨_, _, runT_load 26 (.tmp 2) rfl _ rfl _ _ _ _ c0 dFn rfl dsFn, hI.step OfN.grow hr 2 _ rfl⟩
    · obtain ⟨v2, e2⟩ := some_of (hdep ⟨2, .data⟩ (by simp) rfl)
      obtain rfl := hI.g 2 _ e2
      refine Or.inr ⟨20, #[.agg #[.string f.nm, .int .i64 f.ps, .int .i64 f.R, .int .i64 f.Fr, .slice C f.code.length cap]], runT_call 20 _ _ rfl rfl _ ?_ Try.func20 (by kernel_rfl) rfl, ?_⟩
      · simp only [List.map_toArray, List.map_cons, List.map_nil]
        rw [evalT_told 2 (by kernel_rfl) e2]
      · exact (HWA.out wr (HC1.out.below hb)).mono fun e w' ⟨he, hb'⟩ => ⟨_, he, hI.step OfN.grow hb' 3 _ rfl⟩
  · intro s wr hI hsome
    obtain ⟨v0, e0⟩ := some_of (hsome 0 (by omega))
    obtain ⟨v1, e1⟩ := some_of (hsome 1 (by omega))
    obtain ⟨v2, e2⟩ := some_of (hsome 2 (by omega))
    obtain ⟨v3, e3⟩ := some_of (hsome 3 (by omega))
    obtain rfl := hI.g 1 _ e1
    obtain rfl := hI.g 3 _ e3
    have HBW := Lib.hid (HB.out.trans (hI.b.mono HB.out.size))
    simp only [List.take_succ_cons, List.take_zero, List.drop_succ_cons, List.drop_zero, putsT, e0, e1, e2, e3, Option.getD_some]
    clear hI hsome e0 e1 e2 e3
    have hnil := eq_nil2
    go_frame
    go_wp2_with fail
    refine NoPanic.normal ?_
    go_wp2
    go_returns
    exact ⟨rfl, HBW.out⟩
def FnL (f : Fn7) (pl : List Int) : Prop := pl.length = f.R.toNat ∧ (∀ r : Nat, r < f.R.toNat → ∃ p : Nat, pl[r]? = some (p : Int) ∧ frm f r ≤ p) ∧ ∀ a b : Nat, a < f.R.toNat → b < f.R.toNat → MeP f a (b : Int) → pl[a]? ≠ pl[b]?
theorem clF_fn {f : Fn7} (hf : OkF f) : FnL f (clF f) := by
  obtain ⟨h1, h2, h3⟩ := clF_fine hf
  exact ⟨h1, fun r hr => by obtain ⟨p, h4, h5, _⟩ := h2 r hr; exact ⟨p, h4, h5⟩, h3⟩
set_option maxRecDepth 1000000 in
set_option maxHeartbeats 16000000 in
theorem Fine_yes (f : Fn7) (hf : OkF f) (pl : List Int) (hfn : FnL f pl) (ob lc : Nat) (C : Option Addr) (cap : Nat) (w : World) (hC : RdI w C f.code) (hP : PC w ob pl) :
    Calls Try.prog 15 #[funcAgg f.nm f.ps f.R f.Fr C f.code.length cap, .slice (some ⟨ob, 0, none⟩) f.R.toNat lc] w fun e w' => e = .returned (.bool true) ∧ Below w.heap.size w w' := by
  obtain ⟨N, hN⟩ : ∃ N, f.code.length = N := ⟨_, rfl⟩
  obtain ⟨R, hRR⟩ : ∃ R, f.R.toNat = R := ⟨_, rfl⟩
  have hR0 : f.R = (R : Int) := by have := hf.R; have := hf.ps; omega
  have hR2 : R ≤ 4096 := by have := hf.R; omega
  have hB := Below.one w (funcObj f.nm f.ps f.R f.Fr C f.code.length cap)
  have bx := heap_alloc_new w (funcObj f.nm f.ps f.R f.Fr C f.code.length cap)
  have hC1 := hC.below hB
  have hM := fun W h => Meet_yes f hf C cap W h
  have hWa := fun W h => Waits_yes f hf C cap W h
  unfold FnL at hfn
  rw [hRR] at hM hWa hfn ⊢
  rw [hN] at hM hWa hB bx hC1 ⊢
  have hP1 := Pre.later hP hB
  simp only [funcObj, funcAgg] at hB bx hC1 hM hWa hP1 ⊢
  rw [hR0] at hB bx hC1 hM hWa hP1 ⊢
  obtain ⟨W, hW⟩ : ∃ W, w.alloc (.cells #[.string f.nm, .int .i64 f.ps, .int .i64 (R : Int), .int .i64 f.Fr, .slice C N cap] 26) = W := ⟨_, rfl⟩
  rw [hW] at hB bx hC1 hP1
  have HB := Lib.hid hB
  have HBX := Lib.hid bx
  have hBl := (Array.getElem?_eq_some_iff.1 bx).1
  have HC1 := Lib.hid hC1
  have HM := Lib.hid hM
  have HWA := Lib.hid hWa
  have HF := Lib.hid hf
  have HRR := Lib.hid hRR
  have HFN := Lib.hid hfn
  have HP1 := Lib.hid hP1
  clear hf hC hB bx hC1 hM hWa hN hRR hR0 hfn hP hP1
  go_enter Try.func15, Try.ntmps15
  go_upto_region 1 with fail
  clear hW
  refine wp_region_noPanic ?_
  refine wp_region_grown 4 (IG W (OfG f R w.heap.size (.agg #[.string f.nm, .int .i64 f.ps, .int .i64 (R : Int), .int .i64 f.Fr, .slice C N cap]))) (by kernel_rfl) (by kernel_rfl) ?_ ?_ ?_
  · exact ⟨(Below.refl _ _).drew, fun i v h => by cases h⟩
  · intro i o s wr hi ho hI hsi hdep
    have hb := hI.b
    have c0 := (hb.block _ hBl).trans HBX.out
    have hr := Below.refl wr.heap.size wr
    rcases (by omega : i = 0 ∨ i = 1 ∨ i = 2 ∨ i = 3) with rfl | rfl | rfl | rfl
    all_goals (simp only [List.getElem?_cons_zero, List.getElem?_cons_succ] at ho; obtain rfl := Option.some.inj ho)
    · exact Or.inl ⟨_, _, runT_load 26 (.tmp 2) rfl _ rfl _ _ _ _ c0 dFn rfl dsFn, hI.step OfG.grow hr 0 _ rfl⟩
    · obtain ⟨v0, e0⟩ := some_of (hdep ⟨0, .data⟩ (by simp) rfl)
      obtain rfl := hI.g 0 _ e0
      refine Or.inr ⟨19, #[.agg #[.string f.nm, .int .i64 f.ps, .int .i64 (R : Int), .int .i64 f.Fr, .slice C N cap]], runT_call 19 _ _ rfl rfl _ ?_ Try.func19 (by kernel_rfl) rfl, ?_⟩
      · simp only [List.map_toArray, List.map_cons, List.map_nil]
        rw [evalT_told 0 (by kernel_rfl) e0]
      · exact (HM.out wr (HC1.out.below hb)).mono fun e w' ⟨⟨qb, he, h2, h3⟩, hb'⟩ => ⟨_, he, hI.step OfG.grow hb' 1 _ ⟨qb, rfl, Nat.le_trans HB.out.size (Nat.le_trans hb.size h2), h3⟩⟩
    · exact Or.inl ⟨_, _, runT_load 26 (.tmp 2) rfl _ rfl _ _ _ _ c0 dFn rfl dsFn, hI.step OfG.grow hr 2 _ rfl⟩
    · obtain ⟨v2, e2⟩ := some_of (hdep ⟨2, .data⟩ (by simp) rfl)
      obtain rfl := hI.g 2 _ e2
      refine Or.inr ⟨20, #[.agg #[.string f.nm, .int .i64 f.ps, .int .i64 (R : Int), .int .i64 f.Fr, .slice C N cap]], runT_call 20 _ _ rfl rfl _ ?_ Try.func20 (by kernel_rfl) rfl, ?_⟩
      · simp only [List.map_toArray, List.map_cons, List.map_nil]
        rw [evalT_told 2 (by kernel_rfl) e2]
      · exact (HWA.out wr (HC1.out.below hb)).mono fun e w' ⟨⟨xb, L, he, h2, h3⟩, hb'⟩ => ⟨_, he, hI.step OfG.grow hb' 3 _ ⟨xb, L, rfl, Nat.le_trans HB.out.size (Nat.le_trans hb.size h2), h3⟩⟩
  · intro s wr hI hsome
    obtain ⟨v0, e0⟩ := some_of (hsome 0 (by omega))
    obtain ⟨v1, e1⟩ := some_of (hsome 1 (by omega))
    obtain ⟨v2, e2⟩ := some_of (hsome 2 (by omega))
    obtain ⟨v3, e3⟩ := some_of (hsome 3 (by omega))
    obtain ⟨qb, he1, hq0, hq⟩ := hI.g 1 _ e1
    injection he1 with he1
    subst he1
    obtain ⟨kb, L, he3, hk0, hk, hLl, hLw⟩ := hI.g 3 _ e3
    injection he3 with he3
    subst he3
    have HQ := Lib.hid hq.toC
    have HK := Lib.hid hk
    have HLL := Lib.hid hLl
    have HLW := Lib.hid hLw
    have HPW : Hid (PC wr ob pl) := Lib.hid (Pre.later HP1.out hI.b)
    have hx := (hI.b.block _ hBl).trans HBX.out
    have g2 := cell_of_heap hx 2 _ rfl
    have HBW := Lib.hid (HB.out.trans (hI.b.mono HB.out.size))
    simp only [List.take_succ_cons, List.take_zero, List.drop_succ_cons, List.drop_zero, putsT, e0, e1, e2, e3, Option.getD_some]
    clear hI hsome e0 e1 e2 e3 hq hk hLl hLw hq0 hk0 hx
    have hnil := fun W => eq_nil1 ⟨qb, 0, none⟩ R R W
    go_frame
    go_wp2_with fail
    refine NoPanic.normal ?_
    go_wp2
    clear g2 hnil
    obtain ⟨w5, rfl⟩ : ∃ w5 : World, w5 = wr := ⟨_, rfl⟩
    go_loopw [26] (fun ix wx => ∃ k : Nat, k ≤ R ∧ ix = .int .i64 k ∧ w5 = wx) (fun ix _ => R - (intOf ix).toNat)
    case atStart => exact ⟨0, by omega, rfl, rfl⟩
    case round =>
      obtain ⟨r, hk, rfl, rfl⟩ := hrel
      by_cases hlt : r < R
      · have hki : (r : Int) < R := by omega
        obtain ⟨p, hp, hpf⟩ := HFN.out.2.1 r hlt
        have c0 := HPW.out.cell hp
        obtain ⟨bw, hbw⟩ : ∃ bw, L[r]? = some bw := ⟨_, List.getElem?_eq_getElem (by rw [HLL.out]; exact hlt)⟩
        have c1 := PreB.cell HK.out hbw
        have hfr : bw = true → 6 ≤ p := fun e => by
          subst e
          have := (HLW.out r hlt).1 hbw
          unfold frm at hpf
          rwa [if_pos this] at hpf
        obtain ⟨A, rl, rc, hc, hrd, hpw, hmem⟩ := HQ.out.2 r hlt
        have hin : ∀ y ∈ rl, 0 ≤ y ∧ y < (R : Int) := fun y hy => by have := ((hmem y).1 hy).bd HF.out; rw [HRR.out] at this; exact this
        have hll := up_len hpw hin
        obtain ⟨Ln, hLn⟩ : ∃ Ln, rl.length = Ln := ⟨_, rfl⟩
        rw [hLn] at hc hll
        have HIN := Lib.hid hin
        have HLn := Lib.hid hLn
        have HRD := Lib.hid hrd
        have HNE : Hid (∀ o : Nat, (o : Int) ∈ rl → o < R → ∀ v, pl[o]? = some v → ¬ v = (p : Int)) := Lib.hid fun o ho hoR v hv e => HFN.out.2.2 r o hlt hoR ((hmem _).1 ho) (by rw [hp, hv, e])
        have hp0 : ¬ (p : Int) < 0 := by omega
        have HLT := Lib.hid hlt
        clear hk hp hpf hbw hpw hmem hin hLn hrd hlt
        have go2 : bw = true → ¬ (p : Int) < 6 := fun e => by have := hfr e; omega
        clear hfr
        cases bw with
        | true =>
          have hp6 := go2 rfl
          clear go2
          go_wp2
          go_loopw [48] (fun ix wx => ∃ j : Nat, j ≤ Ln ∧ ix = .int .i64 j ∧ w5 = wx) (fun ix _ => Ln - (intOf ix).toNat)
          case atStart => exact ⟨0, by omega, rfl, by simp⟩
          case round =>
            obtain ⟨j, hj, rfl, rfl⟩ := hrel
            by_cases hlt2 : j < Ln
            · have hji : (j : Int) < Ln := by omega
              obtain ⟨x, hx⟩ : ∃ x, rl[j]? = some x := ⟨_, List.getElem?_eq_getElem (by rw [HLn.out]; exact hlt2)⟩
              have hxm := List.mem_of_getElem? hx
              have hxb := HIN.out x hxm
              obtain ⟨o, rfl⟩ : ∃ o : Nat, x = o := ⟨x.toNat, by omega⟩
              have hoR : o < R := by omega
              have hoi : (o : Int) < R := hxb.2
              obtain ⟨b, off, he, hbl, hc3⟩ := HRD.out j _ hx
              subst he
              obtain ⟨v, hv⟩ : ∃ v, pl[o]? = some v := ⟨_, List.getElem?_eq_getElem (by rw [HFN.out.1]; exact hoR)⟩
              have c4 := HPW.out.cell hv
              have hne := HNE.out o hxm hoR v hv
              have hnb : (v == (p : Int)) = false := by rw [beq_eq_false_iff_ne]; exact hne
              have HLT2 := Lib.hid hlt2
              clear hlt2 hj hx hxm hxb hv hne
              go_wp2
              have := HLT2.out
              exact ⟨⟨j + 1, by omega, by go_num, by simp⟩, by simp [intOf]; omega⟩
            · obtain rfl : j = Ln := by omega
              have hji : ¬ (j : Int) < (j : Int) := by omega
              clear hlt2 hj
              go_wp2
              have := HLT.out
              exact ⟨⟨r + 1, by omega, by go_num, by simp⟩, by simp [intOf]; omega⟩
        | false =>
          clear go2
          go_wp2
          go_loopw [48] (fun ix wx => ∃ j : Nat, j ≤ Ln ∧ ix = .int .i64 j ∧ w5 = wx) (fun ix _ => Ln - (intOf ix).toNat)
          case atStart => exact ⟨0, by omega, rfl, by simp⟩
          case round =>
            obtain ⟨j, hj, rfl, rfl⟩ := hrel
            by_cases hlt2 : j < Ln
            · have hji : (j : Int) < Ln := by omega
              obtain ⟨x, hx⟩ : ∃ x, rl[j]? = some x := ⟨_, List.getElem?_eq_getElem (by rw [HLn.out]; exact hlt2)⟩
              have hxm := List.mem_of_getElem? hx
              have hxb := HIN.out x hxm
              obtain ⟨o, rfl⟩ : ∃ o : Nat, x = o := ⟨x.toNat, by omega⟩
              have hoR : o < R := by omega
              have hoi : (o : Int) < R := hxb.2
              obtain ⟨b, off, he, hbl, hc3⟩ := HRD.out j _ hx
              subst he
              obtain ⟨v, hv⟩ : ∃ v, pl[o]? = some v := ⟨_, List.getElem?_eq_getElem (by rw [HFN.out.1]; exact hoR)⟩
              have c4 := HPW.out.cell hv
              have hne := HNE.out o hxm hoR v hv
              have hnb : (v == (p : Int)) = false := by rw [beq_eq_false_iff_ne]; exact hne
              have HLT2 := Lib.hid hlt2
              clear hlt2 hj hx hxm hxb hv hne
              go_wp2
              have := HLT2.out
              exact ⟨⟨j + 1, by omega, by go_num, by simp⟩, by simp [intOf]; omega⟩
            · obtain rfl : j = Ln := by omega
              have hji : ¬ (j : Int) < (j : Int) := by omega
              clear hlt2 hj
              go_wp2
              have := HLT.out
              exact ⟨⟨r + 1, by omega, by go_num, by simp⟩, by simp [intOf]; omega⟩
      · obtain rfl : r = R := by omega
        have hki : ¬ (r : Int) < (r : Int) := by omega
        clear hlt hk
        go_wp2
        go_returns
        exact ⟨rfl, HBW.out⟩
open Go.RowKit Go.BigFrame

set_option maxRecDepth 1000000 in
set_option maxHeartbeats 16000000 in
theorem waits14_any (f : Fn7) (hf : OkF f) (r : Int) (C : Option Addr) (cap : Nat) (w : World) (hC : RdI w C f.code) :
    Calls Try.prog 16 #[funcAgg f.nm f.ps f.R f.Fr C f.code.length cap, .int .i64 r] w fun e w' => e = .returned (.bool (tb (WaP f r))) ∧ Below w.heap.size w w' := by
  obtain ⟨N, hN⟩ : ∃ N, f.code.length = N := ⟨_, rfl⟩
  have hN2 : N ≤ 8192 := by rw [← hN]; exact hf.len.2
  have hB := Below.one w (funcObj f.nm f.ps f.R f.Fr C f.code.length cap)
  have bx := heap_alloc_new w (funcObj f.nm f.ps f.R f.Fr C f.code.length cap)
  have hC1 := hC.below hB
  have hBe := fun p hp W h => refBehind_any f hf p hp r C cap W h
  rw [hN] at hBe hB bx hC1 ⊢
  simp only [funcObj, funcAgg] at hB bx hC1 hBe ⊢
  have HB := Lib.hid hB
  have HBE := Lib.hid hBe
  have HC1 := Lib.hid hC1
  have HN := Lib.hid hN
  obtain ⟨W, hW⟩ : ∃ W, w.alloc (.cells #[.string f.nm, .int .i64 f.ps, .int .i64 f.R, .int .i64 f.Fr, .slice C N cap] 26) = W := ⟨_, rfl⟩
  rw [hW] at bx HC1 HB
  have HBX := Lib.hid bx
  have hBl := (Array.getElem?_eq_some_iff.1 bx).1
  have g4 := cell_of_heap bx 4 _ rfl
  have HAL : Hid (∀ p, WaA f p r → p < N) := Lib.hid fun p ⟨i, hi, _⟩ => by rw [← hN]; exact (List.getElem?_eq_some_iff.1 hi).1
  clear hf hC hN hB hBe hC1 bx
  go_enter Try.func16, Try.ntmps16
  go_wp2
  clear hW g4
  go_loopw [10] (fun ix wr => ∃ k : Nat, k ≤ N ∧ ix = .int .i64 k ∧ (∀ p, p < k → ¬ WaA f p r) ∧ Below W.heap.size W wr) (fun ix _ => N - (intOf ix).toNat)
  case atStart => exact ⟨0, by omega, rfl, fun p h => absurd h (Nat.not_lt_zero _), Below.refl _ _⟩
  case round =>
    obtain ⟨k, hk, rfl, hno, hb⟩ := hrel
    have HNO := Lib.hid hno
    have HBB := Lib.hid hb
    by_cases hlt : k < N
    · have hki : (k : Int) < N := by omega
      obtain ⟨i, hi⟩ : ∃ i, f.code[k]? = some i := ⟨_, List.getElem?_eq_getElem (by rw [HN.out]; exact hlt)⟩
      obtain ⟨bb, oo, he, hbl, hcs⟩ := (HC1.out.below hb) k i hi
      obtain ⟨x0, x1, x2, x3, x4, x5, x6, x7, x8, x9, x10, x11, x12, x13, x14⟩ := RdI.load hcs
      have kx := heap_alloc_new wr i.obj
      have hb1 := Below.one wr i.obj
      have hbw := hb.trans (hb1.mono hb.size)
      have hx1 := (hbw.block _ hBl).trans HBX.out
      have h0 := cell_of_heap hx1 0 _ rfl
      have h1 := cell_of_heap hx1 1 _ rfl
      have h2 := cell_of_heap hx1 2 _ rfl
      have h3 := cell_of_heap hx1 3 _ rfl
      have h4 := cell_of_heap hx1 4 _ rfl
      have q4 := cell_of_heap ((hb.block _ hBl).trans HBX.out) 4 _ rfl
      have HCALL := Lib.hid (HBE.out k hlt _ (HC1.out.below hbw))
      have HWA : Hid (WaA f k r ↔ (i.kind = 8 ∧ r ≠ i.dst ∧ Bh f.code k r)) := Lib.hid ⟨fun ⟨j, hj, h⟩ => by rw [hi] at hj; injection hj with hj; subst hj; exact h, fun h => ⟨i, hi, h⟩⟩
      have HNX : Hid (¬ WaA f k r → ∀ p, p < k + 1 → ¬ WaA f p r) := Lib.hid fun hn p hp => by
        by_cases hpk : p = k
        · subst hpk; exact hn
        · exact HNO.out p (by omega)
      have HB1 := Lib.hid hbw
      obtain ⟨tv, htv⟩ : ∃ tv, tb (Bh f.code k r) = tv := ⟨_, rfl⟩
      rw [htv] at HCALL
      have HTV := Lib.hid htv
      have HLT := Lib.hid hlt
      subst he
      obtain ⟨kk, op, dst, a, b', n, text, r0, r1, r2, r3, r4, r5, to_, els⟩ := i
      have ⟨d0, d1, d2, d3, d4, d5, d6, d7, d8, d9, d10, d11, d12, d13, d14⟩ := Ins.cells (i := ⟨kk, op, dst, a, b', n, text, r0, r1, r2, r3, r4, r5, to_, els⟩) kx
      simp only [Ins.obj] at d0 d1 d2 d3 d4 d5 d6 d7 d8 d9 d10 d11 d12 d13 d14 h0 h1 h2 h3 h4 HCALL HB1
      simp only at x0 x1 x2 x3 x4 x5 x6 x7 x8 x9 x10 x11 x12 x13 x14 HWA
      clear hk hno hb hi hcs kx hb1 hbw hx1 htv hlt
      by_cases h8 : kk = 8
      · by_cases hd : r = dst
        · have HNW := Lib.hid (HNX.out (fun h => (HWA.out.1 h).2.1 hd))
          subst h8
          have hde : (dst == r) = true := by rw [beq_iff_eq]; exact hd.symm
          subst hd
          go_wp2
          have := HLT.out
          exact ⟨⟨k + 1, by omega, by go_num, HNW.out, HB1.out⟩, by simp [intOf]; omega⟩
        · have hde : (dst == r) = false := by rw [beq_eq_false_iff_ne]; exact fun e => hd e.symm
          have hd2 : ¬ dst = r := fun e => hd e.symm
          cases tv with
          | true =>
            have HY : Hid (tb (WaP f r) = true) := Lib.hid (tb_true.2 ⟨k, HWA.out.2 ⟨h8, hd, tb_true.1 HTV.out⟩⟩)
            subst h8
            clear hd
            go_wp2_with (go_at_call 42; refine HCALL.out.mono ?_; rintro e w3 ⟨rfl, hb3⟩; have HB3 := Lib.hid (HB1.out.trans (hb3.mono HB1.out.size)); clear hb3)
            go_returns
            exact ⟨congrArg (fun x => Ending.returned (.bool x)) HY.out.symm, HB.out.trans (HB3.out.mono HB.out.size)⟩
          | false =>
            have HNW := Lib.hid (HNX.out (fun h => tb_false.1 HTV.out (HWA.out.1 h).2.2))
            subst h8
            clear hd
            go_wp2_with (go_at_call 42; refine HCALL.out.mono ?_; rintro e w3 ⟨rfl, hb3⟩; have HB3 := Lib.hid (HB1.out.trans (hb3.mono HB1.out.size)); clear hb3)
            have := HLT.out
            exact ⟨⟨k + 1, by omega, by go_num, HNW.out, HB3.out⟩, by simp [intOf]; omega⟩
      · have HNW := Lib.hid (HNX.out (fun h => h8 (HWA.out.1 h).1))
        have h8b : (kk == 8) = false := by rw [beq_eq_false_iff_ne]; exact h8
        go_wp2
        have := HLT.out
        exact ⟨⟨k + 1, by omega, by go_num, HNW.out, HB1.out⟩, by simp [intOf]; omega⟩
    · obtain rfl : k = N := by omega
      have hki : ¬ (k : Int) < (k : Int) := by omega
      have HY : Hid (tb (WaP f r) = false) := Lib.hid (tb_false.2 fun ⟨p, h⟩ => hno p (HAL.out p h) h)
      clear hk hno hb hlt
      go_wp2
      go_returns
      exact ⟨congrArg (fun x => Ending.returned (.bool x)) HY.out.symm, HB.out.trans (HBB.out.mono HB.out.size)⟩
open Go.RowKit Go.BigFrame

def PrC (f : Fn7) (k : Nat) (i : Ins) (x y : Int) : Prop := i.sets = x ∧ Bh f.code k y ∧ ¬ (i.kind = 4 ∧ i.a = y)
theorem idx0 (a b : Int) (W : World) : (Instr.index 76 (.agg #[.int .i64 a, .int .i64 b, .int .i64 b, .int .i64 a]) (.int .i64 0)).run Try.prog W = .ok (.agg #[.int .i64 a, .int .i64 b]) W := by kernel_rfl
theorem idx1 (a b : Int) (W : World) : (Instr.index 76 (.agg #[.int .i64 a, .int .i64 b, .int .i64 b, .int .i64 a]) (.int .i64 1)).run Try.prog W = .ok (.agg #[.int .i64 b, .int .i64 a]) W := by kernel_rfl
theorem idx22 {a b x y j : Nat} (hxy : (j = 0 ∧ x = a ∧ y = b) ∨ (j = 1 ∧ x = b ∧ y = a)) (W : World) : (Instr.index 76 (.agg #[.int .i64 (a : Int), .int .i64 (b : Int), .int .i64 (b : Int), .int .i64 (a : Int)]) (.int .i64 (j : Int))).run Try.prog W = .ok (.agg #[.int .i64 (x : Int), .int .i64 (y : Int)]) W := by
  rcases hxy with ⟨e0, e1, e2⟩ | ⟨e0, e1, e2⟩
  · rw [e0, e1, e2]; exact idx0 a b W
  · rw [e0, e1, e2]; exact idx1 a b W
theorem prc2 {f : Fn7} {k : Nat} {i : Ins} {a b x y j : Nat} (hxy : (j = 0 ∧ x = a ∧ y = b) ∨ (j = 1 ∧ x = b ∧ y = a)) (h1 : 0 < j → ¬ PrC f k i a b) : (¬ PrC f k i x y → (0 < j + 1 → ¬ PrC f k i a b) ∧ (1 < j + 1 → ¬ PrC f k i b a)) ∧ (PrC f k i x y → PrC f k i a b ∨ PrC f k i b a) := by
  rcases hxy with ⟨e0, e1, e2⟩ | ⟨e0, e1, e2⟩
  · rw [e1, e2]; exact ⟨fun h => ⟨fun _ => h, fun h => absurd h (by omega)⟩, Or.inl⟩
  · rw [e1, e2]; exact ⟨fun h => ⟨fun _ => h1 (by omega), fun _ => h⟩, Or.inr⟩
noncomputable def mt0 : Code := ((((Try.f17.body).map loopsOf).getD [])[0]?).getD .skip
noncomputable def mt2 : Code := ((loopsOf (inLoop mt0))[0]?).getD .skip
set_option maxRecDepth 1000000 in
set_option maxHeartbeats 16000000 in
theorem mt2_any (f : Fn7) (hf : OkF f) (N k a b B ib cap : Nat) (hN : f.code.length = N) (hk : k < N) (i : Ins) (C : Option Addr) (w : World) (hC : RdI w C f.code) (hB : w.heap[B]? = some (funcObj f.nm f.ps f.R f.Fr C N cap)) (hib : w.heap[ib]? = some i.obj)
    (x0 x1 x2 x4 x5 x6 x9 x10 x11 x12 x13 x14 x15 x16 x17 x18 x19 x20 x21 x22 x23 x24 x25 x26 x27 x28 x29 x30 x31 x32 x33 x34 x35 x36 x37 x38 x39 x40 x41 x42 x43 x44 x45 x46 x47 x50 x51 x52 x53 x54 x55 x56 x57 x58 x59 x60 x61 x62 x63 x64 x65 x66 x67 x68 x69 x70 x71 x72 x73 x74 x75 x76 x77 x78 : Value) (Q : Exit → Act → World → Prop)
    (hQ1 : ∀ (y6 y10 y49 y50 y51 y52 y53 y54 y55 y56 y57 y58 y59 y60 y61 y62 y63 y64 y65 y66 y67 y68 y69 y70 y71 y72 y73 y74 y75 y76 y77 : Value) (w' : World), ¬ PrC f k i a b → ¬ PrC f k i b a → Below w.heap.size w w' → Q (.exit 2) ⟨(x0::x1::x2::.pointer (some ⟨B, 0, none⟩)::x4::x5::y6::.int .i64 (k : Int)::.pointer (some ⟨ib, 0, none⟩)::x9::y10::x11::x12::x13::x14::x15::x16::x17::x18::x19::x20::x21::x22::x23::x24::x25::x26::x27::x28::x29::x30::x31::x32::x33::x34::x35::x36::x37::x38::x39::x40::x41::x42::x43::x44::x45::x46::x47::.agg #[.int .i64 (a : Int), .int .i64 (b : Int), .int .i64 (b : Int), .int .i64 (a : Int)]::y49::y50::y51::y52::y53::y54::y55::y56::y57::y58::y59::y60::y61::y62::y63::y64::y65::y66::y67::y68::y69::y70::y71::y72::y73::y74::y75::y76::y77::x78::[]).toArray, []⟩ w')
    (hQ2 : ∀ (A : Act) (w' : World), A.tmps.getD 6 undef = .bool true → A.defers = [] → (PrC f k i a b ∨ PrC f k i b a) → Below w.heap.size w w' → Q .ret A w') :
    Code.wp Try.prog mt2 Q ⟨(x0::x1::x2::.pointer (some ⟨B, 0, none⟩)::x4::x5::x6::.int .i64 (k : Int)::.pointer (some ⟨ib, 0, none⟩)::x9::x10::x11::x12::x13::x14::x15::x16::x17::x18::x19::x20::x21::x22::x23::x24::x25::x26::x27::x28::x29::x30::x31::x32::x33::x34::x35::x36::x37::x38::x39::x40::x41::x42::x43::x44::x45::x46::x47::.agg #[.int .i64 (a : Int), .int .i64 (b : Int), .int .i64 (b : Int), .int .i64 (a : Int)]::.int .i64 (0)::x50::x51::x52::x53::x54::x55::x56::x57::x58::x59::x60::x61::x62::x63::x64::x65::x66::x67::x68::x69::x70::x71::x72::x73::x74::x75::x76::x77::x78::[]).toArray, []⟩ w := by
  conv => arg 2; whnf
  have HQ1 := Lib.hid hQ1
  have HQ2 := Lib.hid hQ2
  have HC := Lib.hid hC
  have HB := Lib.hid hB
  have HIB := Lib.hid hib
  have hBl := (Array.getElem?_eq_some_iff.1 hB).1
  have hil := (Array.getElem?_eq_some_iff.1 hib).1
  have hS := fun W => refSets_any i W
  have hBe := fun r W h => refBehind_any f hf k (by rw [hN]; exact hk) r C cap W h
  rw [hN] at hBe
  simp only [funcAgg] at hBe
  simp only [Ins.agg] at hS
  have HS := Lib.hid hS
  have HBE := Lib.hid hBe
  clear hQ1 hQ2 hC hB hib hS hBe hf hN
  go_loopw [49] (fun ix wr => ∃ j : Nat, j ≤ 2 ∧ ix = .int .i64 j ∧ (0 < j → ¬ PrC f k i a b) ∧ (1 < j → ¬ PrC f k i b a) ∧ Below w.heap.size w wr) (fun ix _ => 2 - (intOf ix).toNat)
  case atStart => exact ⟨0, by omega, rfl, fun h => absurd h (by omega), fun h => absurd h (by omega), Below.refl _ _⟩
  case round =>
    obtain ⟨j, hj, rfl, h1, h2, hb⟩ := hrel
    have HN1 := Lib.hid h1
    have HN2 := Lib.hid h2
    have HBB := Lib.hid hb
    by_cases hlt : j < 2
    · obtain ⟨x, y, hxy⟩ : ∃ x y : Nat, (j = 0 ∧ x = a ∧ y = b) ∨ (j = 1 ∧ x = b ∧ y = a) := by
        rcases (by omega : j = 0 ∨ j = 1) with rfl | rfl
        · exact ⟨a, b, Or.inl ⟨rfl, rfl, rfl⟩⟩
        · exact ⟨b, a, Or.inr ⟨rfl, rfl, rfl⟩⟩
      have hji : (j : Int) < 2 := by omega
      have hix := idx22 hxy
      have HD := Lib.hid (prc2 (f := f) (k := k) (i := i) hxy HN1.out)
      have hb1 := Below.one wr (.cells #[.int .i64 (x : Int), .int .i64 (y : Int)] 75)
      have hp1 := heap_alloc_new wr (.cells #[.int .i64 (x : Int), .int .i64 (y : Int)] 75)
      have hbw := hb.trans (hb1.mono hb.size)
      obtain ⟨W1, hW1⟩ : ∃ W1, wr.alloc (.cells #[.int .i64 (x : Int), .int .i64 (y : Int)] 75) = W1 := ⟨_, rfl⟩
      rw [hW1] at hp1 hbw
      have hx1 := (hbw.block _ hBl).trans HB.out
      have hi1 := (hbw.block _ hil).trans HIB.out
      have p0 := cell_of_heap hp1 0 _ rfl
      have p1 := cell_of_heap hp1 1 _ rfl
      have h0 := cell_of_heap hx1 0 _ rfl
      have h1' := cell_of_heap hx1 1 _ rfl
      have h2' := cell_of_heap hx1 2 _ rfl
      have h3 := cell_of_heap hx1 3 _ rfl
      have h4 := cell_of_heap hx1 4 _ rfl
      have ⟨d0, d1, d2, d3, d4, d5, d6, d7, d8, d9, d10, d11, d12, d13, d14⟩ := Ins.cells hi1
      have HC1 := Lib.hid (HC.out.below hbw)
      have HBW := Lib.hid hbw
      have HLT := Lib.hid hlt
      clear hj h1 h2 hb hxy hb1 hbw hlt hx1 hi1
      go_upto_region 11 with fail
      obtain ⟨tv, htv⟩ : ∃ tv, tb (Bh f.code k (y : Int)) = tv := ⟨_, rfl⟩
      have HBY : Hid (∀ W, RdI W C f.code → Calls Try.prog 42 #[.agg #[.string f.nm, .int .i64 f.ps, .int .i64 f.R, .int .i64 f.Fr, .slice C N cap], .int .i64 (k : Int), .int .i64 (y : Int)] W fun e w' => e = .returned (.bool tv) ∧ Below W.heap.size W w') := Lib.hid fun W h => by
        have := HBE.out (y : Int) W h
        rw [htv] at this
        exact this
      have HTV := Lib.hid htv
      obtain ⟨sv, hsv⟩ : ∃ sv, i.sets = sv := ⟨_, rfl⟩
      obtain ⟨kd, hkd⟩ : ∃ kd, i.kind = kd := ⟨_, rfl⟩
      obtain ⟨ia, hia⟩ : ∃ ia, i.a = ia := ⟨_, rfl⟩
      rw [hsv, hkd, hia] at HS
      have HPE : Hid (PrC f k i x y ↔ (sv = (x : Int) ∧ Bh f.code k (y : Int) ∧ ¬ (kd = 4 ∧ ia = (y : Int)))) := Lib.hid (by unfold PrC; rw [hsv, hkd, hia])
      rw [hkd] at d0
      rw [hia] at d3
      have t0 := fun s : Later W1 => Later.cell d0 s
      have t1 := fun s : Later W1 => Later.cell d1 s
      have t2 := fun s : Later W1 => Later.cell d2 s
      have t3 := fun s : Later W1 => Later.cell d3 s
      have t4 := fun s : Later W1 => Later.cell d4 s
      have t5 := fun s : Later W1 => Later.cell d5 s
      have t6 := fun s : Later W1 => Later.cell d6 s
      have t7 := fun s : Later W1 => Later.cell d7 s
      have t8 := fun s : Later W1 => Later.cell d8 s
      have t9 := fun s : Later W1 => Later.cell d9 s
      have t10 := fun s : Later W1 => Later.cell d10 s
      have t11 := fun s : Later W1 => Later.cell d11 s
      have t12 := fun s : Later W1 => Later.cell d12 s
      have t13 := fun s : Later W1 => Later.cell d13 s
      have t14 := fun s : Later W1 => Later.cell d14 s
      have q0 := fun s : Later W1 => Later.cell p0 s
      have q1 := fun s : Later W1 => Later.cell p1 s
      have b0 := fun s : Later W1 => Later.cell h0 s
      have b1 := fun s : Later W1 => Later.cell h1' s
      have b2 := fun s : Later W1 => Later.cell h2' s
      have b3 := fun s : Later W1 => Later.cell h3 s
      have b4 := fun s : Later W1 => Later.cell h4 s
      clear htv hsv hkd hia hW1 hix d0 d1 d2 d3 d4 d5 d6 d7 d8 d9 d10 d11 d12 d13 d14 p0 p1 h0 h1' h2' h3 h4 hp1
      by_cases hs : sv = (x : Int)
      · have hse : (sv == (x : Int)) = true := by rw [beq_iff_eq]; exact hs
        cases tv with
        | false =>
          have HP := Lib.hid (show ¬ PrC f k i x y from fun h => tb_false.1 HTV.out (HPE.out.1 h).2.1)
          refine wp_region_later (by kernel_rfl) (by kernel_rfl) ?_
          iterate 25 (go_big_quiet_step (first | (go_at_call 44; exact Calls.later (HS.out _)) | (go_at_call 42; exact Calls.later (HBY.out _ (HC1.out.below (Later.h _))))))
          refine wpQuiet_nil ?_
          rintro w4 ⟨s', rfl⟩
          have HB4 := Lib.hid (HBW.out.trans (s'.h.mono HBW.out.size))
          go_wp2
          have := HLT.out
          exact ⟨⟨j + 1, by omega, by go_num, (HD.out.1 HP.out).1, (HD.out.1 HP.out).2, HB4.out⟩, by simp [intOf]; omega⟩
        | true =>
          have HBT := Lib.hid (tb_true.1 HTV.out)
          by_cases h4 : kd = 4
          · by_cases hy : ia = (y : Int)
            · have hye : ((y : Int) == (y : Int)) = true := beq_self_eq_true _
              have HP := Lib.hid (show ¬ PrC f k i x y from fun h => (HPE.out.1 h).2.2 ⟨h4, hy⟩)
              subst h4
              subst hy
              refine wp_region_later (by kernel_rfl) (by kernel_rfl) ?_
              iterate 25 (go_big_quiet_step (first | (go_at_call 44; exact Calls.later (HS.out _)) | (go_at_call 42; exact Calls.later (HBY.out _ (HC1.out.below (Later.h _))))))
              refine wpQuiet_nil ?_
              rintro w4 ⟨s', rfl⟩
              have HB4 := Lib.hid (HBW.out.trans (s'.h.mono HBW.out.size))
              go_wp2
              have := HLT.out
              exact ⟨⟨j + 1, by omega, by go_num, (HD.out.1 HP.out).1, (HD.out.1 HP.out).2, HB4.out⟩, by simp [intOf]; omega⟩
            · have hye : (ia == (y : Int)) = false := by rw [beq_eq_false_iff_ne]; exact hy
              have HP := Lib.hid (show PrC f k i x y from HPE.out.2 ⟨hs, HBT.out, fun h => hy h.2⟩)
              subst h4
              refine wp_region_later (by kernel_rfl) (by kernel_rfl) ?_
              iterate 25 (go_big_quiet_step (first | (go_at_call 44; exact Calls.later (HS.out _)) | (go_at_call 42; exact Calls.later (HBY.out _ (HC1.out.below (Later.h _))))))
              refine wpQuiet_nil ?_
              rintro w4 ⟨s', rfl⟩
              have HB4 := Lib.hid (HBW.out.trans (s'.h.mono HBW.out.size))
              go_wp2
              exact HQ2.out _ _ rfl rfl (HD.out.2 HP.out) HB4.out
          · have h4e : (kd == 4) = false := by rw [beq_eq_false_iff_ne]; exact h4
            have HP := Lib.hid (show PrC f k i x y from HPE.out.2 ⟨hs, HBT.out, fun h => h4 h.1⟩)
            refine wp_region_later (by kernel_rfl) (by kernel_rfl) ?_
            iterate 25 (go_big_quiet_step (first | (go_at_call 44; exact Calls.later (HS.out _)) | (go_at_call 42; exact Calls.later (HBY.out _ (HC1.out.below (Later.h _))))))
            refine wpQuiet_nil ?_
            rintro w4 ⟨s', rfl⟩
            have HB4 := Lib.hid (HBW.out.trans (s'.h.mono HBW.out.size))
            go_wp2
            exact HQ2.out _ _ rfl rfl (HD.out.2 HP.out) HB4.out
      · have hse : (sv == (x : Int)) = false := by rw [beq_eq_false_iff_ne]; exact hs
        have HP := Lib.hid (show ¬ PrC f k i x y from fun h => hs (HPE.out.1 h).1)
        refine wp_region_later (by kernel_rfl) (by kernel_rfl) ?_
        iterate 25 (go_big_quiet_step (first | (go_at_call 44; exact Calls.later (HS.out _)) | (go_at_call 42; exact Calls.later (HBY.out _ (HC1.out.below (Later.h _))))))
        refine wpQuiet_nil ?_
        rintro w4 ⟨s', rfl⟩
        have HB4 := Lib.hid (HBW.out.trans (s'.h.mono HBW.out.size))
        go_wp2
        have := HLT.out
        exact ⟨⟨j + 1, by omega, by go_num, (HD.out.1 HP.out).1, (HD.out.1 HP.out).2, HB4.out⟩, by simp [intOf]; omega⟩
    · obtain rfl : j = 2 := by omega
      have hji : ¬ ((2 : Nat) : Int) < 2 := by omega
      clear hj h1 h2 hb hlt
      go_wp2
      exact HQ1.out _ _ _ _ _ _ _ _ _ _ _ _ _ _ _ _ _ _ _ _ _ _ _ _ _ _ _ _ _ _ _ wr (HN1.out (by omega)) (HN2.out (by omega)) HBB.out
end Go.Proofs.Ythbcdckonaljiaa
