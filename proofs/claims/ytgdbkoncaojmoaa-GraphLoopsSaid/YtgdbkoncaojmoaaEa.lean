import Derived.Test.YtgdbkoncaojmoaaDq
import Derived.Test.YtgdbkoncaojmoaaZlc
/- Layer 9: few, awake. -/
namespace Go.Proofs.Ytgdbkoncaojmoaa
open Go.RowKit Go.BigFrame

def Fw9 (f : Fn7) : Prop := Sm f ∧ f.code.length ≤ 25
set_option maxRecDepth 1000000 in
set_option maxHeartbeats 8000000 in
theorem few9_any (f : Fn7) (C : Option Addr) (cap : Nat) (hl9 : f.code.length ≤ 9223372036854775807) (w : World) (hC : RdI w C f.code) : Calls Try.prog 9 #[funcAgg f.nm f.ps f.R f.Fr C f.code.length cap] w fun e w' => Tru (Fw9 f) e ∧ Below w.heap.size w w' := by
  have hS := fun W h => Small_any f C cap hl9 W h
  have hF : Fw9 f ↔ (Sm f ∧ f.code.length ≤ 25) := Iff.rfl
  obtain ⟨nm, ps, R, Fr, l⟩ := f
  obtain ⟨L, hL⟩ : ∃ L, l.length = L := ⟨_, rfl⟩
  simp only at hC hl9 hS hF ⊢
  rw [hL] at hl9 hS hF ⊢
  clear hL
  have hB := Below.one w (funcObj nm ps R Fr C L cap)
  have bx := heap_alloc_new w (funcObj nm ps R Fr C L cap)
  have hS1 := (hS _ (hC.below hB)).mono fun e w' h => (⟨h.1.val, h.2⟩ : e = .returned (.bool (tb (Sm ⟨nm, ps, R, Fr, l⟩))) ∧ _)
  have g4 := cell_of_heap bx 4 (.slice C L cap) rfl
  have hlt := (Array.getElem?_eq_some_iff.1 bx).1
  have HO := Lib.hid (⟨(tb_true (p := Sm ⟨nm, ps, R, Fr, l⟩)).1, (tb_false (p := Sm ⟨nm, ps, R, Fr, l⟩)).1⟩ : (tb (Sm ⟨nm, ps, R, Fr, l⟩) = true → Sm ⟨nm, ps, R, Fr, l⟩) ∧ (tb (Sm ⟨nm, ps, R, Fr, l⟩) = false → ¬ Sm ⟨nm, ps, R, Fr, l⟩))
  have HF := Lib.hid hF
  clear hS hF hC
  generalize tb (Sm ⟨nm, ps, R, Fr, l⟩) = bb at *
  simp only [funcObj, funcAgg] at hB bx hS1 g4 hlt ⊢
  cases bb
  · have HT := Lib.hid (Tru.no (fun h : Fw9 ⟨nm, ps, R, Fr, l⟩ => HO.out.2 rfl h.1))
    go_enter Try.func9, Try.ntmps9
    go_wp2_with (first
      | (go_at_call 28; refine hS1.mono ?_; rintro e w3 ⟨rfl, hb3⟩))
    go_returns
    exact ⟨HT.out, hB.trans (hb3.mono hB.size)⟩
  · by_cases h25 : L ≤ 25
    · have HT := Lib.hid (Tru.yes (HF.out.2 ⟨HO.out.1 rfl, h25⟩))
      have q1 : decide ((L : Int) ≤ 25) = true := by simp; omega
      have q2 : decide (L ≤ 25) = true := by simp; omega
      clear h25
      go_enter Try.func9, Try.ntmps9
      go_wp2_with (first
        | (go_at_call 28; refine hS1.mono ?_; rintro e w3 ⟨rfl, hb3⟩; have g4 := (hb3.cell (p := ⟨w.heap.size, 4, none⟩) hlt).trans g4))
      go_returns
      exact ⟨HT.out, hB.trans (hb3.mono hB.size)⟩
    · have HT := Lib.hid (Tru.no (fun h : Fw9 ⟨nm, ps, R, Fr, l⟩ => h25 (HF.out.1 h).2))
      have q1 : decide ((L : Int) ≤ 25) = false := by simp; omega
      have q2 : decide (L ≤ 25) = false := by simp; omega
      clear h25
      go_enter Try.func9, Try.ntmps9
      go_wp2_with (first
        | (go_at_call 28; refine hS1.mono ?_; rintro e w3 ⟨rfl, hb3⟩; have g4 := (hb3.cell (p := ⟨w.heap.size, 4, none⟩) hlt).trans g4))
      go_returns
      exact ⟨HT.out, hB.trans (hb3.mono hB.size)⟩
theorem few9_yes (f : Fn7) (h : Fw9 f) (C : Option Addr) (cap : Nat) (hl9 : f.code.length ≤ 9223372036854775807) (w : World) (hC : RdI w C f.code) : Calls Try.prog 9 #[funcAgg f.nm f.ps f.R f.Fr C f.code.length cap] w fun e w' => e = .returned (.bool true) ∧ Below w.heap.size w w' :=
  (few9_any f C cap hl9 w hC).mono fun e w' ⟨⟨b, h1, h2⟩, hb⟩ => ⟨by rw [h1, h2.2 h], hb⟩
theorem few9_no (f : Fn7) (h : ¬ Fw9 f) (C : Option Addr) (cap : Nat) (hl9 : f.code.length ≤ 9223372036854775807) (w : World) (hC : RdI w C f.code) : Calls Try.prog 9 #[funcAgg f.nm f.ps f.R f.Fr C f.code.length cap] w fun e w' => e = .returned (.bool false) ∧ Below w.heap.size w w' :=
  (few9_any f C cap hl9 w hC).mono fun e w' ⟨⟨b, h1, h2⟩, hb⟩ => ⟨by
    cases b with
    | false => exact h1
    | true => exact absurd (h2.1 rfl) h, hb⟩
theorem rr9_yes (f : Fn7) (hf : OkF f) (C : Option Addr) (cap : Nat) (w : World) (hC : RdI w C f.code) : Calls Try.prog 14 #[funcAgg f.nm f.ps f.R f.Fr C f.code.length cap] w fun e w' => e = .returned (.bool true) ∧ Below w.heap.size w w' :=
  (refRightFunc_any f C cap w hC).mono fun e w' ⟨⟨b, h1, h2⟩, hb⟩ => ⟨by rw [h1, h2.2 hf], hb⟩
theorem rr9_no (f : Fn7) (hf : ¬ OkF f) (C : Option Addr) (cap : Nat) (w : World) (hC : RdI w C f.code) : Calls Try.prog 14 #[funcAgg f.nm f.ps f.R f.Fr C f.code.length cap] w fun e w' => e = .returned (.bool false) ∧ Below w.heap.size w w' :=
  (refRightFunc_any f C cap w hC).mono fun e w' ⟨⟨b, h1, h2⟩, hb⟩ => ⟨by
    cases b with
    | false => exact h1
    | true => exact absurd (h2.1 rfl) hf, hb⟩
abbrev aw9b : Ins := ⟨12, 0, -1, 0, 0, 0, ⟨#[]⟩, 0, 0, 0, 0, 0, 0, 1, 2⟩
abbrev aw9j : Ins := ⟨11, 0, -1, 0, 0, 0, ⟨#[]⟩, 0, 0, 0, 0, 0, 0, 0, -1⟩
abbrev aw9r : Ins := ⟨13, 0, -1, 0, 0, 0, ⟨#[]⟩, 0, 0, 0, 0, 0, 0, 0, -1⟩
def aw9F : Fn7 := ⟨⟨#[102]⟩, 0, 1, 0, [aw9b, aw9j, aw9r]⟩
theorem aw9F_ok : OkF aw9F := by
  refine ⟨by decide, by decide, by decide, by decide, by decide, fun i hi => ?_, fun i hi => ?_⟩
  · have hi : i = aw9b ∨ i = aw9j ∨ i = aw9r := by simpa [aw9F] using hi
    rcases hi with rfl | rfl | rfl
    · exact ⟨by decide, by decide, by decide, by decide, by decide, by decide, by decide, by decide, by decide, by decide, by decide⟩
    · exact ⟨by decide, by decide, by decide, by decide, by decide, by decide, by decide, by decide, by decide, by decide, by decide⟩
    · exact ⟨by decide, by decide, by decide, by decide, by decide, by decide, by decide, by decide, by decide, by decide, by decide⟩
  · obtain rfl : aw9r = i := by simpa [aw9F] using hi
    decide
theorem aw9_e (p q : Nat) : Eg aw9F.code p q ↔ (p = 0 ∧ (q = 1 ∨ q = 2)) ∨ (p = 1 ∧ q = 0) := by
  unfold Eg nxN
  match p with
  | 0 => simp [aw9F, Ins.next]
  | 1 => simp [aw9F, Ins.next]
  | 2 => simp [aw9F, Ins.next]
  | p + 3 => simp [aw9F]
theorem aw9_r1 : R0 (Eg aw9F.code) 1 := R0.step R0.zero ((aw9_e 0 1).2 (by simp))
theorem aw9_r2 : R0 (Eg aw9F.code) 2 := R0.step R0.zero ((aw9_e 0 2).2 (by simp))
theorem aw9_bk : Bk (Eg aw9F.code) 0 1 := ⟨aw9_r1, (aw9_e 1 0).2 (by simp), Dom.zero aw9_r1⟩
theorem aw9_h0 : IsHd (Eg aw9F.code) 0 := ⟨R0.zero, 1, aw9_bk⟩
theorem aw9_h1 : ¬ IsHd (Eg aw9F.code) 1 := fun ⟨_, e, _, he, hd⟩ => by
  have he := (aw9_e e 1).1 he
  obtain rfl : e = 0 := by omega
  have := hd.at0
  omega
theorem aw9_h2 : ¬ IsHd (Eg aw9F.code) 2 := fun ⟨_, e, _, he, hd⟩ => by
  have he := (aw9_e e 2).1 he
  obtain rfl : e = 0 := by omega
  have := hd.at0
  omega
theorem aw9_heads : upL aw9F.code.length (IsHd (Eg aw9F.code)) = [0] := by
  show upL 3 _ = _
  rw [upL_skip 2 _ aw9_h2, upL_skip 1 _ aw9_h1, upL_next 0 _ aw9_h0, upL_zero]
  rfl
theorem aw9_wf {q : Nat} (h : Wf (Eg aw9F.code) 0 2 q) : q = 2 := by
  induction h with
  | zero => rfl
  | step _ he _ ih =>
    subst ih
    have := (aw9_e _ _).1 he
    omega
theorem aw9_loop : lpL aw9F 0 = [0, 1] := by
  show upL 3 _ = _
  rw [upL_skip 2, upL_next 1, upL_next 0, upL_zero]
  · rfl
  · exact ⟨Int.le_refl _, aw9_h0, Or.inl rfl⟩
  · exact ⟨Int.le_refl _, aw9_h0, aw9_bk.inL⟩
  · rintro ⟨_, _, h | ⟨_, _, e, he, hw⟩⟩
    · exact absurd h (by decide)
    · have h1 := aw9_wf hw
      have h2 := (aw9_e e 0).1 he.2.1
      omega
theorem aw9_dom : dmB aw9F 0 2 = true := tb_true.2 ⟨by omega, by omega, Dom.zero aw9_r2⟩
theorem aw9_rd (W : World) (b : Nat) (h : W.heap[b]? = some (.cells #[.int .i64 12, .int .i64 0, .int .i64 (-1), .int .i64 0, .int .i64 0, .int .i64 0, .string ⟨#[]⟩, .int .i64 0, .int .i64 0, .int .i64 0, .int .i64 0, .int .i64 0, .int .i64 0, .int .i64 1, .int .i64 2, .int .i64 11, .int .i64 0, .int .i64 (-1), .int .i64 0, .int .i64 0, .int .i64 0, .string ⟨#[]⟩, .int .i64 0, .int .i64 0, .int .i64 0, .int .i64 0, .int .i64 0, .int .i64 0, .int .i64 0, .int .i64 (-1), .int .i64 13, .int .i64 0, .int .i64 (-1), .int .i64 0, .int .i64 0, .int .i64 0, .string ⟨#[]⟩, .int .i64 0, .int .i64 0, .int .i64 0, .int .i64 0, .int .i64 0, .int .i64 0, .int .i64 0, .int .i64 (-1)] 44)) : RdI W (some ⟨b, 0, none⟩) aw9F.code := fun j x hx => ⟨b, 0, rfl, (Array.getElem?_eq_some_iff.1 h).1, fun k hk => by
    rw [cell_of_row W b _ _ _ _ h]
    match j, hx with
    | 0, hx => injection hx with hx; subst hx; match k, hk with
      | 0, _ | 1, _ | 2, _ | 3, _ | 4, _ | 5, _ | 6, _ | 7, _ | 8, _ | 9, _ | 10, _ | 11, _ | 12, _ | 13, _ | 14, _ => rfl
      | k + 15, hk => omega
    | 1, hx => injection hx with hx; subst hx; match k, hk with
      | 0, _ | 1, _ | 2, _ | 3, _ | 4, _ | 5, _ | 6, _ | 7, _ | 8, _ | 9, _ | 10, _ | 11, _ | 12, _ | 13, _ | 14, _ => rfl
      | k + 15, hk => omega
    | 2, hx => injection hx with hx; subst hx; match k, hk with
      | 0, _ | 1, _ | 2, _ | 3, _ | 4, _ | 5, _ | 6, _ | 7, _ | 8, _ | 9, _ | 10, _ | 11, _ | 12, _ | 13, _ | 14, _ => rfl
      | k + 15, hk => omega
    | j + 3, hx => simp [aw9F] at hx⟩
abbrev aw9A (b : Nat) : Value := .agg #[.string ⟨#[102]⟩, .int .i64 0, .int .i64 1, .int .i64 0, .slice (some ⟨b, 0, none⟩) 3 3]
theorem aw9_L (W : World) (b : Nat) (h : RdI W (some ⟨b, 0, none⟩) aw9F.code) : Calls Try.prog 24 #[aw9A b, .int .i64 0] W fun e w' => (∃ A c, e = .returned (.slice A 2 c) ∧ RdN w' A [0, 1]) ∧ Below W.heap.size W w' :=
  (gLoop_yes aw9F aw9F_ok 0 (some ⟨b, 0, none⟩) 3 W h).mono fun e w' ⟨⟨A, c, h1, h2⟩, hb⟩ => by
    rw [aw9_loop] at h1 h2
    exact ⟨⟨A, c, h1, h2⟩, hb⟩
theorem aw9_H (W : World) (b : Nat) (h : RdI W (some ⟨b, 0, none⟩) aw9F.code) : Calls Try.prog 23 #[aw9A b] W fun e w' => (∃ A c, e = .returned (.slice A 1 c)) ∧ Below W.heap.size W w' :=
  (gHeads_yes aw9F aw9F_ok (some ⟨b, 0, none⟩) 3 W h).mono fun e w' ⟨⟨V, h1, h2, _⟩, hb⟩ => by
    rw [aw9_heads] at h2
    obtain ⟨A, c, h3, _⟩ := h2.form
    exact ⟨⟨A, c, by rw [h1, h3]; rfl⟩, hb⟩
theorem aw9_D (W : World) (b : Nat) (h : RdI W (some ⟨b, 0, none⟩) aw9F.code) : Calls Try.prog 20 #[aw9A b, .int .i64 0, .int .i64 2] W fun e w' => e = .returned (.bool true) ∧ Below W.heap.size W w' :=
  (gDominates_yes aw9F aw9F_ok 0 2 (some ⟨b, 0, none⟩) 3 W h).mono fun e w' ⟨h1, hb⟩ => by
    rw [aw9_dom] at h1
    exact ⟨h1, hb⟩
theorem alloc5 (w : World) (a b c d e : Obj) : (((((w.alloc a).alloc b).alloc c).alloc d).alloc e).heap[w.heap.size + 1 + 1 + 1]? = some d := by
  have h := heap_alloc_new (((w.alloc a).alloc b).alloc c) d
  rw [show (((w.alloc a).alloc b).alloc c).heap.size = w.heap.size + 1 + 1 + 1 by simp] at h
  exact alloc_keeps h e
theorem alloc5b (w : World) (a b c d e : Obj) : (((((w.alloc a).alloc b).alloc c).alloc d).alloc e).heap[w.heap.size + 1 + 1 + 1 + 1]? = some e := by
  have h := heap_alloc_new ((((w.alloc a).alloc b).alloc c).alloc d) e
  rwa [show ((((w.alloc a).alloc b).alloc c).alloc d).heap.size = w.heap.size + 1 + 1 + 1 + 1 by simp] at h
set_option maxRecDepth 1000000 in
set_option maxHeartbeats 8000000 in
theorem awake9_any (w : World) : Calls Try.prog 10 #[] w fun e w' => e = .returned (.bool true) ∧ Below w.heap.size w w' := by
  have hpla := fun k W => Plain_any k W
  simp only [Ins.agg] at hpla
  go_enter Try.func10, Try.ntmps10
  go_wp2_with fail
  refine (hpla _ _).mono ?_
  rintro e w1 ⟨rfl, hb1⟩
  go_wp2_with fail
  refine (hpla _ _).mono ?_
  rintro e w2 ⟨rfl, hb2⟩
  go_wp2_with fail
  refine (hpla _ _).mono ?_
  rintro e w3 ⟨rfl, hb3⟩
  go_wp2_with fail
  have hrow := fun (a b c d e : Obj) => alloc5 w3 a b c d e
  have hbox := fun (a b c d e : Obj) => alloc5b w3 a b c d e
  refine (aw9_L _ _ (aw9_rd _ _ (alloc5 _ _ _ _ _ _))).mono ?_
  rintro e w6 ⟨⟨A, c, rfl, hrd⟩, hb6⟩
  have hr6 := (aw9_rd _ _ (alloc5 w3 _ _ _ _ _)).below hb6
  have kx := (hb6.block _ (Array.getElem?_eq_some_iff.1 (alloc5b w3 _ _ _ _ _)).1).trans (alloc5b w3 _ _ _ _ _)
  have h0 := cell_of_heap kx 0 _ rfl
  have h1 := cell_of_heap kx 1 _ rfl
  have h2 := cell_of_heap kx 2 _ rfl
  have h3 := cell_of_heap kx 3 _ rfl
  have h4 := cell_of_heap kx 4 _ rfl
  have hl6 := (Array.getElem?_eq_some_iff.1 kx).1
  have HX := Lib.hid kx
  have HR6 := Lib.hid hr6
  have HRD := Lib.hid hrd
  have hb13 := (hb1.trans (hb2.mono hb1.size)).trans (hb3.mono (Nat.le_trans hb1.size hb2.size))
  have hb35 := ((((((Below.refl w3.heap.size w3).alloc (Nat.le_refl _) _).alloc (by simp) _).alloc (by simp; omega) _).alloc (by simp; omega) _).alloc (by simp; omega) _).trans (hb6.mono (by simp; omega))
  have HB := Lib.hid (hb13.trans (hb35.mono hb13.size))
  clear hb1 hb2 hb3 hb6 kx hr6 hrd hpla hb13 hb35 hrow hbox
  go_wp2_with fail
  refine (aw9_H _ _ HR6.out).mono ?_
  rintro e w7 ⟨⟨A7, c7, rfl⟩, hb7⟩
  obtain ⟨b, o, rfl, hbl, hc⟩ := (HRD.out.below hb7) 1 1 rfl
  have kx := (hb7.block _ hl6).trans HX.out
  have k0 := cell_of_heap kx 0 _ rfl
  have k1 := cell_of_heap kx 1 _ rfl
  have k2 := cell_of_heap kx 2 _ rfl
  have k3 := cell_of_heap kx 3 _ rfl
  have k4 := cell_of_heap kx 4 _ rfl
  have HR7 := Lib.hid (HR6.out.below hb7)
  have HB7 := Lib.hid (HB.out.trans (hb7.mono HB.out.size))
  clear kx hb7 h0 h1 h2 h3 h4
  go_wp2_with fail
  refine (aw9_D _ _ HR7.out).mono ?_
  rintro e w8 ⟨rfl, hb8⟩
  go_wp2
  go_returns
  exact ⟨rfl, HB7.out.trans (hb8.mono HB7.out.size)⟩
end Go.Proofs.Ytgdbkoncaojmoaa
