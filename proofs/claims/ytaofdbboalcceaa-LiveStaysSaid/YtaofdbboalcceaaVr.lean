import Derived.Test.YtaofdbboalcceaaVq
import Derived.Test.YtaofdbboalcceaaLc
/- The laws' few, same and awake. -/
namespace Go.Proofs.Ytaofdbboalcceaa
open Go.RowKit Go.BigFrame

set_option maxRecDepth 1000000 in
set_option maxHeartbeats 8000000 in
theorem few10_any (f : Fn7) (C : Option Addr) (cap : Nat) (hl9 : f.code.length ≤ 9223372036854775807) (w : World) (hC : RdI w C f.code) : Calls Try.prog 32 #[funcAgg f.nm f.ps f.R f.Fr C f.code.length cap] w fun e w' => Tru (Few f) e ∧ Below w.heap.size w w' := by
  have hS := fun W h => Small_any f C cap hl9 W h
  have hF : Few f ↔ (Sm f ∧ f.code.length ≤ 25) := Iff.rfl
  obtain ⟨nm, ps, R, Fr, l⟩ := f
  obtain ⟨L, hL⟩ : ∃ L, l.length = L := ⟨_, rfl⟩
  simp only at hC hl9 hS hF ⊢
  rw [hL] at hl9 hS hF ⊢
  clear hL
  have hB := Below.one w (funcObj nm ps R Fr C L cap)
  have bx := heap_alloc_new w (funcObj nm ps R Fr C L cap)
  have hS1 := (hS _ (hC.below hB)).mono fun e w' h => (⟨h.1.val, h.2⟩ : e = .returned (.bool (tb (Sm ⟨nm, ps, R, Fr, l⟩))) ∧ _)
  have g4 := cell_of_heap bx 4 (.slice C L cap) rfl
  have hlt := (Array.getElem?_eq_some_iff.1 bx).1
  have HO := Lib.hid (⟨(tb_true (p := Sm ⟨nm, ps, R, Fr, l⟩)).1, (tb_false (p := Sm ⟨nm, ps, R, Fr, l⟩)).1⟩ : (tb (Sm ⟨nm, ps, R, Fr, l⟩) = true → Sm ⟨nm, ps, R, Fr, l⟩) ∧ (tb (Sm ⟨nm, ps, R, Fr, l⟩) = false → ¬ Sm ⟨nm, ps, R, Fr, l⟩))
  have HF := Lib.hid hF
  clear hS hF hC
  generalize tb (Sm ⟨nm, ps, R, Fr, l⟩) = bb at *
  simp only [funcObj, funcAgg] at hB bx hS1 g4 hlt ⊢
  cases bb
  · have HT := Lib.hid (Tru.no (fun h : Few ⟨nm, ps, R, Fr, l⟩ => HO.out.2 rfl h.1))
    go_enter Try.func32, Try.ntmps32
    go_wp2_with (first
      | (go_at_call 15; refine hS1.mono ?_; rintro e w3 ⟨rfl, hb3⟩))
    go_returns
    exact ⟨HT.out, hB.trans (hb3.mono hB.size)⟩
  · by_cases h25 : L ≤ 25
    · have HT := Lib.hid (Tru.yes (HF.out.2 ⟨HO.out.1 rfl, h25⟩))
      have q1 : decide ((L : Int) ≤ 25) = true := by simp; omega
      have q2 : decide (L ≤ 25) = true := by simp; omega
      clear h25
      go_enter Try.func32, Try.ntmps32
      go_wp2_with (first
        | (go_at_call 15; refine hS1.mono ?_; rintro e w3 ⟨rfl, hb3⟩; have g4 := (hb3.cell (p := ⟨w.heap.size, 4, none⟩) hlt).trans g4))
      go_returns
      exact ⟨HT.out, hB.trans (hb3.mono hB.size)⟩
    · have HT := Lib.hid (Tru.no (fun h : Few ⟨nm, ps, R, Fr, l⟩ => h25 (HF.out.1 h).2))
      have q1 : decide ((L : Int) ≤ 25) = false := by simp; omega
      have q2 : decide (L ≤ 25) = false := by simp; omega
      clear h25
      go_enter Try.func32, Try.ntmps32
      go_wp2_with (first
        | (go_at_call 15; refine hS1.mono ?_; rintro e w3 ⟨rfl, hb3⟩; have g4 := (hb3.cell (p := ⟨w.heap.size, 4, none⟩) hlt).trans g4))
      go_returns
      exact ⟨HT.out, hB.trans (hb3.mono hB.size)⟩
theorem few10_yes (f : Fn7) (h : Few f) (C : Option Addr) (cap : Nat) (hl9 : f.code.length ≤ 9223372036854775807) (w : World) (hC : RdI w C f.code) : Calls Try.prog 32 #[funcAgg f.nm f.ps f.R f.Fr C f.code.length cap] w fun e w' => e = .returned (.bool true) ∧ Below w.heap.size w w' :=
  (few10_any f C cap hl9 w hC).mono fun e w' ⟨⟨b, h1, h2⟩, hb⟩ => ⟨by rw [h1, h2.2 h], hb⟩
theorem few10_no (f : Fn7) (h : ¬ Few f) (C : Option Addr) (cap : Nat) (hl9 : f.code.length ≤ 9223372036854775807) (w : World) (hC : RdI w C f.code) : Calls Try.prog 32 #[funcAgg f.nm f.ps f.R f.Fr C f.code.length cap] w fun e w' => e = .returned (.bool false) ∧ Below w.heap.size w w' :=
  (few10_any f C cap hl9 w hC).mono fun e w' ⟨⟨b, h1, h2⟩, hb⟩ => ⟨by
    cases b with
    | false => exact h1
    | true => exact absurd (h2.1 rfl) h, hb⟩
theorem refRight_yes (f : Fn7) (hf : OkF f) (C : Option Addr) (cap : Nat) (w : World) (hC : RdI w C f.code) : Calls Try.prog 23 #[funcAgg f.nm f.ps f.R f.Fr C f.code.length cap] w fun e w' => e = .returned (.bool true) ∧ Below w.heap.size w w' :=
  (refRightFunc_any f C cap w hC).mono fun e w' ⟨⟨b, h1, h2⟩, hb⟩ => ⟨by rw [h1, h2.2 hf], hb⟩
theorem refRight_no (f : Fn7) (hf : ¬ OkF f) (C : Option Addr) (cap : Nat) (w : World) (hC : RdI w C f.code) : Calls Try.prog 23 #[funcAgg f.nm f.ps f.R f.Fr C f.code.length cap] w fun e w' => e = .returned (.bool false) ∧ Below w.heap.size w w' :=
  (refRightFunc_any f C cap w hC).mono fun e w' ⟨⟨b, h1, h2⟩, hb⟩ => ⟨by
    cases b with
    | false => exact h1
    | true => exact absurd (h2.1 rfl) hf, hb⟩
set_option maxRecDepth 1000000 in
theorem same_self (A A' : Option Addr) (l : List Int) (c c' : Nat) (w : World) (h : RdN w A l) (h' : RdN w A' l) (hl : l.length ≤ 100000) : Calls Try.prog 38 #[.slice A l.length c, .slice A' l.length c'] w fun e w' => e = .returned (.bool true) ∧ Below w.heap.size w w' := by
  obtain ⟨L, hL⟩ : ∃ L, l.length = L := ⟨_, rfl⟩
  rw [hL] at hl ⊢
  have HL := Lib.hid hL
  have H := Lib.hid h
  have H' := Lib.hid h'
  clear hL h h'
  go_enter Try.func38, Try.ntmps38
  go_wp2
  go_loopw [13] (fun ix wr => ∃ k : Nat, k ≤ L ∧ ix = .int .i64 k ∧ Below w.heap.size w wr) (fun ix _ => L - (intOf ix).toNat)
  case atStart => exact ⟨0, by omega, rfl, Below.refl _ _⟩
  case round =>
    obtain ⟨k, hk, rfl, hb⟩ := hrel
    by_cases hlt : k < L
    · obtain ⟨y, hy⟩ : ∃ y, l[k]? = some y := ⟨_, List.getElem?_eq_getElem (by rw [HL.out]; exact hlt)⟩
      obtain ⟨b, o, rfl, hbl, hc⟩ := (H.out.below hb) k y hy
      obtain ⟨b', o', rfl, hbl', hc'⟩ := (H'.out.below hb) k y hy
      have HB := Lib.hid hb
      clear hy hb
      go_wp2
      go_quiet (fail)
      go_wp2
      exact ⟨⟨k + 1, by omega, by go_num, ⟨HB.out.os, HB.out.tape, HB.out.output, HB.out.size, HB.out.block⟩⟩, by simp [intOf]; omega⟩
    · obtain rfl : k = L := by omega
      go_wp2
      go_returns
      exact ⟨rfl, hb⟩
abbrev aw10a : Ins := ⟨1, 0, 0, 0, 0, 0, ⟨#[]⟩, 0, 0, 0, 0, 0, 0, 0, -1⟩
abbrev aw10b : Ins := ⟨1, 0, 1, 0, 0, 0, ⟨#[]⟩, 0, 0, 0, 0, 0, 0, 0, -1⟩
abbrev aw10r : Ins := ⟨13, 0, -1, 1, 0, 0, ⟨#[]⟩, 0, 0, 0, 0, 0, 0, 0, -1⟩
def aw10F : Fn7 := ⟨⟨#[102]⟩, 0, 2, 0, [aw10a, aw10b, aw10r]⟩
theorem aw10F_ok : OkF aw10F := by
  refine ⟨by decide, by decide, by decide, by decide, by decide, fun i hi => ?_, fun i hi => ?_⟩
  · have hi : i = aw10a ∨ i = aw10b ∨ i = aw10r := by simpa [aw10F] using hi
    rcases hi with rfl | rfl | rfl
    · exact ⟨by decide, by decide, by decide, by decide, by decide, by decide, by decide, by decide, by decide, by decide, by decide⟩
    · exact ⟨by decide, by decide, by decide, by decide, by decide, by decide, by decide, by decide, by decide, by decide, by decide⟩
    · exact ⟨by decide, by decide, by decide, by decide, by decide, by decide, by decide, by decide, by decide, by decide, by decide⟩
  · obtain rfl : aw10r = i := by simpa [aw10F] using hi
    decide
theorem aw10_dead : deadL aw10F.code = [0] := by
  have g0 : aw10F.code[0]? = some aw10a := rfl
  have g1 : aw10F.code[1]? = some aw10b := rfl
  have g2 : aw10F.code[2]? = some aw10r := rfl
  have v20 : ¬ Lv aw10F.code 2 0 := by
    rw [Lv.iff g2]
    rintro (h | ⟨_, n, h, _⟩)
    · simp [Ins.uses, kA, kB] at h
    · simp [Ins.next] at h
  have v10 : ¬ Lv aw10F.code 1 0 := by
    rw [Lv.iff g1]
    rintro (h | ⟨_, n, h, h2⟩)
    · simp [Ins.uses, kA, kB] at h
    · have h : n = 2 := by simpa [Ins.next] using h
      subst h
      exact v20 h2
  have v21 : Lv aw10F.code 2 1 := Lv.use g2 (by simp [Ins.uses, kA, kB])
  have b0 : deadB aw10F.code 0 = true := (deadB_iff g0).2 ⟨by decide, fun ⟨i, h1, n, h2, h3⟩ => by
    rw [g0] at h1
    injection h1 with h1
    subst h1
    have h2 : n = 1 := by simpa [Ins.next] using h2
    subst h2
    exact v10 h3⟩
  have b1 : deadB aw10F.code 1 = false := by
    rw [Bool.eq_false_iff]
    intro h
    exact ((deadB_iff g1).1 h).2 ⟨_, g1, 2, by simp [Ins.next], v21⟩
  have b2 : deadB aw10F.code 2 = false := by
    rw [Bool.eq_false_iff]
    intro h
    exact absurd ((deadB_iff g2).1 h).1 (by decide)
  show deadK aw10F.code 3 = [0]
  rw [deadK_succ, deadK_succ, deadK_succ, b2, b1, b0]
  rfl
theorem alloc4 (w : World) (a b c d : Obj) : ((((w.alloc a).alloc b).alloc c).alloc d).heap[w.heap.size + 1 + 1 + 1]? = some d := by
  have h := heap_alloc_new (((w.alloc a).alloc b).alloc c) d
  rwa [show (((w.alloc a).alloc b).alloc c).heap.size = w.heap.size + 1 + 1 + 1 by simp] at h
theorem aw10Dead_any (W : World) (b : Nat) (h : W.heap[b]? = some (.cells #[.int .i64 1, .int .i64 0, .int .i64 0, .int .i64 0, .int .i64 0, .int .i64 0, .string ⟨#[]⟩, .int .i64 0, .int .i64 0, .int .i64 0, .int .i64 0, .int .i64 0, .int .i64 0, .int .i64 0, .int .i64 (-1), .int .i64 1, .int .i64 0, .int .i64 1, .int .i64 0, .int .i64 0, .int .i64 0, .string ⟨#[]⟩, .int .i64 0, .int .i64 0, .int .i64 0, .int .i64 0, .int .i64 0, .int .i64 0, .int .i64 0, .int .i64 (-1), .int .i64 13, .int .i64 0, .int .i64 (-1), .int .i64 1, .int .i64 0, .int .i64 0, .string ⟨#[]⟩, .int .i64 0, .int .i64 0, .int .i64 0, .int .i64 0, .int .i64 0, .int .i64 0, .int .i64 0, .int .i64 (-1)] 38 (0, 0))) :
    Calls Try.prog 34 #[.agg #[.string ⟨#[102]⟩, .int .i64 0, .int .i64 2, .int .i64 0, .slice (some ⟨b, 0, none⟩) 3 3]] W fun e w' => (∃ b' o' c', e = .returned (.slice (some ⟨b', o', none⟩) 1 c') ∧ w'.cell? ⟨b', o', none⟩ = some (.int .i64 0)) ∧ Below W.heap.size W w' := by
  have hp : RdI W (some ⟨b, 0, none⟩) aw10F.code := fun j x hx => ⟨b, 0, rfl, (Array.getElem?_eq_some_iff.1 h).1, fun k hk => by
    rw [cell_of_row W b _ _ _ _ h]
    match j, hx with
    | 0, hx => injection hx with hx; subst hx; match k, hk with
      | 0, _ | 1, _ | 2, _ | 3, _ | 4, _ | 5, _ | 6, _ | 7, _ | 8, _ | 9, _ | 10, _ | 11, _ | 12, _ | 13, _ | 14, _ => rfl
      | k + 15, hk => omega
    | 1, hx => injection hx with hx; subst hx; match k, hk with
      | 0, _ | 1, _ | 2, _ | 3, _ | 4, _ | 5, _ | 6, _ | 7, _ | 8, _ | 9, _ | 10, _ | 11, _ | 12, _ | 13, _ | 14, _ => rfl
      | k + 15, hk => omega
    | 2, hx => injection hx with hx; subst hx; match k, hk with
      | 0, _ | 1, _ | 2, _ | 3, _ | 4, _ | 5, _ | 6, _ | 7, _ | 8, _ | 9, _ | 10, _ | 11, _ | 12, _ | 13, _ | 14, _ => rfl
      | k + 15, hk => omega
    | j + 3, hx => simp [aw10F] at hx⟩
  refine (Dead_yes aw10F aw10F_ok (some ⟨b, 0, none⟩) 3 W hp).mono fun e w' ⟨⟨A, c, h1, h2⟩, hb⟩ => ⟨?_, hb⟩
  rw [aw10_dead] at h1 h2
  obtain ⟨b', o', e1, _, e3⟩ := h2 0 0 rfl
  exact ⟨b', o', c, by rw [h1, e1]; rfl, by simpa using e3⟩
set_option maxRecDepth 1000000 in
set_option maxHeartbeats 8000000 in
theorem awake10_any (w : World) : Calls Try.prog 33 #[] w fun e w' => e = .returned (.bool true) ∧ Below w.heap.size w w' := by
  have hpla := fun k W => Plain_any k W
  simp only [Ins.agg] at hpla
  have hpu := fun W => Pure_any aw10a W
  simp only [Ins.agg] at hpu
  rw [show pur aw10a = true from by decide] at hpu
  go_enter Try.func33, Try.ntmps33
  go_wp2_with fail
  refine (hpla _ _).mono ?_
  rintro e w1 ⟨rfl, hb1⟩
  go_wp2_with fail
  refine (hpla _ _).mono ?_
  rintro e w2 ⟨rfl, hb2⟩
  go_wp2_with fail
  refine (hpla _ _).mono ?_
  rintro e w3 ⟨rfl, hb3⟩
  go_wp2_with fail
  refine (aw10Dead_any _ _ (alloc4 _ _ _ _ _)).mono ?_
  rintro e w5 ⟨⟨b', o', c', rfl, c0⟩, hb5⟩
  have ka := (hb5.block w3.heap.size (by simp; omega)).trans (alloc_keeps (alloc_keeps (alloc_keeps (heap_alloc_new w3 _) _) _) _)
  have ⟨d0, d1, d2, d3, d4, d5, d6, d7, d8, d9, d10, d11, d12, d13, d14⟩ := Ins.cells (i := aw10a) ka
  simp only at d0 d1 d2 d3 d4 d5 d6 d7 d8 d9 d10 d11 d12 d13 d14
  have hb13 := (hb1.trans (hb2.mono hb1.size)).trans (hb3.mono (Nat.le_trans hb1.size hb2.size))
  have hb35 := (((((Below.refl w3.heap.size w3).alloc (Nat.le_refl _) _).alloc (by simp) _).alloc (by simp; omega) _).alloc (by simp; omega) _).trans (hb5.mono (by simp; omega))
  have HB := Lib.hid (hb13.trans (hb35.mono hb13.size))
  clear hb1 hb2 hb3 hb5 ka hpla hb13 hb35
  go_wp2_with (first
    | (refine (hpu _).mono ?_; rintro e w6 ⟨rfl, hb6⟩))
  go_returns
  exact ⟨rfl, HB.out.trans (hb6.mono HB.out.size)⟩
end Go.Proofs.Ytaofdbboalcceaa
