import Derived.Test.YtgdbkoncaojmoaaEj
import Derived.Test.YtgdbkoncaojmoaaDq
import Derived.Deep.CutBlock
/- The document's Loop. -/
namespace Go.Proofs.Ytgdbkoncaojmoaa
open Go.RowKit Go.BigFrame

theorem lpL_is {f : Fn7} {h : Nat} (hne : upL f.code.length (Bk (Eg f.code) h) ≠ []) : lpL f (h : Int) = upL f.code.length (InL (Eg f.code) h) := by
  have hd : IsHd (Eg f.code) h := by
    cases hl : upL f.code.length (Bk (Eg f.code) h) with
    | nil => exact absurd hl hne
    | cons x xs =>
      have hx : x ∈ upL f.code.length (Bk (Eg f.code) h) := by rw [hl]; exact List.mem_cons_self ..
      obtain ⟨e, _, _, hb⟩ := upL_mem.1 hx
      exact ⟨hb.2.2.left, e, hb⟩
  exact upL_congr fun n _ => ⟨fun g => g.2.2, fun g => ⟨by omega, hd, g⟩⟩
theorem lpL_not {f : Fn7} {h : Nat} (hne : upL f.code.length (Bk (Eg f.code) h) = []) : lpL f (h : Int) = [] :=
  lpL_no fun ⟨_, _, e, hb⟩ => by
    have hx : (e : Int) ∈ upL f.code.length (Bk (Eg f.code) h) := upL_mem.2 ⟨e, rfl, hb.2.1.lt1, hb⟩
    rw [hne] at hx
    cases hx
def IsK (E : Nat → Nat → Prop) (h : Nat) (L : List Int) (k j : Nat) : Prop := k = h ∨ (R0 E k ∧ ∃ i, i < j ∧ ∃ e : Nat, L[i]? = some (e : Int) ∧ Wf E h k e)
theorem IsK.zero {E : Nat → Nat → Prop} {h : Nat} {L : List Int} {k : Nat} : IsK E h L k 0 ↔ k = h := ⟨fun g => g.elim id fun ⟨_, i, hi, _⟩ => by omega, Or.inl⟩
theorem IsK.more {E : Nat → Nat → Prop} {h : Nat} {L : List Int} {k j e : Nat} (he : L[j]? = some (e : Int)) : IsK E h L k (j + 1) ↔ (IsK E h L k j ∨ (R0 E k ∧ Wf E h k e)) := by
  constructor
  · rintro (g | ⟨hr, i, hi, e', h1, h2⟩)
    · exact Or.inl (Or.inl g)
    · by_cases hij : i = j
      · subst hij
        rw [he] at h1
        obtain rfl : e = e' := by injection h1 with h1; omega
        exact Or.inr ⟨hr, h2⟩
      · exact Or.inl (Or.inr ⟨hr, i, by omega, e', h1, h2⟩)
  · rintro ((g | ⟨hr, i, hi, e', h1, h2⟩) | ⟨hr, hw⟩)
    · exact Or.inl g
    · exact Or.inr ⟨hr, i, by omega, e', h1, h2⟩
    · exact Or.inr ⟨hr, j, by omega, e, he, hw⟩
theorem IsK.all {f : Fn7} {h k M : Nat} (hM : (upL f.code.length (Bk (Eg f.code) h)).length = M) : IsK (Eg f.code) h (upL f.code.length (Bk (Eg f.code) h)) k M ↔ InL (Eg f.code) h k := by
  constructor
  · rintro (g | ⟨hr, i, hi, e, h1, h2⟩)
    · exact Or.inl g
    · obtain ⟨e', h3, _, h4⟩ := upL_mem.1 (List.mem_of_getElem? h1)
      obtain rfl : e = e' := by omega
      by_cases hkh : k = h
      · exact Or.inl hkh
      · exact Or.inr ⟨hkh, hr, e, h4, h2⟩
  · rintro (g | ⟨hne, hr, e, hb, hw⟩)
    · exact Or.inl g
    · obtain ⟨i, hi⟩ := List.getElem?_of_mem (upL_mem.2 ⟨e, rfl, hb.2.1.lt1, hb⟩ : (e : Int) ∈ upL f.code.length (Bk (Eg f.code) h))
      exact Or.inr ⟨hr, i, by rw [← hM]; exact (List.getElem?_eq_some_iff.1 hi).1, e, hi, hw⟩
theorem below_dn {B : Nat} {a w : World} (h : Below B a w) (q : Nat) : Below B a (w.drewN q) := ⟨h.os, h.tape, h.output, h.size, h.block⟩
theorem upL_fresh (k : Nat) (P : Nat → Prop) : (upL k P).contains (k : Int) = false := by
  rw [← Bool.not_eq_true, List.contains_iff_mem, upL_mem]
  rintro ⟨n, h1, h2, _⟩
  omega
set_option maxRecDepth 1000000 in
set_option maxHeartbeats 16000000 in
theorem rLoop_any (f : Fn7) (hf : OkF f) (h : Nat) (C : Option Addr) (cap : Nat) (w : World) (hC : RdI w C f.code) :
    Calls Try.prog 25 #[funcAgg f.nm f.ps f.R f.Fr C f.code.length cap, .int .i64 (h : Int)] w fun e w' => SlF w.heap.size (lpL f (h : Int)) e w' ∧ Below w.heap.size w w' := by
  have hB := Below.one w (funcObj f.nm f.ps f.R f.Fr C f.code.length cap)
  have bx := heap_alloc_new w (funcObj f.nm f.ps f.R f.Fr C f.code.length cap)
  have hC1 := hC.below hB
  obtain ⟨N, hN⟩ : ∃ N, f.code.length = N := ⟨_, rfl⟩
  have hN2 : N ≤ 8192 := by rw [← hN]; exact hf.len.2
  have HD : Hid (∀ (a b : Int) X, RdI X C f.code → Calls Try.prog 21 #[.agg #[.string f.nm, .int .i64 f.ps, .int .i64 f.R, .int .i64 f.Fr, .slice C N cap], .int .i64 a, .int .i64 b] X fun e w' => e = .returned (.bool (dmB f a b)) ∧ Below X.heap.size X w') := Lib.hid fun a b X hX => by
    have := rDominates_any f hf a b C cap X hX
    rw [hN] at this
    exact this
  have HRE : Hid (∀ (n : Nat) X, RdI X C f.code → Calls Try.prog 18 #[.agg #[.string f.nm, .int .i64 f.ps, .int .i64 f.R, .int .i64 f.Fr, .slice C N cap], .int .i64 (n : Int)] X fun e w' => e = .returned (.bool (tb (R0 (Eg f.code) n))) ∧ Below X.heap.size X w') := Lib.hid fun n X hX => by
    have := Reached_any f hf n C cap X hX
    rw [hN, show tb (Rch f.code n) = tb (R0 (Eg f.code) n) from by rw [Bool.eq_iff_iff, tb_true, tb_true]; exact Rch_r0 hf] at this
    exact this
  have HWO : Hid (∀ (n : Nat) X, n < N → n ≠ h → RdI X C f.code → Calls Try.prog 36 #[.agg #[.string f.nm, .int .i64 f.ps, .int .i64 f.R, .int .i64 f.Fr, .slice C N cap], .int .i64 (n : Int), .int .i64 (h : Int)] X fun e w' => (∃ A c T L, T.length = L ∧ L ≤ N ∧ e = .returned (.slice A L c) ∧ RdN w' A T ∧ ∀ p : Nat, (p : Int) ∈ T ↔ Wf (Eg f.code) h n p) ∧ Below X.heap.size X w') := Lib.hid fun n X hn hne hX => by
    have := Without_any f hf n (by rw [hN]; exact hn) (h : Int) (by rw [beq_eq_false_iff_ne]; omega) C cap X hX
    rw [hN] at this
    exact this.mono fun e w' ⟨⟨T, A, c, h1, h2, h3, h4⟩, h5⟩ => ⟨⟨A, c, T, _, rfl, by rw [← hN]; exact h3, h1, h2, fun p => (h4 p).trans (WR_wf hf)⟩, h5⟩
  have HLP1 : Hid (upL N (Bk (Eg f.code) h) ≠ [] → lpL f (h : Int) = upL N (InL (Eg f.code) h)) := Lib.hid fun g => by rw [← hN] at g ⊢; exact lpL_is g
  have HLP2 : Hid (upL N (Bk (Eg f.code) h) = [] → lpL f (h : Int) = []) := Lib.hid fun g => by rw [← hN] at g; exact lpL_not g
  have HALL : Hid (∀ k M, (upL N (Bk (Eg f.code) h)).length = M → (IsK (Eg f.code) h (upL N (Bk (Eg f.code) h)) k M ↔ InL (Eg f.code) h k)) := Lib.hid fun k M hM => by rw [← hN] at hM ⊢; exact IsK.all hM
  rw [hN] at hB bx hC1 ⊢
  simp only [funcObj, funcAgg] at hB bx hC1 ⊢
  obtain ⟨W, hW⟩ : ∃ W, w.alloc (.cells #[.string f.nm, .int .i64 f.ps, .int .i64 f.R, .int .i64 f.Fr, .slice C N cap] 24) = W := ⟨_, rfl⟩
  rw [hW] at bx hC1 hB
  have HC1 := Lib.hid hC1
  have HF := Lib.hid hf
  have HN := Lib.hid hN
  have HB := Lib.hid hB
  have HBX := Lib.hid bx
  have hBl := (Array.getElem?_eq_some_iff.1 bx).1
  clear hf hN hC hC1 bx hB
  go_enter Try.func25, Try.ntmps25
  go_wp2
  clear hW
  go_loopw [5, 6] (fun V ix wr => ∃ k : Nat, k ≤ N ∧ ix = .int .i64 k ∧ OwnN wr V (upL k (Bk (Eg f.code) h)) ∧ (∀ x, V.ownBlock = some x → W.heap.size ≤ x) ∧ Below W.heap.size W wr) (fun _ ix _ => N - (intOf ix).toNat)
  case atStart => exact ⟨0, by omega, rfl, OwnN.nil _, (fun x hx => by simp [Value.ownBlock] at hx), Below.refl _ _⟩
  case round =>
    obtain ⟨k, hk, rfl, hown, hV, hb⟩ := hrel
    obtain ⟨L, hL⟩ : ∃ L, upL k (Bk (Eg f.code) h) = L := ⟨_, rfl⟩
    have hll := upL_len k (Bk (Eg f.code) h)
    rw [hL] at hown hll
    have hown2 := hown
    obtain ⟨A, c, rfl, _, hrd⟩ := hown2.form
    obtain ⟨M, hM⟩ : ∃ M, L.length = M := ⟨_, rfl⟩
    rw [hM] at hown hV hll ⊢
    have HL := Lib.hid hL
    have HLL : Hid (M ≤ k ∧ L.length = M) := Lib.hid ⟨hll, hM⟩
    have HOWN := Lib.hid hown
    have HV := Lib.hid hV
    have HB2 := Lib.hid hb
    have HRD := Lib.hid hrd
    have hx2 : wr.heap[w.heap.size]? = _ := (hb.block _ hBl).trans HBX.out
    have k20 := cell_of_heap hx2 0 _ rfl; have k21 := cell_of_heap hx2 1 _ rfl; have k22 := cell_of_heap hx2 2 _ rfl; have k23 := cell_of_heap hx2 3 _ rfl; have k24 := cell_of_heap hx2 4 _ rfl
    have hl2 := (Array.getElem?_eq_some_iff.1 hx2).1
    by_cases hlt : k < N
    · have hki : (k : Int) < N := by omega
      obtain ⟨i, hi⟩ : ∃ i, f.code[k]? = some i := ⟨_, List.getElem?_eq_getElem (by rw [HN.out]; exact hlt)⟩
      have hna := fun W => refNext_fr i k (by omega) W
      have hnl := Ins.next_len i k
      have heg := fun (q : Nat) => Eg_iff HF.out (q := q) hi
      obtain ⟨nx, hnx⟩ : ∃ nx, i.next k = nx := ⟨_, rfl⟩
      rw [hnx] at hna hnl heg
      obtain ⟨Ln, hLn⟩ : ∃ Ln, nx.length = Ln := ⟨_, rfl⟩
      obtain ⟨y1, hy1⟩ : ∃ y, tb (R0 (Eg f.code) k) = y := ⟨_, rfl⟩
      obtain ⟨y2, hy2⟩ : ∃ y, nx.contains (h : Int) = y := ⟨_, rfl⟩
      obtain ⟨y3, hy3⟩ : ∃ y, dmB f (h : Int) (k : Int) = y := ⟨_, rfl⟩
      have HQ1 : Hid (∀ X, Below W.heap.size W X → Calls Try.prog 18 #[.agg #[.string f.nm, .int .i64 f.ps, .int .i64 f.R, .int .i64 f.Fr, .slice C N cap], .int .i64 (k : Int)] X fun e w' => e = .returned (.bool y1) ∧ Below X.heap.size X w') := Lib.hid fun X hX => by
        have := HRE.out k X (HC1.out.below hX)
        rw [hy1] at this
        exact this
      have HQ3 : Hid (∀ X, Below W.heap.size W X → Calls Try.prog 21 #[.agg #[.string f.nm, .int .i64 f.ps, .int .i64 f.R, .int .i64 f.Fr, .slice C N cap], .int .i64 (h : Int), .int .i64 (k : Int)] X fun e w' => e = .returned (.bool y3) ∧ Below X.heap.size X w') := Lib.hid fun X hX => by
        have := HD.out (h : Int) (k : Int) X (HC1.out.below hX)
        rw [hy3] at this
        exact this
      have HQ2 : Hid (∀ W A c, RdN W A nx → Calls Try.prog 26 #[.slice A Ln c, .int .i64 (h : Int)] W fun e w' => e = .returned (.bool y2) ∧ W = w') := Lib.hid fun W A c hr => by
        have := In_any A nx c (h : Int) W hr (by omega)
        rw [hy2, hLn] at this
        exact this
      have HQ4 : Hid (∀ X, RdN X A L → Calls Try.prog 26 #[.slice A M c, .int .i64 (k : Int)] X fun e w' => e = .returned (.bool false) ∧ X = w') := Lib.hid fun X hr => by
        have := In_any A L c (k : Int) X hr (by omega)
        rw [← hL, upL_fresh, hL, hM] at this
        exact this
      have HBK : Hid (y1 = true → y2 = true → y3 = true → upL (k + 1) (Bk (Eg f.code) h) = L ++ [(k : Int)]) := Lib.hid fun h1 h2 h3 => by
        rw [← hL]
        refine upL_next k _ ⟨tb_true.1 (hy1.trans h1), (heg h).1 (List.contains_iff_mem.1 (hy2.trans h2)), ?_⟩
        have := hy3.trans h3
        rw [dmB_nat] at this
        exact tb_true.1 this
      have HBN : Hid (¬ (y1 = true ∧ y2 = true ∧ y3 = true) → upL (k + 1) (Bk (Eg f.code) h) = L) := Lib.hid fun hh => by
        rw [← hL]
        refine upL_skip k _ fun g => hh ⟨hy1.symm.trans (tb_true.2 g.1), hy2.symm.trans (List.contains_iff_mem.2 ((heg h).2 g.2.1)), ?_⟩
        rw [← hy3, dmB_nat]
        exact tb_true.2 g.2.2
      obtain ⟨kk, op, dst, a, b', n, text, r0, r1, r2, r3, r4, r5, to_, els⟩ := i
      have HNA : Hid (∀ W, Calls Try.prog 27 (#[.agg #[.int .i64 kk, .int .i64 op, .int .i64 dst, .int .i64 a, .int .i64 b', .int .i64 n, .string text, .int .i64 r0, .int .i64 r1, .int .i64 r2, .int .i64 r3, .int .i64 r4, .int .i64 r5, .int .i64 to_, .int .i64 els], .int .i64 k]) W fun e w' => (∃ A c, e = .returned (.slice A Ln c) ∧ RdN w' A nx) ∧ Below W.heap.size W w') := Lib.hid fun W => (hna W).mono fun e w' ⟨⟨A, c, h1, h2, _⟩, h4⟩ => ⟨⟨A, c, by rw [h1, hLn], h2⟩, h4⟩
      obtain ⟨bb, oo, rfl, hbl, _⟩ := HC1.out k _ hi
      have HCS : Hid (∀ X, Below W.heap.size W X → ∀ j, j < 15 → X.cell? ⟨bb, oo + (k * 15 + j), none⟩ = (⟨kk, op, dst, a, b', n, text, r0, r1, r2, r3, r4, r5, to_, els⟩ : Ins).l[j]?) := Lib.hid fun X hX => by
        obtain ⟨b5, o5, e5, _, h5⟩ := (HC1.out.below hX) k _ hi
        injection e5 with e5
        injection e5 with e5 e6
        subst e5
        subst e6
        exact h5
      have hsz := hb.size
      clear hown hown2 hV hb hi hx2 hna hnl heg hnx hLn hll hrd hL hM hy1 hy2 hy3
      cases y1 with
      | false =>
        go_wp2_with fail
        refine (HQ1.out _ HB2.out).mono ?_; rintro e w3 ⟨rfl, hb3⟩; have HB3 := Lib.hid (HB2.out.trans (hb3.mono HB2.out.size)); have HS3 := Lib.hid hb3; have hx3 := (HB3.out.block _ hBl).trans HBX.out; have k30 := cell_of_heap hx3 0 _ rfl; have k31 := cell_of_heap hx3 1 _ rfl; have k32 := cell_of_heap hx3 2 _ rfl; have k33 := cell_of_heap hx3 3 _ rfl; have k34 := cell_of_heap hx3 4 _ rfl; have hl3 := (Array.getElem?_eq_some_iff.1 hx3).1; clear hx3 hb3
        go_upto_region 4 with fail
        clear k20 k21 k22 k23 k24 k30 k31 k32 k33 k34 hl2 hl3
        go_wp2
        exact ⟨⟨k + 1, by omega, by go_num, (by rw [HBN.out (fun g => by cases g.1)]; exact HOWN.out.later HS3.out), HV.out, HB3.out⟩, by simp [intOf]; omega⟩
      | true =>
        have hCr := HC1.out
        cases y2 with
        | false =>
          go_wp2_with (first
            | (refine (HQ2.out _ _ _ hrd4).mono ?_; rintro e w5 ⟨rfl, rfl⟩)
            | (refine (HNA.out _).mono ?_; rintro e w4 ⟨⟨A4, c4, rfl, hrd4⟩, hb4⟩)
            | (refine (HQ1.out _ HB2.out).mono ?_; rintro e w3 ⟨rfl, hb3⟩; have HB3 := Lib.hid (HB2.out.trans (hb3.mono HB2.out.size)); have HS3 := Lib.hid hb3; have hx3 := (HB3.out.block _ hBl).trans HBX.out; have k30 := cell_of_heap hx3 0 _ rfl; have k31 := cell_of_heap hx3 1 _ rfl; have k32 := cell_of_heap hx3 2 _ rfl; have k33 := cell_of_heap hx3 3 _ rfl; have k34 := cell_of_heap hx3 4 _ rfl; have hl3 := (Array.getElem?_eq_some_iff.1 hx3).1; clear hx3 hb3; obtain ⟨x0, x1, x2, x3, x4, x5, x6, x7, x8, x9, x10, x11, x12, x13, x14⟩ := RdI.load (HCS.out _ HB3.out); simp only at x0 x1 x2 x3 x4 x5 x6 x7 x8 x9 x10 x11 x12 x13 x14; clear k20 k21 k22 k23 k24))
          exact ⟨⟨k + 1, by omega, by go_num, (by rw [HBN.out (fun g => by cases g.2.1)]; exact (HOWN.out.later HS3.out).later hb4), HV.out, HB3.out.trans (hb4.mono HB3.out.size)⟩, by simp [intOf]; omega⟩
        | true =>
          cases y3 with
          | false =>
            go_wp2_with (first
              | (refine (HQ3.out _ HB4.out).mono ?_; rintro e w6 ⟨rfl, hb6⟩)
              | (refine (HQ2.out _ _ _ HRD4.out).mono ?_; rintro e w5 ⟨rfl, rfl⟩)
              | (refine (HNA.out _).mono ?_; rintro e w4 ⟨⟨A4, c4, rfl, hrd4⟩, hb4⟩; have HB4 := Lib.hid (HB3.out.trans (hb4.mono HB3.out.size)); have HS4 := Lib.hid hb4; have hx4 := (HB4.out.block _ hBl).trans HBX.out; have k40 := cell_of_heap hx4 0 _ rfl; have k41 := cell_of_heap hx4 1 _ rfl; have k42 := cell_of_heap hx4 2 _ rfl; have k43 := cell_of_heap hx4 3 _ rfl; have k44 := cell_of_heap hx4 4 _ rfl; have hl4 := (Array.getElem?_eq_some_iff.1 hx4).1; clear hx4 hb4; have HRD4 := Lib.hid hrd4; clear hrd4 k30 k31 k32 k33 k34)
              | (refine (HQ1.out _ HB2.out).mono ?_; rintro e w3 ⟨rfl, hb3⟩; have HB3 := Lib.hid (HB2.out.trans (hb3.mono HB2.out.size)); have HS3 := Lib.hid hb3; have hx3 := (HB3.out.block _ hBl).trans HBX.out; have k30 := cell_of_heap hx3 0 _ rfl; have k31 := cell_of_heap hx3 1 _ rfl; have k32 := cell_of_heap hx3 2 _ rfl; have k33 := cell_of_heap hx3 3 _ rfl; have k34 := cell_of_heap hx3 4 _ rfl; have hl3 := (Array.getElem?_eq_some_iff.1 hx3).1; clear hx3 hb3; obtain ⟨x0, x1, x2, x3, x4, x5, x6, x7, x8, x9, x10, x11, x12, x13, x14⟩ := RdI.load (HCS.out _ HB3.out); simp only at x0 x1 x2 x3 x4 x5 x6 x7 x8 x9 x10 x11 x12 x13 x14; clear k20 k21 k22 k23 k24))
            exact ⟨⟨k + 1, by omega, by go_num, (by rw [HBN.out (fun g => by cases g.2.2)]; exact ((HOWN.out.later HS3.out).later HS4.out).later hb6), HV.out, HB4.out.trans (hb6.mono HB4.out.size)⟩, by simp [intOf]; omega⟩
          | true =>
            go_wp2_with (first
              | (at_builtin; refine append_one rfl (.tmp 44) (.tmp 46) rfl (.slice A M c) L rfl (HO6.out.alloc _) w6.heap.size k rfl (heap_alloc_new _ _) (by have := HLL.out; omega) ?_; intro V' w9 ho9 hg9 hb9)
              | (refine (HQ4.out _ HR6.out).mono ?_; rintro e w7 ⟨rfl, rfl⟩)
              | (refine (HQ3.out _ HB4.out).mono ?_; rintro e w6 ⟨rfl, hb6⟩; have HB6 := Lib.hid (HB4.out.trans (hb6.mono HB4.out.size)); have HO6 := Lib.hid (((HOWN.out.later HS3.out).later HS4.out).later hb6); have HR6 := Lib.hid (((HRD.out.below HS3.out).below HS4.out).below hb6); have HS6 := Lib.hid (Nat.le_trans hsz (Nat.le_trans HS3.out.size (Nat.le_trans HS4.out.size hb6.size))); clear hb6)
              | (refine (HQ2.out _ _ _ HRD4.out).mono ?_; rintro e w5 ⟨rfl, rfl⟩)
              | (refine (HNA.out _).mono ?_; rintro e w4 ⟨⟨A4, c4, rfl, hrd4⟩, hb4⟩; have HB4 := Lib.hid (HB3.out.trans (hb4.mono HB3.out.size)); have HS4 := Lib.hid hb4; have hx4 := (HB4.out.block _ hBl).trans HBX.out; have k40 := cell_of_heap hx4 0 _ rfl; have k41 := cell_of_heap hx4 1 _ rfl; have k42 := cell_of_heap hx4 2 _ rfl; have k43 := cell_of_heap hx4 3 _ rfl; have k44 := cell_of_heap hx4 4 _ rfl; have hl4 := (Array.getElem?_eq_some_iff.1 hx4).1; clear hx4 hb4; have HRD4 := Lib.hid hrd4; clear hrd4 k30 k31 k32 k33 k34)
              | (refine (HQ1.out _ HB2.out).mono ?_; rintro e w3 ⟨rfl, hb3⟩; have HB3 := Lib.hid (HB2.out.trans (hb3.mono HB2.out.size)); have HS3 := Lib.hid hb3; have hx3 := (HB3.out.block _ hBl).trans HBX.out; have k30 := cell_of_heap hx3 0 _ rfl; have k31 := cell_of_heap hx3 1 _ rfl; have k32 := cell_of_heap hx3 2 _ rfl; have k33 := cell_of_heap hx3 3 _ rfl; have k34 := cell_of_heap hx3 4 _ rfl; have hl3 := (Array.getElem?_eq_some_iff.1 hx3).1; clear hx3 hb3; obtain ⟨x0, x1, x2, x3, x4, x5, x6, x7, x8, x9, x10, x11, x12, x13, x14⟩ := RdI.load (HCS.out _ HB3.out); simp only at x0 x1 x2 x3 x4 x5 x6 x7 x8 x9 x10 x11 x12 x13 x14; clear k20 k21 k22 k23 k24))
            refine ⟨⟨k + 1, by omega, by go_num, (by rw [HBK.out (by trivial) (by trivial) (by trivial)]; exact ho9), fun x hx => ?_, ?_⟩, by simp [intOf]; omega⟩
            · rcases hb9 with e | e
              · rw [e] at hx; exact HV.out x hx
              · rw [e] at hx; injection hx with hx; have := HS6.out; simp at hx; omega
            · exact Below.grown (HB6.out.alloc HS6.out _) hg9 (by have := HS6.out; simp; omega) (fun x hx => HV.out x hx)
    · obtain rfl : k = N := by omega
      by_cases hM0 : M = 0
      · subst hM0
        have HQ : Hid (SlF w.heap.size (lpL f (h : Int)) (.returned (.slice none 0 0)) wr ∧ Below w.heap.size w wr) := Lib.hid ⟨⟨none, 0, by rw [HLP2.out (by rw [hL]; exact List.eq_nil_of_length_eq_zero hM)]; rfl, by rw [HLP2.out (by rw [hL]; exact List.eq_nil_of_length_eq_zero hM)]; exact ⟨(fun j x hx => by simp at hx), fun b o e => by cases e⟩⟩, HB.out.trans (hb.mono HB.out.size)⟩
        clear hown hown2 hV hb hx2 hrd hL hM HRD HOWN
        go_wp2
        go_returns
        exact HQ.out
      · have hMi : ¬ (M : Int) = 0 := by omega
        have hlp := HLP1.out (by rw [hL]; intro e; rw [e] at hM; exact hM0 hM.symm)
        have HLP := Lib.hid hlp
        have HIK : Hid (∀ p, IsK (Eg f.code) h L p M ↔ InL (Eg f.code) h p) := Lib.hid fun p => by have := HALL.out p M (by rw [hL]; exact hM); rw [hL] at this; exact this
        have HEL : Hid (∀ j, j < M → ∃ e : Nat, L[j]? = some (e : Int)) := Lib.hid fun j hj => by
          obtain ⟨x, hx⟩ : ∃ x, L[j]? = some x := ⟨_, List.getElem?_eq_getElem (by rw [hM]; exact hj)⟩
          have h2 := List.mem_of_getElem? hx
          rw [← hL] at h2
          obtain ⟨e, rfl, _⟩ := upL_mem.1 h2
          exact ⟨e, hx⟩
        have hM8 : M ≤ 8192 := by omega
        clear hown hown2 hV hb hx2 hrd hL hM HOWN hlp HV HL
        go_wp2
        have hkb : ((M : Int) == 0) = false := by rw [beq_eq_false_iff_ne]; exact hMi
        simp only [hkb]
        clear hkb
        clear k20 k21 k22 k23 k24
        obtain ⟨w9, rfl⟩ : ∃ w9 : World, w9 = wr := ⟨_, rfl⟩
        go_loopw [7, 8] (fun V ix w2 => ∃ q : Nat, q ≤ k ∧ ix = .int .i64 q ∧ OwnN w2 V (upL q (InL (Eg f.code) h)) ∧ (∀ x, V.ownBlock = some x → w9.heap.size ≤ x) ∧ Below w9.heap.size w9 w2) (fun _ ix _ => k - (intOf ix).toNat)
        case atStart => exact ⟨0, by omega, rfl, OwnN.nil _, (fun x hx => by simp [Value.ownBlock] at hx), Below.refl _ _⟩
        case round =>
          obtain ⟨q, hq, rfl, hown, hV, hb⟩ := hrel
          have HB7 := Lib.hid (HB2.out.trans (hb.mono HB2.out.size))
          have HB79 := Lib.hid hb
          have HOWN := Lib.hid hown
          have HV := Lib.hid hV
          have hx7 : wr.heap[w.heap.size]? = _ := (HB7.out.block _ hBl).trans HBX.out
          have k70 := cell_of_heap hx7 0 _ rfl; have k71 := cell_of_heap hx7 1 _ rfl; have k72 := cell_of_heap hx7 2 _ rfl; have k73 := cell_of_heap hx7 3 _ rfl; have k74 := cell_of_heap hx7 4 _ rfl
          have hl7 := (Array.getElem?_eq_some_iff.1 hx7).1
          have hsz7 := hb.size
          clear hown hV hb hx7
          by_cases hlt : q < k
          · have hqi : (q : Int) < k := by omega
            go_wp2
            clear k70 k71 k72 k73 k74
            obtain ⟨wA, rfl⟩ : ∃ wA : World, wA = wr := ⟨_, rfl⟩
            go_loopw [9, 10] (fun Z ix wr => ∃ (j : Nat) (z : Bool), j ≤ M ∧ ix = .int .i64 j ∧ Z = .bool z ∧ (z = true ↔ IsK (Eg f.code) h L q j) ∧ Below wA.heap.size wA wr) (fun _ ix _ => M - (intOf ix).toNat)
            case atStart => exact ⟨0, _, by omega, rfl, rfl, by rw [IsK.zero]; simp; try omega, Below.refl _ _⟩
            case round =>
              obtain ⟨j, z, hj, rfl, rfl, hz, hb3⟩ := hrel
              have HB8 := Lib.hid (HB7.out.trans (hb3.mono HB7.out.size))
              have HB8A := Lib.hid hb3
              have HZ := Lib.hid hz
              have hrd8 := (HRD.out.below HB79.out).below hb3
              have hsz8 := hb3.size
              by_cases hlt2 : j < M
              · have hji : (j : Int) < M := by omega
                obtain ⟨e, he⟩ := HEL.out j hlt2
                obtain ⟨b3, o3, rfl, hbl3, hc3⟩ := hrd8 j (e : Int) he
                have HC3 := Lib.hid hc3
                have HMORE := Lib.hid (IsK.more (E := Eg f.code) (h := h) (k := q) he)
                have hx8 : wr.heap[w.heap.size]? = _ := (HB8.out.block _ hBl).trans HBX.out
                have k80 := cell_of_heap hx8 0 _ rfl; have k81 := cell_of_heap hx8 1 _ rfl; have k82 := cell_of_heap hx8 2 _ rfl; have k83 := cell_of_heap hx8 3 _ rfl; have k84 := cell_of_heap hx8 4 _ rfl
                have hl8 := (Array.getElem?_eq_some_iff.1 hx8).1
                clear hz hb3 hrd8 he hx8
                have HBZ := Lib.hid HB8.out.drew
                have HSZ := Lib.hid ((Below.refl wr.heap.size wr).drew)
                go_upto_block 5 with fail
                go_cut [9] from 61 to 83 (fun s wx => ∃ z', s = .bool z' ∧ (z' = true ↔ IsK (Eg f.code) h L q (j + 1)) ∧ Below wA.heap.size wA wx)
                case first =>
                  go_upto_region 17 with fail
                  cases z with
                  | true =>
                    go_quiet (fail)
                    go_wp2
                    go_meet
                    exact ⟨true, rfl, ⟨fun _ => HMORE.out.2 (Or.inl (HZ.out.1 (by trivial))), fun _ => by trivial⟩, by first | exact HB8A.out | exact below_dn HB8A.out _⟩
                  | false =>
                    have hqh : q ≠ h := fun g => by have := HZ.out.2 (Or.inl g); cases this
                    obtain ⟨y1, hy1⟩ : ∃ y, tb (R0 (Eg f.code) q) = y := ⟨_, rfl⟩
                    have HQ1 : Hid (∀ X, Below W.heap.size W X → Calls Try.prog 18 #[.agg #[.string f.nm, .int .i64 f.ps, .int .i64 f.R, .int .i64 f.Fr, .slice C k cap], .int .i64 (q : Int)] X fun e w' => e = .returned (.bool y1) ∧ Below X.heap.size X w') := Lib.hid fun X hX => by
                      have := HRE.out q X (HC1.out.below hX)
                      rw [hy1] at this
                      exact this
                    have HY1 := Lib.hid hy1
                    clear hy1
                    cases y1 with
                    | false =>
                      have e0 := fun s : Later wr => Later.cell k80 s
                      have e1 := fun s : Later wr => Later.cell k81 s
                      have e2 := fun s : Later wr => Later.cell k82 s
                      have e3 := fun s : Later wr => Later.cell k83 s
                      have e4 := fun s : Later wr => Later.cell k84 s
                      refine wp_region_later (by kernel_rfl) (by kernel_rfl) ?_
                      repeat (go_big_quiet_step ((go_at_call 18; exact Calls.later (HQ1.out _ (HB8.out.trans ((Later.h _).mono HB8.out.size))))))
                      refine wpQuiet_nil ?_
                      rintro w4 ⟨s', rfl⟩
                      have HB4 := Lib.hid s'.h
                      go_wp2
                      go_meet
                      exact ⟨false, rfl, ⟨(fun g => by cases g), fun g => (HMORE.out.1 g).elim HZ.out.2 fun g2 => by have := tb_true.2 g2.1; rw [HY1.out] at this; exact this⟩, HB8A.out.trans (HB4.out.mono hsz8)⟩
                    | true =>
                      have HQ2 : Hid (∀ X, Below W.heap.size W X → Calls Try.prog 36 #[.agg #[.string f.nm, .int .i64 f.ps, .int .i64 f.R, .int .i64 f.Fr, .slice C k cap], .int .i64 (q : Int), .int .i64 (h : Int)] X fun e w' => (∃ A c T L, T.length = L ∧ L ≤ k ∧ e = .returned (.slice A L c) ∧ RdN w' A T ∧ ∀ p : Nat, (p : Int) ∈ T ↔ Wf (Eg f.code) h q p) ∧ Below X.heap.size X w') := Lib.hid fun X hX => HWO.out q X hlt hqh (HC1.out.below hX)
                      refine wp_region_noPanic ?_
                      go_region_with (first
                        | (refine (HIN.out _ HR5.out).mono ?_; rintro e6 w6 ⟨rfl, rfl⟩)
                        | (refine (HQ2.out _ HB4.out).mono ?_; rintro e5 w5 ⟨⟨A5, c5, T5, L5, hl5, hn5, rfl, hr5, hi5⟩, hb5⟩; have HB5 := Lib.hid (HB4.out.trans (hb5.mono HB4.out.size)); have HS5 := Lib.hid (HS4.out.trans (hb5.mono HS4.out.size)); have kc5 := (HS5.out.cell (p := ⟨b3, _, none⟩) hbl3).trans HC3.out; have HR5 := Lib.hid hr5; have HI5 := Lib.hid (hi5 e); obtain ⟨y2, hy2⟩ : ∃ y, T5.contains (e : Int) = y := ⟨_, rfl⟩; have HY2 := Lib.hid hy2; have HL5 := Lib.hid hl5; have HIN : Hid (∀ X, RdN X A5 T5 → Calls Try.prog 26 #[.slice A5 L5 c5, .int .i64 (e : Int)] X fun e w' => e = .returned (.bool y2) ∧ X = w') := (Lib.hid fun X hX => (by have h6 := In_any A5 T5 c5 (e : Int) X hX (by rw [HL5.out]; omega); rw [HY2.out, HL5.out] at h6; exact h6)); clear hl5 hb5 hr5 hi5 hy2)
                        | (refine (HQ1.out _ HBZ.out).mono ?_; rintro e w4 ⟨rfl, hb4⟩; have HB4 := Lib.hid (HBZ.out.trans (hb4.mono HBZ.out.size)); have HS4 := Lib.hid (HSZ.out.trans (hb4.mono HSZ.out.size)); have hx4 := (HB4.out.block _ hBl).trans HBX.out; have k40 := cell_of_heap hx4 0 _ rfl; have k41 := cell_of_heap hx4 1 _ rfl; have k42 := cell_of_heap hx4 2 _ rfl; have k43 := cell_of_heap hx4 3 _ rfl; have k44 := cell_of_heap hx4 4 _ rfl; have hl4 := (Array.getElem?_eq_some_iff.1 hx4).1; clear hx4 hb4; have kc4 := (HS4.out.cell (p := ⟨b3, _, none⟩) hbl3).trans HC3.out; clear k80 k81 k82 k83 k84))
                      all_goals
                        refine NoPanic.normal ?_
                        go_wp2
                        go_meet
                        exact ⟨y2, rfl, ⟨fun g => HMORE.out.2 (Or.inr ⟨tb_true.1 HY1.out, HI5.out.1 (List.contains_iff_mem.1 (HY2.out.trans g))⟩), fun g => (HMORE.out.1 g).elim (fun g2 => by have := HZ.out.2 g2; cases this) fun g2 => HY2.out.symm.trans (List.contains_iff_mem.2 (HI5.out.2 g2.2))⟩, HB8A.out.trans (HS5.out.mono hsz8)⟩
                case rest =>
                  obtain ⟨z', rfl, hz', hbc⟩ := hcut
                  have HZ' := Lib.hid hz'
                  have HBC' := Lib.hid hbc
                  clear hz' hbc k80 k81 k82 k83 k84 hl8 HBZ HSZ hc3
                  go_wp2
                  exact ⟨⟨j + 1, z', by omega, by go_num, rfl, HZ'.out, HBC'.out⟩, by simp [intOf]; omega⟩
              · obtain rfl : j = M := by omega
                have HIN2 := Lib.hid (HZ.out.trans (HIK.out q))
                have HO8 := Lib.hid (HOWN.out.later hb3)
                clear hz hb3 hrd8
                cases z with
                | false =>
                  go_wp2
                  exact ⟨⟨q + 1, by omega, by go_num, (by rw [upL_skip q _ (fun g => by have := HIN2.out.2 g; cases this)]; exact HO8.out), HV.out, HB79.out.trans (HB8A.out.mono hsz7)⟩, by simp [intOf]; omega⟩
                | true =>
                  have hul := upL_len q (InL (Eg f.code) h)
                  have HUL := Lib.hid hul
                  clear hul
                  go_wp2_with (first
                    | (at_builtin; refine append_one rfl (.tmp 85) (.tmp 87) rfl _ (upL q (InL (Eg f.code) h)) rfl (HO8.out.alloc _) wr.heap.size q rfl (heap_alloc_new _ _) (by have := HUL.out; omega) ?_; intro V' w5 ho5 hg5 hb5))
                  refine ⟨⟨q + 1, by omega, by go_num, (by rw [upL_next q _ (HIN2.out.1 (by simp))]; exact ho5), fun x hx => ?_, ?_⟩, by simp [intOf]; omega⟩
                  · rcases hb5 with e | e
                    · rw [e] at hx; exact HV.out x hx
                    · rw [e] at hx; injection hx with hx; simp at hx; omega
                  · exact Below.grown ((HB79.out.trans (HB8A.out.mono hsz7)).alloc (by omega) _) hg5 (by simp; omega) (fun x hx => HV.out x hx)
          · obtain rfl : q = k := by omega
            have HQ : Hid (SlF w.heap.size (lpL f (h : Int)) (.returned u7) wr ∧ Below w.heap.size w wr) := Lib.hid ⟨by
              rw [HLP.out]
              have ho := HOWN.out
              obtain ⟨A, c, e, _, hr⟩ := ho.form
              refine ⟨A, c, by rw [e], hr, fun b o e2 => ?_⟩
              have h1 := HV.out b (by rw [e, e2]; rfl)
              have h2 := HB2.out.size
              have h3 := HB.out.size
              omega, HB.out.trans (HB7.out.mono HB.out.size)⟩
            go_wp2
            go_returns
            exact HQ.out
end Go.Proofs.Ytgdbkoncaojmoaa
