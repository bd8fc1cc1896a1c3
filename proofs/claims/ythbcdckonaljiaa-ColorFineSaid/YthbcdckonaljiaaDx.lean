import Derived.Test.YthbcdckonaljiaaDy
import Derived.Test.YthbcdckonaljiaaQp
namespace Go.Proofs.Ythbcdckonaljiaa
open Go.RowKit Go.BigFrame

set_option maxRecDepth 1000000 in
set_option maxHeartbeats 4000000 in
theorem over_any {E : Nat → Nat → Prop} {pl : Nat → Nat} {up : Nat → Option Nat} (hU : UpT E pl up) (N : Nat) (hN : ∀ n, R0 E n → n < N) (A : Option Addr) (cap : Nat) (w : World) (hR : RdN w A (abL N up)) (a b : Nat) (hb : R0 E b) :
    Calls Try.prog 104 #[.slice A N cap, .int .i64 (a : Int), .int .i64 (b : Int)] w fun e w' => e = .returned (.bool (tb (Dom E a b))) ∧ w = w' := by
  have HR := Lib.hid hR
  have HN := Lib.hid hN
  have HU := Lib.hid hU
  have HB := Lib.hid hb
  obtain ⟨z, hz⟩ : ∃ z, tb (Dom E a b) = z := ⟨_, rfl⟩
  rw [hz]
  have hzc : z = true ↔ Ch up b a := by rw [← hz, tb_true]; exact (hU.dom b a hb).symm
  have HZ := Lib.hid hzc
  clear hR hN hU hb hz hzc
  go_enter Try.func104, Try.ntmps104
  go_wp2
  go_loopg [7] (pl b + 1) (fun gk V wr => w = wr ∧ ((∃ n : Nat, V = .int .i64 (n : Int) ∧ R0 E n ∧ (Ch up b a ↔ Ch up n a) ∧ gk = pl n + 1) ∨ (V = .int .i64 (-1) ∧ ¬ Ch up b a ∧ gk = 0)))
  case atStart => exact ⟨rfl, Or.inl ⟨b, rfl, HB.out, Iff.rfl, rfl⟩⟩
  case round =>
    obtain ⟨rfl, hrel⟩ := hrel
    rcases hrel with ⟨n, rfl, hn, hch, hgk⟩ | ⟨rfl, hno, _⟩
    · have HGK := Lib.hid hgk
      have hnN := HN.out n hn
      have HCH := Lib.hid hch
      have hn0 : (0 : Int) ≤ (n : Int) := by omega
      by_cases hna : n = a
      · subst hna
        have hzt : z = true := HZ.out.2 (hch.2 (Ch.refl _))
        clear hgk hch hn
        go_wp2
        go_returns
        exact ⟨by rw [hzt]; rfl, rfl⟩
      · have hne : ¬ ((n : Int) = (a : Int)) := by omega
        have hni : (n : Int) < N := by omega
        by_cases h0 : n = 0
        · have hno : ¬ Ch up b a := fun h => hna (by have h1 := hch.1 h; rw [h0] at h1 ⊢; exact h1.zero.symm)
          have hNO := Lib.hid hno
          obtain ⟨bb, oo, rfl, hbl, hc⟩ := HR.out n (-1) (by rw [h0]; exact abL_zero up (by omega))
          clear hgk hch hn hno h0
          go_wp2
          go_roundg 0
          case measure => rw [HGK.out]; omega
          case rel => exact ⟨rfl, Or.inr ⟨rfl, hNO.out, rfl⟩⟩
        · obtain ⟨bb, oo, rfl, hbl, hc⟩ := HR.out n _ (abL_at hnN h0)
          cases hu : up n with
          | none => exact absurd hu ((HU.out.is n).2 hn)
          | some m =>
            rw [hu] at hc
            simp only [bestI] at hc
            have hd := HU.out.tr.down n m h0 hu
            have HD := Lib.hid hd
            have HCH2 : Hid (Ch up b a ↔ Ch up m a) := Lib.hid (hch.trans ⟨fun h => h.tail hu (Ne.symm hna), fun h => Ch.step h0 hu h⟩)
            have HM := Lib.hid ((HU.out.is m).1 hd.2.2)
            clear hgk hch hn hd hu
            go_wp2
            go_roundg (pl m + 1)
            case measure => rw [HGK.out]; have := HD.out.2.1; omega
            case rel => exact ⟨rfl, Or.inl ⟨m, rfl, HM.out, HCH2.out, rfl⟩⟩
    · have hzf : z = false := by
        cases z with
        | false => rfl
        | true => exact absurd (HZ.out.1 rfl) hno
      clear hno
      go_wp2
      go_returns
      exact ⟨by rw [hzf]; rfl, rfl⟩
noncomputable def dmB (f : Fn7) (a b : Int) : Bool := tb (0 ≤ a ∧ 0 ≤ b ∧ Dom (Eg f.code) a.toNat b.toNat)
theorem dmB_nat (f : Fn7) (a b : Nat) : dmB f (a : Int) (b : Int) = tb (Dom (Eg f.code) a b) := by
  unfold dmB
  rw [Bool.eq_iff_iff, tb_true, tb_true]
  simp
theorem R0.ltN {f : Fn7} (hf : OkF f) {p : Nat} (h : R0 (Eg f.code) p) : p < f.code.length := by
  cases h with
  | zero => have := hf.len; omega
  | step _ h => exact h.lt hf
open Go.RowKit Go.BigFrame

theorem upL_next (N : Nat) (P : Nat → Prop) (h : P N) : upL (N + 1) P = upL N P ++ [(N : Int)] := by rw [upL_succ, if_pos (tb_true.2 h)]
theorem upL_skip (N : Nat) (P : Nat → Prop) (h : ¬ P N) : upL (N + 1) P = upL N P := by rw [upL_succ, if_neg (fun g => h (tb_true.1 g)), List.append_nil]
set_option maxRecDepth 1000000 in
set_option maxHeartbeats 16000000 in
theorem ends_any (f : Fn7) (hf : OkF f) (h : Nat) (C : Option Addr) (cap : Nat) (A2 : Option Addr) (c2 rb : Nat) {O : List Nat} {up : Nat → Option Nat} (hU : UpT (Eg f.code) (fun n => O.idxOf n) up) (w : World) (hC : RdI w C f.code)
    (hA : RdN w A2 (abL f.code.length up)) (hRb : Pre gB 1 4 w rb (bl f.code.length fun p => tb (R0 (Eg f.code) p))) :
    Calls Try.prog 82 #[funcAgg f.nm f.ps f.R f.Fr C f.code.length cap, .int .i64 (h : Int), .slice A2 f.code.length c2, .slice (some ⟨rb, 0, none⟩) f.code.length f.code.length] w fun e w' => OwT w.heap.size (upL f.code.length (Bk (Eg f.code) h)) e w' ∧ Below w.heap.size w w' := by
  have hlt : ∀ p, R0 (Eg f.code) p → p < f.code.length := fun p h => h.ltN hf
  have hB := Below.one w (funcObj f.nm f.ps f.R f.Fr C f.code.length cap)
  have bx := heap_alloc_new w (funcObj f.nm f.ps f.R f.Fr C f.code.length cap)
  have hC1 := hC.below hB
  have hA1 := hA.below hB
  have hR1 := Pre.later hRb hB
  obtain ⟨N, hN⟩ : ∃ N, f.code.length = N := ⟨_, rfl⟩
  have hN2 : N ≤ 8192 := by rw [← hN]; exact hf.len.2
  rw [hN] at hB bx hC1 hA1 hR1 hlt ⊢
  simp only [funcObj, funcAgg] at hB bx hC1 hA1 hR1 ⊢
  obtain ⟨W, hW⟩ : ∃ W, w.alloc (.cells #[.string f.nm, .int .i64 f.ps, .int .i64 f.R, .int .i64 f.Fr, .slice C N cap] 26) = W := ⟨_, rfl⟩
  rw [hW] at bx hC1 hB hA1 hR1
  have HC1 := Lib.hid hC1
  have HA1 := Lib.hid hA1
  have HR1 := Lib.hid hR1
  have HF := Lib.hid hf
  have HN := Lib.hid hN
  have HU := Lib.hid hU
  have HLT := Lib.hid hlt
  have HB := Lib.hid hB
  have HBX := Lib.hid bx
  have hBl := (Array.getElem?_eq_some_iff.1 bx).1
  clear hf hN hC hA hRb hC1 hA1 hR1 bx hB hlt hU
  go_enter Try.func82, Try.ntmps82
  go_wp2
  clear hW
  go_loopw [9, 13] (fun V ix wr => ∃ k : Nat, k ≤ N ∧ ix = .int .i64 k ∧ OwnN wr V (upL k (Bk (Eg f.code) h)) ∧ (∀ x, V.ownBlock = some x → W.heap.size ≤ x) ∧ Below W.heap.size W wr) (fun _ ix _ => N - (intOf ix).toNat)
  case atStart => exact ⟨0, by omega, rfl, OwnN.nil _, (fun x hx => by simp [Value.ownBlock] at hx), Below.refl _ _⟩
  case round =>
    obtain ⟨k, hk, rfl, hown, hV, hb⟩ := hrel
    have HOWN := Lib.hid hown
    have HV := Lib.hid hV
    have HBB := Lib.hid hb
    by_cases hlt : k < N
    · have hcr := PreB.cell (Pre.later HR1.out hb) (bl_get (m := fun p => tb (R0 (Eg f.code) p)) hlt)
      have hki : (k : Int) < N := by omega
      have hsz := hb.size
      have hll := upL_len k (Bk (Eg f.code) h)
      have HLL := Lib.hid hll
      have HSK : Hid (¬ Bk (Eg f.code) h k → ∀ w6, Below wr.heap.size wr w6 → ∃ k' : Nat, k' ≤ N ∧ Value.int IntKind.i64 ((k : Int) + 1) = .int .i64 k' ∧ OwnN w6 u9 (upL k' (Bk (Eg f.code) h)) ∧ (∀ x, u9.ownBlock = some x → W.heap.size ≤ x) ∧ Below W.heap.size W w6) := Lib.hid fun hno w6 h6 => ⟨k + 1, by omega, by go_num, by
        rw [upL_skip k _ hno]
        exact HOWN.out.later h6, HV.out, HBB.out.trans (h6.mono hsz)⟩
      by_cases hr : R0 (Eg f.code) k
      · rw [tb_true.2 hr] at hcr
        obtain ⟨i, hi⟩ : ∃ i, f.code[k]? = some i := ⟨_, List.getElem?_eq_getElem (by rw [HN.out]; exact hlt)⟩
        have hC2 := HC1.out.below hb
        obtain ⟨bb, oo, rfl, hbl, hcs⟩ := hC2 k i hi
        obtain ⟨x0, x1, x2, x3, x4, x5, x6, x7, x8, x9, x10, x11, x12, x13, x14⟩ := RdI.load hcs
        have hx4 : wr.heap[w.heap.size]? = _ := (hb.block _ hBl).trans HBX.out
        have g4 := cell_of_heap hx4 4 _ rfl
        have hll2 := (Array.getElem?_eq_some_iff.1 hx4).1
        have hna := fun W => Next_fr i k (by omega) W
        have hnl := Ins.next_len i k
        have heg := fun (q : Nat) => Eg_iff HF.out (q := q) hi
        obtain ⟨nx, hnx⟩ : ∃ nx, i.next k = nx := ⟨_, rfl⟩
        rw [hnx] at hna hnl heg
        obtain ⟨Ln, hLn⟩ : ∃ Ln, nx.length = Ln := ⟨_, rfl⟩
        obtain ⟨kk, op, dst, a, b', n, text, r0, r1, r2, r3, r4, r5, to_, els⟩ := i
        simp only at x0 x1 x2 x3 x4 x5 x6 x7 x8 x9 x10 x11 x12 x13 x14
        have HNA : Hid (∀ W, Calls Try.prog 54 (#[.agg #[.int .i64 kk, .int .i64 op, .int .i64 dst, .int .i64 a, .int .i64 b', .int .i64 n, .string text, .int .i64 r0, .int .i64 r1, .int .i64 r2, .int .i64 r3, .int .i64 r4, .int .i64 r5, .int .i64 to_, .int .i64 els], .int .i64 k]) W fun e w' => (∃ A c, e = .returned (.slice A Ln c) ∧ RdN w' A nx) ∧ Below W.heap.size W w') := Lib.hid fun W => (hna W).mono fun e w' ⟨⟨A, c, h1, h2, _⟩, h4⟩ => ⟨⟨A, c, by rw [h1, hLn], h2⟩, h4⟩
        obtain ⟨y, hy⟩ : ∃ y, nx.contains (h : Int) = y := ⟨_, rfl⟩
        have HCA : Hid (∀ W A c, RdN W A nx → Calls Try.prog 103 #[.slice A Ln c, .int .i64 (h : Int)] W fun e w' => e = .returned (.bool y) ∧ W = w') := Lib.hid fun W A c hr => by
          have := Contains_rd A nx c (h : Int) W hr (by omega)
          rw [hy, hLn] at this
          exact this
        have HY : Hid (y = true ↔ Eg f.code k h) := Lib.hid (by rw [← hy, List.contains_iff_mem]; exact heg h)
        have HOV : Hid (∀ W', Below wr.heap.size wr W' → Calls Try.prog 104 #[.slice A2 N c2, .int .i64 (h : Int), .int .i64 (k : Int)] W' fun e w' => e = .returned (.bool (tb (Dom (Eg f.code) h k))) ∧ W' = w') := Lib.hid fun W' hb' => over_any HU.out N HLT.out A2 c2 W' ((HA1.out.below hb).below hb') h k hr
        have HRR := Lib.hid hr
        clear hown hV hb hr hi hC2 hcs hx4 hna hnl heg hnx hLn hy hll
        cases y with
        | false =>
          go_wp2_with (first
            | (refine (HNA.out _).mono ?_; rintro e w6 ⟨⟨A6, c6, rfl, hrd6⟩, hb6⟩)
            | (refine (HCA.out _ _ _ hrd6).mono ?_; rintro e w7 ⟨rfl, rfl⟩))
          exact ⟨HSK.out (fun g => by have := HY.out.2 g.2.1; cases this) _ hb6, by simp [intOf]; omega⟩
        | true =>
          obtain ⟨z, hz⟩ : ∃ z, tb (Dom (Eg f.code) h k) = z := ⟨_, rfl⟩
          rw [hz] at HOV
          have HZ : Hid (z = true ↔ Dom (Eg f.code) h k) := Lib.hid (by rw [← hz]; exact tb_true)
          clear hz
          cases z with
          | false =>
            go_wp2_with (first
              | (refine (HNA.out _).mono ?_; rintro e w6 ⟨⟨A6, c6, rfl, hrd6⟩, hb6⟩)
              | (refine (HCA.out _ _ _ hrd6).mono ?_; rintro e w7 ⟨rfl, rfl⟩)
              | (refine (HOV.out _ hb6).mono ?_; rintro e w8 ⟨rfl, rfl⟩))
            exact ⟨HSK.out (fun g => by have := HZ.out.2 g.2.2; cases this) _ hb6, by simp [intOf]; omega⟩
          | true =>
            go_wp2_with (first
              | (refine (HNA.out _).mono ?_; rintro e w6 ⟨⟨A6, c6, rfl, hrd6⟩, hb6⟩; have HW6 := Lib.hid hb6)
              | (refine (HCA.out _ _ _ hrd6).mono ?_; rintro e w7 ⟨rfl, rfl⟩)
              | (refine (HOV.out _ HW6.out).mono ?_; rintro e w8 ⟨rfl, rfl⟩)
              | (at_builtin; refine append_one rfl (.tmp 37) (.tmp 39) rfl u9 (upL k (Bk (Eg f.code) h)) rfl ((HOWN.out.later HW6.out).alloc _) w6.heap.size k rfl (heap_alloc_new _ _) (by have := HLL.out; omega) ?_; intro V' w9 ho9 hg9 hb9))
            have hs6 := HW6.out.size
            refine ⟨⟨k + 1, by omega, by go_num, ?_, fun x hx => ?_, ?_⟩, by simp [intOf]; omega⟩
            · rw [upL_next k _ ⟨HRR.out, HY.out.1 (by simp), HZ.out.1 (by simp)⟩]
              exact ho9
            · rcases hb9 with e | e
              · rw [e] at hx; exact HV.out x hx
              · rw [e] at hx; injection hx with hx; simp at hx; omega
            · exact Below.grown ((HBB.out.trans (HW6.out.mono hsz)).alloc (by omega) _) hg9 (by simp; omega) (fun x hx => HV.out x hx)
      · rw [tb_false.2 hr] at hcr
        have HRR := Lib.hid hr
        clear hown hV hb hr hll
        go_wp2
        exact ⟨HSK.out (fun g => HRR.out g.1) _ (Below.refl _ _), by simp [intOf]; omega⟩
    · obtain rfl : k = N := by omega
      have HQ : Hid (OwT w.heap.size (upL k (Bk (Eg f.code) h)) (.returned u9) wr ∧ Below w.heap.size w wr) := Lib.hid ⟨⟨u9, rfl, hown, fun b e => Nat.le_trans HB.out.size (hV b e)⟩, HB.out.trans (hb.mono HB.out.size)⟩
      clear hown hV hb
      go_wp2
      go_returns
      exact HQ.out
open Go.RowKit Go.BigFrame

set_option maxHeartbeats 4000000 in
theorem gHeads_no (f : Fn7) (hf : ¬ OkF f) (C : Option Addr) (cap : Nat) (w : World) (hC : RdI w C f.code) :
    Calls Try.prog 56 #[funcAgg f.nm f.ps f.R f.Fr C f.code.length cap] w fun e w' => e = .returned (.slice none 0 0) ∧ Below w.heap.size w w' := by
  have hB := Below.one w (funcObj f.nm f.ps f.R f.Fr C f.code.length cap)
  have bx := heap_alloc_new w (funcObj f.nm f.ps f.R f.Fr C f.code.length cap)
  have hC1 := hC.below hB
  have hA := fun W h => gAbove_no f hf C cap W h
  have hR := fun W h => gReached_no f hf C cap W h
  obtain ⟨N, hN⟩ : ∃ N, f.code.length = N := ⟨_, rfl⟩
  rw [hN] at hA hR hB bx hC1 ⊢
  simp only [funcObj, funcAgg] at hA hR hB bx hC1 ⊢
  have HA := Lib.hid hA
  have HR := Lib.hid hR
  have HC1 := Lib.hid hC1
  obtain ⟨W, hW⟩ : ∃ W, w.alloc (.cells #[.string f.nm, .int .i64 f.ps, .int .i64 f.R, .int .i64 f.Fr, .slice C N cap] 26) = W := ⟨_, rfl⟩
  rw [hW] at bx HC1 hB
  have HB := Lib.hid hB
  have HBX := Lib.hid bx
  have hBl := (Array.getElem?_eq_some_iff.1 bx).1
  have g0 := cell_of_heap bx 0 _ rfl
  have g1 := cell_of_heap bx 1 _ rfl
  have g2 := cell_of_heap bx 2 _ rfl
  have g3 := cell_of_heap bx 3 _ rfl
  have g4 := cell_of_heap bx 4 _ rfl
  clear hf hN hC hA hR hC1 bx hB
  go_enter Try.func56, Try.ntmps56
  go_upto_region 2 with fail
  clear hW
  go_cut [4, 5] from 8 to 11 (fun s t wx => NilS t ∧ Below W.heap.size W wx)
  case first =>
    refine wp_region_noPanic ?_
    have hd0 : Below W.heap.size W W.drew := (Below.refl _ _).drew
    have HD0 := Lib.hid hd0
    clear hd0
    go_region_with (first
      | (go_at_call 80; refine (HA.out _ (HC1.out.below (by first | exact HD0.out | exact hbB))).mono ?_; rintro e wA ⟨rfl, hbA'⟩; have hbA : Below W.heap.size W wA := (by first | exact HD0.out.trans hbA' | exact hbB.trans (hbA'.mono hbB.size)); have hxA := (hbA.block _ hBl).trans HBX.out; have h0 := cell_of_heap hxA 0 _ rfl; have h1 := cell_of_heap hxA 1 _ rfl; have h2 := cell_of_heap hxA 2 _ rfl; have h3 := cell_of_heap hxA 3 _ rfl; have h4 := cell_of_heap hxA 4 _ rfl; clear hxA)
      | (go_at_call 81; refine (HR.out _ (HC1.out.below (by first | exact HD0.out | exact hbA))).mono ?_; rintro e wB ⟨rfl, hbB'⟩; have hbB : Below W.heap.size W wB := (by first | exact HD0.out.trans hbB' | exact hbA.trans (hbB'.mono hbA.size)); have hxB := (hbB.block _ hBl).trans HBX.out; have h0 := cell_of_heap hxB 0 _ rfl; have h1 := cell_of_heap hxB 1 _ rfl; have h2 := cell_of_heap hxB 2 _ rfl; have h3 := cell_of_heap hxB 3 _ rfl; have h4 := cell_of_heap hxB 4 _ rfl; clear hxB))
    all_goals
      have HQ : NilS (.slice none 0 0) ∧ Below W.heap.size W _ := ⟨rfl, (by first | exact hbB | exact hbA)⟩
      refine NoPanic.normal ?_
      go_wp2
      go_meet
      exact HQ
  case rest =>
    obtain ⟨rfl, hbc⟩ := hcut
    have HQ := Lib.hid (HB.out.trans (hbc.mono HB.out.size))
    clear hbc
    go_wp2
    refine wp_loop_rounds 1 ?_
    rw [rounds_succ]
    go_wp2
    go_returns
    exact ⟨rfl, HQ.out⟩
def HdA (f : Fn7) (N : Nat) (W : World) (s t : Value) (wx : World) : Prop := ∃ ob rb up O, s = .slice (some ⟨ob, 0, none⟩) N N ∧ W.heap.size ≤ ob ∧ Pre gN 1 3 wx ob (abL N up) ∧ OrdIs f O ∧ UpT (Eg f.code) (fun n => O.idxOf n) up ∧ t = .slice (some ⟨rb, 0, none⟩) N N ∧ W.heap.size ≤ rb ∧ Pre gB 1 4 wx rb (bl N fun p => tb (R0 (Eg f.code) p)) ∧ Below W.heap.size W wx
def IsHd (E : Nat → Nat → Prop) (h : Nat) : Prop := R0 E h ∧ ∃ e, Bk E h e
set_option maxRecDepth 1000000 in
set_option maxHeartbeats 16000000 in
theorem gHeads_yes (f : Fn7) (hf : OkF f) (C : Option Addr) (cap : Nat) (w : World) (hC : RdI w C f.code) :
    Calls Try.prog 56 #[funcAgg f.nm f.ps f.R f.Fr C f.code.length cap] w fun e w' => OwT w.heap.size (upL f.code.length (IsHd (Eg f.code))) e w' ∧ Below w.heap.size w w' := by
  have hB := Below.one w (funcObj f.nm f.ps f.R f.Fr C f.code.length cap)
  have bx := heap_alloc_new w (funcObj f.nm f.ps f.R f.Fr C f.code.length cap)
  have hC1 := hC.below hB
  have hA := fun W h => gAbove_yes f hf C cap W h
  have hR := fun W h => gReached_yes f hf C cap W h
  have hE := fun h A2 c2 rb O up (hU : UpT (Eg f.code) (fun n => List.idxOf n O) up) W h1 h2 h3 => ends_any f hf h C cap A2 c2 rb hU W h1 h2 h3
  have hlt : ∀ p, R0 (Eg f.code) p → p < f.code.length := fun p h => h.ltN hf
  obtain ⟨N, hN⟩ : ∃ N, f.code.length = N := ⟨_, rfl⟩
  have hN2 : N ≤ 8192 := by rw [← hN]; exact hf.len.2
  rw [hN] at hA hR hB bx hC1 hE hlt ⊢
  simp only [funcObj, funcAgg] at hA hR hB bx hC1 hE ⊢
  have HA := Lib.hid hA
  have HR := Lib.hid hR
  have HE := Lib.hid hE
  have HC1 := Lib.hid hC1
  have HLT := Lib.hid hlt
  obtain ⟨W, hW⟩ : ∃ W, w.alloc (.cells #[.string f.nm, .int .i64 f.ps, .int .i64 f.R, .int .i64 f.Fr, .slice C N cap] 26) = W := ⟨_, rfl⟩
  rw [hW] at bx HC1 hB
  have HB := Lib.hid hB
  have HBX := Lib.hid bx
  have hBl := (Array.getElem?_eq_some_iff.1 bx).1
  have g0 := cell_of_heap bx 0 _ rfl
  have g1 := cell_of_heap bx 1 _ rfl
  have g2 := cell_of_heap bx 2 _ rfl
  have g3 := cell_of_heap bx 3 _ rfl
  have g4 := cell_of_heap bx 4 _ rfl
  clear hf hN hC hA hR hE hC1 bx hB hlt
  go_enter Try.func56, Try.ntmps56
  go_upto_region 2 with fail
  clear hW
  go_cut [4, 5] from 8 to 11 (fun s t wx => HdA f N W s t wx)
  case first =>
    refine wp_region_noPanic ?_
    have hd0 : Below W.heap.size W W.drew := (Below.refl _ _).drew
    have HD0 := Lib.hid hd0
    clear hd0
    go_region_with (first
      | (go_at_call 80; refine (HA.out _ (HC1.out.below (by first | exact HD0.out | exact hbB))).mono ?_; rintro e wA ⟨⟨ob, up, O, rfl, hob, hpo, hOI, hU⟩, hbA'⟩; have hbA : Below W.heap.size W wA := (by first | exact HD0.out.trans hbA' | exact hbB.trans (hbA'.mono hbB.size)); have hxA := (hbA.block _ hBl).trans HBX.out; have h0 := cell_of_heap hxA 0 _ rfl; have h1 := cell_of_heap hxA 1 _ rfl; have h2 := cell_of_heap hxA 2 _ rfl; have h3 := cell_of_heap hxA 3 _ rfl; have h4 := cell_of_heap hxA 4 _ rfl; have HPO := Lib.hid hpo; have HOI := Lib.hid hOI; have HUU := Lib.hid hU; have HOB1 : Hid (W.heap.size ≤ ob) := Lib.hid (by first | exact Nat.le_trans hbB.size hob | exact Nat.le_trans HD0.out.size hob); clear hxA hpo hOI hU hob)
      | (go_at_call 81; refine (HR.out _ (HC1.out.below (by first | exact HD0.out | exact hbA))).mono ?_; rintro e wB ⟨⟨rb, rfl, hrb, hpr⟩, hbB'⟩; have hbB : Below W.heap.size W wB := (by first | exact HD0.out.trans hbB' | exact hbA.trans (hbB'.mono hbA.size)); have hxB := (hbB.block _ hBl).trans HBX.out; have h0 := cell_of_heap hxB 0 _ rfl; have h1 := cell_of_heap hxB 1 _ rfl; have h2 := cell_of_heap hxB 2 _ rfl; have h3 := cell_of_heap hxB 3 _ rfl; have h4 := cell_of_heap hxB 4 _ rfl; have HPR := Lib.hid hpr; have HRB1 : Hid (W.heap.size ≤ rb) := Lib.hid (by first | exact Nat.le_trans hbA.size hrb | exact Nat.le_trans HD0.out.size hrb); clear hxB hpr hrb))
    all_goals
      have HQ : HdA f N W (.slice (some ⟨ob, 0, none⟩) N N) (.slice (some ⟨rb, 0, none⟩) N N) _ := ⟨ob, rb, up, O, rfl, (by first | exact HOB1.out | exact HOB2.out), (by first | exact Pre.later HPO.out hbB' | exact HPO.out), HOI.out, HUU.out, rfl, (by first | exact HRB1.out | exact HRB2.out), (by first | exact Pre.later HPR.out hbA' | exact HPR.out), (by first | exact hbB | exact hbA)⟩
      refine NoPanic.normal ?_
      go_wp2
      go_meet
      exact HQ
  case rest =>
    obtain ⟨ob, rb, up, O, rfl, hob, hpo, hOI, hU, rfl, hrb, hpr, hbc⟩ := hcut
    have hxc := (hbc.block _ hBl).trans HBX.out
    have hlc := (Array.getElem?_eq_some_iff.1 hxc).1
    have HXC := Lib.hid hxc
    have HBC := Lib.hid hbc
    have HPO := Lib.hid hpo
    have HPR := Lib.hid hpr
    have HUU := Lib.hid hU
    have hWc := hbc.size
    clear hxc hbc hpo hOI hU hpr hob hrb g0 g1 g2 g3 g4
    go_wp2
    go_loopw [3, 14] (fun V ix wr => ∃ k : Nat, k ≤ N ∧ ix = .int .i64 k ∧ OwnN wr V (upL k (IsHd (Eg f.code))) ∧ (∀ x, V.ownBlock = some x → wc.heap.size ≤ x) ∧ Below wc.heap.size wc wr) (fun _ ix _ => N - (intOf ix).toNat)
    case atStart => exact ⟨0, by omega, rfl, OwnN.nil _, (fun x hx => by simp [Value.ownBlock] at hx), Below.refl _ _⟩
    case round =>
      obtain ⟨k, hk, rfl, hown, hV, hb⟩ := hrel
      have HOWN := Lib.hid hown
      have HV := Lib.hid hV
      have HBB := Lib.hid hb
      by_cases hlt : k < N
      · have hcr := PreB.cell (Pre.later HPR.out hb) (bl_get (m := fun p => tb (R0 (Eg f.code) p)) hlt)
        have hki : (k : Int) < N := by omega
        have hsz := hb.size
        have hll := upL_len k (IsHd (Eg f.code))
        have HLL := Lib.hid hll
        have HSK : Hid (¬ IsHd (Eg f.code) k → ∀ w6, Below wr.heap.size wr w6 → ∃ k' : Nat, k' ≤ N ∧ Value.int IntKind.i64 ((k : Int) + 1) = .int .i64 k' ∧ OwnN w6 u3 (upL k' (IsHd (Eg f.code))) ∧ (∀ x, u3.ownBlock = some x → wc.heap.size ≤ x) ∧ Below wc.heap.size wc w6) := Lib.hid fun hno w6 h6 => ⟨k + 1, by omega, by go_num, by
          rw [upL_skip k _ hno]
          exact HOWN.out.later h6, HV.out, HBB.out.trans (h6.mono hsz)⟩
        by_cases hr : R0 (Eg f.code) k
        · rw [tb_true.2 hr] at hcr
          have HRR := Lib.hid hr
          have hx3 := (hb.block _ hlc).trans HXC.out
          have h0 := cell_of_heap hx3 0 _ rfl
          have h1 := cell_of_heap hx3 1 _ rfl
          have h2 := cell_of_heap hx3 2 _ rfl
          have h3 := cell_of_heap hx3 3 _ rfl
          have h4 := cell_of_heap hx3 4 _ rfl
          have hl3 := (Array.getElem?_eq_some_iff.1 hx3).1
          have HEK := Lib.hid (HE.out k (some ⟨ob, 0, none⟩) N rb O up HUU.out wr ((HC1.out.below HBC.out).below hb) ((PreN.rd HPO.out).below hb) (Pre.later HPR.out hb))
          obtain ⟨L, hL⟩ : ∃ L, upL N (Bk (Eg f.code) k) = L := ⟨_, rfl⟩
          rw [hL] at HEK
          have HLI : Hid (∀ x, x ∈ L ↔ ∃ n : Nat, x = n ∧ n < N ∧ Bk (Eg f.code) k n) := Lib.hid fun x => by rw [← hL]; exact upL_mem
          clear hown hV hb hr hll hx3 hL
          by_cases hLe : L.length = 0
          · have HNO : Hid (¬ IsHd (Eg f.code) k) := Lib.hid fun ⟨_, e, he⟩ => by
              have := (HLI.out (e : Int)).2 ⟨e, rfl, HLT.out e he.1, he⟩
              rw [List.eq_nil_of_length_eq_zero hLe] at this
              cases this
            obtain rfl := List.eq_nil_of_length_eq_zero hLe
            clear hLe
            go_wp2_with (first
              | (refine HEK.out.mono ?_; rintro e w6 ⟨⟨V6, rfl, ho6, hv6⟩, hb6⟩; obtain ⟨A6, c6, e6, _, _⟩ := ho6.form; subst e6; simp only [List.length_nil]))
            exact ⟨HSK.out HNO.out _ hb6, by simp [intOf]; omega⟩
          · have HYES : Hid (IsHd (Eg f.code) k) := Lib.hid (by
              obtain ⟨x, hx⟩ := List.exists_mem_of_ne_nil L (fun e => hLe (by rw [e]; rfl))
              obtain ⟨n, _, _, hn⟩ := (HLI.out x).1 hx
              exact ⟨HRR.out, n, hn⟩)
            obtain ⟨m, hm⟩ : ∃ m, L.length = m := ⟨_, rfl⟩
            have hm0 : (0 : Int) < (m : Int) := by omega
            have HM := Lib.hid hm
            clear hLe hm
            go_wp2_with (first
              | (refine HEK.out.mono ?_; rintro e w6 ⟨⟨V6, rfl, ho6, hv6⟩, hb6⟩; obtain ⟨A6, c6, e6, _, _⟩ := ho6.form; rw [HM.out] at e6; subst e6; have HW6 := Lib.hid hb6; clear ho6 hv6)
              | (at_builtin; refine append_one rfl (.tmp 29) (.tmp 31) rfl u3 (upL k (IsHd (Eg f.code))) rfl ((HOWN.out.later HW6.out).alloc _) w6.heap.size k rfl (heap_alloc_new _ _) (by have := HLL.out; omega) ?_; intro V' w9 ho9 hg9 hb9))
            have hs6 := HW6.out.size
            refine ⟨⟨k + 1, by omega, by go_num, ?_, fun x hx => ?_, ?_⟩, by simp [intOf]; omega⟩
            · rw [upL_next k _ HYES.out]
              exact ho9
            · rcases hb9 with e | e
              · rw [e] at hx; exact HV.out x hx
              · rw [e] at hx; injection hx with hx; simp at hx; omega
            · exact Below.grown ((HBB.out.trans (HW6.out.mono hsz)).alloc (by omega) _) hg9 (by simp; omega) (fun x hx => HV.out x hx)
        · rw [tb_false.2 hr] at hcr
          have HRR := Lib.hid hr
          clear hown hV hb hr hll
          go_wp2
          exact ⟨HSK.out (fun g => HRR.out g.1) _ (Below.refl _ _), by simp [intOf]; omega⟩
      · obtain rfl : k = N := by omega
        have hws : w.heap.size ≤ wc.heap.size := Nat.le_trans HB.out.size hWc
        have HQ : Hid (OwT w.heap.size (upL k (IsHd (Eg f.code))) (.returned u3) wr ∧ Below w.heap.size w wr) := Lib.hid ⟨⟨u3, rfl, hown, fun b e => Nat.le_trans hws (hV b e)⟩, HB.out.trans ((HBC.out.mono HB.out.size).trans (hb.mono hws))⟩
        clear hown hV hb
        go_wp2
        go_returns
        exact HQ.out
open Go.RowKit Go.BigFrame

theorem add_at (g o k : Nat) : (⟨g, o, none⟩ : Addr).add k = ⟨g, o + k, none⟩ := by
  unfold Addr.add
  split <;> simp_all
def OwnQ (w : World) (V : Value) (l : List Int) : Prop := ∃ A c, V = .slice A l.length c ∧ ((A = none ∧ l = [] ∧ c = 0) ∨ ∃ g o cur, A = some ⟨g, o, none⟩ ∧ w.heap[g]? = some (.cells cur 3 (0, 0)) ∧ o + c ≤ cur.size ∧ l.length ≤ c ∧ c ≤ maxLen ∧ ∀ (j : Nat) x, l[j]? = some x → cur[o + j]? = some (.int .i64 x))
theorem OwnQ.of {w : World} {V : Value} {l : List Int} (h : OwnN w V l) : OwnQ w V l := by
  have h0 := h
  obtain ⟨h1, h2⟩ := h
  rcases h2 with ⟨rfl, hn⟩ | ⟨g, cap, cur, rfl, hB, hg, hnc, hcm, hsz, htake⟩
  · have hl : l = [] := List.eq_nil_of_length_eq_zero hn
    subst hl
    exact ⟨none, 0, rfl, Or.inl ⟨rfl, rfl, rfl⟩⟩
  · refine ⟨_, cap, rfl, Or.inr ⟨g, 0, cur, rfl, hg, by omega, hnc, hcm, fun j x hj => ?_⟩⟩
    have hjl := (List.getElem?_eq_some_iff.1 hj).1
    have hc := World.ownsRow.cellAt h0 j (by omega)
    rw [List.getElem?_map, hj, cell_of_row w g j cur _ _ hg] at hc
    rw [Nat.zero_add]
    exact hc
theorem OwnQ.keepS {w w' : World} {V : Value} {l : List Int} (h : OwnQ w V l) (hk : ∀ b, V.ownBlock = some b → w'.heap[b]? = w.heap[b]?) : OwnQ w' V l := by
  obtain ⟨A, c, e, h⟩ := h
  refine ⟨A, c, e, ?_⟩
  rcases h with h | ⟨g, o, cur, e2, h1, h2⟩
  · exact Or.inl h
  · exact Or.inr ⟨g, o, cur, e2, by rw [hk g (by rw [e, e2]; rfl)]; exact h1, h2⟩
theorem OwnQ.lt {w : World} {V : Value} {l : List Int} (h : OwnQ w V l) : ∀ b, V.ownBlock = some b → b < w.heap.size := fun b hb => by
  obtain ⟨A, c, e, h⟩ := h
  rcases h with ⟨h, _⟩ | ⟨g, o, cur, e2, h1, h2⟩
  · rw [e, h] at hb; cases hb
  · rw [e, e2] at hb
    injection hb with hb
    subst hb
    exact (Array.getElem?_eq_some_iff.1 h1).1
theorem OwnQ.head {w : World} {V : Value} {x : Int} {l : List Int} (h : OwnQ w V (x::l)) : ∃ g o c, V = .slice (some ⟨g, o, none⟩) (l.length + 1) c ∧ l.length + 1 ≤ c ∧ g < w.heap.size ∧ w.cell? ⟨g, o, none⟩ = some (.int .i64 x) ∧ OwnQ w (.slice (if c = 1 then some ⟨g, o, none⟩ else some ⟨g, o + 1, none⟩) l.length (c - 1)) l := by
  obtain ⟨A, c, e, h⟩ := h
  rcases h with ⟨_, h, _⟩ | ⟨g, o, cur, e2, h1, h2, h3, h4, h5⟩
  · cases h
  · subst e2
    refine ⟨g, o, c, e, h3, (Array.getElem?_eq_some_iff.1 h1).1, ?_, _, _, rfl, Or.inr ?_⟩
    · rw [cell_of_row w g o cur _ _ h1]
      have := h5 0 x rfl
      rwa [Nat.add_zero] at this
    · have h3' : l.length + 1 ≤ c := h3
      by_cases hc : c = 1
      · subst hc
        obtain rfl : l = [] := List.eq_nil_of_length_eq_zero (by omega)
        exact ⟨g, o, cur, by rw [if_pos rfl], h1, by omega, by simp, by omega, fun j y hj => by simp at hj⟩
      · refine ⟨g, o + 1, cur, by rw [if_neg hc], h1, by omega, by omega, by omega, fun j y hj => ?_⟩
        rw [show o + 1 + j = o + (j + 1) by omega]
        exact h5 (j + 1) y (by simpa using hj)
theorem run_append_room_at (w : World) (ty : TypeId) (g o sLen sCap : Nat) (cur : Array Value) (hg : w.heap[g]? = some (.cells cur 3 (0, 0)))
    (a : Addr) (m c : Nat) (news : List Value) (hl : news.length = m) (hnews : ∀ j u, news[j]? = some u → w.cell? (a.add j) = some u) (h1 : ∀ u ∈ news, u.oneCell' = true)
    (hroom : sLen + m ≤ sCap) (hfit : o + sLen + news.length ≤ cur.size) :
    (Builtin.append_ #[45, 45] ty #[.slice (some ⟨g, o, none⟩) sLen sCap, .slice (some a) m c]).run Try.prog w =
      .ok (.slice (some ⟨g, o, none⟩) (sLen + m) sCap) (w.setRow g (cur.toList.take (o + sLen) ++ news ++ cur.toList.drop (o + sLen + news.length)).toArray) := by
  obtain ⟨i0, hi, hz0, hz1, hz2⟩ := info_parts info_n
  have ht : Try.prog.underlying 45 = some (.slice 3) := by kernel_rfl
  have hf := run_firstCells_some (P := Try.prog) w i0.size m a m c news (by rw [hz1, hl, Nat.mul_one]) hnews
  have hst := run_storeCells_at Try.prog g (o + sLen) 3 news 0 cur w hg (by simpa using hfit) h1
  simp only [Nat.add_zero, List.append_assoc] at hst
  rw [hz1] at hf
  simp [Builtin.append_, run_underlying ht, sizeOf, typeInfo, hi, Builtin.lenOf, hroom, hf, hz1, add_at, hst]
set_option maxRecDepth 1000000 in
theorem run_append_q (w : World) (ty : TypeId) (V : Value) (k : List Int) (hown : OwnQ w V k) (A : Option Addr) (l : List Int) (cap : Nat) (hR : RdN w A l) (hl : 0 < l.length) (hl2 : l.length ≤ 90000) (hn : k.length + l.length ≤ 90000000) :
    ∃ V' w', (Builtin.append_ #[45, 45] ty #[V, .slice A l.length cap]).run Try.prog w = .ok V' w' ∧ OwnQ w' V' (k ++ l) ∧ w.grownBy w' V.ownBlock ∧ (V'.ownBlock = V.ownBlock ∨ V'.ownBlock = some w.heap.size) := by
  obtain ⟨i0, hi, hz0, hz1, hz2⟩ := info_parts info_n
  have ht : Try.prog.underlying 45 = some (.slice 3) := by kernel_rfl
  obtain ⟨b, o0, rfl, hlt, _⟩ := hR 0 (l[0]'hl) (by simp)
  have hnews : ∀ j u, (l.map (Value.int .i64))[j]? = some u → w.cell? ((⟨b, o0, none⟩ : Addr).add j) = some u := fun j u hu => by
    rw [List.getElem?_map] at hu
    cases hj : l[j]? with
    | none => rw [hj] at hu; cases hu
    | some n =>
      rw [hj] at hu
      have hu := Option.some.inj hu
      subst hu
      rw [add_at]
      obtain ⟨b', o', e1, _, c0⟩ := hR j n hj
      injection e1 with e1
      injection e1 with e1 e2
      subst e1 e2
      exact c0
  have hone : ∀ u ∈ l.map (Value.int .i64), u.oneCell' = true := fun u hu => by
    obtain ⟨n, _, rfl⟩ := List.mem_map.1 hu
    rfl
  obtain ⟨A, c, rfl, hcase⟩ := hown
  rcases hcase with ⟨rfl, rfl, rfl⟩ | ⟨g, o, cur, rfl, hg, hoc, hkc, hcm, hcl⟩
  · obtain ⟨V', w', hr, h1, h2, h3⟩ := run_append_n w ty (.slice none 0 0) [] (OwnN.nil w) (some ⟨b, o0, none⟩) l cap hR hl (by simp; omega)
    exact ⟨V', w', hr, OwnQ.of h1, h2, h3⟩
  · by_cases hroom : k.length + l.length ≤ c
    · have hr := run_append_room_at w ty g o k.length c cur hg ⟨b, o0, none⟩ l.length cap (l.map (Value.int .i64)) (by simp) hnews hone hroom (by simp; omega)
      refine ⟨_, _, hr, ⟨_, c, by rw [List.length_append], Or.inr ⟨g, o, _, rfl, setRow_heap w g cur _ 3 _ hg, ?_, by rw [List.length_append]; exact hroom, hcm, fun j x hj => ?_⟩⟩, ⟨rfl, rfl, rfl, by simp, fun k' _ hk' => setRow_other w g k' _ (fun e => hk' (by simp [Value.ownBlock, e]))⟩, Or.inl rfl⟩
      · simp only [List.size_toArray, List.length_append, List.length_take, List.length_drop, Array.length_toList, List.length_map]
        omega
      · rw [List.getElem?_toArray]
        by_cases hjk : j < k.length
        · rw [List.getElem?_append_left hjk] at hj
          rw [List.append_assoc, List.getElem?_append_left (by simp; omega), List.getElem?_take_of_lt (by omega)]
          have := hcl j x hj
          simpa using this
        · rw [List.getElem?_append_right (by omega)] at hj
          have hjl := (List.getElem?_eq_some_iff.1 hj).1
          rw [List.append_assoc, List.getElem?_append_right (by simp; omega), List.getElem?_append_left (by simp; omega), List.getElem?_map]
          have e : o + j - (cur.toList.take (o + k.length)).length = j - k.length := by simp; omega
          rw [e, hj]
          rfl
    · have holds : ∀ j u, (k.map (Value.int .i64))[j]? = some u → w.cell? ((⟨g, o, none⟩ : Addr).add j) = some u := fun j u hu => by
        rw [List.getElem?_map] at hu
        cases hj : k[j]? with
        | none => rw [hj] at hu; cases hu
        | some n =>
          rw [hj] at hu
          have hu := Option.some.inj hu
          subst hu
          rw [add_at, cell_of_row w g (o + j) cur _ _ hg]
          exact hcl j n hj
      have hr := run_append_grow (P := Try.prog) w 45 ty 3 i0 (.int .i64 0) ht hi hz0 ⟨g, o, none⟩ k.length c (k.map (Value.int .i64)) (by rw [hz1]; simp) holds ⟨b, o0, none⟩ l.length cap (l.map (Value.int .i64)) (by rw [hz1]; simp) hnews (by omega) (by omega) (growslice_fits (by omega) (by rw [hz2]; omega))
      have hge := grownCap_ge w (k.length + l.length) c 3
      refine ⟨_, _, hr, ⟨_, _, by rw [List.length_append], Or.inr ⟨w.heap.size, 0, _, rfl, heap_alloc_new w.drew _, ?_, by rw [List.length_append]; exact hge, grownCap_le_maxLen w _ c 3 (by simp only [maxLen]; omega), fun j x hj => ?_⟩⟩, ⟨rfl, rfl, rfl, by simp, fun k' hk' _ => heap_alloc_old w.drew _ hk'⟩, Or.inr rfl⟩
      · simp [size_zeroCells, Value.cells]
        omega
      · rw [Nat.zero_add, Array.getElem?_append_left (by simp; have := (List.getElem?_eq_some_iff.1 hj).1; simp at this; omega)]
        rw [List.append_toArray, List.getElem?_toArray, ← List.map_append, List.getElem?_map, hj]
        rfl
end Go.Proofs.Ythbcdckonaljiaa
