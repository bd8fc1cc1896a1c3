import Derived.Test.YtaofdbboalcceaaVp
/- the document's live Behind; same; few; awake. -/
namespace Go.Proofs.Ytaofdbboalcceaa
open Go.RowKit Go.BigFrame

set_option maxRecDepth 1000000 in
set_option maxHeartbeats 16000000 in
theorem refBehind_any (f : Fn7) (hf : OkF f) (a : Nat) (ha : a < f.code.length) (r : Int) (C : Option Addr) (cap : Nat) (w : World) (hC : RdI w C f.code) :
    Calls Try.prog 37 #[funcAgg f.nm f.ps f.R f.Fr C f.code.length cap, .int .i64 a, .int .i64 r] w fun e w' => e = .returned (.bool (tb (Bh f.code a r))) ∧ Below w.heap.size w w' := by
  obtain ⟨N, hN⟩ : ∃ N, f.code.length = N := ⟨_, rfl⟩
  have hN2 : N ≤ 8192 := by rw [← hN]; exact hf.len.2
  have hB := Below.one w (funcObj f.nm f.ps f.R f.Fr C f.code.length cap)
  have bx := heap_alloc_new w (funcObj f.nm f.ps f.R f.Fr C f.code.length cap)
  have hC1 := hC.below hB
  obtain ⟨i, hi⟩ : ∃ i, f.code[a]? = some i := ⟨_, List.getElem?_eq_getElem ha⟩
  have hRA := fun (m : Nat) (hm : m < f.code.length) W h => refAhead_any f hf m hm r C cap W h
  have hnxt := hf.next hi
  rw [hN] at hB bx hC1 ha hRA hnxt ⊢
  simp only [funcObj, funcAgg] at hB bx hC1 hRA ⊢
  obtain ⟨bb, oo, rfl, hbl, hcs⟩ := hC a i hi
  obtain ⟨x0, x1, x2, x3, x4, x5, x6, x7, x8, x9, x10, x11, x12, x13, x14⟩ := RdI.load hcs
  have hna := fun W => refNext_any i a (by omega) W
  have hnl := Ins.next_len i a
  have hBH : (Bh f.code a r) ↔ ∃ n ∈ i.next a, Lv f.code n.toNat r := ⟨fun ⟨i', h1, h2⟩ => by
    rw [hi] at h1
    injection h1 with h1
    subst h1
    exact h2, fun h => ⟨i, hi, h⟩⟩
  obtain ⟨nx, hnx⟩ : ∃ nx, i.next a = nx := ⟨_, rfl⟩
  rw [hnx] at hna hnl hnxt hBH
  obtain ⟨Ln, hLn⟩ : ∃ Ln, nx.length = Ln := ⟨_, rfl⟩
  have hLn3 : Ln ≤ 2 := by omega
  have hNA : ∀ W, Calls Try.prog 27 #[i.agg, .int .i64 a] W fun e w' => (∃ A c, e = .returned (.slice A Ln c) ∧ RdN w' A nx) ∧ Below W.heap.size W w' := fun W => (hna W).mono fun e w' ⟨⟨A, c, h1, h2⟩, h3⟩ => ⟨⟨A, c, by rw [h1, hLn], h2⟩, h3⟩
  obtain ⟨kk, op, dst, a', b', n, text, r0, r1, r2, r3, r4, r5, to_, els⟩ := i
  simp only [Ins.agg] at x0 x1 x2 x3 x4 x5 x6 x7 x8 x9 x10 x11 x12 x13 x14 hNA
  obtain ⟨z, hz⟩ : ∃ z, tb (Bh f.code a r) = z := ⟨_, rfl⟩
  rw [hz]
  have HZ := Lib.hid hz
  have HNA := Lib.hid hNA
  have HLN := Lib.hid hLn
  have HNX := Lib.hid hnxt
  have HBH := Lib.hid hBH
  have HRA := Lib.hid hRA
  have HC1 := Lib.hid hC1
  have HBX := Lib.hid bx
  have HB := Lib.hid hB
  have hBl := (Array.getElem?_eq_some_iff.1 bx).1
  clear hf hN hC hB hC1 hRA bx hz hNA hLn hnxt hBH hna hnx hi hcs
  go_enter Try.func37, Try.ntmps37
  go_wp2_with (first
    | (refine (HNA.out _).mono ?_; rintro e w3 ⟨⟨A, c3, rfl, hrd⟩, hb3⟩; have HRD := Lib.hid hrd; clear hrd))
  have HB3 := Lib.hid hb3
  clear hb3 x0 x1 x2 x3 x4 x5 x6 x7 x8 x9 x10 x11 x12 x13 x14
  go_loopw [8] (fun ix wr => ∃ k : Nat, k ≤ Ln ∧ ix = .int .i64 k ∧ Below w3.heap.size w3 wr ∧ ∀ (j : Nat) m, j < k → nx[j]? = some m → ¬ Lv f.code m.toNat r) (fun ix _ => Ln - (intOf ix).toNat)
  case atStart => exact ⟨0, by omega, rfl, Below.refl _ _, fun j m hj => by omega⟩
  case round =>
    obtain ⟨k, hk, rfl, hb, hno⟩ := hrel
    have HNO := Lib.hid hno
    clear hno
    have hsz : w.heap.size ≤ w3.heap.size := Nat.le_trans HB.out.size HB3.out.size
    by_cases hlt : k < Ln
    · obtain ⟨mm, hm⟩ : ∃ m, nx[k]? = some m := ⟨_, List.getElem?_eq_getElem (by rw [HLN.out]; exact hlt)⟩
      have hmb := HNX.out mm (List.mem_of_getElem? hm)
      obtain ⟨m, rfl⟩ : ∃ m : Nat, mm = (m : Int) := ⟨mm.toNat, by omega⟩
      have hmN : m < N := by have := hmb.2; rwa [Int.toNat_natCast] at this
      obtain ⟨b, o, rfl, hbl2, hc⟩ := (HRD.out.below hb) k _ hm
      have hx4 : wr.heap[w.heap.size]? = _ := (hb.block _ (Nat.lt_of_lt_of_le hBl HB3.out.size)).trans ((HB3.out.block _ hBl).trans HBX.out)
      have g0 := cell_of_heap hx4 0 _ rfl
      have g1 := cell_of_heap hx4 1 _ rfl
      have g2 := cell_of_heap hx4 2 _ rfl
      have g3 := cell_of_heap hx4 3 _ rfl
      have g4 := cell_of_heap hx4 4 _ rfl
      have hra := fun W h => HRA.out m hmN W h
      obtain ⟨y, hy⟩ : ∃ y, tb (Lv f.code m r) = y := ⟨_, rfl⟩
      rw [hy] at hra
      have HRM := Lib.hid hra
      have HY := Lib.hid hy
      have HM := Lib.hid hm
      have HBB := Lib.hid hb
      have hcw := HC1.out
      have hrdc : RdI wr (some ⟨bb, oo, none⟩) f.code := (HC1.out.below HB3.out).below hb
      have HRC := Lib.hid hrdc
      have l0 := fun s : Later wr => Later.cell g0 s
      have l1 := fun s : Later wr => Later.cell g1 s
      have l2 := fun s : Later wr => Later.cell g2 s
      have l3 := fun s : Later wr => Later.cell g3 s
      have l4 := fun s : Later wr => Later.cell g4 s
      have lc := fun s : Later wr => Later.cell hc s
      clear hra hy hm hb hcw hrdc hx4 hmb
      go_wp2
      refine wp_region_later (by kernel_rfl) (by kernel_rfl) ?_
      repeat (go_big_quiet_step ((go_at_call 41; exact Calls.later (HRM.out _ (HRC.out.below (Later.h _))))))
      refine wpQuiet_nil ?_
      rintro w4 ⟨s', rfl⟩
      have hb4 := HBB.out.trans (s'.h.mono HBB.out.size)
      clear l0 l1 l2 l3 l4 lc g0 g1 g2 g3 g4 hc
      generalize s'.w = w4 at *
      cases y with
      | true =>
        have HZT : Hid (z = true) := Lib.hid (by
          rw [← HZ.out, tb_true]
          exact HBH.out.2 ⟨m, List.mem_of_getElem? HM.out, by rw [Int.toNat_natCast]; exact tb_true.1 HY.out⟩)
        go_wp2
        go_returns
        exact ⟨by rw [HZT.out]; rfl, HB.out.trans ((HB3.out.trans (hb4.mono HB3.out.size)).mono HB.out.size)⟩
      | false =>
        go_wp2
        exact ⟨⟨k + 1, by omega, by go_num, hb4, fun j m' hj hm' => by
          by_cases hjk : j = k
          · subst hjk
            rw [HM.out] at hm'
            injection hm' with hm'
            subst hm'
            rw [Int.toNat_natCast]
            exact tb_false.1 HY.out
          · exact HNO.out j m' (by omega) hm'⟩, by simp [intOf]; omega⟩
    · obtain rfl : k = Ln := by omega
      have HZF : Hid (z = false) := Lib.hid (by
        rw [← HZ.out, tb_false]
        intro h
        obtain ⟨n', h1, h2⟩ := HBH.out.1 h
        obtain ⟨j, hj⟩ := List.mem_iff_getElem?.1 h1
        exact HNO.out j n' (by have := (List.getElem?_eq_some_iff.1 hj).1; rw [HLN.out] at this; exact this) hj h2)
      have HBB := Lib.hid hb
      clear hb
      go_wp2
      go_returns
      exact ⟨by rw [HZF.out]; rfl, HB.out.trans ((HB3.out.trans (HBB.out.mono HB3.out.size)).mono HB.out.size)⟩
end Go.Proofs.Ytaofdbboalcceaa
