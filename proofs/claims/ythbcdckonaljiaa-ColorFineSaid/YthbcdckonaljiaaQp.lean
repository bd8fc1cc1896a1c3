import Derived.Test.YthbcdckonaljiaaQn
import Derived.Test.YthbcdckonaljiaaQo
namespace Go.Proofs.Ythbcdckonaljiaa
open Go.RowKit Go.BigFrame

def RcT (f : Fn7) (N base : Nat) (e : Ending) (w : World) : Prop := ∃ ob, e = .returned (.slice (some ⟨ob, 0, none⟩) N N) ∧ base ≤ ob ∧ Pre gB 1 4 w ob (bl N fun p => tb (R0 (Eg f.code) p))
theorem gReached_no (f : Fn7) (hf : ¬ OkF f) (C : Option Addr) (cap : Nat) (w : World) (hC : RdI w C f.code) :
    Calls Try.prog 81 #[funcAgg f.nm f.ps f.R f.Fr C f.code.length cap] w fun e w' => e = .returned (.slice none 0 0) ∧ Below w.heap.size w w' := by
  have hB := Below.one w (funcObj f.nm f.ps f.R f.Fr C f.code.length cap)
  have hR := Lib.hid (RightFunc_no f hf C cap _ (hC.below hB))
  simp only [funcObj, funcAgg] at hB hR ⊢
  clear hf hC
  go_enter Try.func81, Try.ntmps81
  go_wp2_with (first
    | (refine hR.out.mono ?_; rintro e w3 ⟨rfl, hb3⟩))
  go_returns
  exact ⟨rfl, hB.trans (hb3.mono hB.size)⟩
theorem bl_take {n k : Nat} {O : List Nat} (h : O[k]? = some n) : setM (fun p => decide (p ∈ O.take k)) n = fun p => decide (p ∈ O.take (k + 1)) := by
  funext p
  unfold setM
  rw [take_next h, Bool.eq_iff_iff]
  simp only [Bool.or_eq_true, decide_eq_true_eq, List.mem_append, List.mem_singleton]
  exact Or.comm
set_option maxRecDepth 1000000 in
set_option maxHeartbeats 16000000 in
theorem gReached_yes (f : Fn7) (hf : OkF f) (C : Option Addr) (cap : Nat) (w : World) (hC : RdI w C f.code) :
    Calls Try.prog 81 #[funcAgg f.nm f.ps f.R f.Fr C f.code.length cap] w fun e w' => RcT f f.code.length w.heap.size e w' ∧ Below w.heap.size w w' := by
  obtain ⟨N, hN⟩ : ∃ N, f.code.length = N := ⟨_, rfl⟩
  have hN2 : N ≤ 8192 := by rw [← hN]; exact hf.len.2
  have hB := Below.one w (funcObj f.nm f.ps f.R f.Fr C f.code.length cap)
  have bx := heap_alloc_new w (funcObj f.nm f.ps f.R f.Fr C f.code.length cap)
  have hC1 := hC.below hB
  have hR := RightFunc_yes f hf C cap _ hC1
  have hO := fun W h => gOrder_yes f hf C cap W h
  rw [hN] at hR hO hB bx hC1 ⊢
  simp only [funcObj, funcAgg] at hR hO hB bx hC1 ⊢
  have HR := Lib.hid hR
  have HO := Lib.hid hO
  have HF := Lib.hid hf
  have HN := Lib.hid hN
  have HC1 := Lib.hid hC1
  have HB := Lib.hid hB
  obtain ⟨W, hW⟩ : ∃ W, w.alloc (.cells #[.string f.nm, .int .i64 f.ps, .int .i64 f.R, .int .i64 f.Fr, .slice C N cap] 26) = W := ⟨_, rfl⟩
  rw [hW] at bx HR HC1 HB
  have HBX := Lib.hid bx
  have hBl := (Array.getElem?_eq_some_iff.1 bx).1
  have hmk := fun W => make_bools N (by omega) W
  have g0 := cell_of_heap bx 0 _ rfl
  have g1 := cell_of_heap bx 1 _ rfl
  have g2 := cell_of_heap bx 2 _ rfl
  have g3 := cell_of_heap bx 3 _ rfl
  have g4 := cell_of_heap bx 4 _ rfl
  clear hf hN hC hB hR hO hC1 bx
  go_enter Try.func81, Try.ntmps81
  go_wp2_with (first
    | (refine HR.out.mono ?_; rintro e w3 ⟨rfl, hb3⟩; have hx3 := (hb3.block _ hBl).trans HBX.out; have h0 := cell_of_heap hx3 0 _ rfl; have h1 := cell_of_heap hx3 1 _ rfl; have h2 := cell_of_heap hx3 2 _ rfl; have h3 := cell_of_heap hx3 3 _ rfl; have h4 := cell_of_heap hx3 4 _ rfl; have hl3 := (Array.getElem?_eq_some_iff.1 hx3).1; have HB3 := Lib.hid hb3; clear hx3 hb3)
    | (refine (HO.out _ ((HC1.out.below HB3.out).below (Below.one _ _))).mono ?_; rintro e w5 ⟨⟨O, A, c, hO1, rfl, hrd, _, hfr⟩, hb5⟩))
  have HB5 := Lib.hid hb5
  have HO1 := Lib.hid (hO1.ordL HF.out)
  have HRD := Lib.hid hrd
  obtain ⟨n, hn⟩ : ∃ n, O.length = n := ⟨_, rfl⟩
  have HNL := Lib.hid hn
  have hnN : n ≤ N := by rw [← hn, ← HN.out]; exact nodup_leN _ O HO1.out.nd HO1.out.lt
  have hws : w.heap.size ≤ w3.heap.size := Nat.le_trans HB.out.size HB3.out.size
  have hob : w3.heap.size < w5.heap.size := by have := hb5.size; simp only [World.size_alloc] at this; omega
  have H0 := Lib.hid (show Pre gB 1 4 w5 w3.heap.size (bl N fun p => decide (p ∈ O.take 0)) from by
    have hpm := made_pre (g := gB) (d := 1) (t := 4) w3 #[.bool false] N false rfl (fun k hk => by
      obtain rfl : k = 0 := by omega
      rfl)
    rw [Nat.mul_one, show List.replicate N false = bl N (fun p => decide (p ∈ O.take 0)) by
      apply List.ext_getElem?
      intro j
      by_cases hj : j < N
      · rw [bl_get hj]; simp [hj]
      · rw [List.getElem?_eq_none (by simp; omega), List.getElem?_eq_none (by simp [bl]; omega)]] at hpm
    exact Pre.later hpm hb5)
  have hb35 : Below w3.heap.size w3 w5 := (Below.one w3 _).trans (hb5.mono (by simp))
  have HB35 := Lib.hid hb35
  rw [hn]
  clear hb5 hb35 hO1 hrd hn hW hmk h0 h1 h2 h3 h4 g0 g1 g2 g3 g4
  go_loopw [16] (fun ix wr => ∃ k : Nat, k ≤ n ∧ ix = .int .i64 k ∧ Pre gB 1 4 wr w3.heap.size (bl N fun p => decide (p ∈ O.take k)) ∧ Below w3.heap.size w3 wr ∧ RdN wr A (O.map fun n : Nat => (n : Int))) (fun ix _ => n - (intOf ix).toNat)
  case atStart => exact ⟨0, by omega, rfl, H0.out, HB35.out, HRD.out⟩
  case round =>
    obtain ⟨k, hk, rfl, hp, hb, hr⟩ := hrel
    clear H0
    by_cases hlt : k < n
    · obtain ⟨m, hm⟩ : ∃ m, O[k]? = some m := ⟨_, List.getElem?_eq_getElem (by rw [HNL.out]; exact hlt)⟩
      have hmN : m < N := by rw [← HN.out]; exact HO1.out.lt m (List.mem_of_getElem? hm)
      obtain ⟨b, o, rfl, hbl, hc⟩ := hr k m (by rw [List.getElem?_map, hm]; rfl)
      have hne : b ≠ w3.heap.size := by
        have := hfr b o rfl
        simp only [World.size_alloc] at this
        omega
      have hmc := PreB.cell hp (bl_get hmN)
      have hmf := Pre.free hp m
      have hol := Pre.lt hp
      have HP := Lib.hid hp
      have HBB := Lib.hid hb
      have HR2 := Lib.hid hr
      have HM := Lib.hid hm
      have hmi : (m : Int) < N := by omega
      have hki : (k : Int) < n := by omega
      clear hp hb hr hm
      go_wp2
      refine ⟨⟨k + 1, by omega, by go_num, ?_, HBB.out.setCell (Nat.le_refl _) _, HR2.out.keepS (by simp) (fun b' o' e _ => heap_setCell_other wr ⟨w3.heap.size, m, none⟩ b' _ (fun e2 => hne (by injection e with e; injection e with e; rw [e]; exact e2)))⟩, by simp [intOf]; omega⟩
      have h := PreB.set HP.out (j := m) (by simpa [bl] using hmN) true
      rw [bl_set, bl_take HM.out] at h
      exact h
    · obtain rfl : k = n := by omega
      have HR2 : Hid (RcT f N w.heap.size (.returned (.slice (some ⟨w3.heap.size, 0, none⟩) N N)) wr ∧ Below w.heap.size w wr) := Lib.hid ⟨⟨_, rfl, hws, by
        have e : bl N (fun p => decide (p ∈ O.take k)) = bl N (fun p => tb (R0 (Eg f.code) p)) := by
          unfold bl
          apply List.map_congr_left
          intro p _
          rw [← HNL.out, List.take_length, Bool.eq_iff_iff, decide_eq_true_eq, tb_true]
          exact HO1.out.mem p
        rw [← e]
        exact hp⟩, HB.out.trans ((HB3.out.mono HB.out.size).trans (hb.mono hws))⟩
      clear hp hb hr
      go_wp2
      go_returns
      exact HR2.out
end Go.Proofs.Ythbcdckonaljiaa
