import Derived.Test.YtdoeinccnfggiaaDoorRa
import Derived.Deep.CutRange
namespace Go.Proofs.YtdoeinccnfggiaaDoor
open Go.RowKit Go.BigFrame

theorem OwnT.made (w : World) : OwnT (w.alloc (.cells #[] 51)) (.slice (some ⟨w.heap.size, 0, none⟩) 0 0) [] := World.ownsRow_made w #[] 0 (Nat.zero_le _) (by simp [maxLen]) rfl
theorem Below.two (w : World) (o o' : Obj) : Below w.heap.size w ((w.alloc o).alloc o') := (Below.one w o).alloc (by simp) _
theorem Below.three (w : World) (o o' o'' : Obj) : Below w.heap.size w (((w.alloc o).alloc o').alloc o'') := (Below.two w o o').alloc (by simp; omega) _
set_option maxRecDepth 1000000 in
set_option maxHeartbeats 1000000 in
theorem refNew_any (w : World) (F : Nat → Prop) (hF : ∀ k, F k → k < w.heap.size) : Calls Tryd.prog 17 #[] w fun e w' => (∃ v, e = .returned v ∧ RT w' F v (tys 4) []) ∧ Below w.heap.size w w' := by
  go_enter Tryd.func17, Tryd.ntmps17
  go_wp2
  go_returns
  refine ⟨⟨_, rfl, some ⟨w.heap.size + 1, 0, none⟩, 4, none, 0, rfl, fun j y hy => ?_, fun j d hd => by simp at hd⟩, Below.two _ _ _⟩
  have hj : j < 4 := (List.getElem?_eq_some_iff.1 hy).1
  have hjj : j = 0 ∨ j = 1 ∨ j = 2 ∨ j = 3 := by omega
  have hnF : ¬ F (w.heap.size + 1) := fun hh => by have := hF _ hh; omega
  have hnew := heap_alloc_new (w.alloc (.cells #[.slice (some ⟨w.heap.size + 1, 0, none⟩) 4 4, .slice none 0 0] 44)) (.cells #[.int .i64 0, .int .i64 0, .int .i64 0, .string ⟨#[]⟩, .int .i64 1, .int .i64 0, .int .i64 0, .string ⟨#[]⟩, .int .i64 2, .int .i64 0, .int .i64 0, .string ⟨#[]⟩, .int .i64 3, .int .i64 0, .int .i64 0, .string ⟨#[]⟩] 51)
  rw [show (w.alloc (.cells #[.slice (some ⟨w.heap.size + 1, 0, none⟩) 4 4, .slice none 0 0] 44)).heap.size = w.heap.size + 1 by simp] at hnew
  rcases hjj with rfl | rfl | rfl | rfl <;> (injection hy with hy; subst hy; exact ⟨_, rfl, by simp, hnF, cell_of_heap hnew _ _ rfl, cell_of_heap hnew _ _ rfl, cell_of_heap hnew _ _ rfl, cell_of_heap hnew _ _ rfl⟩)
set_option maxRecDepth 1000000 in
theorem refIs_any {w : World} {F : Nat → Prop} {v : Value} {T : List Ty} {Ds : List (ByteArray × List Fld)} (h : RT w F v T Ds) (n : Int) : Calls Tryd.prog 36 #[v, .int .i64 n] w fun e w' => e = .returned (.bool (atT T n).isSome) ∧ Below w.heap.size w w' := by
  obtain ⟨A, cap, B, cap2, rfl, h1, h2⟩ := h
  have hs : (atT T n).isSome = (decide (0 ≤ n) && decide (n < T.length)) := by
    unfold atT
    by_cases h : 0 ≤ n ∧ n < T.length
    · rw [if_pos h]
      have : n.toNat < T.length := by omega
      simp [this, h.1, h.2]
    · rw [if_neg h]
      by_cases h0 : 0 ≤ n <;> simp [h0] <;> omega
  rw [hs]
  generalize T.length = L at *
  generalize Ds.length = L2 at *
  clear h1 h2 hs
  by_cases h0 : 0 ≤ n
  · have q : decide (n ≥ 0) = true := by simpa using h0
    have q2 : decide (0 ≤ n) = true := by simpa using h0
    clear h0
    go_enter Tryd.func36, Tryd.ntmps36
    go_wp2
    go_returns
    exact ⟨by rw [q2]; rfl, Below.one _ _⟩
  · have q : decide (n ≥ 0) = false := by simp; omega
    have q2 : decide (0 ≤ n) = false := by simp; omega
    clear h0
    go_enter Tryd.func36, Tryd.ntmps36
    go_wp2
    go_returns
    exact ⟨by rw [q2]; rfl, Below.one _ _⟩
theorem put_end {w w4 : World} {F : Nat → Prop} {T : List Ty} {Ds : List (ByteArray × List Fld)} {A2 B : Option Addr} {cap3 cap2 r k L2 : Nat} {x : Ty} (hL : T.length = k) (hL2 : Ds.length = L2) (h2 : RdD w F B Ds) (hne : ∀ d ∈ Ds, 0 < d.2.length) (hF : ∀ k, F k → k < w.heap.size)
    (hB4 : Below w.heap.size w w4) (hO4 : OwnT w4 (.slice A2 (k + 1) cap3) (T ++ [x])) (hv : ∀ b, (Value.slice A2 (k + 1) cap3).ownBlock = some b → r + 1 ≤ b) (hr : w.heap.size ≤ r) :
    RT ((w4.setCell ⟨r, 0, none⟩ (.slice A2 (k + 1) cap3)).setCell ⟨r, 1, none⟩ (.slice B L2 cap2)) F (.agg #[.slice A2 (k + 1) cap3, .slice B L2 cap2]) (T ++ [x]) Ds ∧ Below w.heap.size w ((w4.setCell ⟨r, 0, none⟩ (.slice A2 (k + 1) cap3)).setCell ⟨r, 1, none⟩ (.slice B L2 cap2)) := by
  have hne2 : (Value.slice A2 (k + 1) cap3).ownBlock ≠ some r := fun e => by have := hv r e; omega
  have hB6 : Below w.heap.size w ((w4.setCell ⟨r, 0, none⟩ (.slice A2 (k + 1) cap3)).setCell ⟨r, 1, none⟩ (.slice B L2 cap2)) := (hB4.setCell (p := ⟨r, 0, none⟩) hr _).setCell (p := ⟨r, 1, none⟩) hr _
  have hO6 : OwnT ((w4.setCell ⟨r, 0, none⟩ (.slice A2 (k + 1) cap3)).setCell ⟨r, 1, none⟩ (.slice B L2 cap2)) (.slice A2 (k + 1) cap3) (T ++ [x]) := ownsRow_setCell_other (a := ⟨r, 1, none⟩) (ownsRow_setCell_other (a := ⟨r, 0, none⟩) hO4 hne2 _) hne2 _
  obtain ⟨A', cap', hV, hR⟩ := hO6.rd F (fun b hb hFb => by have := hF b hFb; have := hv b hb; omega)
  injection hV with hA hn hc
  subst hA hc
  refine ⟨⟨A2, cap3, B, cap2, by rw [List.length_append, hL, hL2]; rfl, hR, h2.move hne hB6.size fun k hk hn => ⟨hB6.block k hk, hn⟩⟩, hB6⟩
set_option maxRecDepth 1000000 in
set_option maxHeartbeats 4000000 in
theorem refPut_any {w : World} {F : Nat → Prop} {v : Value} {T : List Ty} {Ds : List (ByteArray × List Fld)} (h : RT w F v T Ds) (hne : ∀ d ∈ Ds, 0 < d.2.length) (hF : ∀ k, F k → k < w.heap.size) (hT : 1 ≤ T.length ∧ T.length ≤ 256) (x : Ty) :
    Calls Tryd.prog 37 #[v, x.agg] w fun e w' => (∃ v', e = .returned (.tuple #[v', .int .i64 (putL T x).2.1, .int .i64 (putL T x).2.2]) ∧ RT w' F v' (putL T x).1 Ds) ∧ Below w.heap.size w w' := by
  obtain ⟨A, cap, B, cap2, rfl, h1, h2⟩ := h
  obtain ⟨x1, x2, x3, x4⟩ := x
  obtain ⟨L, hL⟩ : ∃ L, T.length = L := ⟨_, rfl⟩
  obtain ⟨L2, hL2⟩ : ∃ L2, Ds.length = L2 := ⟨_, rfl⟩
  rw [hL] at hT
  have hW : Below w.heap.size w (((w.alloc (.cells #[.slice A L cap, .slice B L2 cap2] 44)).alloc (.cells #[.int .i64 x1, .int .i64 x2, .int .i64 x3, .string x4] 51)).alloc (.cells #[.slice none 0 0, .slice none 0 0] 44)) := Below.three _ _ _ _
  have h0 : RT w F (.agg #[.slice A L cap, .slice B L2 cap2]) T Ds := ⟨A, cap, B, cap2, by rw [hL, hL2], h1, h2⟩
  rw [hL, hL2]
  obtain ⟨q, hq⟩ : ∃ q, w.heap.size = q := ⟨_, rfl⟩
  have hb0 : (((w.alloc (.cells #[.slice A L cap, .slice B L2 cap2] 44)).alloc (.cells #[.int .i64 x1, .int .i64 x2, .int .i64 x3, .string x4] 51)).alloc (.cells #[.slice none 0 0, .slice none 0 0] 44)).heap[q]? = some (.cells #[.slice A L cap, .slice B L2 cap2] 44 (0, 0)) := by
    rw [← hq]
    exact alloc_keeps (alloc_keeps (heap_alloc_new _ _) _) _
  have hb1 : (((w.alloc (.cells #[.slice A L cap, .slice B L2 cap2] 44)).alloc (.cells #[.int .i64 x1, .int .i64 x2, .int .i64 x3, .string x4] 51)).alloc (.cells #[.slice none 0 0, .slice none 0 0] 44)).heap[q + 1]? = some (.cells #[.int .i64 x1, .int .i64 x2, .int .i64 x3, .string x4] 51 (0, 0)) := by
    have := heap_alloc_new (w.alloc (.cells #[.slice A L cap, .slice B L2 cap2] 44)) (.cells #[.int .i64 x1, .int .i64 x2, .int .i64 x3, .string x4] 51)
    rw [show (w.alloc (.cells #[.slice A L cap, .slice B L2 cap2] 44)).heap.size = q + 1 by simp [hq]] at this
    exact alloc_keeps this _
  have hb2 : (((w.alloc (.cells #[.slice A L cap, .slice B L2 cap2] 44)).alloc (.cells #[.int .i64 x1, .int .i64 x2, .int .i64 x3, .string x4] 51)).alloc (.cells #[.slice none 0 0, .slice none 0 0] 44)).heap[q + 1 + 1]? = some (.cells #[.slice none 0 0, .slice none 0 0] 44 (0, 0)) := by
    have := heap_alloc_new ((w.alloc (.cells #[.slice A L cap, .slice B L2 cap2] 44)).alloc (.cells #[.int .i64 x1, .int .i64 x2, .int .i64 x3, .string x4] 51)) (.cells #[.slice none 0 0, .slice none 0 0] 44)
    rwa [show ((w.alloc (.cells #[.slice A L cap, .slice B L2 cap2] 44)).alloc (.cells #[.int .i64 x1, .int .i64 x2, .int .i64 x3, .string x4] 51)).heap.size = q + 1 + 1 by simp [hq]] at this
  have hsz : (((w.alloc (.cells #[.slice A L cap, .slice B L2 cap2] 44)).alloc (.cells #[.int .i64 x1, .int .i64 x2, .int .i64 x3, .string x4] 51)).alloc (.cells #[.slice none 0 0, .slice none 0 0] 44)).heap.size = q + 1 + 1 + 1 := by simp [hq]
  go_enter Tryd.func37, Tryd.ntmps37
  go_wp2
  generalize (((w.alloc (.cells #[.slice A L cap, .slice B L2 cap2] 44)).alloc (.cells #[.int .i64 x1, .int .i64 x2, .int .i64 x3, .string x4] 51)).alloc (.cells #[.slice none 0 0, .slice none 0 0] 44)) = W at *
  have hd2 : q + 1 + 1 ≠ q := by omega
  have hd3 : q + 1 + 1 ≠ q + 1 := by omega
  have hqr : w.heap.size ≤ q + 1 + 1 := by omega
  have hqq : w.heap.size ≤ q := by omega
  generalize q + 1 + 1 = r at *
  generalize q + 1 = s at *
  have a0 := cell_of_heap hb0 0 (.slice A L cap) rfl
  have a1 := cell_of_heap hb0 1 (.slice B L2 cap2) rfl
  have c0 := cell_of_heap hb1 0 (.int .i64 x1) rfl
  have c1 := cell_of_heap hb1 1 (.int .i64 x2) rfl
  have c2 := cell_of_heap hb1 2 (.int .i64 x3) rfl
  have c3 := cell_of_heap hb1 3 (.string x4) rfl
  have r0 := cell_of_heap hb2 0 (.slice none 0 0) rfl
  have r1 := cell_of_heap hb2 1 (.slice none 0 0) rfl
  have z0 := free_of_heap hb2 0
  have z1 := free_of_heap hb2 1
  have y0 := free_of_heap hb0 0
  have h1W := h1.below hW
  have g0 : ∀ m u, ((W.drewN m).setCell ⟨r, 0, none⟩ u).cell? ⟨r, 0, none⟩ = some u := fun m u => cell_of_heap (heap_setCell (w := W.drewN m) (j := 0) hb2 u) 0 u rfl
  have g1 : ∀ m u v, (((W.drewN m).setCell ⟨r, 0, none⟩ u).setCell ⟨r, 1, none⟩ v).cell? ⟨r, 1, none⟩ = some v := fun m u v => cell_of_heap (heap_setCell (w := (W.drewN m).setCell ⟨r, 0, none⟩ u) (j := 1) (heap_setCell (w := W.drewN m) (j := 0) hb2 u) v) 1 v rfl
  have hRB : ∀ m u v, Below w.heap.size w (((W.drewN m).setCell ⟨r, 0, none⟩ u).setCell ⟨r, 1, none⟩ v) := fun m u v => ((below_drewN hW m).setCell (p := ⟨r, 0, none⟩) hqr u).setCell (p := ⟨r, 1, none⟩) hqr v
  go_loopw [7] (fun i w8 => ∃ k : Nat, k ≤ L ∧ i = .int .i64 k ∧ (∃ n, w8 = W.drewN n) ∧ ∀ (j : Nat) y, j < k → T[j]? = some y → y ≠ ⟨x1, x2, x3, x4⟩) (fun i _ => L - (intOf i).toNat)
  case atStart => exact ⟨0, by omega, rfl, ⟨0, rfl⟩, fun j y hj => by omega⟩
  case round =>
    obtain ⟨k, hk, rfl, ⟨n, rfl⟩, hno⟩ := hrel
    by_cases hlt : k < L
    · have hty : T[k]? = some (T[k]'(by omega)) := by simp
      generalize T[k]'(by omega) = y at hty
      obtain ⟨y1, y2, y3, y4⟩ := y
      obtain ⟨b, rfl, _, _, k0, k1, k2, k3⟩ := h1W k _ hty
      have heq := fun w => eql_ty ⟨y1, y2, y3, y4⟩ ⟨x1, x2, x3, x4⟩ w
      have hdec := tyEq_dec ⟨y1, y2, y3, y4⟩ ⟨x1, x2, x3, x4⟩
      cases hb : tyEq ⟨y1, y2, y3, y4⟩ ⟨x1, x2, x3, x4⟩
      · rw [hb] at heq hdec
        have hne2 : (⟨y1, y2, y3, y4⟩ : Ty) ≠ ⟨x1, x2, x3, x4⟩ := of_decide_eq_false hdec.symm
        clear hb hdec
        go_wp2
        go_quiet (fail)
        go_wp2
        exact ⟨⟨k + 1, by omega, by simp, ⟨_, rfl⟩, fun j y hj hy => by
          by_cases hjk : j = k
          · subst hjk
            rw [hty] at hy
            injection hy with hy
            exact hy ▸ hne2
          · exact hno j y (by omega) hy⟩, by simp [intOf]; omega⟩
      · rw [hb] at heq hdec
        have he := of_decide_eq_true hdec.symm
        have hp : putL T ⟨x1, x2, x3, x4⟩ = (T, (k : Int), 0) := by
          unfold putL
          rw [find1_some ⟨x1, x2, x3, x4⟩ T 0 k (by rw [hty, he]) hno]
          simp
        clear hb hdec he hno
        go_wp2
        go_quiet (fail)
        go_wp2
        (try simp only [Exit.inBlock, Exit.then])
        refine bodyPost_ret (by simp [results, Tryd.results37, go_sem, g0, g1]; try rfl) rfl ?_
        exact ⟨⟨_, by rw [hp], by rw [hp]; exact h0.below hne (hRB _ _ _)⟩, hRB _ _ _⟩
    · obtain rfl : k = L := by omega
      have hf : find1 ⟨x1, x2, x3, x4⟩ T 0 = none := find1_none ⟨x1, x2, x3, x4⟩ T 0 (fun i y hy => hno i y (by rw [← hL]; exact (List.getElem?_eq_some_iff.1 hy).1) hy)
      by_cases h256 : k = 256
      · subst h256
        have hp : putL T ⟨x1, x2, x3, x4⟩ = (T, 0, 4) := by unfold putL; rw [hf]; simp only; rw [if_pos (by omega)]
        clear hf hno
        go_wp2
        (try simp only [Exit.inBlock, Exit.then])
        refine bodyPost_ret (by simp [results, Tryd.results37, go_sem, g0, g1]; try rfl) rfl ?_
        exact ⟨⟨_, by rw [hp], by rw [hp]; exact h0.below hne (hRB _ _ _)⟩, hRB _ _ _⟩
      · have hp : putL T ⟨x1, x2, x3, x4⟩ = (T ++ [⟨x1, x2, x3, x4⟩], (k : Int), 0) := by unfold putL; rw [hf]; simp only; rw [if_neg (by omega), hL]
        have q1 : decide (k ≥ 256) = false := by simp; omega
        have q2 : decide (256 ≤ k) = false := by simp; omega
        have q3 : decide ((k : Int) ≥ 256) = false := by simp; omega
        clear hf hno
        go_upto_region 8 with fail
        go_cut [] from 29 to 36 (fun wx => ∃ A2 cap3, OwnT wx (.slice A2 (k + 1) cap3) (T ++ [⟨x1, x2, x3, x4⟩]) ∧ (∀ b, (Value.slice A2 (k + 1) cap3).ownBlock = some b → r + 1 ≤ b) ∧ Below w.heap.size w wx ∧
          wx.heap[q]? = some (.cells #[.slice A2 (k + 1) cap3, .slice B L2 cap2] 44 (0, 0)) ∧ wx.heap[r]? = some (.cells #[.slice none 0 0, .slice none 0 0] 44 (0, 0)))
        case first =>
          have B0 : ∀ m, Below W.heap.size W (W.drewN m) := fun m => below_drewN (Below.refl _ _) m
          have D0 : ∀ m o, Below W.heap.size W ((W.drewN m).alloc o) := fun m o => (B0 m).alloc (B0 m).size o
          have D1 : ∀ m o o', Below W.heap.size W (((W.drewN m).alloc o).alloc o') := fun m o o' => (D0 m o).alloc (by have := (D0 m o).size; omega) o'
          have hqW : q < W.heap.size := (Array.getElem?_eq_some_iff.1 hb0).1
          have hqr1 : q < r + 1 := by omega
          have hsr1 : s < r + 1 := by have := (Array.getElem?_eq_some_iff.1 hb1).1; omega
          have hk2 : ∀ w2, Below W.heap.size W w2 → w2.heap[q]? = some (.cells #[.slice A k cap, .slice B L2 cap2] 44 (0, 0)) := fun w2 hb => (hb.block q hqW).trans hb0
          have hsm : ∀ m, (W.drewN m).heap.size = r + 1 := fun m => hsz
          have hm0 : ∀ m, OwnT ((W.drewN m).alloc (.cells #[] 51)) (.slice (some ⟨r + 1, 0, none⟩) 0 0) [] := fun m => by
            have := OwnT.made (W.drewN m)
            rwa [hsm] at this
          have hm1 : ∀ m, OwnT (((W.drewN m).alloc (.cells #[.int .i64 x1, .int .i64 x2, .int .i64 x3, .string x4] 51)).alloc (.cells #[] 51)) (.slice (some ⟨r + 1 + 1, 0, none⟩) 0 0) [] := fun m => by
            have := OwnT.made ((W.drewN m).alloc (.cells #[.int .i64 x1, .int .i64 x2, .int .i64 x3, .string x4] 51))
            rwa [show ((W.drewN m).alloc (.cells #[.int .i64 x1, .int .i64 x2, .int .i64 x3, .string x4] 51)).heap.size = r + 1 + 1 by simp [hsz]] at this
          have hX0 : ∀ m, (((W.drewN m).alloc (.cells #[.int .i64 x1, .int .i64 x2, .int .i64 x3, .string x4] 51)).alloc (.cells #[] 51)).heap[r + 1]? = some (.cells #[.int .i64 x1, .int .i64 x2, .int .i64 x3, .string x4] 51 (0, 0)) := fun m => by
            have := heap_alloc_new (W.drewN m) (.cells #[.int .i64 x1, .int .i64 x2, .int .i64 x3, .string x4] 51)
            rw [hsm] at this
            exact alloc_keeps this _
          have hX1 : ∀ m, (((W.drewN m).alloc (.cells #[] 51)).alloc (.cells #[.int .i64 x1, .int .i64 x2, .int .i64 x3, .string x4] 51)).heap[r + 1 + 1]? = some (.cells #[.int .i64 x1, .int .i64 x2, .int .i64 x3, .string x4] 51 (0, 0)) := fun m => by
            have := heap_alloc_new ((W.drewN m).alloc (.cells #[] 51)) (.cells #[.int .i64 x1, .int .i64 x2, .int .i64 x3, .string x4] 51)
            rwa [show ((W.drewN m).alloc (.cells #[] 51)).heap.size = r + 1 + 1 by simp [hsz]] at this
          have hk3 : ∀ w2, Below W.heap.size W w2 → (w2.cell? ⟨s, 0, none⟩ = some (.int .i64 x1) ∧ w2.cell? ⟨s, 1, none⟩ = some (.int .i64 x2) ∧ w2.cell? ⟨s, 2, none⟩ = some (.int .i64 x3) ∧ w2.cell? ⟨s, 3, none⟩ = some (.string x4)) ∧ s < w2.heap.size ∧ q < w2.heap.size := fun w2 hb => by
            have h1 := (hb.block s (by omega)).trans hb1
            have h2 := hb.size
            exact ⟨⟨cell_of_heap h1 0 _ rfl, cell_of_heap h1 1 _ rfl, cell_of_heap h1 2 _ rfl, cell_of_heap h1 3 _ rfl⟩, by omega, by omega⟩
          have hvs : ∀ (V1 : Value) (z y : Nat), r + 1 ≤ z → r + 1 ≤ y → (V1.ownBlock = (Value.slice (some ⟨z, 0, none⟩) 0 0).ownBlock ∨ V1.ownBlock = some y) → ∀ b, V1.ownBlock = some b → r + 1 ≤ b := fun V1 z y hz hy hat b hb => by
            rcases hat with h | h
            · rw [hb] at h; injection h with h; simp at h; omega
            · rw [hb] at h; injection h with h; omega
          have E0 : ∀ m w2, ((W.drewN m).alloc (.cells #[] 51)).grownBy w2 (some (r + 1)) → Below W.heap.size W w2 := fun m w2 hg => (D0 m _).grown hg (D0 m _).size (fun k hk => by injection hk with hk; omega)
          have E1 : ∀ m w2, (((W.drewN m).alloc (.cells #[.int .i64 x1, .int .i64 x2, .int .i64 x3, .string x4] 51)).alloc (.cells #[] 51)).grownBy w2 (some (r + 1 + 1)) → Below W.heap.size W w2 ∧ w2.heap[r + 1]? = some (.cells #[.int .i64 x1, .int .i64 x2, .int .i64 x3, .string x4] 51 (0, 0)) := fun m w2 hg =>
            ⟨(D1 m _ _).grown hg (D1 m _ _).size (fun k hk => by injection hk with hk; omega), (hg.block (r + 1) (by simp [hsz]) (fun e => by injection e with e; omega)).trans (hX0 m)⟩
          have E2 : ∀ m w2, (((W.drewN m).alloc (.cells #[] 51)).alloc (.cells #[.int .i64 x1, .int .i64 x2, .int .i64 x3, .string x4] 51)).grownBy w2 (some (r + 1)) → Below W.heap.size W w2 ∧ w2.heap[r + 1 + 1]? = some (.cells #[.int .i64 x1, .int .i64 x2, .int .i64 x3, .string x4] 51 (0, 0)) := fun m w2 hg =>
            ⟨(D1 m _ _).grown hg (D1 m _ _).size (fun k hk => by injection hk with hk; omega), (hg.block (r + 1 + 1) (by simp [hsz]) (fun e => by injection e with e; omega)).trans (hX1 m)⟩
          have G0 : ∀ w2 w3 (V1 : Value), Below W.heap.size W w2 → (∀ b, V1.ownBlock = some b → r + 1 ≤ b) → w2.grownBy w3 V1.ownBlock → Below W.heap.size W w3 := fun w2 w3 V1 hb hv hg => hb.grown hg hb.size (fun k hk => by have := hv k hk; omega)
          have hfin : ∀ w3 (V2 : Value), Below W.heap.size W w3 → OwnT w3 V2 (([] ++ T) ++ [⟨x1, x2, x3, x4⟩]) → (∀ b, V2.ownBlock = some b → r + 1 ≤ b) → (∃ A2 cap3, V2 = .slice A2 (k + 1) cap3 ∧ RdT w3 F A2 (T ++ [⟨x1, x2, x3, x4⟩])) ∧ w3.heap[q]? = some (.cells #[.slice A k cap, .slice B L2 cap2] 44 (0, 0)) ∧ w3.heap[r]? = some (.cells #[.slice none 0 0, .slice none 0 0] 44 (0, 0)) := fun w3 V2 hb ho hv => by
            obtain ⟨A2, cap3, hV2, hR2⟩ := ho.rd F (fun b hb2 hFb => by have := hF b hFb; have := hv b hb2; omega)
            refine ⟨⟨A2, cap3, by rw [hV2]; simp [hL], by simpa using hR2⟩, hk2 w3 hb, (hb.block r (by omega)).trans hb2⟩
          go_region_law (first
            | (refine step_append_tys rfl (.tmp 29) (.tmp 31) rfl _ [] rfl (hm0 _) F A T cap (by rw [hL]; rfl) (h1W.below (D0 _ _)) (fun hh => by simp [hh] at hL; omega) (by simp; omega) ?_; intro V1 w2 ho1 hg1 hat1; have hB2 := E0 _ w2 hg1; have hv1 := hvs V1 (r + 1) _ (Nat.le_refl _) (by simp [hsz]) hat1; obtain ⟨⟨m0, m1, m2, m3⟩, ls, lq⟩ := hk3 w2 hB2)
            | (refine step_append_tys rfl (.tmp 29) (.tmp 31) rfl _ [] rfl (hm1 _) F A T cap (by rw [hL]; rfl) (h1W.below (D1 _ _ _)) (fun hh => by simp [hh] at hL; omega) (by simp; omega) ?_; intro V1 w2 ho1 hg1 hat1; obtain ⟨hB2, HX⟩ := E1 _ w2 hg1; have hv1 := hvs V1 (r + 1 + 1) _ (by omega) (by simp [hsz] <;> omega) hat1; obtain ⟨⟨m0, m1, m2, m3⟩, ls, lq⟩ := hk3 w2 hB2)
            | (refine step_append_tys rfl (.tmp 29) (.tmp 31) rfl _ [] rfl ((hm0 _).alloc _) F A T cap (by rw [hL]; rfl) (h1W.below (D1 _ _ _)) (fun hh => by simp [hh] at hL; omega) (by simp; omega) ?_; intro V1 w2 ho1 hg1 hat1; obtain ⟨hB2, HX⟩ := E2 _ w2 hg1; have hv1 := hvs V1 (r + 1) _ (Nat.le_refl _) (by simp [hsz] <;> omega) hat1; obtain ⟨⟨m0, m1, m2, m3⟩, ls, lq⟩ := hk3 w2 hB2)
            | (refine step_append_ty rfl (.tmp 32) (.tmp 34) rfl V1 ([] ++ T) rfl ho1 _ ⟨x1, x2, x3, x4⟩ rfl HX (by simp; omega) ?_; intro V2 w3 ho2 hg2 hat2; have hB3 := G0 w2 w3 V1 hB2 hv1 hg2; have hv2 : ∀ b, V2.ownBlock = some b → r + 1 ≤ b := (fun b hb => by rcases hat2 with h | h; exact hv1 b (h ▸ hb); rw [hb] at h; injection h with h; have := hB2.size; omega); obtain ⟨⟨A2, cap3, rfl, hR2⟩, hq3, hr3⟩ := hfin w3 V2 hB3 ho2 hv2; have n0 := cell_of_heap hq3 0 (.slice A k cap) rfl; have n1 := cell_of_heap hq3 1 (.slice B L2 cap2) rfl; have nz := free_of_heap hq3 0)
            | (refine step_append_ty rfl (.tmp 32) (.tmp 34) rfl V1 ([] ++ T) rfl (ho1.alloc _) _ ⟨x1, x2, x3, x4⟩ rfl (heap_alloc_new _ _) (by simp; omega) ?_; intro V2 w3 ho2 hg2 hat2; have hB3 := G0 _ w3 V1 (hB2.alloc hB2.size _) hv1 hg2; have hv2 : ∀ b, V2.ownBlock = some b → r + 1 ≤ b := (fun b hb => by rcases hat2 with h | h; exact hv1 b (h ▸ hb); rw [hb] at h; injection h with h; have := hB2.size; simp at h <;> omega); obtain ⟨⟨A2, cap3, rfl, hR2⟩, hq3, hr3⟩ := hfin w3 V2 hB3 ho2 hv2; have n0 := cell_of_heap hq3 0 (.slice A k cap) rfl; have n1 := cell_of_heap hq3 1 (.slice B L2 cap2) rfl; have nz := free_of_heap hq3 0))
          all_goals
            have hV2q : (Value.slice A2 (k + 1) cap3).ownBlock ≠ some q := fun e => by have := hv2 q e; omega
            have ho3 : OwnT w3 (.slice A2 (k + 1) cap3) (T ++ [⟨x1, x2, x3, x4⟩]) := by
              have hlen : ([] ++ T ++ [(⟨x1, x2, x3, x4⟩ : Ty)]).length = k + 1 := by simp [hL]
              first | exact ho2 | (rw [hlen] at ho2; exact ho2)
            have hO4 : OwnT (w3.setCell ⟨q, 0, none⟩ (.slice A2 (k + 1) cap3)) (.slice A2 (k + 1) cap3) (T ++ [⟨x1, x2, x3, x4⟩]) := ownsRow_setCell_other (a := ⟨q, 0, none⟩) ho3 hV2q _
            have hB4 : Below w.heap.size w (w3.setCell ⟨q, 0, none⟩ (.slice A2 (k + 1) cap3)) := (hW.trans (hB3.mono hW.size)).setCell (p := ⟨q, 0, none⟩) hqq _
            have hq4 : (w3.setCell ⟨q, 0, none⟩ (.slice A2 (k + 1) cap3)).heap[q]? = some (.cells #[.slice A2 (k + 1) cap3, .slice B L2 cap2] 44 (0, 0)) := by rw [heap_setCell hq3]; rfl
            have hr4 : (w3.setCell ⟨q, 0, none⟩ (.slice A2 (k + 1) cap3)).heap[r]? = some (.cells #[.slice none 0 0, .slice none 0 0] 44 (0, 0)) := (Below.heap_setCell _ _ _ _ hd2).trans hr3
            go_wp2_with fail
            go_meet
            exact ⟨A2, cap3, hO4, hv2, hB4, hq4, hr4⟩
        case rest =>
          obtain ⟨A2, cap3, hO4, hv4, hB4, hq4, hr4⟩ := hcut
          have p0 := cell_of_heap hq4 0 (.slice A2 (k + 1) cap3) rfl
          have p1 := cell_of_heap hq4 1 (.slice B L2 cap2) rfl
          have p2 := cell_of_heap hr4 0 (.slice none 0 0) rfl
          have p3 := cell_of_heap hr4 1 (.slice none 0 0) rfl
          have p4 := free_of_heap hr4 0
          have p5 := free_of_heap hr4 1
          have f0 : ∀ m u, ((wc.drewN m).setCell ⟨r, 0, none⟩ u).cell? ⟨r, 0, none⟩ = some u := fun m u => cell_of_heap (heap_setCell (w := wc.drewN m) (j := 0) hr4 u) 0 u rfl
          have f1 : ∀ m u v, (((wc.drewN m).setCell ⟨r, 0, none⟩ u).setCell ⟨r, 1, none⟩ v).cell? ⟨r, 1, none⟩ = some v := fun m u v => cell_of_heap (heap_setCell (w := (wc.drewN m).setCell ⟨r, 0, none⟩ u) (j := 1) (heap_setCell (w := wc.drewN m) (j := 0) hr4 u) v) 1 v rfl
          have f2 : ∀ u, (wc.setCell ⟨r, 0, none⟩ u).cell? ⟨r, 0, none⟩ = some u := fun u => f0 0 u
          have f3 : ∀ u v, ((wc.setCell ⟨r, 0, none⟩ u).setCell ⟨r, 1, none⟩ v).cell? ⟨r, 1, none⟩ = some v := fun u v => f1 0 u v
          have he1 := put_end (cap2 := cap2) hL hL2 h2 hne hF hB4 hO4 hv4 hqr
          have he2 := fun m => put_end (w4 := wc.drewN m) (cap2 := cap2) hL hL2 h2 hne hF (below_drewN hB4 m) hO4 hv4 hqr
          clear h1W
          go_wp2
          go_region
          all_goals
            go_wp2
            (try simp only [Exit.inBlock, Exit.then])
            refine bodyPost_ret (by simp [results, Tryd.results37, go_sem, f2, f3]; try rfl) rfl ?_
            first
              | exact ⟨⟨_, by rw [hp], by rw [hp]; exact he1.1⟩, he1.2⟩
              | exact ⟨⟨_, by rw [hp], by rw [hp]; exact (he2 _).1⟩, (he2 _).2⟩
end Go.Proofs.YtdoeinccnfggiaaDoor
