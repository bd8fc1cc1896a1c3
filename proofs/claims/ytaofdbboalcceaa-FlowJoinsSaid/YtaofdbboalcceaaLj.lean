import Derived.Test.YtaofdbboalcceaaFy
import Derived.Test.YtaofdbboalcceaaLp
import Derived.Deep.CutRange
/- FlowJoins. -/
namespace Go.Proofs.Ytaofdbboalcceaa
open Go.RowKit Go.BigFrame

/-- a value that the law goes through -/
def Vok (x : Vl) : Prop := 0 ≤ x.k ∧ x.k ≤ 2 ∧ (x.k = 1 ∨ x.n = 0)
theorem Vok.wf {x : Vl} (h : Vok x) : x.wf := by
  obtain ⟨k, n⟩ := x
  obtain ⟨h1, h2, h3⟩ := h
  simp only at h1 h2 h3
  have : k = 0 ∨ k = 1 ∨ k = 2 := by omega
  rcases this with rfl | rfl | rfl
  · exact Or.inl (by rcases h3 with h | h; cases h; rw [h])
  · exact Or.inr (Or.inl rfl)
  · exact Or.inr (Or.inr (by rcases h3 with h | h; cases h; rw [h]))
theorem not_vok {k n : Int} (h : ¬ Vok ⟨k, n⟩) : k < 0 ∨ (¬ k < 0 ∧ 2 < k) ∨ (¬ k < 0 ∧ ¬ 2 < k ∧ k ≠ 1 ∧ n ≠ 0) := by
  unfold Vok at h
  simp only at h
  omega
set_option maxRecDepth 1000000 in
set_option maxHeartbeats 8000000 in
theorem joins_any (a b c : Vl) (w : World) (hawake : ∀ W, Calls Try.prog 19 #[] W fun e w' => e = .returned (.bool true) ∧ Below W.heap.size W w') : Calls Try.prog 4 #[a.agg, b.agg, c.agg] w fun e w' => e = .returned (.bool true) ∧ Below w.heap.size w w' := by
  obtain ⟨W1, hW1⟩ : ∃ W1, (((w.alloc a.obj).alloc b.obj).alloc c.obj).alloc (.cells #[.int .i64 a.k, .int .i64 a.n, .int .i64 b.k, .int .i64 b.n, .int .i64 c.k, .int .i64 c.n] 28) = W1 := ⟨_, rfl⟩
  have hB1 := (((Below.one w a.obj).alloc (by simp) b.obj).alloc (by simp; omega) c.obj).alloc (by simp; omega) (.cells #[.int .i64 a.k, .int .i64 a.n, .int .i64 b.k, .int .i64 b.n, .int .i64 c.k, .int .i64 c.n] 28)
  have hs1 : W1.heap.size = w.heap.size + 4 := by rw [← hW1]; simp
  have ga : W1.heap[w.heap.size]? = some a.obj := by rw [← hW1]; exact alloc_keeps (alloc_keeps (alloc_keeps (heap_alloc_new w a.obj) _) _) _
  have gb : W1.heap[w.heap.size + 1]? = some b.obj := by
    rw [← hW1]
    have := heap_alloc_new (w.alloc a.obj) b.obj
    rw [show (w.alloc a.obj).heap.size = w.heap.size + 1 by simp] at this
    exact alloc_keeps (alloc_keeps this _) _
  have gc : W1.heap[w.heap.size + 1 + 1]? = some c.obj := by
    rw [← hW1]
    have := heap_alloc_new ((w.alloc a.obj).alloc b.obj) c.obj
    rw [show ((w.alloc a.obj).alloc b.obj).heap.size = w.heap.size + 1 + 1 by simp] at this
    exact alloc_keeps this _
  have gl : PreV W1 (w.heap.size + 1 + 1 + 1) [a, b, c] := by
    have := heap_alloc_new (((w.alloc a.obj).alloc b.obj).alloc c.obj) (.cells #[.int .i64 a.k, .int .i64 a.n, .int .i64 b.k, .int .i64 b.n, .int .i64 c.k, .int .i64 c.n] 28)
    rw [hW1, show (((w.alloc a.obj).alloc b.obj).alloc c.obj).heap.size = w.heap.size + 1 + 1 + 1 by simp] at this
    refine ⟨_, this, fun j x hj k hk => ?_⟩
    match j, hj with
    | 0, hj => obtain rfl : a = x := by simpa using hj
               match k, hk with
               | 0, _ => rfl
               | 1, _ => rfl
    | 1, hj => obtain rfl : b = x := by simpa using hj
               match k, hk with
               | 0, _ => rfl
               | 1, _ => rfl
    | 2, hj => obtain rfl : c = x := by simpa using hj
               match k, hk with
               | 0, _ => rfl
               | 1, _ => rfl
    | j + 3, hj => simp at hj
  rw [hW1] at hB1
  obtain ⟨ak, an⟩ := a
  obtain ⟨bk, bn⟩ := b
  obtain ⟨ck, cn⟩ := c
  simp only [Vl.agg, Vl.obj] at *
  have HA := Lib.hid hawake
  have HS := Lib.hid hs1
  have HGL := Lib.hid gl
  clear hawake hs1 gl
  go_enter Try.func4, Try.ntmps4
  go_wp2
  clear hW1
  go_loopw [15] (fun ix wr => ∃ k : Nat, k ≤ 3 ∧ ix = .int .i64 k ∧ Below W1.heap.size W1 wr ∧ ∀ (j : Nat) x, j < k → [(⟨ak, an⟩ : Vl), ⟨bk, bn⟩, ⟨ck, cn⟩][j]? = some x → Vok x) (fun ix _ => 3 - (intOf ix).toNat)
  case atStart => exact ⟨0, by omega, rfl, Below.refl _ _, fun j x hj => by omega⟩
  case round =>
    obtain ⟨k, hk, rfl, hbw, hno⟩ := hrel
    have HNO := Lib.hid hno
    clear hno
    by_cases hlt : k < 3
    · obtain ⟨x, hx⟩ : ∃ x, [(⟨ak, an⟩ : Vl), ⟨bk, bn⟩, ⟨ck, cn⟩][k]? = some x := ⟨_, List.getElem?_eq_getElem (by simpa using hlt)⟩
      obtain ⟨c0, c1⟩ := PreV.cells (Pre.later HGL.out hbw) hx
      have hl1 : w.heap.size + 1 + 1 + 1 < wr.heap.size := by have := HS.out; have := hbw.size; omega
      obtain ⟨xk, xn⟩ := x
      simp only at c0 c1
      by_cases hv : Vok ⟨xk, xn⟩
      · have HN : Hid (∀ (j : Nat) x, j < k + 1 → [(⟨ak, an⟩ : Vl), ⟨bk, bn⟩, ⟨ck, cn⟩][j]? = some x → Vok x) := Lib.hid fun j x' hj hx' => by
          by_cases e : j = k
          · subst e; rw [hx] at hx'; injection hx' with hx'; rw [← hx']; exact hv
          · exact HNO.out j x' (by omega) hx'
        obtain ⟨v1, v2, v3⟩ := hv
        simp only at v1 v2 v3
        have q1 : decide (xk < 0) = false := by simp; omega
        have q2 : decide (xk > 2) = false := by simp; omega
        have q2' : decide (2 < xk) = false := by simp; omega
        clear hx
        by_cases h1 : xk = 1
        · have q3 : (xk == 1) = true := by simpa using h1
          have q4 : (xk != 1) = false := by simpa using h1
          clear h1 v3
          go_wp2
          exact ⟨⟨k + 1, by omega, by go_num, hbw.alloc hbw.size _, HN.out⟩, by simp [intOf]; omega⟩
        · have h0 : xn = 0 := by omega
          have q3 : (xk == 1) = false := by simpa using h1
          have q4 : (xk != 1) = true := by simpa using h1
          have q5 : (xn == 0) = true := by simpa using h0
          have q6 : (xn != 0) = false := by simpa using h0
          clear h1 v3 h0
          go_wp2
          exact ⟨⟨k + 1, by omega, by go_num, hbw.alloc hbw.size _, HN.out⟩, by simp [intOf]; omega⟩
      · have hbA := hB1.trans ((hbw.alloc hbw.size (.cells #[.int .i64 xk, .int .i64 xn] 28)).mono hB1.size)
        rcases not_vok hv with h | ⟨h1, h2⟩ | ⟨h1, h2, h3, h4⟩
        · have q1 : decide (xk < 0) = true := by simpa using h
          clear hv h hx
          go_wp2_with (first
            | (go_at_call 19; refine (HA.out _).mono ?_; rintro e w9 ⟨rfl, hb9⟩))
          go_returns
          exact ⟨rfl, hbA.trans (hb9.mono hbA.size)⟩
        · have q1 : decide (xk < 0) = false := by simpa using h1
          have q2 : decide (xk > 2) = true := by simpa using h2
          have q2' : decide (2 < xk) = true := by simpa using h2
          clear hv h1 h2 hx
          go_wp2_with (first
            | (go_at_call 19; refine (HA.out _).mono ?_; rintro e w9 ⟨rfl, hb9⟩))
          go_returns
          exact ⟨rfl, hbA.trans (hb9.mono hbA.size)⟩
        · have q1 : decide (xk < 0) = false := by simpa using h1
          have q2 : decide (xk > 2) = false := by simpa using h2
          have q2' : decide (2 < xk) = false := by simpa using h2
          have q3 : (xk == 1) = false := by simpa using h3
          have q4 : (xk != 1) = true := by simpa using h3
          have q5 : (xn == 0) = false := by simpa using h4
          have q6 : (xn != 0) = true := by simpa using h4
          clear hv h1 h2 h3 h4 hx
          go_wp2_with (first
            | (go_at_call 19; refine (HA.out _).mono ?_; rintro e w9 ⟨rfl, hb9⟩))
          go_returns
          exact ⟨rfl, hbA.trans (hb9.mono hbA.size)⟩
    · obtain rfl : k = 3 := by omega
      have wa : Vl.wf ⟨ak, an⟩ := (HNO.out 0 _ (by omega) rfl).wf
      have wb : Vl.wf ⟨bk, bn⟩ := (HNO.out 1 _ (by omega) rfl).wf
      have wc : Vl.wf ⟨ck, cn⟩ := (HNO.out 2 _ (by omega) rfl).wf
      have hjab := fun W => join_any ⟨ak, an⟩ ⟨bk, bn⟩ W
      have hjba := fun W => join_any ⟨bk, bn⟩ ⟨ak, an⟩ W
      have hjaa := fun W => join_any ⟨ak, an⟩ ⟨ak, an⟩ W
      have hjbc := fun W => join_any ⟨bk, bn⟩ ⟨ck, cn⟩ W
      have hjan := fun W => join_any ⟨ak, an⟩ nv W
      rw [join_comm wb wa] at hjba
      rw [join_self] at hjaa
      rw [join_nv wa] at hjan
      have hass := join_assoc wa wb wc
      have hlast := join_last ⟨ak, an⟩ ⟨bk, bn⟩
      obtain ⟨x, hx⟩ : ∃ x, join ⟨ak, an⟩ ⟨bk, bn⟩ = x := ⟨_, rfl⟩
      obtain ⟨z, hz⟩ : ∃ z, join ⟨bk, bn⟩ ⟨ck, cn⟩ = z := ⟨_, rfl⟩
      have hjxc := fun W => join_any x ⟨ck, cn⟩ W
      have hjaz := fun W => join_any ⟨ak, an⟩ z W
      rw [hx] at hjab hjba hass hlast
      rw [hz] at hjbc hass
      rw [hass] at hjxc
      obtain ⟨y, hy⟩ : ∃ y, join ⟨ak, an⟩ z = y := ⟨_, rfl⟩
      rw [hy] at hjxc hjaz
      clear hass hx hy hz
      obtain ⟨xk, xn⟩ := x
      obtain ⟨yk, yn⟩ := y
      obtain ⟨zk, zn⟩ := z
      have hnx := fun W => neq_val ⟨xk, xn⟩ ⟨xk, xn⟩ W
      have hna := fun W => neq_val ⟨ak, an⟩ ⟨ak, an⟩ W
      have hny := fun W => neq_val ⟨yk, yn⟩ ⟨yk, yn⟩ W
      have hea := fun W => eql_val ⟨ak, an⟩ ⟨bk, bn⟩ W
      have hxv := fun W => eql_val ⟨xk, xn⟩ ⟨2, 0⟩ W
      simp only [Vl.agg, decide_true, Bool.not_true] at hjab hjba hjaa hjbc hjan hjxc hjaz hnx hna hny hea hxv
      clear hk hlt
      have hl4 : w.heap.size + 4 ≤ wr.heap.size := by have := HS.out; have := hbw.size; omega
      have hbr := hB1.trans (hbw.mono hB1.size)
      have ka := (hbw.block _ (by have := HS.out; omega)).trans ga
      have kb := (hbw.block _ (by have := HS.out; omega)).trans gb
      have kc := (hbw.block _ (by have := HS.out; omega)).trans gc
      clear ga gb gc hbw hB1
      have a0 := cell_of_heap ka 0 (.int .i64 ak) rfl
      have a1 := cell_of_heap ka 1 (.int .i64 an) rfl
      have b0 := cell_of_heap kb 0 (.int .i64 bk) rfl
      have b1 := cell_of_heap kb 1 (.int .i64 bn) rfl
      have c0 := cell_of_heap kc 0 (.int .i64 ck) rfl
      have c1 := cell_of_heap kc 1 (.int .i64 cn) rfl
      clear ka kb kc wa wb wc
      go_upto_region 8 with (first
        | (go_at_call 20; (with_reducible refine (hjab _).mono ?_); rintro e w5 ⟨rfl, hb5⟩))
      have hb6 := hb5.trans ((Below.one w5 (.cells #[.int .i64 xk, .int .i64 xn] 28)).mono hb5.size)
      have kx := heap_alloc_new w5 (.cells #[.int .i64 xk, .int .i64 xn] 28)
      have hl6 : w.heap.size + 4 ≤ (w5.alloc (.cells #[.int .i64 xk, .int .i64 xn] 28)).heap.size := by have := hb6.size; omega
      have a0 := (hb6.cell (p := ⟨w.heap.size, 0, none⟩) (by simp only; omega)).trans a0
      have a1 := (hb6.cell (p := ⟨w.heap.size, 1, none⟩) (by simp only; omega)).trans a1
      have b0 := (hb6.cell (p := ⟨w.heap.size + 1, 0, none⟩) (by simp only; omega)).trans b0
      have b1 := (hb6.cell (p := ⟨w.heap.size + 1, 1, none⟩) (by simp only; omega)).trans b1
      have c0 := (hb6.cell (p := ⟨w.heap.size + 1 + 1, 0, none⟩) (by simp only; omega)).trans c0
      have c1 := (hb6.cell (p := ⟨w.heap.size + 1 + 1, 1, none⟩) (by simp only; omega)).trans c1
      have hbr6 := hbr.trans (hb6.mono hbr.size)
      have x0 := cell_of_heap kx 0 (.int .i64 xk) rfl
      have x1 := cell_of_heap kx 1 (.int .i64 xn) rfl
      generalize w5.alloc (.cells #[.int .i64 xk, .int .i64 xn] 28) = W6 at *
      clear kx hb6 hb5 hbr hl4
      have la0 := fun s : Later W6 => Later.cell a0 s
      have la1 := fun s : Later W6 => Later.cell a1 s
      have lb0 := fun s : Later W6 => Later.cell b0 s
      have lb1 := fun s : Later W6 => Later.cell b1 s
      have lc0 := fun s : Later W6 => Later.cell c0 s
      have lc1 := fun s : Later W6 => Later.cell c1 s
      have lx0 := fun s : Later W6 => Later.cell x0 s
      have lx1 := fun s : Later W6 => Later.cell x1 s
      have HLAST := Lib.hid hlast
      clear hlast
      refine wp_region_later (by kernel_rfl) (by kernel_rfl) ?_
      repeat (go_big_quiet_step ((go_at_call 20; first | (with_reducible exact Calls.later (hjba _)) | (with_reducible exact Calls.later (hjaa _)) | (with_reducible exact Calls.later (hjbc _)) | (with_reducible exact Calls.later (hjxc _)) | (with_reducible exact Calls.later (hjaz _)) | (with_reducible exact Calls.later (hjan _)))))
      refine wpQuiet_nil ?_
      rintro w7 ⟨s', rfl⟩
      have a0 := la0 s'
      have a1 := la1 s'
      have b0 := lb0 s'
      have b1 := lb1 s'
      have x0 := lx0 s'
      have x1 := lx1 s'
      have hbr7 := hbr6.trans (s'.h.mono hbr6.size)
      clear la0 la1 lb0 lb1 lc0 lc1 lx0 lx1 hjab hjba hjaa hjbc hjan hjxc hjaz hnx hna hny c0 c1
      generalize s'.w = W7 at *
      by_cases h1 : (⟨ak, an⟩ : Vl) = ⟨bk, bn⟩
      · rw [decide_eq_true h1] at hea
        clear h1
        go_wp2_with (first
          | (go_at_call 19; refine (HA.out _).mono ?_; rintro e w9 ⟨rfl, hb9⟩))
        go_returns
        exact ⟨rfl, hbr7.trans (hb9.mono hbr7.size)⟩
      rw [decide_eq_false h1] at hea
      by_cases h2 : ak = 0
      · have q2 : (ak == 0) = true := by simpa using h2
        clear h1 h2
        go_wp2_with (first
          | (go_at_call 19; refine (HA.out _).mono ?_; rintro e w9 ⟨rfl, hb9⟩))
        go_returns
        exact ⟨rfl, hbr7.trans (hb9.mono hbr7.size)⟩
      have q2 : (ak == 0) = false := by simpa using h2
      by_cases h3 : bk = 0
      · have q3 : (bk == 0) = true := by simpa using h3
        clear h1 h2 h3
        go_wp2_with (first
          | (go_at_call 19; refine (HA.out _).mono ?_; rintro e w9 ⟨rfl, hb9⟩))
        go_returns
        exact ⟨rfl, hbr7.trans (hb9.mono hbr7.size)⟩
      have q3 : (bk == 0) = false := by simpa using h3
      rw [decide_eq_true (HLAST.out h1 h2 h3)] at hxv
      clear h1 h2 h3
      go_wp2_with (first
        | (go_at_call 19; refine (HA.out _).mono ?_; rintro e w9 ⟨rfl, hb9⟩))
      go_returns
      exact ⟨rfl, hbr7.trans (hb9.mono hbr7.size)⟩
end Go.Proofs.Ytaofdbboalcceaa
