import Derived.Test.YtaofdbboalcceaaFx
/- The law's own 'behind': what an instruction sets, by what is known ahead. -/
namespace Go.Proofs.Ytaofdbboalcceaa
open Go.RowKit Go.BigFrame

theorem setV_any {i : Ins} {v : List Vl} (h : i.kind ≠ 1 ∧ i.kind ≠ 4 ∧ i.kind ≠ 2 ∧ i.kind ≠ 3) : setV i v = (av, true) := by
  unfold setV
  rw [if_neg h.1, if_neg h.2.1, if_neg (by omega)]
set_option maxRecDepth 1000000 in
set_option maxHeartbeats 4000000 in
theorem behind_any (i : Ins) (v : List Vl) {R : Nat} {Fr : Int} {L : Nat} (hi : Ok i R Fr L) (hl : v.length = R) (hv : rok v) (A : Option Addr) (cap : Nat) (w : World) (hA : RdV w A v) : Calls Try.prog 25 #[i.agg, .slice A R cap] w fun e w' => SetT i v e ∧ Below w.heap.size w w' := by
  have hB := (Below.one w i.obj).alloc (by simp) (setV i v).1.obj
  have ha := hi.a_in
  have hb := hi.b_in
  have hat : ∀ r : Nat, r < R → ∃ b o x, at_ v r = x ∧ x.ok ∧ A = some ⟨b, o, none⟩ ∧ b < w.heap.size ∧ w.cell? ⟨b, o + r * 2, none⟩ = some (.int .i64 x.k) ∧ w.cell? ⟨b, o + r * 2 + 1, none⟩ = some (.int .i64 x.n) := fun r hr => by
    obtain ⟨b, o, h1, h2, h3, h4⟩ := hA r (at_ v r) (by rw [at_in (by omega)]; simp)
    exact ⟨b, o, _, rfl, hv.at_ (by omega), h1, h2, h3, h4⟩
  unfold SetT
  obtain ⟨k, op, dst, a, b, n, text, r0, r1, r2, r3, r4, r5, to_, els⟩ := i
  simp only [Ins.agg, Ins.obj, Vl.obj, Vl.agg] at hB ha hb ⊢
  by_cases h1 : k = 1
  · subst h1
    clear ha hb hat hi
    rw [show setV ⟨1, op, dst, a, b, n, text, r0, r1, r2, r3, r4, r5, to_, els⟩ v = (⟨1, n⟩, true) from rfl] at hB ⊢
    go_enter Try.func25, Try.ntmps25
    go_wp2
    (try simp only [Exit.inBlock, Exit.then])
    refine bodyPost_ret (by simp [results, Try.results25, go_sem]; try rfl) rfl ?_
    exact ⟨rfl, hB⟩
  by_cases h4 : k = 4
  · subst h4
    obtain ⟨ha0, ha1⟩ := ha rfl
    obtain ⟨m, rfl⟩ : ∃ m : Nat, a = m := ⟨a.toNat, by omega⟩
    obtain ⟨bb, o, x, hx, _, rfl, hlt, c0, c1⟩ := hat m (by omega)
    rw [show setV ⟨4, op, dst, (m : Int), b, n, text, r0, r1, r2, r3, r4, r5, to_, els⟩ v = (x, true) by rw [← hx]; rfl] at hB ⊢
    have q1 : m < R := by omega
    clear hb hat hi h1 hx hA ha ha0 ha1
    go_enter Try.func25, Try.ntmps25
    go_wp2
    (try simp only [Exit.inBlock, Exit.then])
    refine bodyPost_ret (by simp [results, Try.results25, go_sem]; try rfl) rfl ?_
    exact ⟨rfl, hB⟩
  by_cases h23 : k = 2 ∨ k = 3
  · have hka : kA k = true := by rcases h23 with e | e <;> rw [e] <;> rfl
    obtain ⟨ha0, ha1⟩ := ha hka
    obtain ⟨m, rfl⟩ : ∃ m : Nat, a = m := ⟨a.toNat, by omega⟩
    obtain ⟨bb, o, x, hx, hxo, rfl, hlt, c0, c1⟩ := hat m (by omega)
    have q1 : m < R := by omega
    have hsv : ∀ y, bval ⟨k, op, dst, (m : Int), b, n, text, r0, r1, r2, r3, r4, r5, to_, els⟩ v = y → setV ⟨k, op, dst, (m : Int), b, n, text, r0, r1, r2, r3, r4, r5, to_, els⟩ v = if x.k = 2 ∨ y.k = 2 then (av, true) else (⟨1, (dov op x.n y.n).1⟩, (dov op x.n y.n).2) := fun y hy => by
      unfold setV
      rw [if_neg h1, if_neg h4, if_pos h23, hy, show at_ v (Int.toNat (m : Int)) = x from hx]
    obtain ⟨xk, xn⟩ := x
    simp only at c0 c1
    by_cases h2 : k = 2
    · subst h2
      rw [hsv ⟨1, 0⟩ (by simp only [bval]; exact if_neg (by decide))] at hB ⊢
      have hx12 : xk = 1 ∨ xk = 2 := by
        rcases hxo with e | e
        · exact Or.inl e
        · injection e with e; exact Or.inr e
      clear hsv hb hat hi h1 h4 hx hxo hA ha ha0 ha1 h23 hka
      rcases hx12 with rfl | rfl
      · rw [if_neg (by simp)] at hB ⊢
        have hdo := fun w => refdo_any op xn 0 w
        simp only at hB ⊢ hdo
        generalize dov op xn 0 = dd at *
        obtain ⟨dn, db⟩ := dd
        simp only at hB hdo ⊢
        have hk1 := alloc_keeps (alloc_keeps (heap_alloc_new (w.alloc (.cells #[.int .i64 2, .int .i64 op, .int .i64 dst, .int .i64 m, .int .i64 b, .int .i64 n, .string text, .int .i64 r0, .int .i64 r1, .int .i64 r2, .int .i64 r3, .int .i64 r4, .int .i64 r5, .int .i64 to_, .int .i64 els] 38)) (.cells #[.int .i64 0, .int .i64 0] 28)) (.cells #[.int .i64 1, .int .i64 xn] 28)) (.cells #[.int .i64 1, .int .i64 0] 28)
        have hBW := (((Below.one w (.cells #[.int .i64 2, .int .i64 op, .int .i64 dst, .int .i64 m, .int .i64 b, .int .i64 n, .string text, .int .i64 r0, .int .i64 r1, .int .i64 r2, .int .i64 r3, .int .i64 r4, .int .i64 r5, .int .i64 to_, .int .i64 els] 38)).alloc (by simp) (.cells #[.int .i64 0, .int .i64 0] 28)).alloc (by simp; omega) (.cells #[.int .i64 1, .int .i64 xn] 28)).alloc (by simp; omega) (.cells #[.int .i64 1, .int .i64 0] 28)
        rw [show (w.alloc (.cells #[.int .i64 2, .int .i64 op, .int .i64 dst, .int .i64 m, .int .i64 b, .int .i64 n, .string text, .int .i64 r0, .int .i64 r1, .int .i64 r2, .int .i64 r3, .int .i64 r4, .int .i64 r5, .int .i64 to_, .int .i64 els] 38)).heap.size = w.heap.size + 1 by simp] at hk1
        go_enter Try.func25, Try.ntmps25
        go_wp2_with (first
          | (go_at_call 29; refine (hdo _).mono ?_; rintro e w3 ⟨rfl, hb3⟩; have hk3 := (hb3.block _ (Array.getElem?_eq_some_iff.1 hk1).1).trans hk1; have hlt3 := (Array.getElem?_eq_some_iff.1 hk3).1; have hz0 := cell_of_heap (setRow_heap _ _ _ #[.int .i64 1, .int .i64 dn] _ _ hk3) 0 (.int .i64 1) rfl; have hz1 := cell_of_heap (setRow_heap _ _ _ #[.int .i64 1, .int .i64 dn] _ _ hk3) 1 (.int .i64 dn) rfl)
          | (show wpList Try.prog _ _ (⟨none, .store _ (.tmp 4) (.tmp 61), _, _, _, _⟩ :: _) _ _; refine wpList_store_row rfl 28 (.tmp 4) (.tmp 61) rfl (w.heap.size + 1) #[.int .i64 1, .int .i64 dn] rfl rfl 28 _ hk3 sVal rfl (val_one _ _) ?_))
        (try simp only [Exit.inBlock, Exit.then])
        refine bodyPost_ret (by simp [results, Try.results25, go_sem, hz0, hz1]; try rfl) rfl ?_
        exact ⟨rfl, below_setRow (hBW.trans (hb3.mono hBW.size)) (by omega) _⟩
      · rw [if_pos (Or.inl rfl)] at hB ⊢
        go_enter Try.func25, Try.ntmps25
        go_wp2
        (try simp only [Exit.inBlock, Exit.then])
        refine bodyPost_ret (by simp [results, Try.results25, go_sem]; try rfl) rfl ?_
        exact ⟨rfl, (hB.alloc (by simp; omega) _).alloc (by simp; omega) _⟩
    · obtain rfl : k = 3 := by omega
      obtain ⟨hb0, hb1⟩ := hb rfl
      obtain ⟨m', rfl⟩ : ∃ m' : Nat, b = m' := ⟨b.toNat, by omega⟩
      obtain ⟨bb', o', y, hy, hyo, e1, _, d0, d1⟩ := hat m' (by omega)
      injection e1 with e1
      injection e1 with e2 e3
      subst e2 e3
      have q2 : m' < R := by omega
      rw [hsv y (by simp only [bval]; rw [if_pos trivial]; exact hy)] at hB ⊢
      obtain ⟨yk, yn⟩ := y
      simp only at d0 d1
      have hB4 := (((Below.one w (.cells #[.int .i64 3, .int .i64 op, .int .i64 dst, .int .i64 m, .int .i64 m', .int .i64 n, .string text, .int .i64 r0, .int .i64 r1, .int .i64 r2, .int .i64 r3, .int .i64 r4, .int .i64 r5, .int .i64 to_, .int .i64 els] 38)).alloc (by simp) (.cells #[.int .i64 0, .int .i64 0] 28)).alloc (by simp; omega) (.cells #[.int .i64 xk, .int .i64 xn] 28)).alloc (by simp; omega) (.cells #[.int .i64 1, .int .i64 0] 28)
      have hd0 := (hB4.cell (p := ⟨bb, _, none⟩) hlt).trans d0
      have hd1 := (hB4.cell (p := ⟨bb, _, none⟩) hlt).trans d1
      have hx12 : xk = 1 ∨ xk = 2 := by
        rcases hxo with e | e
        · exact Or.inl e
        · injection e with e; exact Or.inr e
      have hy12 : yk = 1 ∨ yk = 2 := by
        rcases hyo with e | e
        · exact Or.inl e
        · injection e with e; exact Or.inr e
      clear hsv hb hat hi h1 h4 hx hxo hA ha ha0 ha1 h23 hka hy hyo h2 hb0 hb1
      rcases hx12 with rfl | rfl
      · rcases hy12 with rfl | rfl
        · rw [if_neg (by simp)] at hB ⊢
          have hdo := fun w => refdo_any op xn yn w
          simp only at hB ⊢ hdo
          generalize dov op xn yn = dd at *
          obtain ⟨dn, db⟩ := dd
          simp only at hB hdo ⊢
          have hk1 := alloc_keeps (alloc_keeps (heap_alloc_new (w.alloc (.cells #[.int .i64 3, .int .i64 op, .int .i64 dst, .int .i64 m, .int .i64 m', .int .i64 n, .string text, .int .i64 r0, .int .i64 r1, .int .i64 r2, .int .i64 r3, .int .i64 r4, .int .i64 r5, .int .i64 to_, .int .i64 els] 38)) (.cells #[.int .i64 0, .int .i64 0] 28)) (.cells #[.int .i64 1, .int .i64 xn] 28)) (.cells #[.int .i64 1, .int .i64 yn] 28)
          have hBW := (((Below.one w (.cells #[.int .i64 3, .int .i64 op, .int .i64 dst, .int .i64 m, .int .i64 m', .int .i64 n, .string text, .int .i64 r0, .int .i64 r1, .int .i64 r2, .int .i64 r3, .int .i64 r4, .int .i64 r5, .int .i64 to_, .int .i64 els] 38)).alloc (by simp) (.cells #[.int .i64 0, .int .i64 0] 28)).alloc (by simp; omega) (.cells #[.int .i64 1, .int .i64 xn] 28)).alloc (by simp; omega) (.cells #[.int .i64 1, .int .i64 yn] 28)
          rw [show (w.alloc (.cells #[.int .i64 3, .int .i64 op, .int .i64 dst, .int .i64 m, .int .i64 m', .int .i64 n, .string text, .int .i64 r0, .int .i64 r1, .int .i64 r2, .int .i64 r3, .int .i64 r4, .int .i64 r5, .int .i64 to_, .int .i64 els] 38)).heap.size = w.heap.size + 1 by simp] at hk1
          go_enter Try.func25, Try.ntmps25
          go_wp2_with (first
            | (go_at_call 29; refine (hdo _).mono ?_; rintro e w3 ⟨rfl, hb3⟩; have hk3 := (hb3.block _ (Array.getElem?_eq_some_iff.1 hk1).1).trans hk1; have hlt3 := (Array.getElem?_eq_some_iff.1 hk3).1; have hz0 := cell_of_heap (setRow_heap _ _ _ #[.int .i64 1, .int .i64 dn] _ _ hk3) 0 (.int .i64 1) rfl; have hz1 := cell_of_heap (setRow_heap _ _ _ #[.int .i64 1, .int .i64 dn] _ _ hk3) 1 (.int .i64 dn) rfl)
            | (show wpList Try.prog _ _ (⟨none, .store _ (.tmp 4) (.tmp 61), _, _, _, _⟩ :: _) _ _; refine wpList_store_row rfl 28 (.tmp 4) (.tmp 61) rfl (w.heap.size + 1) #[.int .i64 1, .int .i64 dn] rfl rfl 28 _ hk3 sVal rfl (val_one _ _) ?_))
          (try simp only [Exit.inBlock, Exit.then])
          refine bodyPost_ret (by simp [results, Try.results25, go_sem, hz0, hz1]; try rfl) rfl ?_
          exact ⟨rfl, below_setRow (hBW.trans (hb3.mono hBW.size)) (by omega) _⟩
        · rw [if_pos (Or.inr rfl)] at hB ⊢
          go_enter Try.func25, Try.ntmps25
          go_wp2
          (try simp only [Exit.inBlock, Exit.then])
          refine bodyPost_ret (by simp [results, Try.results25, go_sem]; try rfl) rfl ?_
          exact ⟨rfl, (hB.alloc (by simp; omega) _).alloc (by simp; omega) _⟩
      · rw [if_pos (Or.inl rfl)] at hB ⊢
        go_enter Try.func25, Try.ntmps25
        go_wp2
        (try simp only [Exit.inBlock, Exit.then])
        refine bodyPost_ret (by simp [results, Try.results25, go_sem]; try rfl) rfl ?_
        exact ⟨rfl, (hB.alloc (by simp; omega) _).alloc (by simp; omega) _⟩
  · rw [setV_any ⟨h1, h4, by simp only; omega, by simp only; omega⟩] at hB ⊢
    have q2 : (k == 2) = false := by simp; omega
    have q3 : (k == 3) = false := by simp; omega
    have q1 : (k == 1) = false := by simp; omega
    have q4 : (k == 4) = false := by simp; omega
    clear hb hat hi h1 h4 hA ha h23
    go_enter Try.func25, Try.ntmps25
    go_wp2
    (try simp only [Exit.inBlock, Exit.then])
    refine bodyPost_ret (by simp [results, Try.results25, go_sem]; try rfl) rfl ?_
    exact ⟨rfl, hB⟩
end Go.Proofs.Ytaofdbboalcceaa
