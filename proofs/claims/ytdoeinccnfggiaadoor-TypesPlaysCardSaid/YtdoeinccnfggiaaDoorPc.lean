import Derived.Test.YtdoeinccnfggiaaDoorPb
import Derived.Test.YtdoeinccnfggiaaDoorRf
namespace Go.Proofs.YtdoeinccnfggiaaDoor
open Go.RowKit Go.BigFrame

set_option maxRecDepth 1000000 in
set_option maxHeartbeats 4000000 in
/-- the document's Text -/
theorem refText_any {F : Nat → Prop} {v : Value} {T : List Ty} {Ds : List (ByteArray × List Fld)} (hne : ∀ d ∈ Ds, 0 < d.2.length) (har : ∀ (i : Nat) x, T[i]? = some x → x.kind = 5 → 1 ≤ x.n ∧ x.n ≤ 1024) : ∀ (k : Nat) (n : Int) (w : World), RT w F v T Ds → tdeep T k n → Calls Tryd.prog 34 #[v, .int .i64 n] w fun e w' =>
    e = .returned (.string (tx T k n)) ∧ Below w.heap.size w w'
  | 0, _, _, _, hd => hd.elim
  | k + 1, n, w, h, hd => by
    have ih := fun m w => refText_any (F := F) (v := v) (T := T) (Ds := Ds) hne har k m w
    obtain ⟨A, cap, B, cap2, rfl, h1, h2⟩ := id h
    obtain ⟨L, hL⟩ : ∃ L, T.length = L := ⟨_, rfl⟩
    obtain ⟨L2, hL2⟩ : ∃ L2, Ds.length = L2 := ⟨_, rfl⟩
    rw [hL, hL2] at ih h ⊢
    have HTL := Lib.hid hL
    clear hL hL2
    have hbb := Below.one w (oT A L cap B L2 cap2)
    have q0 := heap_alloc_new w (oT A L cap B L2 cap2)
    obtain ⟨W, hW⟩ : ∃ W, w.alloc (oT A L cap B L2 cap2) = W := ⟨_, rfl⟩
    rw [hW] at q0 hbb
    have a0 := cell_of_heap q0 0 (.slice A L cap) rfl
    have a1 := cell_of_heap q0 1 (.slice B L2 cap2) rfl
    have hi := refIs_any (h.below hne hbb) n
    have hafter : ∀ w1, Below W.heap.size W w1 → w1.cell? ⟨w.heap.size, 0, none⟩ = some (.slice A L cap) ∧ w1.cell? ⟨w.heap.size, 1, none⟩ = some (.slice B L2 cap2) ∧ RT w1 F (.agg #[.slice A L cap, .slice B L2 cap2]) T Ds ∧ Below w.heap.size w w1 := fun w1 hb => by
      have hh := (hb.block _ (Array.getElem?_eq_some_iff.1 q0).1).trans q0
      exact ⟨cell_of_heap hh 0 _ rfl, cell_of_heap hh 1 _ rfl, (h.below hne hbb).below hne hb, hbb.trans (hb.mono hbb.size)⟩
    unfold tx
    unfold tdeep at hd
    cases hx : atT T n with
    | none =>
      rw [hx] at hi
      clear ih hd hx
      go_enter Tryd.func34, Tryd.ntmps34
      go_wp2_with (first
        | (go_at_call 36; refine hi.mono ?_; rintro e w1 ⟨rfl, hb1⟩))
      go_returns
      exact ⟨rfl, (hafter w1 hb1).2.2.2⟩
    | some x =>
      obtain ⟨hd4, hd5, hd6, hd3⟩ := hd x hx
      clear hd
      rw [hx] at hi
      obtain ⟨m, rfl, hm⟩ := atT_get hx
      have har5 := har m x hm
      clear hx har
      simp only [Option.isSome_some] at hi
      obtain ⟨b, rfl, hblt, _, c0, c1, c2, c3⟩ := h1 m x hm
      obtain ⟨x1, x2, x3, x4⟩ := x
      simp only at hd3 hd4 hd5 hd6 har5 c0 c1 c2 c3 ⊢
      have hrow : ∀ w1, Below W.heap.size W w1 → w1.cell? ⟨b, m * 4, none⟩ = some (.int .i64 x1) ∧ w1.cell? ⟨b, m * 4 + 1, none⟩ = some (.int .i64 x2) ∧ w1.cell? ⟨b, m * 4 + 2, none⟩ = some (.int .i64 x3) ∧ w1.cell? ⟨b, m * 4 + 3, none⟩ = some (.string x4) := fun w1 hb => by
        have hb' := hbb.trans (hb.mono hbb.size)
        exact ⟨(hb'.cell (p := ⟨b, _, none⟩) hblt).trans c0, (hb'.cell (p := ⟨b, _, none⟩) hblt).trans c1, (hb'.cell (p := ⟨b, _, none⟩) hblt).trans c2, (hb'.cell (p := ⟨b, _, none⟩) hblt).trans c3⟩
      have hmL : (m : Int) < (L : Int) := by
        have h9 := (List.getElem?_eq_some_iff.1 hm).1
        rw [HTL.out] at h9
        omega
      clear hm
      by_cases h4 : x1 = 4
      · subst h4
        rw [if_pos rfl]
        obtain ⟨e1, e2⟩ := hd4 rfl
        have ih4 := fun w hw => ih x2 w hw e1
        clear hd3 hd4 hd5 hd6 ih e1
        generalize tx T k x2 = s at *
        have hsum : s.size + 1 ≤ 9223372036854775807 := by omega
        go_enter Tryd.func34, Tryd.ntmps34
        go_wp2_with (first
          | (go_at_call 36; refine hi.mono ?_; rintro e w1 ⟨rfl, hb1⟩; obtain ⟨a2, a3, hR1, hBw⟩ := hafter w1 hb1; obtain ⟨d0, d1, d2, d3⟩ := hrow w1 hb1; have hb1a := hb1.alloc hb1.size (.cells #[.int .i64 4, .int .i64 x2, .int .i64 x3, .string x4] 51); obtain ⟨a4, a5, hR2, hBw2⟩ := hafter _ hb1a)
          | (go_at_call 34; refine (ih4 _ hR2).mono ?_; rintro e w2 ⟨rfl, hb2⟩))
        go_returns
        exact ⟨rfl, hBw2.trans (hb2.mono hBw2.size)⟩
      · rw [if_neg h4]
        by_cases h5 : x1 = 5
        · subst h5
          rw [if_pos rfl]
          obtain ⟨⟨e1, e2⟩, e3, e4, e5⟩ := hd5 rfl
          obtain ⟨g1, g2⟩ := har5 rfl
          have ih5 := fun w hw => ih x2 w hw e1
          obtain ⟨z, rfl⟩ : ∃ z : Nat, x3 = z := ⟨x3.toNat, by omega⟩
          have hnum : (⟨(Lib.itoa (z : Int)).toArray⟩ : ByteArray) = numB z := by unfold numB; rw [Lib.itoa_nonneg]
          rw [hnum]
          have hI := fun w => digits_any 4 z w (by omega) (by omega)
          have e6 := numB_size 4 z (by omega)
          clear hnum hd3 hd4 hd5 hd6 ih e1 har5 e3 e4 e5
          generalize tx T k x2 = s at *
          generalize numB z = ar at *
          have hsum1 : s.size + 1 ≤ 9223372036854775807 := by omega
          have hsum2 : s.size + 1 + ar.size ≤ 9223372036854775807 := by omega
          have hsum3 : s.size + 1 + ar.size + 1 ≤ 9223372036854775807 := by omega
          go_enter Tryd.func34, Tryd.ntmps34
          go_wp2_with (first
            | (go_at_call 36; refine hi.mono ?_; rintro e w1 ⟨rfl, hb1⟩; obtain ⟨a2, a3, hR1, hBw⟩ := hafter w1 hb1; obtain ⟨d0, d1, d2, d3⟩ := hrow w1 hb1; have hb1a := hb1.alloc hb1.size (.cells #[.int .i64 5, .int .i64 x2, .int .i64 z, .string x4] 51)))
          have hx1 := cell_of_heap (heap_alloc_new w1 (.cells #[.int .i64 5, .int .i64 x2, .int .i64 z, .string x4] 51)) 1 (.int .i64 x2) rfl
          have hx2 := cell_of_heap (heap_alloc_new w1 (.cells #[.int .i64 5, .int .i64 x2, .int .i64 z, .string x4] 51)) 2 (.int .i64 z) rfl
          generalize w1.heap.size = q at *
          generalize w1.alloc (.cells #[.int .i64 5, .int .i64 x2, .int .i64 z, .string x4] 51) = W1 at *
          have lb := fun s : Later W1 => hb1a.trans (s.h.mono hb1a.size)
          have l0 := fun s : Later W1 => (hafter s.w (lb s)).1
          have l3 := fun s : Later W1 => (hafter s.w (lb s)).2.1
          have l1 := Later.cell hx1
          have l2 := Later.cell hx2
          have c1 := fun s : Later W1 => ih5 s.w (hafter s.w (lb s)).2.2.1
          have c2 := fun s : Later W1 => hI s.w
          refine wp_region_later (by kernel_rfl) (by kernel_rfl) ?_
          repeat (go_big_quiet_step ((first | (go_at_call 34; exact Calls.later (c1 _)) | (go_at_call 40; exact Calls.later (c2 _)))))
          refine wpQuiet_nil ?_
          rintro w2 ⟨s', rfl⟩
          have hb2 := (hafter s'.w (lb s')).2.2.2
          generalize s'.w = w2 at *
          go_wp2
          go_returns
          exact ⟨rfl, hb2⟩
        · rw [if_neg h5]
          have q4 : (x1 == 4) = false := by simpa using h4
          have q5 : (x1 == 5) = false := by simpa using h5
          by_cases h6 : x1 = 6
          · subst h6
            rw [if_pos rfl]
            have e1 := hd6 rfl
            clear ih hd3 hd4 hd5 hd6
            go_enter Tryd.func34, Tryd.ntmps34
            go_wp2_with (first
              | (go_at_call 36; refine hi.mono ?_; rintro e w1 ⟨rfl, hb1⟩; obtain ⟨a2, a3, hR1, hBw⟩ := hafter w1 hb1; obtain ⟨d0, d1, d2, d3⟩ := hrow w1 hb1))
            go_returns
            exact ⟨rfl, hBw.alloc hBw.size _⟩
          · rw [if_neg h6]
            obtain ⟨e1, e2⟩ := hd3 h4 h5 h6
            have hc : x1 = 0 ∨ x1 = 1 ∨ x1 = 2 ∨ x1 = 3 := by omega
            clear ih hd3 hd4 hd5 hd6 har5 q4 q5 h4 h5 h6 e1 e2
            rcases hc with rfl | rfl | rfl | rfl
            all_goals
              go_enter Tryd.func34, Tryd.ntmps34
              go_wp2_with (first
                | (go_at_call 36; refine hi.mono ?_; rintro e w1 ⟨rfl, hb1⟩; obtain ⟨a2, a3, hR1, hBw⟩ := hafter w1 hb1; obtain ⟨d0, d1, d2, d3⟩ := hrow w1 hb1))
              go_returns
              exact ⟨rfl, (hBw.alloc hBw.size _).alloc (by have := hBw.size; simp; omega) _⟩
end Go.Proofs.YtdoeinccnfggiaaDoor
