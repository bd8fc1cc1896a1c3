import Derived.Test.YtdoeinccnfggiaaDoorPe
namespace Go.Proofs.YtdoeinccnfggiaaDoor
open Go.RowKit Go.BigFrame

set_option maxRecDepth 1000000 in
set_option maxHeartbeats 8000000 in
/-- what both tables show of a number that is not there is the same -/
theorem is_out {w : World} {p : Nat} {F X : Nat → Prop} {v : Value} {T : List Ty} {Ds : List (ByteArray × List Fld)} {K m K' B : Nat} (h : Both w p F X v T Ds) (hi : Inv T Ds K m) (hm : m ≤ 1000) (hg : TG T K' B) (hTab : Tab w) (n : Int) (hx : atT T n = none) (s : ByteArray) :
    Calls Tryd.prog 23 #[.pointer (some ⟨p, 0, none⟩), v, .int .i64 n, .string s] w fun e w' => e = .returned (.bool true) ∧ Below w.heap.size w w' := by
  have hDs : Ds.length ≤ 1000 := Nat.le_trans hi.most hm
  obtain ⟨A, cA, B, cB, rfl, h1, _⟩ := id h.rt
  have hr : n < 0 ∨ (0 ≤ n ∧ (T.length : Int) ≤ n) := by
    by_cases h0 : n < 0
    · exact .inl h0
    · by_cases h1 : n < T.length
      · exfalso
        unfold atT at hx
        rw [if_pos ⟨by omega, h1⟩] at hx
        have : n.toNat < T.length := by omega
        simp [this] at hx
      · exact .inr ⟨by omega, by omega⟩
  obtain ⟨L, hL⟩ : ∃ L, T.length = L := ⟨_, rfl⟩
  obtain ⟨L2, hL2⟩ : ∃ L2, Ds.length = L2 := ⟨_, rfl⟩
  rw [hL] at hr
  rw [hL, hL2] at h ⊢
  have HL := Lib.hid hL
  clear hL hL2
  have hbb := Below.one w (oT A L cA B L2 cB)
  have q0 := heap_alloc_new w (oT A L cA B L2 cB)
  obtain ⟨W, hW⟩ : ∃ W, w.alloc (oT A L cA B L2 cB) = W := ⟨_, rfl⟩
  rw [hW] at q0 hbb
  have hafter : ∀ w1, Below W.heap.size W w1 → Aft w w1 p F X (.slice A L cA) (.slice B L2 cB) T Ds := fun w1 hb => by
    have hh := (hb.block _ (Array.getElem?_eq_some_iff.1 q0).1).trans q0
    have hbw := hbb.trans (hb.mono hbb.size)
    exact ⟨cell_of_heap hh 0 _ rfl, cell_of_heap hh 1 _ rfl, h.tb.below hbw, h.rt.below hi.ne hbw, hTab.below hbw, hbw⟩
  have a00 := (hafter W (Below.refl _ _)).c0
  have ha := at_any (hafter W (Below.refl _ _)).tb n
  rw [hx] at ha
  have hd1 := (deep_more K n (hi.good.dp n)).2
  have hsz := fun w1 hb => size_any (K + 1) n w1 (hafter w1 hb).tb hd1
  have hrsz := fun w1 hb => refSize_any hi.ne hDs hi.few (K + 1) n w1 (hafter w1 hb).rt hd1
  have hfl := fun w1 hb => field_any (hafter w1 hb).tb K n s hd1
  have hrfl := fun w1 hb => refField_any (hafter w1 hb).rt hi.ne hDs hi.few K n s hd1
  have htx := fun w1 hb => text_any K' n w1 (hafter w1 hb).tb (hafter w1 hb).tab (hg.dp n)
  have hrtx := fun w1 hb => refText_any hi.ne hg.ar K' n w1 (hafter w1 hb).rt (hg.dp n)
  have hsc := fun w1 hb => scalar_any (hafter w1 hb).tb n
  have hlen := fun w1 hb => len_any (hafter w1 hb).tb
  have hpos : (sz T (look Ds) (K + 1) n).2 = decide (0 < (sz T (look Ds) (K + 1) n).1) := Bool.eq_iff_iff.2 (by simpa using hi.good.more.pos n)
  unfold scalarT at hsc
  rw [hx] at hsc
  rw [HL.out] at hlen
  simp only [Option.getD_none, Option.isSome_none, Ty.agg] at ha hsc
  have hk0 : (decide ((1 : Int) ≤ 0) && decide ((0 : Int) ≤ 4)) = false := by decide
  rw [hk0] at hsc
  clear hd1 hx hk0
  generalize sz T (look Ds) (K + 1) n = S at *
  obtain ⟨S1, S2⟩ := S
  simp only at hpos hsz hrsz
  generalize fieldT T (look Ds) K n s = Z at *
  obtain ⟨Z1, Z2, Z3⟩ := Z
  simp only at hfl hrfl
  generalize tx T K' n = t at *
  have heq : ∀ w, (binOp .eql 51 (Ty.agg ⟨0, 0, 0, ⟨#[]⟩⟩) (Ty.agg ⟨0, 0, 0, ⟨#[]⟩⟩)).run Tryd.prog w = .ok (.bool true) w := fun w => by rw [eql_ty, tyEq_self]
  simp only [Ty.agg] at heq
  have hqW : W.heap.size = w.heap.size + 1 := by rw [← hW]; simp
  have hcase : (decide (n ≥ 0) = false ∧ decide (0 ≤ n) = false) ∨ (decide (n ≥ 0) = true ∧ decide (0 ≤ n) = true ∧ decide (n < (L : Int)) = false) := by
    rcases hr with h | ⟨h, h'⟩
    · exact .inl ⟨by simp; omega, by simp; omega⟩
    · exact .inr ⟨by simpa using h, by simpa using h, by simp; omega⟩
  clear h1 hr
  rcases hcase with ⟨n1, n2⟩ | ⟨n1, n2, n3⟩
  all_goals
    go_enter Tryd.func23, Tryd.ntmps23
    go_wp2_with (first
      | (go_at_call 19; refine ha.mono ?_; rintro e w1 ⟨rfl, hb1⟩; have hB1 := hb1.alloc hb1.size (.cells #[.int .i64 0, .int .i64 0, .int .i64 0, .string ⟨#[]⟩] 51); have bx := heap_alloc_new w1 (.cells #[.int .i64 0, .int .i64 0, .int .i64 0, .string ⟨#[]⟩] 51))
      | (go_at_call 14; refine (hsz _ hB1).mono ?_; rintro e w2 ⟨rfl, hb2⟩; have hB2 := hB1.trans (hb2.mono hB1.size); have bx2 := (hb2.block _ (Array.getElem?_eq_some_iff.1 bx).1).trans bx)
      | (go_at_call 15; refine (hfl _ hB2).mono ?_; rintro e w3 ⟨rfl, hb3⟩; have hB3 := hB2.trans (hb3.mono hB2.size); have bx3 := (hb3.block _ (Array.getElem?_eq_some_iff.1 bx2).1).trans bx2; have a03 := (hafter _ hB3).c0; have a13 := (hafter _ hB3).c1)
      | (go_at_call 32; refine (hrfl _ hB3).mono ?_; rintro e w4 ⟨rfl, hb4⟩; have hB4 := hB3.trans (hb4.mono hB3.size); have a04 := (hafter _ hB4).c0; have a14 := (hafter _ hB4).c1;  have hBb := hB4.alloc hB4.size (.cells #[.int .i64 0, .int .i64 0, .int .i64 0, .string ⟨#[]⟩] 51); have a0b := (hafter _ hBb).c0; have a1b := (hafter _ hBb).c1; have bx4 := alloc_keeps ((hb4.block _ (Array.getElem?_eq_some_iff.1 bx3).1).trans bx3) (.cells #[.int .i64 0, .int .i64 0, .int .i64 0, .string ⟨#[]⟩] 51); have x0' := cell_of_heap bx4 0 (.int .i64 0) rfl; have x1' := cell_of_heap bx4 1 (.int .i64 0) rfl; have x2' := cell_of_heap bx4 2 (.int .i64 0) rfl; have x3' := cell_of_heap bx4 3 (.string ⟨#[]⟩) rfl; have bw := heap_alloc_new w4 (.cells #[.int .i64 0, .int .i64 0, .int .i64 0, .string ⟨#[]⟩] 51)))
    generalize w1.heap.size = xb at *
    have y0 := cell_of_heap bw 0 (.int .i64 0) rfl
    have y1 := cell_of_heap bw 1 (.int .i64 0) rfl
    have y2 := cell_of_heap bw 2 (.int .i64 0) rfl
    have y3 := cell_of_heap bw 3 (.string ⟨#[]⟩) rfl
    generalize w4.heap.size = yb at *
    generalize w4.alloc (.cells #[.int .i64 0, .int .i64 0, .int .i64 0, .string ⟨#[]⟩] 51) = W9 at *
    have lb := fun s : Later W9 => hBb.trans (s.h.mono hBb.size)
    have l0 := fun s : Later W9 => (hafter s.w (lb s)).c0
    have l1 := fun s : Later W9 => (hafter s.w (lb s)).c1
    have lx0 := Later.cell x0'
    have lx1 := Later.cell x1'
    have lx2 := Later.cell x2'
    have lx3 := Later.cell x3'
    have ly0 := Later.cell y0
    have ly1 := Later.cell y1
    have ly2 := Later.cell y2
    have ly3 := Later.cell y3
    have c33 := fun s : Later W9 => hrsz s.w (lb s)
    have c22 := fun s : Later W9 => htx s.w (lb s)
    have c34 := fun s : Later W9 => hrtx s.w (lb s)
    have c24 := fun s : Later W9 => hsc s.w (lb s)
    have c18 := fun s : Later W9 => (hlen s.w (lb s)).mono (R' := fun e w' => e = .returned (.int .i64 L) ∧ Below s.w.heap.size s.w w') fun e w' hh => ⟨hh.1, hh.2 ▸ Below.refl _ _⟩
    simp only [List.append_eq, List.cons_append, List.nil_append]
    refine wp_region_later (by kernel_rfl) (by kernel_rfl) ?_
    repeat (go_big_quiet_step ((first | (go_at_call 33; exact Calls.later (c33 _)) | (go_at_call 22; exact Calls.later (c22 _)) | (go_at_call 34; exact Calls.later (c34 _)) | (go_at_call 24; exact Calls.later (c24 _)) | (go_at_call 18; exact Calls.later (c18 _)))))
    refine wpQuiet_nil ?_
    rintro w5 ⟨s', rfl⟩
    have hB5 := (hafter s'.w (lb s')).below
    generalize s'.w = w5 at *
    go_wp2
    go_returns
    exact ⟨rfl, hB5⟩
end Go.Proofs.YtdoeinccnfggiaaDoor
