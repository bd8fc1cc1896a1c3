import Derived.Test.YtdoeinccnfggiaaDoorPc
import Derived.Test.YtdoeinccnfggiaaDoorPd
import Derived.Test.YtdoeinccnfggiaaDoorRy
namespace Go.Proofs.YtdoeinccnfggiaaDoor
open Go.RowKit Go.BigFrame

theorem TG.step {T : List Ty} {Ds : List (ByteArray × List Fld)} {K K' B : Nat} (h : TG T K' B) (hB : B ≤ 100000) {s : Stp} (hs : s.name.size ≤ 100) : TG (stepT T Ds K s).1 (K' + 1) (B + 200) := by
  have hstr : TG (strL T s.name).1 (K' + 1) (B + 200) := by
    unfold strL
    by_cases he : s.name = ⟨#[]⟩
    · rw [if_pos he]; exact h.more
    · rw [if_neg he]; exact h.putL hB _ (.inr (.inl ⟨rfl, hs⟩))
  unfold stepT
  by_cases h0 : s.verb = 0
  · rw [if_pos h0]
    unfold ptrL
    by_cases hi : (atT T s.elem).isSome
    · rw [if_pos hi]
      have := atT_range hi
      exact h.putL hB _ (.inl ⟨rfl, this.1, this.2⟩)
    · rw [if_neg hi]; exact h.more
  · rw [if_neg h0]
    by_cases h1 : s.verb = 1
    · rw [if_pos h1]
      simp only
      unfold arrL
      by_cases a1 : (atT T s.elem).isSome = false
      · rw [if_pos a1]; exact h.more
      · rw [if_neg a1]
        have hr := atT_range (T := T) (n := s.elem) (by cases hh : (atT T s.elem).isSome; exact absurd hh a1; rfl)
        by_cases a2 : (YtdoeinccnfggiaaDoor.sz T (look Ds) K s.elem).2 = false
        · rw [if_pos a2]; exact h.more
        · rw [if_neg a2]
          by_cases a3 : s.n < 1 ∨ 1024 < s.n ∨ 4096 < (YtdoeinccnfggiaaDoor.sz T (look Ds) K s.elem).1 * s.n
          · rw [if_pos a3]; exact h.more
          · rw [if_neg a3]
            exact h.putL hB _ (.inr (.inr ⟨rfl, hr.1, hr.2, by simp only; omega, by simp only; omega⟩))
    · rw [if_neg h1]
      by_cases h2 : s.verb = 2
      · rw [if_pos h2]; exact hstr
      · rw [if_neg h2]
        by_cases h3 : s.verb = 3
        · rw [if_pos h3]; exact hstr
        · rw [if_neg h3]; exact h.more
/-- what holds in each world behind the document's box -/
structure Aft (w w1 : World) (p : Nat) (F X : Nat → Prop) (a b : Value) (T : List Ty) (Ds : List (ByteArray × List Fld)) : Prop where
  c0 : w1.cell? ⟨w.heap.size, 0, none⟩ = some a
  c1 : w1.cell? ⟨w.heap.size, 1, none⟩ = some b
  tb : Tb w1 p F T (look Ds)
  rt : RT w1 (fun k => F k ∨ X k) (.agg #[a, b]) T Ds
  tab : Tab w1
  below : Below w.heap.size w w1
set_option maxRecDepth 1000000 in
set_option maxHeartbeats 8000000 in
/-- what both tables show of a number that is there is the same -/
theorem is_in {w : World} {p : Nat} {F X : Nat → Prop} {v : Value} {T : List Ty} {Ds : List (ByteArray × List Fld)} {K m K' B : Nat} (h : Both w p F X v T Ds) (hi : Inv T Ds K m) (hm : m ≤ 1000) (hg : TG T K' B) (hTab : Tab w) (k : Nat) (x : Ty) (hx : T[k]? = some x) (s : ByteArray) :
    Calls Tryd.prog 23 #[.pointer (some ⟨p, 0, none⟩), v, .int .i64 k, .string s] w fun e w' => e = .returned (.bool true) ∧ Below w.heap.size w w' := by
  have hDs : Ds.length ≤ 1000 := Nat.le_trans hi.most hm
  obtain ⟨A, cA, B, cB, rfl, h1, _⟩ := id h.rt
  have hax : atT T (k : Int) = some x := atT_lt hx
  obtain ⟨bL, rfl, hbL, _, g0, g1, g2, g3⟩ := h1 k x hx
  have hkL := (List.getElem?_eq_some_iff.1 hx).1
  obtain ⟨L, hL⟩ : ∃ L, T.length = L := ⟨_, rfl⟩
  obtain ⟨L2, hL2⟩ : ∃ L2, Ds.length = L2 := ⟨_, rfl⟩
  rw [hL] at hkL
  rw [hL, hL2] at h ⊢
  have HL := Lib.hid hL
  clear hL hL2
  have hbb := Below.one w (oT (some ⟨bL, 0, none⟩) L cA B L2 cB)
  have q0 := heap_alloc_new w (oT (some ⟨bL, 0, none⟩) L cA B L2 cB)
  obtain ⟨W, hW⟩ : ∃ W, w.alloc (oT (some ⟨bL, 0, none⟩) L cA B L2 cB) = W := ⟨_, rfl⟩
  rw [hW] at q0 hbb
  have hafter : ∀ w1, Below W.heap.size W w1 → Aft w w1 p F X (.slice (some ⟨bL, 0, none⟩) L cA) (.slice B L2 cB) T Ds := fun w1 hb => by
    have hh := (hb.block _ (Array.getElem?_eq_some_iff.1 q0).1).trans q0
    have hbw := hbb.trans (hb.mono hbb.size)
    exact ⟨cell_of_heap hh 0 _ rfl, cell_of_heap hh 1 _ rfl, h.tb.below hbw, h.rt.below hi.ne hbw, hTab.below hbw, hbw⟩
  have a00 := (hafter W (Below.refl _ _)).c0
  have ha := at_any (hafter W (Below.refl _ _)).tb (k : Int)
  rw [hax] at ha
  have hd1 := (deep_more K (k : Int) (hi.good.dp k)).2
  have hsz := fun w1 hb => size_any (K + 1) (k : Int) w1 (hafter w1 hb).tb hd1
  have hrsz := fun w1 hb => refSize_any hi.ne hDs hi.few (K + 1) (k : Int) w1 (hafter w1 hb).rt hd1
  have hfl := fun w1 hb => field_any (hafter w1 hb).tb K (k : Int) s hd1
  have hrfl := fun w1 hb => refField_any (hafter w1 hb).rt hi.ne hDs hi.few K (k : Int) s hd1
  have htx := fun w1 hb => text_any K' (k : Int) w1 (hafter w1 hb).tb (hafter w1 hb).tab (hg.dp k)
  have hrtx := fun w1 hb => refText_any hi.ne hg.ar K' (k : Int) w1 (hafter w1 hb).rt (hg.dp k)
  have hsc := fun w1 hb => scalar_any (hafter w1 hb).tb (k : Int)
  have hlen := fun w1 hb => len_any (hafter w1 hb).tb
  have hpos : (sz T (look Ds) (K + 1) (k : Int)).2 = decide (0 < (sz T (look Ds) (K + 1) (k : Int)).1) := Bool.eq_iff_iff.2 (by simpa using hi.good.more.pos (k : Int))
  unfold scalarT at hsc
  rw [hax] at hsc
  rw [HL.out] at hlen
  obtain ⟨x1, x2, x3, x4⟩ := x
  simp only [Option.getD_some, Option.isSome_some, Ty.agg] at ha hsc
  clear hd1 hax hx
  generalize sz T (look Ds) (K + 1) (k : Int) = S at *
  obtain ⟨S1, S2⟩ := S
  simp only at hpos hsz hrsz
  generalize fieldT T (look Ds) K (k : Int) s = Z at *
  obtain ⟨Z1, Z2, Z3⟩ := Z
  simp only at hfl hrfl
  generalize tx T K' (k : Int) = t at *
  have hrow : ∀ w1, Below W.heap.size W w1 → w1.cell? ⟨bL, k * 4, none⟩ = some (.int .i64 x1) ∧ w1.cell? ⟨bL, k * 4 + 1, none⟩ = some (.int .i64 x2) ∧ w1.cell? ⟨bL, k * 4 + 2, none⟩ = some (.int .i64 x3) ∧ w1.cell? ⟨bL, k * 4 + 3, none⟩ = some (.string x4) := fun w1 hb => by
    have hb' := (hafter w1 hb).below
    exact ⟨(hb'.cell (p := ⟨bL, _, none⟩) hbL).trans g0, (hb'.cell (p := ⟨bL, _, none⟩) hbL).trans g1, (hb'.cell (p := ⟨bL, _, none⟩) hbL).trans g2, (hb'.cell (p := ⟨bL, _, none⟩) hbL).trans g3⟩
  have heq : ∀ w, (binOp .eql 51 (Ty.agg ⟨x1, x2, x3, x4⟩) (Ty.agg ⟨x1, x2, x3, x4⟩)).run Tryd.prog w = .ok (.bool true) w := fun w => by rw [eql_ty, tyEq_self]
  simp only [Ty.agg] at heq
  have hqW : W.heap.size = w.heap.size + 1 := by rw [← hW]; simp
  have hcase : (decide (x1 ≥ 1) = true ∧ decide (x1 ≤ 4) = true ∧ decide (1 ≤ x1) = true) ∨ (decide (x1 ≥ 1) = true ∧ decide (x1 ≤ 4) = false ∧ decide (1 ≤ x1) = true) ∨ (decide (x1 ≥ 1) = false ∧ decide (1 ≤ x1) = false) := by
    by_cases c1 : x1 ≥ 1 <;> by_cases c2 : x1 ≤ 4 <;> simp [c1, c2]
  clear g0 g1 g2 g3 h1
  rcases hcase with ⟨n1, n2, n3⟩ | ⟨n1, n2, n3⟩ | ⟨n1, n3⟩
  all_goals
    go_enter Tryd.func23, Tryd.ntmps23
    go_wp2_with (first
      | (go_at_call 19; refine ha.mono ?_; rintro e w1 ⟨rfl, hb1⟩; have hB1 := hb1.alloc hb1.size (.cells #[.int .i64 x1, .int .i64 x2, .int .i64 x3, .string x4] 51); have bx := heap_alloc_new w1 (.cells #[.int .i64 x1, .int .i64 x2, .int .i64 x3, .string x4] 51))
      | (go_at_call 14; refine (hsz _ hB1).mono ?_; rintro e w2 ⟨rfl, hb2⟩; have hB2 := hB1.trans (hb2.mono hB1.size); have bx2 := (hb2.block _ (Array.getElem?_eq_some_iff.1 bx).1).trans bx)
      | (go_at_call 15; refine (hfl _ hB2).mono ?_; rintro e w3 ⟨rfl, hb3⟩; have hB3 := hB2.trans (hb3.mono hB2.size); have bx3 := (hb3.block _ (Array.getElem?_eq_some_iff.1 bx2).1).trans bx2; have a03 := (hafter _ hB3).c0; have a13 := (hafter _ hB3).c1)
      | (go_at_call 32; refine (hrfl _ hB3).mono ?_; rintro e w4 ⟨rfl, hb4⟩; have hB4 := hB3.trans (hb4.mono hB3.size); have a04 := (hafter _ hB4).c0; have a14 := (hafter _ hB4).c1; have hBz := hB4.alloc hB4.size (.cells #[.int .i64 0, .int .i64 0, .int .i64 0, .string ⟨#[]⟩] 51); have a0z := (hafter _ hBz).c0; have a1z := (hafter _ hBz).c1; obtain ⟨r0, r1, r2, r3⟩ := hrow _ hBz; have hBb := hB4.alloc hB4.size (.cells #[.int .i64 x1, .int .i64 x2, .int .i64 x3, .string x4] 51); have a0b := (hafter _ hBb).c0; have a1b := (hafter _ hBb).c1; have bx4 := alloc_keeps ((hb4.block _ (Array.getElem?_eq_some_iff.1 bx3).1).trans bx3) (.cells #[.int .i64 x1, .int .i64 x2, .int .i64 x3, .string x4] 51); have x0' := cell_of_heap bx4 0 (.int .i64 x1) rfl; have x1' := cell_of_heap bx4 1 (.int .i64 x2) rfl; have x2' := cell_of_heap bx4 2 (.int .i64 x3) rfl; have x3' := cell_of_heap bx4 3 (.string x4) rfl; have bw := heap_alloc_new w4 (.cells #[.int .i64 x1, .int .i64 x2, .int .i64 x3, .string x4] 51)))
    generalize w1.heap.size = xb at *
    have y0 := cell_of_heap bw 0 (.int .i64 x1) rfl
    have y1 := cell_of_heap bw 1 (.int .i64 x2) rfl
    have y2 := cell_of_heap bw 2 (.int .i64 x3) rfl
    have y3 := cell_of_heap bw 3 (.string x4) rfl
    generalize w4.heap.size = yb at *
    generalize w4.alloc (.cells #[.int .i64 x1, .int .i64 x2, .int .i64 x3, .string x4] 51) = W9 at *
    have lb := fun s : Later W9 => hBb.trans (s.h.mono hBb.size)
    have l0 := fun s : Later W9 => (hafter s.w (lb s)).c0
    have l1 := fun s : Later W9 => (hafter s.w (lb s)).c1
    have lx0 := Later.cell x0'
    have lx1 := Later.cell x1'
    have lx2 := Later.cell x2'
    have lx3 := Later.cell x3'
    have ly0 := Later.cell y0
    have ly1 := Later.cell y1
    have ly2 := Later.cell y2
    have ly3 := Later.cell y3
    have c33 := fun s : Later W9 => hrsz s.w (lb s)
    have c22 := fun s : Later W9 => htx s.w (lb s)
    have c34 := fun s : Later W9 => hrtx s.w (lb s)
    have c24 := fun s : Later W9 => hsc s.w (lb s)
    have c18 := fun s : Later W9 => (hlen s.w (lb s)).mono (R' := fun e w' => e = .returned (.int .i64 L) ∧ Below s.w.heap.size s.w w') fun e w' hh => ⟨hh.1, hh.2 ▸ Below.refl _ _⟩
    simp only [List.append_eq, List.cons_append, List.nil_append]
    refine wp_region_later (by kernel_rfl) (by kernel_rfl) ?_
    repeat (go_big_quiet_step ((first | (go_at_call 33; exact Calls.later (c33 _)) | (go_at_call 22; exact Calls.later (c22 _)) | (go_at_call 34; exact Calls.later (c34 _)) | (go_at_call 24; exact Calls.later (c24 _)) | (go_at_call 18; exact Calls.later (c18 _)))))
    refine wpQuiet_nil ?_
    rintro w5 ⟨s', rfl⟩
    have hB5 := (hafter s'.w (lb s')).below
    generalize s'.w = w5 at *
    go_wp2
    go_returns
    exact ⟨rfl, hB5⟩
end Go.Proofs.YtdoeinccnfggiaaDoor
