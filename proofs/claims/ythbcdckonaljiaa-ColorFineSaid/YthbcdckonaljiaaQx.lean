import Derived.Test.YthbcdckonaljiaaQj
namespace Go.Proofs.Ythbcdckonaljiaa
open Go.RowKit Go.BigFrame

theorem ins_len14 (i : Ins) : (Ins.l i).length = 15 := rfl
theorem flatI_get14 : ∀ (v : List Ins) (j k : Nat), k < 15 → (v.flatMap Ins.l)[j * 15 + k]? = (v[j]?).bind fun x => (Ins.l x)[k]?
  | [], j, k, _ => by simp
  | x::v, 0, k, hk => by
    rw [List.flatMap_cons, List.getElem?_append_left (by rw [ins_len14]; omega)]
    simp
  | x::v, j + 1, k, hk => by
    rw [List.flatMap_cons, List.getElem?_append_right (by rw [ins_len14]; omega)]
    have h := flatI_get14 v j k hk
    rw [show (j + 1) * 15 + k - (Ins.l x).length = j * 15 + k by rw [ins_len14]; omega, h]
    simp
abbrev awC0 : Ins := ⟨1, 0, 0, 0, 0, 0, ⟨#[]⟩, 0, 0, 0, 0, 0, 0, 0, -1⟩
abbrev awC1 : Ins := ⟨1, 0, 1, 0, 0, 0, ⟨#[]⟩, 0, 0, 0, 0, 0, 0, 0, -1⟩
abbrev awC2 : Ins := ⟨3, 1, 2, 0, 1, 0, ⟨#[]⟩, 0, 0, 0, 0, 0, 0, 0, -1⟩
abbrev awC3 : Ins := ⟨13, 0, -1, 2, 0, 0, ⟨#[]⟩, 0, 0, 0, 0, 0, 0, 0, -1⟩
def awC : Fn7 := ⟨⟨#[102]⟩, 0, 3, 0, [awC0, awC1, awC2, awC3]⟩
theorem awC_ok : OkF awC := by
  refine ⟨by decide, by decide, by decide, by decide, by decide, fun i hi => ?_, fun i hi => ?_⟩
  · have hi : i = awC0 ∨ i = awC1 ∨ i = awC2 ∨ i = awC3 := by simpa [awC] using hi
    rcases hi with rfl | rfl | rfl | rfl
    · exact ⟨by decide, by decide, by decide, by decide, by decide, by decide, by decide, by decide, by decide, by decide, by decide⟩
    · exact ⟨by decide, by decide, by decide, by decide, by decide, by decide, by decide, by decide, by decide, by decide, by decide⟩
    · exact ⟨by decide, by decide, by decide, by decide, by decide, by decide, by decide, by decide, by decide, by decide, by decide⟩
    · exact ⟨by decide, by decide, by decide, by decide, by decide, by decide, by decide, by decide, by decide, by decide, by decide⟩
  · obtain rfl : awC3 = i := by simpa [awC] using hi
    decide
theorem awC_nowait (r : Int) : ¬ WaP awC r := by
  rintro ⟨p, i, h, h8, _⟩
  have hi : i ∈ awC.code := List.mem_of_getElem? h
  have hi : i = awC0 ∨ i = awC1 ∨ i = awC2 ∨ i = awC3 := by simpa [awC] using hi
  rcases hi with rfl | rfl | rfl | rfl <;> simp at h8
theorem awC_meet : MeP awC 0 ((1 : Nat) : Int) := by
  refine Or.inl ⟨1, awC1, by decide, rfl, by decide, by decide, Or.inr ⟨by decide, ⟨awC1, rfl, 2, by decide, ?_⟩, by decide⟩⟩
  exact Lv.use (i := awC2) (show awC.code[2]? = some awC2 from rfl) (by decide)
theorem awC_col : ∃ p0 p1 p2 : Nat, clF awC = [(p0 : Int), (p1 : Int), (p2 : Int)] ∧ p0 ≠ p1 ∧ p0 ≤ 2 ∧ p1 ≤ 2 ∧ p2 ≤ 2 := by
  obtain ⟨h1, h2, h3⟩ := clF_fine awC_ok
  have hR : awC.R.toNat = 3 := by decide
  rw [hR] at h1 h2 h3
  have hfr : ∀ r, frm awC r = 0 := fun r => by unfold frm; rw [if_neg (awC_nowait r)]
  have hle : ∀ r : Nat, r < 3 → ∃ p : Nat, (clF awC)[r]? = some (p : Int) ∧ p ≤ 2 := fun r hr => by
    obtain ⟨p, h4, _, h6⟩ := h2 r hr
    refine ⟨p, h4, ?_⟩
    have := h6 ((List.range 3).erase r) (fun o ho => by
      have hb := ho.bd awC_ok
      rw [hR] at hb
      have hne : o ≠ r := fun e => by
        subst e
        rcases ho with ⟨q, i, _, _, h5⟩ | ⟨h5, _⟩ | ⟨h5, _⟩
        · exact h5.2.1 rfl
        · exact h5 rfl
        · exact h5 rfl
      exact (List.mem_erase_of_ne hne).2 (by rw [List.mem_range]; omega))
    rw [hfr, List.length_erase_of_mem (by rw [List.mem_range]; exact hr)] at this
    simpa using this
  obtain ⟨p0, a0, b0⟩ := hle 0 (by omega)
  obtain ⟨p1, a1, b1⟩ := hle 1 (by omega)
  obtain ⟨p2, a2, b2⟩ := hle 2 (by omega)
  refine ⟨p0, p1, p2, ?_, ?_, b0, b1, b2⟩
  · apply List.ext_getElem?
    intro j
    match j with
    | 0 => rw [a0]; rfl
    | 1 => rw [a1]; rfl
    | 2 => rw [a2]; rfl
    | j + 3 => rw [List.getElem?_eq_none (by omega)]; rfl
  · intro e
    exact h3 0 1 (by omega) (by omega) awC_meet (by rw [a0, a1, e])
theorem flatR {W : World} {b : Nat} (l : List Ins) (h : W.heap[b]? = some (.cells (l.flatMap Ins.l).toArray 31 (0, 0))) : RdI W (some ⟨b, 0, none⟩) l := fun j x hx => by
  refine ⟨b, 0, rfl, (Array.getElem?_eq_some_iff.1 h).1, fun k hk => ?_⟩
  have := flatI_get14 l j k hk
  rw [hx] at this
  rw [Nat.zero_add]
  unfold World.cell?
  simp only [h]
  simpa using this
theorem alloc5c (w : World) (a b c d e : Obj) : (((((w.alloc a).alloc b).alloc c).alloc d).alloc e).heap[w.heap.size + 1 + 1 + 1 + 1]? = some e := by
  have h := heap_alloc_new ((((w.alloc a).alloc b).alloc c).alloc d) e
  rwa [show ((((w.alloc a).alloc b).alloc c).alloc d).heap.size = w.heap.size + 1 + 1 + 1 + 1 by simp] at h
def AwR (W : World) (b : Nat) : Prop := RdI W (some ⟨b, 0, none⟩) awC.code
theorem awR_of (W : World) (b : Nat) (h : W.heap[b]? = some (.cells #[.int .i64 1, .int .i64 0, .int .i64 0, .int .i64 0, .int .i64 0, .int .i64 0, .string ⟨#[]⟩, .int .i64 0, .int .i64 0, .int .i64 0, .int .i64 0, .int .i64 0, .int .i64 0, .int .i64 0, .int .i64 (-1), .int .i64 1, .int .i64 0, .int .i64 1, .int .i64 0, .int .i64 0, .int .i64 0, .string ⟨#[]⟩, .int .i64 0, .int .i64 0, .int .i64 0, .int .i64 0, .int .i64 0, .int .i64 0, .int .i64 0, .int .i64 (-1), .int .i64 3, .int .i64 1, .int .i64 2, .int .i64 0, .int .i64 1, .int .i64 0, .string ⟨#[]⟩, .int .i64 0, .int .i64 0, .int .i64 0, .int .i64 0, .int .i64 0, .int .i64 0, .int .i64 0, .int .i64 (-1), .int .i64 13, .int .i64 0, .int .i64 (-1), .int .i64 2, .int .i64 0, .int .i64 0, .string ⟨#[]⟩, .int .i64 0, .int .i64 0, .int .i64 0, .int .i64 0, .int .i64 0, .int .i64 0, .int .i64 0, .int .i64 (-1)] 31 (0, 0))) : AwR W b := flatR awC.code h
theorem awOf_any (W : World) (b : Nat) (h : AwR W b) :
    Calls Try.prog 13 #[.agg #[.string ⟨#[102]⟩, .int .i64 0, .int .i64 3, .int .i64 0, .slice (some ⟨b, 0, none⟩) 4 4]] W fun e w' => (∃ ob, e = .returned (.slice (some ⟨ob, 0, none⟩) 3 3) ∧ PC w' ob (clF awC)) ∧ Below W.heap.size W w' :=
  (Of_yes awC awC_ok (by decide) (some ⟨b, 0, none⟩) 4 W h).mono fun e w' ⟨⟨ob, he, _, hP⟩, hb⟩ => ⟨⟨ob, he, hP⟩, hb⟩
theorem awFine_any (W : World) (b ob : Nat) (h : AwR W b) (hP : PC W ob (clF awC)) :
    Calls Try.prog 15 #[.agg #[.string ⟨#[102]⟩, .int .i64 0, .int .i64 3, .int .i64 0, .slice (some ⟨b, 0, none⟩) 4 4], .slice (some ⟨ob, 0, none⟩) 3 3] W fun e w' => e = .returned (.bool true) ∧ Below W.heap.size W w' :=
  Fine_yes awC awC_ok (clF awC) (clF_fn awC_ok) ob 3 (some ⟨b, 0, none⟩) 4 W h hP
theorem awSlots_any (W : World) (ob : Nat) (hP : PC W ob (clF awC)) :
    Calls Try.prog 18 #[.slice (some ⟨ob, 0, none⟩) 3 3] W fun e w' => e = .returned (.int .i64 0) ∧ Below W.heap.size W w' := by
  obtain ⟨p0, p1, p2, he, _, h0, h1, h2⟩ := awC_col
  have hb : ∀ x ∈ clF awC, 0 ≤ x ∧ x ≤ 5 := fun x hx => by
    rw [he] at hx
    simp only [List.mem_cons, List.not_mem_nil, or_false] at hx
    omega
  have hs := slF_bd (clF awC) 0 (by omega) (fun x hx => by have := hb x hx; omega)
  refine (Slots_any (clF awC) ob 3 3 (by rw [he]; rfl) (by omega) (fun x hx => by have := hb x hx; omega) W hP).mono fun e w' ⟨h3, h4⟩ => ⟨?_, by rw [h4]; exact Below.refl _ _⟩
  rw [h3, show slF (clF awC) = 0 by omega]
theorem awLight_any (W : World) : Calls Try.prog 37 #[.complex .f64 4611686018427387904 4607182418800017408] W fun e w' => e = .returned (.int .i64 10) ∧ Below W.heap.size W w' := by
  have h2 : FV 4611686018427387904 2 := by
    rw [show (4611686018427387904 : Nat) = fW 2 by decide]; exact fW_fv 2 (by decide)
  have h1 : FV 4607182418800017408 1 := by
    rw [show (4607182418800017408 : Nat) = fW 1 by decide]; exact fW_fv 1 (by decide)
  exact (Light_any _ _ 2 1 h2 h1 (by decide) (by decide) W).mono fun e w' ⟨h3, h4⟩ => ⟨by rw [h3]; rfl, by rw [h4]; exact Below.refl _ _⟩
theorem below6c (w : World) (a b c d e f : Obj) : Below w.heap.size w ((((((w.alloc a).alloc b).alloc c).alloc d).alloc e).alloc f) := by
  have h1 := Below.one w a
  have h2 := h1.trans ((Below.one _ b).mono h1.size)
  have h3 := h2.trans ((Below.one _ c).mono h2.size)
  have h4 := h3.trans ((Below.one _ d).mono h3.size)
  have h5 := h4.trans ((Below.one _ e).mono h4.size)
  exact h5.trans ((Below.one _ f).mono h5.size)
theorem alloc6c (w : World) (a b c d e f : Obj) : ((((((w.alloc a).alloc b).alloc c).alloc d).alloc e).alloc f).heap[w.heap.size + 1 + 1 + 1 + 1]? = some e := by
  have h := alloc5c w a b c d e
  exact ((Below.one _ f).block _ (Array.getElem?_eq_some_iff.1 h).1).trans h
theorem alloc6d (w : World) (a b c d e f : Obj) : ((((((w.alloc a).alloc b).alloc c).alloc d).alloc e).alloc f).heap[w.heap.size + 1 + 1 + 1 + 1 + 1]? = some f := by
  have h := heap_alloc_new (((((w.alloc a).alloc b).alloc c).alloc d).alloc e) f
  rwa [show (((((w.alloc a).alloc b).alloc c).alloc d).alloc e).heap.size = w.heap.size + 1 + 1 + 1 + 1 + 1 by simp] at h
def AwF (W : World) (fb b : Nat) : Prop := W.heap[fb]? = some (.cells #[.string ⟨#[102]⟩, .int .i64 0, .int .i64 3, .int .i64 0, .slice (some ⟨b, 0, none⟩) 4 4] 26 (0, 0))
theorem awOf2_any (W : World) (b fb : Nat) (h : AwR W b) (hf : AwF W fb b) :
    Calls Try.prog 13 #[.agg #[.string ⟨#[102]⟩, .int .i64 0, .int .i64 3, .int .i64 0, .slice (some ⟨b, 0, none⟩) 4 4]] W fun e w' => (∃ ob, e = .returned (.slice (some ⟨ob, 0, none⟩) 3 3) ∧ PC w' ob (clF awC) ∧ AwR w' b ∧ AwF w' fb b) ∧ Below W.heap.size W w' :=
  (awOf_any W b h).mono fun _ _ ⟨⟨ob, he, hP⟩, hb⟩ => ⟨⟨ob, he, hP, RdI.below h hb, (hb.block _ (Array.getElem?_eq_some_iff.1 hf).1).trans hf⟩, hb⟩
set_option maxRecDepth 1000000 in
set_option maxHeartbeats 16000000 in
theorem awake14_any (w : World) : Calls Try.prog 12 #[] w fun e w' => e = .returned (.bool true) ∧ Below w.heap.size w w' := by
  have hpla := fun k W => Plain_any k W
  simp only [Ins.agg] at hpla
  go_enter Try.func12, Try.ntmps12
  go_wp2_with fail
  refine (hpla _ _).mono ?_
  rintro e w1 ⟨rfl, hb1⟩
  go_wp2_with fail
  refine (hpla _ _).mono ?_
  rintro e w2 ⟨rfl, hb2⟩
  go_wp2_with fail
  refine (hpla _ _).mono ?_
  rintro e w3 ⟨rfl, hb3⟩
  go_wp2_with fail
  refine (hpla _ _).mono ?_
  rintro e w4 ⟨rfl, hb4⟩
  have hb := ((hb1.trans (hb2.mono hb1.size)).trans (hb3.mono (Nat.le_trans hb1.size hb2.size))).trans (hb4.mono (Nat.le_trans (Nat.le_trans hb1.size hb2.size) hb3.size))
  clear hb1 hb2 hb3 hb4
  go_wp2_with fail
  refine (awOf2_any _ _ (w4.heap.size + 1 + 1 + 1 + 1 + 1) (awR_of _ _ (alloc6c _ _ _ _ _ _ _)) (alloc6d _ _ _ _ _ _ _)).mono ?_
  rintro e w5 ⟨⟨ob, rfl, hP, hR, hF⟩, hb5⟩
  have hb6 := below6c w4 _ _ _ _ _ _ |>.trans (hb5.mono (below6c w4 _ _ _ _ _ _).size)
  have HB := Lib.hid (hb.trans (hb6.mono hb.size))
  have HP := Lib.hid hP
  have HR := Lib.hid hR
  obtain ⟨p0, p1, p2, hcl, hne, _, _, _⟩ := awC_col
  obtain ⟨q0, hq0⟩ : ∃ q : Int, (p0 : Int) = q := ⟨_, rfl⟩
  obtain ⟨q1, hq1⟩ : ∃ q : Int, (p1 : Int) = q := ⟨_, rfl⟩
  have c0 := HP.out.cell (j := 0) (v := q0) (by rw [hcl, ← hq0]; rfl)
  have c1 := HP.out.cell (j := 1) (v := q1) (by rw [hcl, ← hq1]; rfl)
  have f0 := cell_of_heap hF 0 _ rfl
  have f1 := cell_of_heap hF 1 _ rfl
  have f2 := cell_of_heap hF 2 _ rfl
  have f3 := cell_of_heap hF 3 _ rfl
  have f4 := cell_of_heap hF 4 _ rfl
  have hn1 : (q0 == q1) = false := by rw [beq_eq_false_iff_ne]; omega
  have hn2 : ¬ q0 = q1 := by omega
  have hn3 : (q0 != q1) = true := by rw [bne_iff_ne]; omega
  clear hq0 hq1 hb hb5 hb6 hP hR hF hcl hne hpla
  dsimp only
  go_upto_region 5 with fail
  have s0 := fun s : Later w5 => Later.cell c0 s
  have s1 := fun s : Later w5 => Later.cell c1 s
  have s2 := fun s : Later w5 => Later.cell f0 s
  have s3 := fun s : Later w5 => Later.cell f1 s
  have s4 := fun s : Later w5 => Later.cell f2 s
  have s5 := fun s : Later w5 => Later.cell f3 s
  have s6 := fun s : Later w5 => Later.cell f4 s
  clear c0 c1 f0 f1 f2 f3 f4
  refine wp_region_later (by kernel_rfl) (by kernel_rfl) ?_
  iterate 12 (go_big_quiet_step (fail))
  iterate 15 (go_big_quiet_step (first | (go_at_call 15; exact Calls.later (awFine_any _ _ _ (RdI.below HR.out (Later.h _)) (Pre.later HP.out (Later.h _)))) | (go_at_call 18; exact Calls.later (awSlots_any _ _ (Pre.later HP.out (Later.h _)))) | (go_at_call 37; exact Calls.later (awLight_any _))))
  refine wpQuiet_nil ?_
  rintro w9 ⟨s', rfl⟩
  have HB9 := Lib.hid (HB.out.trans (s'.h.mono HB.out.size))
  go_wp2
  go_returns
  exact ⟨rfl, HB9.out⟩
end Go.Proofs.Ythbcdckonaljiaa
