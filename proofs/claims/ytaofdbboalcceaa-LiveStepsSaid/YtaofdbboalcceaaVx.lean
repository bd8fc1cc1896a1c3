import Derived.Test.YtaofdbboalcceaaVr
/- LiveRegisters: its inner loop. -/
namespace Go.Proofs.Ytaofdbboalcceaa
open Go.RowKit Go.BigFrame

theorem sorted_ext : ∀ {l m : List Int}, l.Pairwise (· < ·) → m.Pairwise (· < ·) → (∀ x, x ∈ l ↔ x ∈ m) → l = m
  | [], [], _, _, _ => rfl
  | [], y :: m, _, _, h => by have := (h y).2 (by simp); cases this
  | x :: l, [], _, _, h => by have := (h x).1 (by simp); cases this
  | x :: l, y :: m, h1, h2, h => by
    rw [List.pairwise_cons] at h1 h2
    have hxy : x = y := by
      have a := (h x).1 (by simp)
      have b := (h y).2 (by simp)
      rcases List.mem_cons.1 a with a | a
      · exact a
      · rcases List.mem_cons.1 b with b | b
        · exact b.symm
        · have := h1.1 y b
          have := h2.1 x a
          omega
    subst hxy
    rw [sorted_ext h1.2 h2.2 (fun z => by
      constructor
      · intro hz
        rcases List.mem_cons.1 ((h z).1 (List.mem_cons_of_mem _ hz)) with e | e
        · subst e; have := h1.1 z hz; omega
        · exact e
      · intro hz
        rcases List.mem_cons.1 ((h z).2 (List.mem_cons_of_mem _ hz)) with e | e
        · subst e; have := h2.1 z hz; omega
        · exact e)]
noncomputable def selK (P : Int → Prop) (k : Nat) : List Int := ((List.range k).filter fun (r : Nat) => tb (P (r : Int))).map fun (n : Nat) => (n : Int)
theorem selK_succ (P : Int → Prop) (k : Nat) : selK P (k + 1) = if tb (P (k : Int)) = true then selK P k ++ [(k : Int)] else selK P k := by
  unfold selK
  rw [List.range_succ, List.filter_append, List.map_append]
  by_cases h : tb (P (k : Int)) = true
  · simp [h]
  · simp [h]
theorem selK_len (P : Int → Prop) (k : Nat) : (selK P k).length ≤ k := by
  unfold selK
  have := List.length_filter_le (fun (r : Nat) => tb (P (r : Int))) (List.range k)
  simpa using this
theorem selK_mem (P : Int → Prop) (k : Nat) (x : Int) : x ∈ selK P k ↔ 0 ≤ x ∧ x < (k : Int) ∧ P x := by
  unfold selK
  simp only [List.mem_map, List.mem_filter, List.mem_range]
  constructor
  · rintro ⟨p, ⟨h1, h2⟩, rfl⟩; exact ⟨by omega, by omega, tb_true.1 h2⟩
  · rintro ⟨h1, h2, h3⟩; exact ⟨x.toNat, ⟨by omega, by rw [Int.toNat_of_nonneg h1]; exact tb_true.2 h3⟩, Int.toNat_of_nonneg h1⟩
theorem selK_sorted (P : Int → Prop) : ∀ k, (selK P k).Pairwise (· < ·)
  | 0 => by simp [selK]
  | k + 1 => by
    rw [selK_succ]
    split
    · rw [List.pairwise_append]
      exact ⟨selK_sorted P k, by simp, fun a ha b hb => by
        simp only [List.mem_singleton] at hb
        subst hb
        exact ((selK_mem P k a).1 ha).2.1⟩
    · exact selK_sorted P k
/-- a row that is sorted is what is selected -/
theorem row_sel {l : List Int} {P : Int → Prop} {R : Nat} (h1 : l.Pairwise (· < ·)) (h2 : ∀ x, x ∈ l ↔ P x) (hb : ∀ x, P x → 0 ≤ x ∧ x < (R : Int)) : l = selK P R :=
  sorted_ext h1 (selK_sorted P R) fun x => by
    rw [h2, selK_mem]
    exact ⟨fun h => ⟨(hb x h).1, (hb x h).2, h⟩, fun h => h.2.2⟩
noncomputable def lr1 : Code := ((((Try.f11.body).map loopsOf).getD [])[0]?).getD .skip
noncomputable def lr2 : Code := ((loopsOf (inLoop lr1))[0]?).getD .skip
/-- two lists that grow, each in memory of its own, from base on -/
structure TwoL (w0 w : World) (V V' : Value) (l l' : List Int) : Prop where
  o1 : OwnN w V l
  o2 : OwnN w V' l'
  b1 : ∀ b, V.ownBlock = some b → w0.heap.size ≤ b
  b2 : ∀ b, V'.ownBlock = some b → w0.heap.size ≤ b
  ne : ∀ b, V.ownBlock = some b → V'.ownBlock ≠ some b
  b : Below w0.heap.size w0 w
theorem OwnN.lt {w : World} {V : Value} {l : List Int} (h : OwnN w V l) : ∀ b, V.ownBlock = some b → b < w.heap.size := by
  obtain ⟨_, _, _, h1, _⟩ := h.form
  exact h1
theorem TwoL.later {w0 w w' : World} {V V' : Value} {l l' : List Int} (h : TwoL w0 w V V' l l') (hb : Below w.heap.size w w') : TwoL w0 w' V V' l l' :=
  ⟨h.o1.later hb, h.o2.later hb, h.b1, h.b2, h.ne, h.b.trans (hb.mono h.b.size)⟩
theorem TwoL.left {w0 w w2 : World} {V V' V2 : Value} {l l' l2 : List Int} {o : Obj} (h : TwoL w0 w V V' l l') (ho : OwnN w2 V2 l2) (hg : (w.alloc o).grownBy w2 V.ownBlock) (hb : V2.ownBlock = V.ownBlock ∨ V2.ownBlock = some (w.alloc o).heap.size) : TwoL w0 w2 V2 V' l2 l' := by
  have hs := h.b.size
  have hl2 := h.o2.lt
  refine ⟨ho, World.ownsRow.kept (h.o2.alloc o) hg (by
    cases hv : V'.ownBlock with
    | none => exact Or.inl rfl
    | some x => exact Or.inr fun e => h.ne x e.symm hv), fun b hb2 => ?_, h.b2, fun b hb2 e => ?_, Below.grown (h.b.alloc hs _) hg (by simp; omega) h.b1⟩
  · rcases hb with e | e
    · rw [e] at hb2; exact h.b1 b hb2
    · rw [e] at hb2; injection hb2 with hb2; simp at hb2; omega
  · rcases hb with e2 | e2
    · rw [e2] at hb2; exact h.ne b hb2 e
    · rw [e2] at hb2; injection hb2 with hb2; simp at hb2; have := hl2 b e; omega
theorem TwoL.right {w0 w w2 : World} {V V' V2 : Value} {l l' l2 : List Int} {o : Obj} (h : TwoL w0 w V V' l l') (ho : OwnN w2 V2 l2) (hg : (w.alloc o).grownBy w2 V'.ownBlock) (hb : V2.ownBlock = V'.ownBlock ∨ V2.ownBlock = some (w.alloc o).heap.size) : TwoL w0 w2 V V2 l l2 := by
  have hs := h.b.size
  have hl1 := h.o1.lt
  refine ⟨World.ownsRow.kept (h.o1.alloc o) hg (by
    cases hv : V.ownBlock with
    | none => exact Or.inl rfl
    | some x => exact Or.inr fun e => h.ne x hv e.symm), ho, h.b1, fun b hb2 => ?_, fun b hb2 e => ?_, Below.grown (h.b.alloc hs _) hg (by simp; omega) h.b2⟩
  · rcases hb with e | e
    · rw [e] at hb2; exact h.b2 b hb2
    · rw [e] at hb2; injection hb2 with hb2; simp at hb2; omega
  · rcases hb with e2 | e2
    · rw [e2] at e; exact h.ne b hb2 e
    · rw [e2] at e; injection e with e; simp at e; have := hl1 b hb2; omega
set_option maxRecDepth 1000000 in
set_option maxHeartbeats 16000000 in
theorem lr2_any (f : Fn7) (Rn : Nat) (hRn : f.R = (Rn : Int)) (hR4 : Rn ≤ 4096) (N p : Nat) (C : Option Addr) (cap B : Nat) (w0 w : World) (hbx : w0.heap[B]? = some (funcObj f.nm f.ps f.R f.Fr C N cap)) (hC : RdI w0 C f.code) (hb : Below w0.heap.size w0 w)
    (hA : ∀ r W, RdI W C f.code → Calls Try.prog 41 #[funcAgg f.nm f.ps f.R f.Fr C N cap, .int .i64 p, .int .i64 r] W fun e w' => e = .returned (.bool (tb (Lv f.code p r))) ∧ Below W.heap.size W w')
    (hB : ∀ r W, RdI W C f.code → Calls Try.prog 37 #[funcAgg f.nm f.ps f.R f.Fr C N cap, .int .i64 p, .int .i64 r] W fun e w' => e = .returned (.bool (tb (Bh f.code p r))) ∧ Below W.heap.size W w')
    (x0 x2 x3 x4 x8 x9 x10 x11 x12 x13 x14 x15 x16 x17 x18 x19 x20 x21 x22 x23 x24 x25 x26 x27 x28 x29 x30 x31 x32 x33 x34 x35 x36 x37 x38 x39 x40 x41 x42 x43 x44 x45 x46 x47 x48 x49 x52 x53 x54 x55 x56 x57 x58 x59 x60 x61 x62 x63 x64 x65 x66 x67 x68 x69 x70 x71 x72 x73 x74 x75 x76 x77 x78 x79 x80 x81 x82 x83 x84 x85 x86 x87 x88 : Value) (Q : Exit → Act → World → Prop)
    (hexit : ∀ (y6 y7 y8 y52 y53 y54 y55 y56 y57 y58 y59 y60 y61 y62 y63 y64 y65 y66 y67 y68 y69 y70 : Value) (w' : World), TwoL w0 w' y6 y7 (selK (Lv f.code p) Rn) (selK (Bh f.code p) Rn) → Q (.exit 2) ⟨(x0 :: .pointer (some ⟨B, 0, none⟩) :: x2 :: x3 :: x4 :: .int .i64 (p : Int) :: y6 :: y7 :: y8 :: x9 :: x10 :: x11 :: x12 :: x13 :: x14 :: x15 :: x16 :: x17 :: x18 :: x19 :: x20 :: x21 :: x22 :: x23 :: x24 :: x25 :: x26 :: x27 :: x28 :: x29 :: x30 :: x31 :: x32 :: x33 :: x34 :: x35 :: x36 :: x37 :: x38 :: x39 :: x40 :: x41 :: x42 :: x43 :: x44 :: x45 :: x46 :: x47 :: x48 :: x49 :: .int .i64 f.R :: .int .i64 f.R :: y52 :: y53 :: y54 :: y55 :: y56 :: y57 :: y58 :: y59 :: y60 :: y61 :: y62 :: y63 :: y64 :: y65 :: y66 :: y67 :: y68 :: y69 :: y70 :: x71 :: x72 :: x73 :: x74 :: x75 :: x76 :: x77 :: x78 :: x79 :: x80 :: x81 :: x82 :: x83 :: x84 :: x85 :: x86 :: x87 :: x88 :: []).toArray, []⟩ w') :
    Code.wp Try.prog lr2 Q ⟨(x0 :: .pointer (some ⟨B, 0, none⟩) :: x2 :: x3 :: x4 :: .int .i64 (p : Int) :: .slice none 0 0 :: .slice none 0 0 :: x8 :: x9 :: x10 :: x11 :: x12 :: x13 :: x14 :: x15 :: x16 :: x17 :: x18 :: x19 :: x20 :: x21 :: x22 :: x23 :: x24 :: x25 :: x26 :: x27 :: x28 :: x29 :: x30 :: x31 :: x32 :: x33 :: x34 :: x35 :: x36 :: x37 :: x38 :: x39 :: x40 :: x41 :: x42 :: x43 :: x44 :: x45 :: x46 :: x47 :: x48 :: x49 :: .int .i64 f.R :: .int .i64 0 :: x52 :: x53 :: x54 :: x55 :: x56 :: x57 :: x58 :: x59 :: x60 :: x61 :: x62 :: x63 :: x64 :: x65 :: x66 :: x67 :: x68 :: x69 :: x70 :: x71 :: x72 :: x73 :: x74 :: x75 :: x76 :: x77 :: x78 :: x79 :: x80 :: x81 :: x82 :: x83 :: x84 :: x85 :: x86 :: x87 :: x88 :: []).toArray, []⟩ w := by
  conv => arg 2; whnf
  simp only [funcObj, funcAgg] at hbx hA hB
  obtain ⟨RR, hRR⟩ : ∃ RR, f.R = RR := ⟨_, rfl⟩
  rw [hRR] at hexit hbx hA hB hRn ⊢
  subst hRn
  have HE := Lib.hid hexit
  have HA := Lib.hid hA
  have HB := Lib.hid hB
  have HBX := Lib.hid hbx
  have HC := Lib.hid hC
  have hBl := (Array.getElem?_eq_some_iff.1 hbx).1
  have H0 := Lib.hid (show TwoL w0 w (.slice none 0 0) (.slice none 0 0) (selK (Lv f.code p) 0) (selK (Bh f.code p) 0) from ⟨OwnN.nil _, OwnN.nil _, (fun b hb => by simp [Value.ownBlock] at hb), (fun b hb => by simp [Value.ownBlock] at hb), (fun b hb => by simp [Value.ownBlock] at hb), hb⟩)
  clear hexit hA hB hbx hC hRR hb
  go_loopw [6, 7, 51] (fun V V' ix wr => ∃ k : Nat, k ≤ Rn ∧ ix = .int .i64 k ∧ TwoL w0 wr V V' (selK (Lv f.code p) k) (selK (Bh f.code p) k)) (fun _ _ ix _ => Rn - (intOf ix).toNat)
  case atStart => exact ⟨0, by omega, rfl, H0.out⟩
  case round =>
    obtain ⟨k, hk, rfl, ht⟩ := hrel
    clear H0
    by_cases hlt : k < Rn
    · have hx := (ht.b.block B hBl).trans HBX.out
      have g0 := cell_of_heap hx 0 _ rfl
      have g1 := cell_of_heap hx 1 _ rfl
      have g2 := cell_of_heap hx 2 _ rfl
      have g3 := cell_of_heap hx 3 _ rfl
      have g4 := cell_of_heap hx 4 _ rfl
      have hrc := HC.out.below ht.b
      have hbl := (Array.getElem?_eq_some_iff.1 hx).1
      have hca := HA.out k wr hrc
      obtain ⟨y, hy⟩ : ∃ y, tb (Lv f.code p (k : Int)) = y := ⟨_, rfl⟩
      obtain ⟨z, hz⟩ : ∃ z, tb (Bh f.code p (k : Int)) = z := ⟨_, rfl⟩
      have hcb := fun W h => HB.out k W h
      rw [hy] at hca
      rw [hz] at hcb
      have HCA := Lib.hid hca
      have HCB := Lib.hid hcb
      have HT := Lib.hid ht
      have HX := Lib.hid hx
      have HRC := Lib.hid hrc
      have HY := Lib.hid hy
      have HZ := Lib.hid hz
      have hl1 : (selK (Lv f.code p) k).length ≤ 90000 := by have := selK_len (Lv f.code p) k; omega
      have hl2 : (selK (Bh f.code p) k).length ≤ 90000 := by have := selK_len (Bh f.code p) k; omega
      clear hca hcb ht hx hrc hy hz
      cases y
      all_goals cases z
      · go_wp2_with (first
          | (refine HCA.out.mono ?_; rintro e w3 ⟨rfl, hb3⟩; have HT3 := Lib.hid (HT.out.later hb3); have hx3 := (HT3.out.b.block B hBl).trans HBX.out; have g0 := cell_of_heap hx3 0 _ rfl; have g1 := cell_of_heap hx3 1 _ rfl; have g2 := cell_of_heap hx3 2 _ rfl; have g3 := cell_of_heap hx3 3 _ rfl; have g4 := cell_of_heap hx3 4 _ rfl; have hrc3 := Lib.hid (HC.out.below HT3.out.b); clear hx3)
          | (refine (HCB.out _ hrc3.out).mono ?_; rintro e w5 ⟨rfl, hb5⟩; have HT5 := Lib.hid (HT3.out.later hb5)))
        exact ⟨⟨k + 1, by omega, by go_num, by rw [selK_succ (Lv f.code p), if_neg (by rw [HY.out]; simp)]; rw [selK_succ (Bh f.code p), if_neg (by rw [HZ.out]; simp)]; exact HT5.out⟩, by simp [intOf]; omega⟩
      · go_wp2_with (first
          | (refine HCA.out.mono ?_; rintro e w3 ⟨rfl, hb3⟩; have HT3 := Lib.hid (HT.out.later hb3); have hx3 := (HT3.out.b.block B hBl).trans HBX.out; have g0 := cell_of_heap hx3 0 _ rfl; have g1 := cell_of_heap hx3 1 _ rfl; have g2 := cell_of_heap hx3 2 _ rfl; have g3 := cell_of_heap hx3 3 _ rfl; have g4 := cell_of_heap hx3 4 _ rfl; have hrc3 := Lib.hid (HC.out.below HT3.out.b); clear hx3)
          | (refine (HCB.out _ hrc3.out).mono ?_; rintro e w5 ⟨rfl, hb5⟩; have HT5 := Lib.hid (HT3.out.later hb5))
          | (at_builtin; refine append_one rfl (.tmp 66) (.tmp 68) rfl u7 (selK (Bh f.code p) k) rfl (HT5.out.o2.alloc _) w5.heap.size k rfl (heap_alloc_new _ _) hl2 ?_; intro V3 w6 ho6 hg6 hb6; have HT6 := Lib.hid (HT5.out.right ho6 hg6 hb6); clear ho6 hg6 hb6))
        exact ⟨⟨k + 1, by omega, by go_num, by rw [selK_succ (Lv f.code p), if_neg (by rw [HY.out]; simp)]; rw [selK_succ (Bh f.code p), if_pos HZ.out]; exact HT6.out⟩, by simp [intOf]; omega⟩
      · go_wp2_with (first
          | (refine HCA.out.mono ?_; rintro e w3 ⟨rfl, hb3⟩; have HT3 := Lib.hid (HT.out.later hb3))
          | (at_builtin; refine append_one rfl (.tmp 58) (.tmp 60) rfl u6 (selK (Lv f.code p) k) rfl (HT3.out.o1.alloc _) w3.heap.size k rfl (heap_alloc_new _ _) hl1 ?_; intro V2 w4 ho4 hg4 hb4; have HT4 := Lib.hid (HT3.out.left ho4 hg4 hb4); have hx4 := (HT4.out.b.block B hBl).trans HBX.out; have g0 := cell_of_heap hx4 0 _ rfl; have g1 := cell_of_heap hx4 1 _ rfl; have g2 := cell_of_heap hx4 2 _ rfl; have g3 := cell_of_heap hx4 3 _ rfl; have g4 := cell_of_heap hx4 4 _ rfl; have hrc4 := Lib.hid (HC.out.below HT4.out.b); clear hx4 ho4 hg4 hb4)
          | (refine (HCB.out _ hrc4.out).mono ?_; rintro e w5 ⟨rfl, hb5⟩; have HT5 := Lib.hid (HT4.out.later hb5)))
        exact ⟨⟨k + 1, by omega, by go_num, by rw [selK_succ (Lv f.code p), if_pos HY.out]; rw [selK_succ (Bh f.code p), if_neg (by rw [HZ.out]; simp)]; exact HT5.out⟩, by simp [intOf]; omega⟩
      · go_wp2_with (first
          | (refine HCA.out.mono ?_; rintro e w3 ⟨rfl, hb3⟩; have HT3 := Lib.hid (HT.out.later hb3))
          | (at_builtin; refine append_one rfl (.tmp 58) (.tmp 60) rfl u6 (selK (Lv f.code p) k) rfl (HT3.out.o1.alloc _) w3.heap.size k rfl (heap_alloc_new _ _) hl1 ?_; intro V2 w4 ho4 hg4 hb4; have HT4 := Lib.hid (HT3.out.left ho4 hg4 hb4); have hx4 := (HT4.out.b.block B hBl).trans HBX.out; have g0 := cell_of_heap hx4 0 _ rfl; have g1 := cell_of_heap hx4 1 _ rfl; have g2 := cell_of_heap hx4 2 _ rfl; have g3 := cell_of_heap hx4 3 _ rfl; have g4 := cell_of_heap hx4 4 _ rfl; have hrc4 := Lib.hid (HC.out.below HT4.out.b); clear hx4 ho4 hg4 hb4)
          | (refine (HCB.out _ hrc4.out).mono ?_; rintro e w5 ⟨rfl, hb5⟩; have HT5 := Lib.hid (HT4.out.later hb5))
          | (at_builtin; refine append_one rfl (.tmp 66) (.tmp 68) rfl u7 (selK (Bh f.code p) k) rfl (HT5.out.o2.alloc _) w5.heap.size k rfl (heap_alloc_new _ _) hl2 ?_; intro V3 w6 ho6 hg6 hb6; have HT6 := Lib.hid (HT5.out.right ho6 hg6 hb6); clear ho6 hg6 hb6))
        exact ⟨⟨k + 1, by omega, by go_num, by rw [selK_succ (Lv f.code p), if_pos HY.out]; rw [selK_succ (Bh f.code p), if_pos HZ.out]; exact HT6.out⟩, by simp [intOf]; omega⟩
    · obtain rfl : k = Rn := by omega
      have HXE := fun (y8 y52 y53 y54 y55 y56 y57 y58 y59 y60 y61 y62 y63 y64 y65 y66 y67 y68 y69 y70 : Value) => Lib.hid (HE.out u6 u7 y8 y52 y53 y54 y55 y56 y57 y58 y59 y60 y61 y62 y63 y64 y65 y66 y67 y68 y69 y70 wr ht)
      clear ht HE
      go_wp2
      exact (HXE _ _ _ _ _ _ _ _ _ _ _ _ _ _ _ _ _ _ _ _).out
end Go.Proofs.Ytaofdbboalcceaa
