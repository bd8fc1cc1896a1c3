import Derived.Test.YthbcdckonaljiaaKa
import Derived.Test.YthbcdckonaljiaaIw
/- FlowStraight: statement 20 of the second loop: its orders, all at once. -/
namespace Go.Proofs.Ythbcdckonaljiaa
open Go Go.RowKit
section
variable {ρ : Operand → Value} {o : Oper} {w : World}
theorem ixA {xb : Nat} (j : Nat) (hj : j < 4) (x y : Operand) (ho : o.op = .indexAddr 33 x y) (hx : ρ x = .pointer (some ⟨xb, 0, none⟩)) (hy : ρ y = .int .i64 j) : (execOp ρ o).run Try.prog w = .ok (.value (.pointer (some ⟨xb, j, none⟩))) w := by
  unfold execOp
  simp only [ho, hx, hy]
  have hi : (j : Int) < 4 := by omega
  simp [go_sem, hi]
theorem ld8 {b j : Nat} {v : Value} (h : w.cell? ⟨b, j, none⟩ = some v) (x : Operand) (ho : o.op = .load 5 x) (hx : ρ x = .pointer (some ⟨b, j, none⟩)) : (execOp ρ o).run Try.prog w = .ok (.value v) w := by
  unfold execOp
  simp only [ho, hx]
  simp [go_sem, h]
theorem cv8 {v : Int} (h0 : 0 ≤ v) (h1 : v ≤ 255) (x : Operand) (ho : o.op = .convert 5 3 x) (hx : ρ x = .int .u8 v) : (execOp ρ o).run Try.prog w = .ok (.value (.int .i64 v)) w := by
  unfold execOp
  simp only [ho, hx]
  simp [go_sem]
  rw [IntKind.wrap_i64]
  omega
theorem rm10 {v : Int} (h0 : 0 ≤ v) (x y : Operand) (ho : o.op = .binOp .rem 3 x y 3) (hx : ρ x = .int .i64 v) (hy : ρ y = .int .i64 10) : (execOp ρ o).run Try.prog w = .ok (.value (.int .i64 (v % 10))) w := by
  unfold execOp
  simp only [ho, hx, hy]
  have ht : v.tmod 10 = v % 10 := Int.tmod_eq_emod_of_nonneg h0
  simp [go_sem, ht]
theorem st8 {b j : Nat} {u : Value} (h : w.cell? ⟨b, j, none⟩ = some u) (hf : w.frozen? ⟨b, j, none⟩ = false) (x y : Operand) (ho : o.op = .store 28 x y) (hx : ρ x = .pointer (some ⟨b, j, none⟩)) (n : Int) (hy : ρ y = .int .i64 n) :
    (execOp ρ o).run Try.prog w = .ok .skip (w.setCell ⟨b, j, none⟩ (.int .i64 n)) := by
  unfold execOp
  simp only [ho, hx, hy]
  simp [go_sem, h, hf]
end
open Go.BigFrame
set_option maxRecDepth 1000000 in
set_option maxHeartbeats 16000000 in
theorem st_20 (x0 x1 x2 x3 op : Int) (xb ib : Nat) (W : World) (h10 : 0 ≤ x1) (h11 : x1 ≤ 255) (h20 : 0 ≤ x2) (h21 : x2 ≤ 255) (h30 : 0 ≤ x3) (h31 : x3 ≤ 255) (hne : xb ≠ ib) (hx : W.heap[xb]? = some (.cells #[.int .u8 x0, .int .u8 x1, .int .u8 x2, .int .u8 x3] 33)) (hb : W.heap[ib]? = some (.cells #[.int .i64 3, .int .i64 0, .int .i64 (-1), .int .i64 0, .int .i64 0, .int .i64 0, .string ⟨#[]⟩, .int .i64 0, .int .i64 0, .int .i64 0, .int .i64 0, .int .i64 0, .int .i64 0, .int .i64 0, .int .i64 (-1)] 31))
    (z0 z1 z2 z3 z4 z5 z6 z7 z11 z12 z13 z14 z15 z16 z17 z18 z19 z20 z21 z22 z23 z24 z25 z26 z27 z28 z29 z30 z31 z32 z33 z34 z35 z36 z37 z38 z39 z40 z41 z42 z43 z44 z45 z46 z47 z48 z49 z50 z51 z52 z53 z54 z55 z56 z57 z58 z59 z60 z61 z62 z63 z64 z65 z66 z67 z68 z69 z70 z71 z72 z73 z74 z75 z76 z77 z78 z79 z80 z81 z82 z83 z84 z85 z86 z87 z88 z89 z90 z91 z92 z93 z94 z95 z96 z97 z98 z99 z100 z101 z102 z103 z104 z105 z106 z107 z108 z109 z110 z111 z112 z113 z114 z115 z116 z117 z118 z119 z120 z121 z122 z123 z124 z125 z126 z127 z128 z129 z130 z131 z132 z133 z134 z135 z136 z137 z138 z139 z140 z141 z142 z143 z144 z145 z146 z147 z148 z149 z150 z151 z152 z153 z154 : Value) (K : Act → World → Prop) (Q : Exit → Act → World → Prop)
    (hK : ∀ (y62 y63 y64 y65 y66 y67 y68 y69 y70 y71 y72 y73 y74 y75 y76 y77 y78 : Value) (w' : World), Below ib W w' → w'.heap[ib]? = some (.cells #[.int .i64 3, .int .i64 op, .int .i64 (x1 % 10), .int .i64 (x2 % 10), .int .i64 (x3 % 10), .int .i64 0, .string ⟨#[]⟩, .int .i64 0, .int .i64 0, .int .i64 0, .int .i64 0, .int .i64 0, .int .i64 0, .int .i64 0, .int .i64 (-1)] 31) → K ⟨(z0 :: z1 :: z2 :: z3 :: z4 :: z5 :: z6 :: z7 :: .pointer (some ⟨xb, 0, none⟩) :: .int .i64 op :: .pointer (some ⟨ib, 0, none⟩) :: z11 :: z12 :: z13 :: z14 :: z15 :: z16 :: z17 :: z18 :: z19 :: z20 :: z21 :: z22 :: z23 :: z24 :: z25 :: z26 :: z27 :: z28 :: z29 :: z30 :: z31 :: z32 :: z33 :: z34 :: z35 :: z36 :: z37 :: z38 :: z39 :: z40 :: z41 :: z42 :: z43 :: z44 :: z45 :: z46 :: z47 :: z48 :: z49 :: z50 :: z51 :: z52 :: z53 :: z54 :: z55 :: z56 :: z57 :: z58 :: z59 :: z60 :: z61 :: y62 :: y63 :: y64 :: y65 :: y66 :: y67 :: y68 :: y69 :: y70 :: y71 :: y72 :: y73 :: y74 :: y75 :: y76 :: y77 :: y78 :: z79 :: z80 :: z81 :: z82 :: z83 :: z84 :: z85 :: z86 :: z87 :: z88 :: z89 :: z90 :: z91 :: z92 :: z93 :: z94 :: z95 :: z96 :: z97 :: z98 :: z99 :: z100 :: z101 :: z102 :: z103 :: z104 :: z105 :: z106 :: z107 :: z108 :: z109 :: z110 :: z111 :: z112 :: z113 :: z114 :: z115 :: z116 :: z117 :: z118 :: z119 :: z120 :: z121 :: z122 :: z123 :: z124 :: z125 :: z126 :: z127 :: z128 :: z129 :: z130 :: z131 :: z132 :: z133 :: z134 :: z135 :: z136 :: z137 :: z138 :: z139 :: z140 :: z141 :: z142 :: z143 :: z144 :: z145 :: z146 :: z147 :: z148 :: z149 :: z150 :: z151 :: z152 :: z153 :: z154 :: []).toArray, []⟩ w') :
    Code.wp Try.prog (seqNs sbody 4) (Exit.then K Q) ⟨(z0 :: z1 :: z2 :: z3 :: z4 :: z5 :: z6 :: z7 :: .pointer (some ⟨xb, 0, none⟩) :: .int .i64 op :: .pointer (some ⟨ib, 0, none⟩) :: z11 :: z12 :: z13 :: z14 :: z15 :: z16 :: z17 :: z18 :: z19 :: z20 :: z21 :: z22 :: z23 :: z24 :: z25 :: z26 :: z27 :: z28 :: z29 :: z30 :: z31 :: z32 :: z33 :: z34 :: z35 :: z36 :: z37 :: z38 :: z39 :: z40 :: z41 :: z42 :: z43 :: z44 :: z45 :: z46 :: z47 :: z48 :: z49 :: z50 :: z51 :: z52 :: z53 :: z54 :: z55 :: z56 :: z57 :: z58 :: z59 :: z60 :: z61 :: z62 :: z63 :: z64 :: z65 :: z66 :: z67 :: z68 :: z69 :: z70 :: z71 :: z72 :: z73 :: z74 :: z75 :: z76 :: z77 :: z78 :: z79 :: z80 :: z81 :: z82 :: z83 :: z84 :: z85 :: z86 :: z87 :: z88 :: z89 :: z90 :: z91 :: z92 :: z93 :: z94 :: z95 :: z96 :: z97 :: z98 :: z99 :: z100 :: z101 :: z102 :: z103 :: z104 :: z105 :: z106 :: z107 :: z108 :: z109 :: z110 :: z111 :: z112 :: z113 :: z114 :: z115 :: z116 :: z117 :: z118 :: z119 :: z120 :: z121 :: z122 :: z123 :: z124 :: z125 :: z126 :: z127 :: z128 :: z129 :: z130 :: z131 :: z132 :: z133 :: z134 :: z135 :: z136 :: z137 :: z138 :: z139 :: z140 :: z141 :: z142 :: z143 :: z144 :: z145 :: z146 :: z147 :: z148 :: z149 :: z150 :: z151 :: z152 :: z153 :: z154 :: []).toArray, []⟩ W := by
  conv => arg 2; whnf
  have HK := Lib.hid hK
  have HBX := Lib.hid hb
  have y1 := cell_of_heap hx 1 (.int .u8 x1) rfl
  have y2 := cell_of_heap hx 2 (.int .u8 x2) rfl
  have y3 := cell_of_heap hx 3 (.int .u8 x3) rfl
  clear hK hx hb
  obtain ⟨VALS, hVALS⟩ : ∃ VALS : List Value, VALS = [.int .i64 op, .pointer (some ⟨xb, 1, none⟩), .int .u8 x1, .int .i64 x1, .int .i64 (x1 % 10), .pointer (some ⟨xb, 2, none⟩), .int .u8 x2, .int .i64 x2, .int .i64 (x2 % 10), .pointer (some ⟨xb, 3, none⟩), .int .u8 x3, .int .i64 x3, .int .i64 (x3 % 10), .pointer (some ⟨ib, 1, none⟩), undef, .pointer (some ⟨ib, 2, none⟩), undef, .pointer (some ⟨ib, 3, none⟩), undef, .pointer (some ⟨ib, 4, none⟩)] := ⟨_, rfl⟩
  refine wp_region_grown2 20 (IaW W ib VALS (fun s => #[.int .i64 3, (if (s 14).isSome then .int .i64 op else .int .i64 0), (if (s 16).isSome then .int .i64 (x1 % 10) else .int .i64 (-1)), (if (s 18).isSome then .int .i64 (x2 % 10) else .int .i64 0), .int .i64 0, .int .i64 0, .string ⟨#[]⟩, .int .i64 0, .int .i64 0, .int .i64 0, .int .i64 0, .int .i64 0, .int .i64 0, .int .i64 0, .int .i64 (-1)])) (by kernel_rfl) (by kernel_rfl) ?_ ?_ ?_
  · exact ⟨rfl, rfl, rfl, rfl, fun _ _ => rfl, HBX.out, fun j v h => by cases h⟩
  · intro i o s wq hi ho hI hsi hdep
    rw [hVALS] at hI ⊢
    rcases (by omega : i = 0 ∨ i = 1 ∨ i = 2 ∨ i = 3 ∨ i = 4 ∨ i = 5 ∨ i = 6 ∨ i = 7 ∨ i = 8 ∨ i = 9 ∨ i = 10 ∨ i = 11 ∨ i = 12 ∨ i = 13 ∨ i = 14 ∨ i = 15 ∨ i = 16 ∨ i = 17 ∨ i = 18 ∨ i = 19) with rfl | rfl | rfl | rfl | rfl | rfl | rfl | rfl | rfl | rfl | rfl | rfl | rfl | rfl | rfl | rfl | rfl | rfl | rfl | rfl
    all_goals (simp only [List.getElem?_cons_zero, List.getElem?_cons_succ] at ho; obtain rfl := Option.some.inj ho)
    · exact Or.inl (Or.inl ⟨_, _, runT_move (.tmp 9) rfl, hI.step 0 _ rfl rfl⟩)
    · exact Or.inl (Or.inl ⟨_, _, ixA 1 (by omega) (.tmp 8) (.const (.int .i64 1)) rfl rfl rfl, hI.step 1 _ rfl rfl⟩)
    · have e1 := hI.told (j := 1) rfl (hdep ⟨1, .data⟩ (by simp) rfl)
      exact Or.inl (Or.inl ⟨_, _, ld8 (hI.cell hne y1) (.tmp 63) rfl (evalT_told 1 (by kernel_rfl) e1), hI.step 2 _ rfl rfl⟩)
    · have e2 := hI.told (j := 2) rfl (hdep ⟨2, .data⟩ (by simp) rfl)
      exact Or.inl (Or.inl ⟨_, _, cv8 h10 h11 (.tmp 64) rfl (evalT_told 2 (by kernel_rfl) e2), hI.step 3 _ rfl rfl⟩)
    · have e3 := hI.told (j := 3) rfl (hdep ⟨3, .data⟩ (by simp) rfl)
      exact Or.inl (Or.inl ⟨_, _, rm10 h10 (.tmp 65) (.const (.int .i64 10)) rfl (evalT_told 3 (by kernel_rfl) e3) rfl, hI.step 4 _ rfl rfl⟩)
    · exact Or.inl (Or.inl ⟨_, _, ixA 2 (by omega) (.tmp 8) (.const (.int .i64 2)) rfl rfl rfl, hI.step 5 _ rfl rfl⟩)
    · have e5 := hI.told (j := 5) rfl (hdep ⟨5, .data⟩ (by simp) rfl)
      exact Or.inl (Or.inl ⟨_, _, ld8 (hI.cell hne y2) (.tmp 67) rfl (evalT_told 5 (by kernel_rfl) e5), hI.step 6 _ rfl rfl⟩)
    · have e6 := hI.told (j := 6) rfl (hdep ⟨6, .data⟩ (by simp) rfl)
      exact Or.inl (Or.inl ⟨_, _, cv8 h20 h21 (.tmp 68) rfl (evalT_told 6 (by kernel_rfl) e6), hI.step 7 _ rfl rfl⟩)
    · have e7 := hI.told (j := 7) rfl (hdep ⟨7, .data⟩ (by simp) rfl)
      exact Or.inl (Or.inl ⟨_, _, rm10 h20 (.tmp 69) (.const (.int .i64 10)) rfl (evalT_told 7 (by kernel_rfl) e7) rfl, hI.step 8 _ rfl rfl⟩)
    · exact Or.inl (Or.inl ⟨_, _, ixA 3 (by omega) (.tmp 8) (.const (.int .i64 3)) rfl rfl rfl, hI.step 9 _ rfl rfl⟩)
    · have e9 := hI.told (j := 9) rfl (hdep ⟨9, .data⟩ (by simp) rfl)
      exact Or.inl (Or.inl ⟨_, _, ld8 (hI.cell hne y3) (.tmp 71) rfl (evalT_told 9 (by kernel_rfl) e9), hI.step 10 _ rfl rfl⟩)
    · have e10 := hI.told (j := 10) rfl (hdep ⟨10, .data⟩ (by simp) rfl)
      exact Or.inl (Or.inl ⟨_, _, cv8 h30 h31 (.tmp 72) rfl (evalT_told 10 (by kernel_rfl) e10), hI.step 11 _ rfl rfl⟩)
    · have e11 := hI.told (j := 11) rfl (hdep ⟨11, .data⟩ (by simp) rfl)
      exact Or.inl (Or.inl ⟨_, _, rm10 h30 (.tmp 73) (.const (.int .i64 10)) rfl (evalT_told 11 (by kernel_rfl) e11) rfl, hI.step 12 _ rfl rfl⟩)
    · exact Or.inl (Or.inl ⟨_, _, fldT ib 1 1 (by kernel_rfl) (.tmp 10) rfl rfl, hI.step 13 _ rfl rfl⟩)
    · have e13 := hI.told (j := 13) rfl (hdep ⟨13, .data⟩ (by simp) rfl)
      have e0 := hI.told (j := 0) rfl (hdep ⟨0, .data⟩ (by simp) rfl)
      exact Or.inr ⟨_, st8 (cell_of_heap hI.box 1 _ rfl) (free_of_heap hI.box 1) (.tmp 75) (.tmp 62) rfl (evalT_told 13 (by kernel_rfl) e13) _ (evalT_told 0 (by kernel_rfl) e0), hI.store 14 1 _ rfl rfl⟩
    · exact Or.inl (Or.inl ⟨_, _, fldT ib 2 2 (by kernel_rfl) (.tmp 10) rfl rfl, hI.step 15 _ rfl rfl⟩)
    · have e15 := hI.told (j := 15) rfl (hdep ⟨15, .data⟩ (by simp) rfl)
      have e4 := hI.told (j := 4) rfl (hdep ⟨4, .data⟩ (by simp) rfl)
      exact Or.inr ⟨_, stT (cell_of_heap hI.box 2 _ rfl) (free_of_heap hI.box 2) (.tmp 76) (.tmp 66) rfl (evalT_told 15 (by kernel_rfl) e15) _ (evalT_told 4 (by kernel_rfl) e4), hI.store 16 2 _ rfl rfl⟩
    · exact Or.inl (Or.inl ⟨_, _, fldT ib 3 3 (by kernel_rfl) (.tmp 10) rfl rfl, hI.step 17 _ rfl rfl⟩)
    · have e17 := hI.told (j := 17) rfl (hdep ⟨17, .data⟩ (by simp) rfl)
      have e8 := hI.told (j := 8) rfl (hdep ⟨8, .data⟩ (by simp) rfl)
      exact Or.inr ⟨_, stT (cell_of_heap hI.box 3 _ rfl) (free_of_heap hI.box 3) (.tmp 77) (.tmp 70) rfl (evalT_told 17 (by kernel_rfl) e17) _ (evalT_told 8 (by kernel_rfl) e8), hI.store 18 3 _ rfl rfl⟩
    · exact Or.inl (Or.inl ⟨_, _, fldT ib 4 4 (by kernel_rfl) (.tmp 10) rfl rfl, hI.step 19 _ rfl rfl⟩)
  · intro s wq hI hsome
    rw [hVALS] at hI
    have e0 := hI.told (j := 0) rfl (hsome 0 (by omega))
    have e1 := hI.told (j := 1) rfl (hsome 1 (by omega))
    have e2 := hI.told (j := 2) rfl (hsome 2 (by omega))
    have e3 := hI.told (j := 3) rfl (hsome 3 (by omega))
    have e4 := hI.told (j := 4) rfl (hsome 4 (by omega))
    have e5 := hI.told (j := 5) rfl (hsome 5 (by omega))
    have e6 := hI.told (j := 6) rfl (hsome 6 (by omega))
    have e7 := hI.told (j := 7) rfl (hsome 7 (by omega))
    have e8 := hI.told (j := 8) rfl (hsome 8 (by omega))
    have e9 := hI.told (j := 9) rfl (hsome 9 (by omega))
    have e10 := hI.told (j := 10) rfl (hsome 10 (by omega))
    have e11 := hI.told (j := 11) rfl (hsome 11 (by omega))
    have e12 := hI.told (j := 12) rfl (hsome 12 (by omega))
    have e13 := hI.told (j := 13) rfl (hsome 13 (by omega))
    have e14 := hI.told (j := 14) rfl (hsome 14 (by omega))
    have e15 := hI.told (j := 15) rfl (hsome 15 (by omega))
    have e16 := hI.told (j := 16) rfl (hsome 16 (by omega))
    have e17 := hI.told (j := 17) rfl (hsome 17 (by omega))
    have e18 := hI.told (j := 18) rfl (hsome 18 (by omega))
    have e19 := hI.told (j := 19) rfl (hsome 19 (by omega))
    simp only [List.take_succ_cons, List.take_zero, List.drop_succ_cons, List.drop_zero, putsT, e0, e1, e2, e3, e4, e5, e6, e7, e8, e9, e10, e11, e12, e13, e14, e15, e16, e17, e18, e19, Option.getD_some]
    have hbx := hI.box
    simp only [e14, e16, e18, Option.isSome_some, if_true] at hbx
    have v4 := cell_of_heap hbx 4 (.int .i64 0) rfl
    have f4 := free_of_heap hbx 4
    have HI := Lib.hid hI
    have HBX2 := Lib.hid hbx
    clear hI hbx hVALS e0 e1 e2 e3 e4 e5 e6 e7 e8 e9 e10 e11 e12 e13 e14 e15 e16 e17 e18 e19
    go_frame
    go_wp2_with fail
    refine HK.out _ _ _ _ _ _ _ _ _ _ _ _ _ _ _ _ _ _ ?_ ?_
    · exact (HI.out.below (Below.refl ib W) (Nat.le_refl _)).setCell (p := ⟨ib, 4, none⟩) (Nat.le_refl _) _
    · rw [heap_setCell HBX2.out]; rfl
end Go.Proofs.Ythbcdckonaljiaa
