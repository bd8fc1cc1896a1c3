import Derived.Test.YthbcdckonaljiaaZg
import Derived.Test.YthbcdckonaljiaaZa
import Derived.Test.YthbcdckonaljiaaQt
import Derived.StillTailTactics
import Derived.Deep.CutRange
import Derived.Deep.RegionWith
import Derived.Deep.RegionHeld3
namespace Go.Proofs.Ythbcdckonaljiaa
open Go.RowKit Go.BigFrame

def gC (n : Int) : List Value := [.int .i64 n]
abbrev PC (W : World) (b : Nat) (l : List Int) : Prop := Pre gC 1 3 W b l
theorem PC.cell {W : World} {b : Nat} {l : List Int} (h : PC W b l) {j : Nat} {v : Int} (hj : l[j]? = some v) : W.cell? ⟨b, j, none⟩ = some (.int .i64 v) := by
  have := Pre.cell h hj (k := 0) (by omega) (v := .int .i64 v) rfl
  simpa using this
theorem PC.set {W : World} {b : Nat} {l : List Int} (h : PC W b l) {j : Nat} (hj : j < l.length) (v : Int) : PC (W.setCell ⟨b, j, none⟩ (.int .i64 v)) b (l.set j v) := by
  have := Pre.store h (j := j) (x := l[j]) (y := v) (List.getElem?_eq_getElem hj) (k := 0) (by omega) (v := .int .i64 v) rfl rfl (fun k' hk' => by
    cases k' with
    | zero => exact absurd rfl hk'
    | succ k' => rfl)
  simpa using this
def swp (l : List Int) (i j : Nat) : List Int := (l.set i (l.getD j 0)).set j (l.getD i 0)
theorem swp_len (l : List Int) (i j : Nat) : (swp l i j).length = l.length := by simp [swp]
theorem PC.swp {W : World} {b : Nat} {l : List Int} (h : PC W b l) {i j : Nat} (hi : i < l.length) (hj : j < l.length) : PC ((W.setCell ⟨b, i, none⟩ (.int .i64 (l.getD j 0))).setCell ⟨b, j, none⟩ (.int .i64 (l.getD i 0))) b (swp l i j) :=
  (h.set hi _).set (by simpa using hj) _
theorem PC.get {W : World} {b : Nat} {l : List Int} (h : PC W b l) {j : Nat} (hj : j < l.length) : W.cell? ⟨b, j, none⟩ = some (.int .i64 (l.getD j 0)) := h.cell (by simp [List.getD, hj])
structure OnlyC (W w : World) (b : Nat) : Prop where
  os : w.os = W.os
  tape : w.tape = W.tape
  output : w.output = W.output
  size : W.heap.size ≤ w.heap.size
  blk : ∀ r, r < W.heap.size → r ≠ b → w.heap[r]? = W.heap[r]?
theorem OnlyC.refl (W : World) (b : Nat) : OnlyC W W b := ⟨rfl, rfl, rfl, Nat.le_refl _, fun _ _ _ => rfl⟩
theorem OnlyC.trans {W w w' : World} {b : Nat} (h : OnlyC W w b) (h' : OnlyC w w' b) : OnlyC W w' b :=
  ⟨h'.os.trans h.os, h'.tape.trans h.tape, h'.output.trans h.output, Nat.le_trans h.size h'.size, fun r hl hr => (h'.blk r (Nat.lt_of_lt_of_le hl h.size) hr).trans (h.blk r hl hr)⟩
theorem OnlyC.setCell {W w : World} {b : Nat} (h : OnlyC W w b) (j : Nat) (v : Value) : OnlyC W (w.setCell ⟨b, j, none⟩ v) b :=
  ⟨h.os, h.tape, h.output, by simpa using h.size, fun r hl hr => (heap_setCell_other w ⟨b, j, none⟩ r v hr).trans (h.blk r hl hr)⟩
theorem OnlyC.below {W w : World} (b : Nat) (h : Below W.heap.size W w) : OnlyC W w b := ⟨h.os, h.tape, h.output, h.size, fun r hl _ => h.block r hl⟩
theorem OnlyC.drew {W w : World} {b : Nat} (h : OnlyC W w b) : OnlyC W w.drew b := ⟨h.os, h.tape, h.output, h.size, h.blk⟩
def IcW (W1 : World) (ob i : Nat) (y : Value) (q : Nat) (ls : List Nat) (vals : List Value) (s : Nat → Option Value) (w : World) : Prop :=
  w = (if (s q).isSome = true then W1.setCell ⟨ob, i, none⟩ y else W1) ∧ (∀ j v, s j = some v → vals[j]? = some v) ∧ ((s q).isSome = true → ∀ j ∈ ls, (s j).isSome = true)
section
variable {W1 : World} {ob i q : Nat} {y : Value} {ls : List Nat} {vals : List Value} {s : Nat → Option Value} {w : World}
theorem IcW.step (h : IcW W1 ob i y q ls vals s w) (j : Nat) (v : Value) (hv : vals[j]? = some v) (hne : q ≠ j) : IcW W1 ob i y q ls vals (updT s j v) w := by
  obtain ⟨h1, h2, h3⟩ := h
  have e : updT s j v q = s q := by unfold updT; rw [if_neg hne]
  refine ⟨by rw [e]; exact h1, fun k u hu => ?_, fun hq k hk => ?_⟩
  · unfold updT at hu
    split at hu
    · rename_i e2; rw [e2, hv, hu]
    · exact h2 k u hu
  · rw [e] at hq
    unfold updT
    split
    · rfl
    · exact h3 hq k hk
theorem IcW.told (h : IcW W1 ob i y q ls vals s w) {j : Nat} {v : Value} (hv : vals[j]? = some v) (hs : (s j).isSome = true) : s j = some v := by
  cases hj : s j with
  | none => rw [hj] at hs; cases hs
  | some u => have := h.2.1 j u hj; rw [hv] at this; rw [Option.some.inj this]
theorem IcW.early (h : IcW W1 ob i y q ls vals s w) {j : Nat} (hj : j ∈ ls) (hs : s j = none) : w = W1 := by
  have h1 := h.1
  by_cases hq : (s q).isSome = true
  · have := h.2.2 hq j hj
    rw [hs] at this; cases this
  · rw [if_neg hq] at h1; exact h1
theorem IcW.first (h : IcW W1 ob i y q ls vals s w) (hs : s q = none) : w = W1 := by
  have h1 := h.1
  rw [hs] at h1
  exact h1
theorem IcW.store (h : IcW W1 ob i y q ls vals s w) (hv : vals[q]? = some undef) (hl : ∀ j ∈ ls, (s j).isSome = true) : IcW W1 ob i y q ls vals (updT s q undef) (W1.setCell ⟨ob, i, none⟩ y) := by
  refine ⟨by simp [updT], fun k u hu => ?_, fun _ k hk => ?_⟩
  · unfold updT at hu
    split at hu
    · rename_i e2; rw [e2, hv, hu]
    · exact h.2.1 k u hu
  · unfold updT
    split
    · rfl
    · exact hl k hk
theorem IcW.last (h : IcW W1 ob i y q ls vals s w) (hs : (s q).isSome = true) : w = W1.setCell ⟨ob, i, none⟩ y := by
  have h1 := h.1
  rw [if_pos hs] at h1
  exact h1
end
section
variable {ρ : Operand → Value} {o : Oper} {w : World}
theorem adT {x y z : Int} (h : wrap64 (x + y) = z) (p r : Operand) (ho : o.op = .binOp .add 3 p r 3) (hp : ρ p = .int .i64 x) (hr : ρ r = .int .i64 y) : (execOp ρ o).run Try.prog w = .ok (.value (.int .i64 z)) w := by
  unfold execOp
  simp only [ho, hp, hr]
  simp [go_sem]
  rw [IntKind.wrap_i64]
  unfold wrap64 at h
  exact h
theorem sbT {x y z : Int} (h : wrap64 (x - y) = z) (p r : Operand) (ho : o.op = .binOp .sub 3 p r 3) (hp : ρ p = .int .i64 x) (hr : ρ r = .int .i64 y) : (execOp ρ o).run Try.prog w = .ok (.value (.int .i64 z)) w := by
  unfold execOp
  simp only [ho, hp, hr]
  simp [go_sem]
  rw [IntKind.wrap_i64]
  unfold wrap64 at h
  exact h
end
def swR (l : List Int) (a b : Nat) : Nat → List Int
  | 0 => l
  | n + 1 => swp (swR l a b n) (a + n) (b + n)
theorem swR_len (l : List Int) (a b : Nat) : ∀ n, (swR l a b n).length = l.length
  | 0 => rfl
  | n + 1 => by rw [swR, swp_len, swR_len l a b n]
set_option maxRecDepth 1000000 in
set_option maxHeartbeats 4000000 in
theorem swapRange_any (l : List Int) (ob N cap a b n : Nat) (hl : l.length = N) (ha : a + n ≤ N) (hb : b + n ≤ N) (hN : N ≤ 100000) (F : Value) (w : World) (hP : PC w ob l) :
    Calls Try.prog 115 #[.slice (some ⟨ob, 0, none⟩) N cap, .int .i64 a, .int .i64 b, .int .i64 n, F] w fun e w' => e = .returned (.tuple #[]) ∧ PC w' ob (swR l a b n) ∧ OnlyC w w' ob := by
  have HP := Lib.hid hP
  have HL := Lib.hid hl
  clear hP hl
  go_enter Try.func115, Try.ntmps115
  go_wp2
  go_loopw [10] (fun ix wr => ∃ k : Nat, k ≤ n ∧ ix = .int .i64 k ∧ PC wr ob (swR l a b k) ∧ OnlyC w wr ob) (fun ix _ => n - (intOf ix).toNat)
  case atStart => exact ⟨0, by omega, rfl, HP.out, OnlyC.refl _ _⟩
  case round =>
    obtain ⟨k, hk, rfl, hp, ho⟩ := hrel
    have HPP := Lib.hid hp
    have HO := Lib.hid ho
    by_cases hlt : k < n
    · have hki : (k : Int) < n := by omega
      have hlen : (swR l a b k).length = N := by rw [swR_len, HL.out]
      obtain ⟨W1, hW1⟩ : ∃ W1 : World, ({ wr with drawn := wr.drawn + 1 } : World) = W1 := ⟨_, rfl⟩
      have hp1 : PC W1 ob (swR l a b k) := Pre.of_heap hp (by rw [← hW1])
      have d1 := hp1.get (j := a + k) (by omega)
      have d2 := hp1.get (j := b + k) (by omega)
      have f1 := Pre.free hp1 (a + k)
      have f2 := Pre.free hp1 (b + k)
      have hs1 := hp1.set (j := a + k) (by omega) ((swR l a b k).getD (b + k) 0)
      obtain ⟨z, d3⟩ : ∃ z, (W1.setCell ⟨ob, a + k, none⟩ (.int .i64 ((swR l a b k).getD (b + k) 0))).cell? ⟨ob, b + k, none⟩ = some z := ⟨_, hs1.get (j := b + k) (by simp; omega)⟩
      have f3 := Pre.free hs1 (b + k)
      have h3 := hp1.swp (i := a + k) (j := b + k) (by omega) (by omega)
      have ho1 : OnlyC wr W1 ob := by rw [← hW1]; exact OnlyC.drew (OnlyC.refl wr ob)
      have ho3 := (ho1.setCell (a + k) (.int .i64 ((swR l a b k).getD (b + k) 0))).setCell (b + k) (.int .i64 ((swR l a b k).getD (a + k) 0))
      have HW1 := Lib.hid hW1
      clear hp1 hs1 ho1 hW1
      generalize (swR l a b k).getD (a + k) 0 = x at *
      generalize (swR l a b k).getD (b + k) 0 = y at *
      have e1 : (a : Int) + k = ((a + k : Nat) : Int) := by omega
      have e2 : (b : Int) + k = ((b + k : Nat) : Int) := by omega
      have g1 : ((a + k : Nat) : Int) < N := by omega
      have g2 : ((b + k : Nat) : Int) < N := by omega
      have H3 := Lib.hid h3
      have HO3 := Lib.hid ho3
      have w1 : wrap64 ((a : Int) + k) = ((a + k : Nat) : Int) := by unfold wrap64; omega
      have w2 : wrap64 ((b : Int) + k) = ((b + k : Nat) : Int) := by unfold wrap64; omega
      have n1 : a + k < N := by omega
      have n2 : b + k < N := by omega
      clear hp ho h3 ho3 e1 e2 g1 g2
      go_upto_region 3 with fail
      obtain ⟨VALS, hVALS⟩ : ∃ VALS : List Value, VALS = [.slice (some ⟨ob, 0, none⟩) N cap, .int .i64 (a : Int), .int .i64 (k : Int), .int .i64 ((a + k : Nat) : Int), .slice (some ⟨ob, 0, none⟩) N cap, .int .i64 (b : Int), .int .i64 (k : Int), .int .i64 ((b + k : Nat) : Int), .slice (some ⟨ob, 0, none⟩) N cap, .int .i64 (b : Int), .int .i64 (k : Int), .int .i64 ((b + k : Nat) : Int), .pointer (some ⟨ob, b + k, none⟩), .int .i64 (y), .slice (some ⟨ob, 0, none⟩) N cap, .int .i64 (a : Int), .int .i64 (k : Int), .int .i64 ((a + k : Nat) : Int), .pointer (some ⟨ob, a + k, none⟩), .int .i64 (x), .pointer (some ⟨ob, a + k, none⟩), undef, .pointer (some ⟨ob, b + k, none⟩)] := ⟨_, rfl⟩
      refine wp_region_noPanic ?_
      refine wp_region_grown2 23 (IcW W1 ob (a + k) (.int .i64 (y)) 21 [13, 19] VALS) (by kernel_rfl) (by kernel_rfl) ?_ ?_ ?_
      · exact And.intro (by rw [if_neg (by simp)]; exact HW1.out) (And.intro (fun j v h => by cases h) (fun h => by cases h))
      · intro i o s wq hi ho hI hsi hdep
        rw [hVALS] at hI ⊢
        rcases (by omega : i = 0 ∨ i = 1 ∨ i = 2 ∨ i = 3 ∨ i = 4 ∨ i = 5 ∨ i = 6 ∨ i = 7 ∨ i = 8 ∨ i = 9 ∨ i = 10 ∨ i = 11 ∨ i = 12 ∨ i = 13 ∨ i = 14 ∨ i = 15 ∨ i = 16 ∨ i = 17 ∨ i = 18 ∨ i = 19 ∨ i = 20 ∨ i = 21 ∨ i = 22) with rfl | rfl | rfl | rfl | rfl | rfl | rfl | rfl | rfl | rfl | rfl | rfl | rfl | rfl | rfl | rfl | rfl | rfl | rfl | rfl | rfl | rfl | rfl
        all_goals (simp only [List.getElem?_cons_zero, List.getElem?_cons_succ] at ho; obtain rfl := Option.some.inj ho)
        · exact Or.inl (Or.inl ⟨_, _, runT_move (.tmp 0) rfl, hI.step 0 _ rfl (by decide)⟩)
        · exact Or.inl (Or.inl ⟨_, _, runT_move (.tmp 1) rfl, hI.step 1 _ rfl (by decide)⟩)
        · exact Or.inl (Or.inl ⟨_, _, runT_move (.tmp 10) rfl, hI.step 2 _ rfl (by decide)⟩)
        · have e1 := hI.told (j := 1) rfl (hdep ⟨1, .data⟩ (by simp) rfl)
          have e2 := hI.told (j := 2) rfl (hdep ⟨2, .data⟩ (by simp) rfl)
          exact Or.inl (Or.inl ⟨_, _, adT w1 (.tmp 17) (.tmp 18) rfl (evalT_told 1 (by kernel_rfl) e1) (evalT_told 2 (by kernel_rfl) e2), hI.step 3 _ rfl (by decide)⟩)
        · exact Or.inl (Or.inl ⟨_, _, runT_move (.tmp 0) rfl, hI.step 4 _ rfl (by decide)⟩)
        · exact Or.inl (Or.inl ⟨_, _, runT_move (.tmp 2) rfl, hI.step 5 _ rfl (by decide)⟩)
        · exact Or.inl (Or.inl ⟨_, _, runT_move (.tmp 10) rfl, hI.step 6 _ rfl (by decide)⟩)
        · have e5 := hI.told (j := 5) rfl (hdep ⟨5, .data⟩ (by simp) rfl)
          have e6 := hI.told (j := 6) rfl (hdep ⟨6, .data⟩ (by simp) rfl)
          exact Or.inl (Or.inl ⟨_, _, adT w2 (.tmp 21) (.tmp 22) rfl (evalT_told 5 (by kernel_rfl) e5) (evalT_told 6 (by kernel_rfl) e6), hI.step 7 _ rfl (by decide)⟩)
        · exact Or.inl (Or.inl ⟨_, _, runT_move (.tmp 0) rfl, hI.step 8 _ rfl (by decide)⟩)
        · exact Or.inl (Or.inl ⟨_, _, runT_move (.tmp 2) rfl, hI.step 9 _ rfl (by decide)⟩)
        · exact Or.inl (Or.inl ⟨_, _, runT_move (.tmp 10) rfl, hI.step 10 _ rfl (by decide)⟩)
        · have e9 := hI.told (j := 9) rfl (hdep ⟨9, .data⟩ (by simp) rfl)
          have e10 := hI.told (j := 10) rfl (hdep ⟨10, .data⟩ (by simp) rfl)
          exact Or.inl (Or.inl ⟨_, _, adT w2 (.tmp 25) (.tmp 26) rfl (evalT_told 9 (by kernel_rfl) e9) (evalT_told 10 (by kernel_rfl) e10), hI.step 11 _ rfl (by decide)⟩)
        · have e8 := hI.told (j := 8) rfl (hdep ⟨8, .data⟩ (by simp) rfl)
          have e11 := hI.told (j := 11) rfl (hdep ⟨11, .data⟩ (by simp) rfl)
          exact Or.inl (Or.inl ⟨_, _, ixT n2 (.tmp 24) (.tmp 27) rfl (evalT_told 8 (by kernel_rfl) e8) (evalT_told 11 (by kernel_rfl) e11), hI.step 12 _ rfl (by decide)⟩)
        · have hw := (hI.early (j := 13) (by decide) hsi).symm
          subst hw
          have e12 := hI.told (j := 12) rfl (hdep ⟨12, .data⟩ (by simp) rfl)
          exact Or.inl (Or.inl ⟨_, _, ldT (w := W1) d2 (.tmp 28) rfl (evalT_told 12 (by kernel_rfl) e12), hI.step 13 _ rfl (by decide)⟩)
        · exact Or.inl (Or.inl ⟨_, _, runT_move (.tmp 0) rfl, hI.step 14 _ rfl (by decide)⟩)
        · exact Or.inl (Or.inl ⟨_, _, runT_move (.tmp 1) rfl, hI.step 15 _ rfl (by decide)⟩)
        · exact Or.inl (Or.inl ⟨_, _, runT_move (.tmp 10) rfl, hI.step 16 _ rfl (by decide)⟩)
        · have e15 := hI.told (j := 15) rfl (hdep ⟨15, .data⟩ (by simp) rfl)
          have e16 := hI.told (j := 16) rfl (hdep ⟨16, .data⟩ (by simp) rfl)
          exact Or.inl (Or.inl ⟨_, _, adT w1 (.tmp 31) (.tmp 32) rfl (evalT_told 15 (by kernel_rfl) e15) (evalT_told 16 (by kernel_rfl) e16), hI.step 17 _ rfl (by decide)⟩)
        · have e14 := hI.told (j := 14) rfl (hdep ⟨14, .data⟩ (by simp) rfl)
          have e17 := hI.told (j := 17) rfl (hdep ⟨17, .data⟩ (by simp) rfl)
          exact Or.inl (Or.inl ⟨_, _, ixT n1 (.tmp 30) (.tmp 33) rfl (evalT_told 14 (by kernel_rfl) e14) (evalT_told 17 (by kernel_rfl) e17), hI.step 18 _ rfl (by decide)⟩)
        · have hw := (hI.early (j := 19) (by decide) hsi).symm
          subst hw
          have e18 := hI.told (j := 18) rfl (hdep ⟨18, .data⟩ (by simp) rfl)
          exact Or.inl (Or.inl ⟨_, _, ldT (w := W1) d1 (.tmp 34) rfl (evalT_told 18 (by kernel_rfl) e18), hI.step 19 _ rfl (by decide)⟩)
        · have e0 := hI.told (j := 0) rfl (hdep ⟨0, .data⟩ (by simp) rfl)
          have e3 := hI.told (j := 3) rfl (hdep ⟨3, .data⟩ (by simp) rfl)
          exact Or.inl (Or.inl ⟨_, _, ixT n1 (.tmp 16) (.tmp 19) rfl (evalT_told 0 (by kernel_rfl) e0) (evalT_told 3 (by kernel_rfl) e3), hI.step 20 _ rfl (by decide)⟩)
        · have hw := (hI.first hsi).symm
          subst hw
          have e20 := hI.told (j := 20) rfl (hdep ⟨20, .data⟩ (by simp) rfl)
          have e13 := hI.told (j := 13) rfl (hdep ⟨13, .data⟩ (by simp) rfl)
          exact Or.inr ⟨_, stT (w := W1) d1 f1 (.tmp 36) (.tmp 29) rfl (evalT_told 20 (by kernel_rfl) e20) _ (evalT_told 13 (by kernel_rfl) e13), hI.store rfl (fun j hj => by simp only [List.mem_cons, List.not_mem_nil, or_false] at hj; rcases hj with rfl | rfl; all_goals exact hdep ⟨_, .phase⟩ (by simp) rfl)⟩
        · have e4 := hI.told (j := 4) rfl (hdep ⟨4, .data⟩ (by simp) rfl)
          have e7 := hI.told (j := 7) rfl (hdep ⟨7, .data⟩ (by simp) rfl)
          exact Or.inl (Or.inl ⟨_, _, ixT n2 (.tmp 20) (.tmp 23) rfl (evalT_told 4 (by kernel_rfl) e4) (evalT_told 7 (by kernel_rfl) e7), hI.step 22 _ rfl (by decide)⟩)
      · intro s wq hI hsome
        rw [hVALS] at hI
        have e0 := hI.told (j := 0) rfl (hsome 0 (by omega))
        have e1 := hI.told (j := 1) rfl (hsome 1 (by omega))
        have e2 := hI.told (j := 2) rfl (hsome 2 (by omega))
        have e3 := hI.told (j := 3) rfl (hsome 3 (by omega))
        have e4 := hI.told (j := 4) rfl (hsome 4 (by omega))
        have e5 := hI.told (j := 5) rfl (hsome 5 (by omega))
        have e6 := hI.told (j := 6) rfl (hsome 6 (by omega))
        have e7 := hI.told (j := 7) rfl (hsome 7 (by omega))
        have e8 := hI.told (j := 8) rfl (hsome 8 (by omega))
        have e9 := hI.told (j := 9) rfl (hsome 9 (by omega))
        have e10 := hI.told (j := 10) rfl (hsome 10 (by omega))
        have e11 := hI.told (j := 11) rfl (hsome 11 (by omega))
        have e12 := hI.told (j := 12) rfl (hsome 12 (by omega))
        have e13 := hI.told (j := 13) rfl (hsome 13 (by omega))
        have e14 := hI.told (j := 14) rfl (hsome 14 (by omega))
        have e15 := hI.told (j := 15) rfl (hsome 15 (by omega))
        have e16 := hI.told (j := 16) rfl (hsome 16 (by omega))
        have e17 := hI.told (j := 17) rfl (hsome 17 (by omega))
        have e18 := hI.told (j := 18) rfl (hsome 18 (by omega))
        have e19 := hI.told (j := 19) rfl (hsome 19 (by omega))
        have e20 := hI.told (j := 20) rfl (hsome 20 (by omega))
        have e21 := hI.told (j := 21) rfl (hsome 21 (by omega))
        have e22 := hI.told (j := 22) rfl (hsome 22 (by omega))
        have hw := hI.last (hsome 21 (by omega))
        simp only [List.take_succ_cons, List.take_zero, List.drop_succ_cons, List.drop_zero, putsT, e0, e1, e2, e3, e4, e5, e6, e7, e8, e9, e10, e11, e12, e13, e14, e15, e16, e17, e18, e19, e20, e21, e22, Option.getD_some]
        subst hw
        clear hI hsome hVALS e0 e1 e2 e3 e4 e5 e6 e7 e8 e9 e10 e11 e12 e13 e14 e15 e16 e17 e18 e19 e20 e21 e22
        go_frame
        go_wp2_with fail
        refine NoPanic.normal ?_
        go_wp2
        exact ⟨⟨k + 1, by omega, by go_num, H3.out, HO.out.trans HO3.out⟩, by simp [intOf]; omega⟩
    · obtain rfl : k = n := by omega
      clear hp ho
      go_wp2
      go_returns
      exact ⟨rfl, HPP.out, HO.out⟩
open Go.RowKit Go.BigFrame

def rot : Nat → List Int → Nat → Nat → Nat → List Int
  | 0, l, _, _, _ => l
  | n + 1, l, m, i, j => if i = j then swR l (m - i) m i else if j < i then rot n (swR l (m - i) m j) m (i - j) j else rot n (swR l (m - i) (m + j - i) i) m i (j - i)
theorem rot_len : ∀ (n : Nat) (l : List Int) (m i j : Nat), (rot n l m i j).length = l.length
  | 0, _, _, _, _ => rfl
  | n + 1, l, m, i, j => by
    unfold rot
    split
    · rw [swR_len]
    · split
      · rw [rot_len n, swR_len]
      · rw [rot_len n, swR_len]
set_option maxRecDepth 1000000 in
set_option maxHeartbeats 4000000 in
theorem rotate_any (l : List Int) (ob N cap a m b : Nat) (hl : l.length = N) (ha : a < m) (hm : m < b) (hb : b ≤ N) (hN : N ≤ 100000) (F : Value) (w : World) (hP : PC w ob l) :
    Calls Try.prog 105 #[.slice (some ⟨ob, 0, none⟩) N cap, .int .i64 a, .int .i64 m, .int .i64 b, F] w fun e w' => e = .returned (.tuple #[]) ∧ PC w' ob (rot (b - a) l m (m - a) (b - m)) ∧ OnlyC w w' ob := by
  have HP := Lib.hid hP
  have HL := Lib.hid hl
  have HSW : Hid (∀ (l : List Int) (a b n : Nat) (x y z : Int), l.length = N → a + n ≤ N → b + n ≤ N → x = a → y = b → z = n → ∀ W, PC W ob l → Calls Try.prog 115 #[.slice (some ⟨ob, 0, none⟩) N cap, .int .i64 x, .int .i64 y, .int .i64 z, F] W fun e w' => e = .returned (.tuple #[]) ∧ PC w' ob (swR l a b n) ∧ OnlyC W w' ob) := Lib.hid fun l a b n x y z hl ha hb hx hy hz W hP => by subst hx; subst hy; subst hz; exact swapRange_any l ob N cap a b n hl ha hb hN F W hP
  obtain ⟨X, hX⟩ : ∃ X, rot (b - a) l m (m - a) (b - m) = X := ⟨_, rfl⟩
  rw [hX]
  have HX := Lib.hid hX
  have w1 : (m : Int) - a ≤ 100000 := by omega
  have w2 : (b : Int) - m ≤ 100000 := by omega
  have w3 : (0 : Int) ≤ (m : Int) - a := by omega
  have w4 : (0 : Int) ≤ (b : Int) - m := by omega
  clear hP hl hX
  go_enter Try.func105, Try.ntmps105
  go_wp2
  go_loopw [10, 11] (fun vi vj wr => ∃ (i j n : Nat) (l' : List Int), vi = .int .i64 i ∧ vj = .int .i64 j ∧ 0 < i ∧ 0 < j ∧ i ≤ m ∧ m + j ≤ N ∧ i + j ≤ n ∧ l'.length = N ∧ PC wr ob l' ∧ OnlyC w wr ob ∧ rot n l' m i j = X) (fun vi vj _ => (intOf vi).toNat + (intOf vj).toNat)
  case atStart => exact ⟨m - a, b - m, b - a, l, by congr 1; omega, by congr 1; omega, by omega, by omega, by omega, by omega, by omega, HL.out, HP.out, OnlyC.refl _ _, HX.out⟩
  case round =>
    obtain ⟨i, j, n, l', rfl, rfl, hi, hj, him, hjN, hn, hl', hp, ho, hx⟩ := hrel
    have HPP := Lib.hid hp
    have HO := Lib.hid ho
    have HXX := Lib.hid hx
    have HLL := Lib.hid hl'
    clear hp ho hx hl' w1 w2 w3 w4
    obtain ⟨n, rfl⟩ : ∃ k, n = k + 1 := ⟨n - 1, by omega⟩
    have u1 : (0 : Int) ≤ (m : Int) - i := by omega
    have u2 : (m : Int) - i ≤ 100000 := by omega
    by_cases hij : i = j
    · subst hij
      have HR : Hid (swR l' (m - i) m i = X) := Lib.hid (by have h := HXX.out; unfold rot at h; rw [if_pos rfl] at h; exact h)
      clear hn
      go_wp2_with (first
        | (go_at_call 115; refine (HSW.out l' (m - i) m i _ _ _ HLL.out (by omega) (by omega) (by omega) (by omega) (by omega) _ HPP.out).mono ?_; rintro e w3 ⟨rfl, hp3, ho3⟩; have HP3 := Lib.hid hp3; have HO3 := Lib.hid ho3; clear hp3 ho3))
      go_returns
      exact ⟨rfl, by have := HP3.out; rw [HR.out] at this; exact this, HO.out.trans HO3.out⟩
    · have hij2 : ¬ ((i : Int) = j) := by omega
      have hijb : ((i : Int) == j) = false := by rw [beq_eq_false_iff_ne]; exact hij2
      by_cases hlt : j < i
      · have u3 : (0 : Int) ≤ (i : Int) - j := by omega
        have u4 : (i : Int) - j ≤ 100000 := by omega
        have hji : (j : Int) < i := by omega
        have HR : Hid (rot n (swR l' (m - i) m j) m (i - j) j = X) := Lib.hid (by have h := HXX.out; unfold rot at h; rw [if_neg hij, if_pos hlt] at h; exact h)
        go_wp2_with (first
          | (go_at_call 115; refine (HSW.out l' (m - i) m j _ _ _ HLL.out (by omega) (by omega) (by omega) (by omega) (by omega) _ HPP.out).mono ?_; rintro e w3 ⟨rfl, hp3, ho3⟩; have HP3 := Lib.hid hp3; have HO3 := Lib.hid ho3; clear hp3 ho3))
        exact ⟨⟨i - j, j, n, _, by congr 1; omega, rfl, by omega, hj, by omega, hjN, by omega, by rw [swR_len, HLL.out], HP3.out, HO.out.trans HO3.out, HR.out⟩, by simp [intOf]; omega⟩
      · have u3 : (0 : Int) ≤ (j : Int) - i := by omega
        have u6 : (j : Int) - i ≤ 100000 := by omega
        have u4 : (m : Int) + j ≤ 100000 := by omega
        have u7 : (0 : Int) ≤ (m : Int) + j - i := by omega
        have u8 : (m : Int) + j - i ≤ 100000 := by omega
        have hji : ¬ (j : Int) < i := by omega
        have HR : Hid (rot n (swR l' (m - i) (m + j - i) i) m i (j - i) = X) := Lib.hid (by have h := HXX.out; unfold rot at h; rw [if_neg hij, if_neg hlt] at h; exact h)
        go_wp2_with (first
          | (go_at_call 115; refine (HSW.out l' (m - i) (m + j - i) i _ _ _ HLL.out (by omega) (by omega) (by omega) (by omega) (by omega) _ HPP.out).mono ?_; rintro e w3 ⟨rfl, hp3, ho3⟩; have HP3 := Lib.hid hp3; have HO3 := Lib.hid ho3; clear hp3 ho3))
        exact ⟨⟨i, j - i, n, _, rfl, by congr 1; omega, hi, by omega, him, by omega, by omega, by rw [swR_len, HLL.out], HP3.out, HO.out.trans HO3.out, HR.out⟩, by simp [intOf]; omega⟩
end Go.Proofs.Ythbcdckonaljiaa
