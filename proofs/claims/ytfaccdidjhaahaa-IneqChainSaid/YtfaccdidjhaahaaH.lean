import Derived.Test.YtfaccdidjhaahaaG
namespace Go.Proofs.Ytfaccdidjhaahaa
open Go.RowKit

/-- the sum of a row times b's factor turned, and of b times a's -/
def combo (a b : Row) (v : Nat) : Row :=
  ⟨-b.at v * a.f0 + a.at v * b.f0, -b.at v * a.f1 + a.at v * b.f1, -b.at v * a.f2 + a.at v * b.f2, -b.at v * a.f3 + a.at v * b.f3, -b.at v * a.f4 + a.at v * b.f4,
   -b.at v * a.f5 + a.at v * b.f5, -b.at v * a.f6 + a.at v * b.f6, -b.at v * a.f7 + a.at v * b.f7, -b.at v * a.c + a.at v * b.c⟩
def Row.bare (r : Row) : Bool := r.F == [0, 0, 0, 0, 0, 0, 0, 0]
def Row.keep (r : Row) : Bool := !r.bare || decide (r.c < 0)
def one (v : Nat) (a : Row) (out : List Row) (b : Row) : Option (List Row) :=
  if (combo a b v).shrink.right then some (if (combo a b v).shrink.keep then out ++ [(combo a b v).shrink] else out) else none
def inner (v : Nat) (down : List Row) (out : List Row) (a : Row) : Option (List Row) := down.foldlM (one v a) out
def upOf (v : Nat) (l : List Row) : List Row := l.filter fun r => decide (0 < r.at v)
def downOf (v : Nat) (l : List Row) : List Row := l.filter fun r => decide (r.at v < 0)
def restOf (v : Nat) (l : List Row) : List Row := l.filter fun r => decide (r.at v = 0) && r.keep
def stepS (v : Nat) (l : List Row) : Option (List Row) :=
  if l.all Row.right then
    match (upOf v l).foldlM (inner v (downOf v l)) (restOf v l) with
    | some out => if out.length ≤ 64 then some out else none
    | none => none
  else none
def StepPost (v : Nat) (l : List Row) (w : World) (e : Ending) (w' : World) : Prop :=
  Below w.heap.size w w' ∧ match stepS v l with
    | some out => ∃ V, e = .returned (.tuple #[V, .bool true]) ∧ Own w' w.heap.size V out
    | none => e = .returned (.tuple #[.slice none 0 0, .bool false])

theorem take_snoc' (l : List Row) (k : Nat) (h : k < l.length) : l.take (k + 1) = l.take k ++ [l[k]] := List.take_succ_eq_append_getElem h
theorem up_snoc (v : Nat) (m : List Row) (x : Row) (hp : 0 < x.at v) : upOf v (m ++ [x]) = upOf v m ++ [x] ∧ downOf v (m ++ [x]) = downOf v m ∧ restOf v (m ++ [x]) = restOf v m := by
  simp [upOf, downOf, restOf, List.filter_append, hp, show ¬ x.at v < 0 by omega, show ¬ x.at v = 0 by omega]
theorem down_snoc (v : Nat) (m : List Row) (x : Row) (hp : x.at v < 0) : upOf v (m ++ [x]) = upOf v m ∧ downOf v (m ++ [x]) = downOf v m ++ [x] ∧ restOf v (m ++ [x]) = restOf v m := by
  simp [upOf, downOf, restOf, List.filter_append, hp, show ¬ 0 < x.at v by omega, show ¬ x.at v = 0 by omega]
theorem rest_snoc (v : Nat) (m : List Row) (x : Row) (hp : x.at v = 0) (hk : x.keep = true) : upOf v (m ++ [x]) = upOf v m ∧ downOf v (m ++ [x]) = downOf v m ∧ restOf v (m ++ [x]) = restOf v m ++ [x] := by
  simp [upOf, downOf, restOf, List.filter_append, hp, hk]
theorem none_snoc (v : Nat) (m : List Row) (x : Row) (hp : x.at v = 0) (hk : x.keep = false) : upOf v (m ++ [x]) = upOf v m ∧ downOf v (m ++ [x]) = downOf v m ∧ restOf v (m ++ [x]) = restOf v m := by
  simp [upOf, downOf, restOf, List.filter_append, hp, hk]
theorem step_not (v : Nat) (l : List Row) (k : Nat) (h : k < l.length) (hr : (l[k]).right = false) : stepS v l = none := by
  have : l.all Row.right = false := by
    rw [List.all_eq_false]; exact ⟨l[k], List.getElem_mem h, by simp [hr]⟩
  simp [stepS, this]

/-- after loop 1 came through the rows m -/
structure S1 (v : Nat) (m : List Row) (w0 wr : World) (V6 V7 V8 : Value) : Prop where
  h6 : Own wr w0.heap.size V6 (restOf v m)
  h7 : Own wr w0.heap.size V7 (upOf v m)
  h8 : Own wr w0.heap.size V8 (downOf v m)
  n67 : Ne2 V6 V7
  n68 : Ne2 V6 V8
  n78 : Ne2 V7 V8
  hB : Below w0.heap.size w0 wr
  hr : ∀ r ∈ m, r.right = true
theorem S1.nil (v : Nat) (w : World) : S1 v [] w w (.slice none 0 0) (.slice none 0 0) (.slice none 0 0) :=
  ⟨Own.nil _ _, Own.nil _ _, Own.nil _ _, Ne2.nil _, Ne2.nil _, Ne2.nil _, Below.refl _ _, fun r hr => by simp at hr⟩
section
variable {v : Nat} {m : List Row} {w0 wr w' : World} {V6 V7 V8 V' : Value} {x : Row}
theorem S1.mono (h : S1 v m w0 wr V6 V7 V8) (hb : Below wr.heap.size wr w') : S1 v m w0 w' V6 V7 V8 :=
  ⟨h.h6.below hb, h.h7.below hb, h.h8.below hb, h.n67, h.n68, h.n78, h.hB.trans (hb.mono h.hB.size), h.hr⟩
theorem right_snoc (hm : ∀ r ∈ m, r.right = true) (hx : x.right = true) : ∀ r ∈ m ++ [x], r.right = true := fun r hr => by
  rcases List.mem_append.1 hr with h | h
  · exact hm r h
  · rw [List.mem_singleton.1 h]; exact hx
theorem S1.up (h : S1 v m w0 wr V6 V7 V8) (hx : x.right = true) (hp : 0 < x.at v) (ho : Own w' w0.heap.size V' (upOf v m ++ [x])) (hg : wr.grownBy w' V7.ownBlock)
    (hat : V'.ownBlock = V7.ownBlock ∨ V'.ownBlock = some wr.heap.size) : S1 v (m ++ [x]) w0 w' V6 V' V8 := by
  obtain ⟨e1, e2, e3⟩ := up_snoc v m x hp
  exact ⟨e3 ▸ h.h6.keep hg h.n67, e1 ▸ ho, e2 ▸ h.h8.keep hg h.n78.symm, (h.n67.symm.app h.h6 hat).symm, h.n68, h.n78.app h.h8 hat, h.hB.grown hg h.hB.size (fun k hk => (h.h7.lt k hk).1), right_snoc h.hr hx⟩
theorem S1.down (h : S1 v m w0 wr V6 V7 V8) (hx : x.right = true) (hp : x.at v < 0) (ho : Own w' w0.heap.size V' (downOf v m ++ [x])) (hg : wr.grownBy w' V8.ownBlock)
    (hat : V'.ownBlock = V8.ownBlock ∨ V'.ownBlock = some wr.heap.size) : S1 v (m ++ [x]) w0 w' V6 V7 V' := by
  obtain ⟨e1, e2, e3⟩ := down_snoc v m x hp
  exact ⟨e3 ▸ h.h6.keep hg h.n68, e1 ▸ h.h7.keep hg h.n78, e2 ▸ ho, h.n67, (h.n68.symm.app h.h6 hat).symm, (h.n78.symm.app h.h7 hat).symm, h.hB.grown hg h.hB.size (fun k hk => (h.h8.lt k hk).1), right_snoc h.hr hx⟩
theorem S1.rest (h : S1 v m w0 wr V6 V7 V8) (hx : x.right = true) (hp : x.at v = 0) (hk : x.keep = true) (ho : Own w' w0.heap.size V' (restOf v m ++ [x])) (hg : wr.grownBy w' V6.ownBlock)
    (hat : V'.ownBlock = V6.ownBlock ∨ V'.ownBlock = some wr.heap.size) : S1 v (m ++ [x]) w0 w' V' V7 V8 := by
  obtain ⟨e1, e2, e3⟩ := rest_snoc v m x hp hk
  exact ⟨e3 ▸ ho, e1 ▸ h.h7.keep hg h.n67.symm, e2 ▸ h.h8.keep hg h.n68.symm, h.n67.app h.h7 hat, h.n68.app h.h8 hat, h.n78, h.hB.grown hg h.hB.size (fun k hk => (h.h6.lt k hk).1), right_snoc h.hr hx⟩
theorem S1.none_ (h : S1 v m w0 wr V6 V7 V8) (hx : x.right = true) (hp : x.at v = 0) (hk : x.keep = false) : S1 v (m ++ [x]) w0 wr V6 V7 V8 := by
  obtain ⟨e1, e2, e3⟩ := none_snoc v m x hp hk
  exact ⟨e3 ▸ h.h6, e1 ▸ h.h7, e2 ▸ h.h8, h.n67, h.n68, h.n78, h.hB, right_snoc h.hr hx⟩
theorem S1.len (_ : S1 v m w0 wr V6 V7 V8) (hl : m.length ≤ 64) : (upOf v m).length ≤ 64 ∧ (downOf v m).length ≤ 64 ∧ (restOf v m).length ≤ 64 :=
  ⟨Nat.le_trans (List.length_filter_le _ _) hl, Nat.le_trans (List.length_filter_le _ _) hl, Nat.le_trans (List.length_filter_le _ _) hl⟩
end
theorem step_no {v : Nat} {l : List Row} {w w' : World} (h : stepS v l = none) (hb : Below w.heap.size w w') : StepPost v l w (.returned (.tuple #[.slice none 0 0, .bool false])) w' := by
  refine ⟨hb, ?_⟩; rw [h]

/-- in loop 2: the list out grows; the lists up and down stay -/
structure S2 (w0 wr : World) (V6 V7 V8 : Value) (out up down : List Row) : Prop where
  h6 : Own wr w0.heap.size V6 out
  h7 : Own wr w0.heap.size V7 up
  h8 : Own wr w0.heap.size V8 down
  n67 : Ne2 V6 V7
  n68 : Ne2 V6 V8
  hB : Below w0.heap.size w0 wr
section
variable {w0 wr w' : World} {V6 V7 V8 V' : Value} {x : Row} {out up down : List Row}
theorem S2.mono (h : S2 w0 wr V6 V7 V8 out up down) (hb : Below wr.heap.size wr w') : S2 w0 w' V6 V7 V8 out up down :=
  ⟨h.h6.below hb, h.h7.below hb, h.h8.below hb, h.n67, h.n68, h.hB.trans (hb.mono h.hB.size)⟩
theorem S2.app (h : S2 w0 wr V6 V7 V8 out up down) (ho : Own w' w0.heap.size V' (out ++ [x])) (hg : wr.grownBy w' V6.ownBlock)
    (hat : V'.ownBlock = V6.ownBlock ∨ V'.ownBlock = some wr.heap.size) : S2 w0 w' V' V7 V8 (out ++ [x]) up down :=
  ⟨ho, h.h7.keep hg h.n67.symm, h.h8.keep hg h.n68.symm, h.n67.app h.h7 hat, h.n68.app h.h8 hat, h.hB.grown hg h.hB.size (fun k hk => (h.h6.lt k hk).1)⟩
end
theorem Own.rd {w : World} {B n cap : Nat} {A : Option Addr} {l : List Row} (h : Own w B (.slice A n cap) l) : Rd w w.heap.size A l := by
  obtain ⟨A', cap', e, _, hr⟩ := h.form
  injection e with e1 e2 e3
  subst e1
  exact hr
theorem w64 (n : Int) : IntKind.i64.wrap n = wrap64 n := by rw [IntKind.wrap_i64]; unfold wrap64; rfl
def comboK (a b : Row) (v : Nat) : Nat → Row
  | 0 => row0
  | k + 1 => (comboK a b v k).set k (-b.at v * a.at k + a.at v * b.at k)
theorem comboK_8 (a b : Row) (v : Nat) : (comboK a b v 8).set 8 (-b.at v * a.c + a.at v * b.c) = combo a b v := by
  simp [comboK, Row.set, combo, Row.at, Row.F]
theorem comboK_mk (a b : Row) (v : Nat) : mkC (comboK a b v 8) (-b.at v * a.c + a.at v * b.c) = combo a b v := by rw [← comboK_8]; rfl
theorem HasR.grown {w w' : World} {b : Nat} {r : Row} {row : Option Nat} (h : HasR w b r) (hg : w.grownBy w' row) (hne : row ≠ some b) : HasR w' b r := (hg.block b h.lt (Ne.symm hne)).trans h
theorem HasR.drew {w : World} {b : Nat} {r : Row} (h : HasR w b r) : HasR w.drew b r := h
theorem combo_nums {a b c d : Int} (ha : far a = true) (hb : far b = true) (hc : far c = true) (hd : far d = true) :
    wrap64 (-a) = -a ∧ wrap64 (-a * b) = -a * b ∧ wrap64 (c * d) = c * d ∧ wrap64 (-a * b + c * d) = -a * b + c * d ∧ big (-a * b + c * d) := by
  have h1 := mul_far ha hb
  have h2 := mul_far hc hd
  rw [far_iff] at ha
  have e : -a * b = -(a * b) := Int.neg_mul a b
  rw [e]
  refine ⟨?_, ?_, ?_, ?_, ?_⟩ <;> (try unfold wrap64) <;> (try unfold big) <;> omega
theorem combo_big {a b : Row} (v : Nat) (ha : a.right = true) (hb : b.right = true) : (∀ j, big ((combo a b v).at j)) ∧ big (combo a b v).c := by
  have h : ∀ x y, far x = true → far y = true → big (-b.at v * x + a.at v * y) := fun x y hx hy => (combo_nums (far_at hb v) hx (far_at ha v) hy).2.2.2.2
  have hac : far a.c = true := by simp [Row.right] at ha; exact ha.2
  have hbc : far b.c = true := by simp [Row.right] at hb; exact hb.2
  refine ⟨fun j => ?_, h _ _ hac hbc⟩
  by_cases hj : j < 8
  · have : (combo a b v).at j = -b.at v * a.at j + a.at v * b.at j := by
      have : j = 0 ∨ j = 1 ∨ j = 2 ∨ j = 3 ∨ j = 4 ∨ j = 5 ∨ j = 6 ∨ j = 7 := by omega
      rcases this with rfl | rfl | rfl | rfl | rfl | rfl | rfl | rfl <;> simp [combo, Row.at, Row.F]
    rw [this]; exact h _ _ (far_at ha j) (far_at hb j)
  · have : (combo a b v).at j = 0 := by
      unfold Row.at; rw [List.getD_eq_getElem?_getD, List.getElem?_eq_none (by simp [Row.F]; omega)]; rfl
    rw [this]; unfold big; omega
theorem foldlM_take_succ {α β : Type} (f : β → α → Option β) (l : List α) (x : β) (k : Nat) (h : k < l.length) : (l.take (k + 1)).foldlM f x = ((l.take k).foldlM f x).bind fun y => f y l[k] := by
  rw [List.take_succ_eq_append_getElem h, List.foldlM_append]
  simp
theorem foldlM_none {α β : Type} (f : β → α → Option β) (l : List α) (x : β) (k : Nat) (h : (l.take k).foldlM f x = none) : l.foldlM f x = none := by
  rw [← List.take_append_drop k l, List.foldlM_append, h]; rfl
theorem right_mem {v : Nat} {l : List Row} (h : ∀ r ∈ l, r.right = true) : (∀ r ∈ upOf v l, r.right = true) ∧ (∀ r ∈ downOf v l, r.right = true) :=
  ⟨fun r hr => h r (List.mem_filter.1 hr).1, fun r hr => h r (List.mem_filter.1 hr).1⟩

set_option maxRecDepth 100000 in
set_option maxHeartbeats 2000000 in
theorem step_any (l : List Row) (A : Option Addr) (cap v : Nat) (w : World) (hl : l.length ≤ 64) (hv : v < 8) (hR : Rd w w.heap.size A l) :
    Calls Try.prog 17 #[.slice A l.length cap, .int .i64 v] w (StepPost v l w) := by
  go_enter Try.func17, Try.ntmps17
  go_wp2
  go_loopw [6, 7, 8, 28] (fun V6 V7 V8 i wr => ∃ k : Nat, k ≤ l.length ∧ i = .int .i64 k ∧ S1 v (l.take k) w wr V6 V7 V8) (fun _ _ _ i _ => l.length - (intOf i).toNat)
  case atStart => exact ⟨0, by omega, rfl, S1.nil v w⟩
  case round =>
    obtain ⟨k, hk, rfl, hS⟩ := hrel
    by_cases hlt : k < l.length
    · have hRr := hR.below hS.hB (Nat.le_refl _)
      obtain ⟨b, o, rfl, hb, c0, c1, c2, c3, c4, c5, c6, c7, c8⟩ := hRr.at_ k hlt
      have hsn := take_snoc' l k hlt
      have hno := step_not v l k hlt
      have hlen := hS.len (by rw [List.length_take]; omega)
      generalize l[k] = x at c0 c1 c2 c3 c4 c5 c6 c7 c8 hsn hno
      generalize hm : l.take k = m at hS hsn hlen
      clear hm
      have HSN := Lib.hid hsn; clear hsn
      have HNO := Lib.hid hno; clear hno
      go_wp2_with fail
      clear c0 c1 c2 c3 c4 c5 c6 c7 c8
      have hB1 : Below wr.heap.size wr (wr.alloc x.o) := (Below.refl _ _).alloc (Nat.le_refl _) _
      have hX : HasR (wr.alloc x.o) wr.heap.size x := HasR.new wr x
      replace hS := hS.mono hB1
      generalize wr.alloc x.o = W1 at hS hX ⊢
      refine (right_any x _).mono ?_; rintro e w1 ⟨rfl, hb1⟩
      replace hS := hS.mono hb1
      replace hX := hX.below hb1 hX.lt
      clear hb1 hB1
      by_cases hr : x.right = true
      · have hcv := hX.cell v hv
        obtain ⟨c0, c1, c2, c3, c4, c5, c6, c7, c8⟩ := hX.cells
        by_cases hp : 0 < x.at v
        · go_wp2_with (at_builtin; refine append_row rfl _ _ rfl w.heap.size _ (upOf v m) rfl (hS.mono ((Below.refl _ _).alloc (Nat.le_refl _) _)).h7 _ x rfl (HasR.new _ x) (by omega) (by have := hS.hB.size; simp; omega) ?_; intro V' w2 ho hg hat)
          exact ⟨⟨k + 1, by omega, by go_num, HSN.out ▸ (hS.mono ((Below.refl _ _).alloc (Nat.le_refl _) _)).up hr hp ho hg hat⟩, by simp [intOf]; omega⟩
        · by_cases hp2 : x.at v < 0
          · go_wp2_with (at_builtin; refine append_row rfl _ _ rfl w.heap.size _ (downOf v m) rfl (hS.mono ((Below.refl _ _).alloc (Nat.le_refl _) _)).h8 _ x rfl (HasR.new _ x) (by omega) (by have := hS.hB.size; simp; omega) ?_; intro V' w2 ho hg hat)
            exact ⟨⟨k + 1, by omega, by go_num, HSN.out ▸ (hS.mono ((Below.refl _ _).alloc (Nat.le_refl _) _)).down hr hp2 ho hg hat⟩, by simp [intOf]; omega⟩
          · have hp3 : x.at v = 0 := by omega
            have HP3 := Lib.hid hp3; clear hp3
            go_wp2_with fail
            clear c0 c1 c2 c3 c4 c5 c6 c7 c8 hcv
            refine (bare_any x _).mono ?_; rintro e w2 ⟨rfl, hb1⟩
            replace hS := hS.mono hb1
            replace hX := hX.below hb1 hX.lt
            clear hb1
            obtain ⟨c0, c1, c2, c3, c4, c5, c6, c7, c8⟩ := hX.cells
            cases hbr : (x.F == [0, 0, 0, 0, 0, 0, 0, 0])
            · have hkp : x.keep = true := by simp [Row.keep, Row.bare, hbr]
              have HK := Lib.hid hkp; clear hkp
              have HBR := Lib.hid hbr; clear hbr
              go_wp2_with (at_builtin; refine append_row rfl _ _ rfl w.heap.size _ (restOf v m) rfl (hS.mono ((Below.refl _ _).alloc (Nat.le_refl _) _)).h6 _ x rfl (HasR.new _ x) (by omega) (by have := hS.hB.size; simp; omega) ?_; intro V' w3 ho hg hat)
              exact ⟨⟨k + 1, by omega, by go_num, HSN.out ▸ (hS.mono ((Below.refl _ _).alloc (Nat.le_refl _) _)).rest hr HP3.out HK.out ho hg hat⟩, by simp [intOf]; omega⟩
            · by_cases hc0 : x.c < 0
              · have hkp : x.keep = true := by simp [Row.keep, hc0]
                have HK := Lib.hid hkp; clear hkp
                have HBR := Lib.hid hbr; clear hbr
                go_wp2_with (at_builtin; refine append_row rfl _ _ rfl w.heap.size _ (restOf v m) rfl (hS.mono ((Below.refl _ _).alloc (Nat.le_refl _) _)).h6 _ x rfl (HasR.new _ x) (by omega) (by have := hS.hB.size; simp; omega) ?_; intro V' w3 ho hg hat)
                exact ⟨⟨k + 1, by omega, by go_num, HSN.out ▸ (hS.mono ((Below.refl _ _).alloc (Nat.le_refl _) _)).rest hr HP3.out HK.out ho hg hat⟩, by simp [intOf]; omega⟩
              · have hkp : x.keep = false := by simp [Row.keep, Row.bare, hbr, hc0]
                have HK := Lib.hid hkp; clear hkp
                have HBR := Lib.hid hbr; clear hbr
                go_wp2_with fail
                exact ⟨⟨k + 1, by omega, by go_num, HSN.out ▸ hS.none_ hr HP3.out HK.out⟩, by simp [intOf]; omega⟩
      · have hr' : x.right = false := by simpa using hr
        have hfin := HNO.out hr'
        go_wp2_with fail
        go_ret2
        exact step_no hfin hS.hB
    · have hkl : k = l.length := by omega
      subst hkl
      rw [List.take_length] at hS
      obtain ⟨A7, cap7, e7, hA7, hR7⟩ := hS.h7.form
      subst e7
      obtain ⟨A8, cap8, e8, hA8, hR8⟩ := hS.h8.form
      subst e8
      have hlen := hS.len hl
      clear hR
      have hS2 : S2 w wr u6 (.slice A7 (upOf v l).length cap7) (.slice A8 (downOf v l).length cap8) (restOf v l) (upOf v l) (downOf v l) := ⟨hS.h6, hS.h7, hS.h8, hS.n67, hS.n68, hS.hB⟩
      have hall : l.all Row.right = true := List.all_eq_true.2 hS.hr
      have hup := (right_mem (v := v) hS.hr).1
      have hdn := (right_mem (v := v) hS.hr).2
      have hst : stepS v l = match (upOf v l).foldlM (inner v (downOf v l)) (restOf v l) with
        | some out => if out.length ≤ 64 then some out else none
        | none => none := by simp [stepS, hall]
      have HST := Lib.hid hst
      clear hst hall hS
      have HUP := Lib.hid hup
      have HDN := Lib.hid hdn
      clear hup hdn hA7 hA8
      generalize upOf v l = up at *
      generalize downOf v l = down at *
      generalize restOf v l = out0 at *
      go_wp2_with fail
      go_loopw [6, 72] (fun V6 i wr => ∃ (k : Nat) (out : List Row), k ≤ up.length ∧ i = .int .i64 k ∧ out.length ≤ 64 + k * 64 ∧ Hid ((up.take k).foldlM (inner v down) out0 = some out) ∧ S2 w wr V6 (.slice A7 up.length cap7) (.slice A8 down.length cap8) out up down) (fun _ i _ => up.length - (intOf i).toNat)
      case atStart => exact ⟨0, out0, by omega, rfl, by omega, rfl, hS2⟩
      case round =>
        clear hS2 hR7 hR8
        obtain ⟨k, out, hk, rfl, hol, HF, hS⟩ := hrel
        by_cases hlt : k < up.length
        · obtain ⟨b, o, rfl, hb, c0, c1, c2, c3, c4, c5, c6, c7, c8⟩ := hS.h7.rd.at_ k hlt
          have hts := foldlM_take_succ (inner v down) up out0 k hlt
          rw [HF.out] at hts
          have hra := HUP.out _ (List.getElem_mem hlt)
          have hnone : inner v down out up[k] = none → stepS v l = none := fun hn => by
            have : up.foldlM (inner v down) out0 = none := foldlM_none _ up out0 (k + 1) (by rw [hts]; exact hn)
            rw [HST.out, this]
          have HTS := Lib.hid hts
          have HNO := Lib.hid hnone
          clear hts hnone HF
          generalize up[k] = x at c0 c1 c2 c3 c4 c5 c6 c7 c8 HTS HNO hra
          go_wp2_with fail
          clear c0 c1 c2 c3 c4 c5 c6 c7 c8
          have hX : HasR (wr.alloc x.o) wr.heap.size x := HasR.new wr x
          have hgn : u6.ownBlock ≠ some wr.heap.size := fun e => by have := (hS.h6.lt _ e).2; omega
          replace hS := hS.mono ((Below.refl wr.heap.size wr).alloc (Nat.le_refl _) x.o)
          have hg : wr.heap.size < (wr.alloc x.o).heap.size := by simp
          generalize wr.heap.size = gx at *
          generalize wr.alloc x.o = W1 at *
          go_loopw [6, 78] (fun V6 i wr => ∃ (j : Nat) (out2 : List Row), j ≤ down.length ∧ i = .int .i64 j ∧ out2.length ≤ 64 + k * 64 + j ∧ Hid ((down.take j).foldlM (one v x) out = some out2) ∧ S2 w wr V6 (.slice (some ⟨b, o, none⟩) up.length cap7) (.slice A8 down.length cap8) out2 up down ∧ HasR wr gx x ∧ gx < wr.heap.size ∧ V6.ownBlock ≠ some gx) (fun _ i _ => down.length - (intOf i).toNat)
          case atStart => exact ⟨0, out, by omega, rfl, by omega, rfl, hS, hX, hg, hgn⟩
          case round =>
            clear hS hX hg hgn
            obtain ⟨j, out2, hj, rfl, hol2, HF2, hS, hX, hg, hgn⟩ := hrel
            have HGN := Lib.hid hgn
            clear hgn
            by_cases hltj : j < down.length
            · obtain ⟨b8, o8, rfl, hb8, c0, c1, c2, c3, c4, c5, c6, c7, c8⟩ := hS.h8.rd.at_ j hltj
              have hts := foldlM_take_succ (one v x) down out j hltj
              rw [HF2.out] at hts
              have hry := HDN.out _ (List.getElem_mem hltj)
              have hnone : one v x out2 down[j] = none → stepS v l = none := fun hn => by
                have : down.foldlM (one v x) out = none := foldlM_none _ down out (j + 1) (by rw [hts]; exact hn)
                exact HNO.out this
              have HTS2 := Lib.hid hts
              have HNO2 := Lib.hid hnone
              clear hts hnone HF2
              generalize down[j] = y at c0 c1 c2 c3 c4 c5 c6 c7 c8 HTS2 HNO2 hry
              go_wp2_with fail
              clear c0 c1 c2 c3 c4 c5 c6 c7 c8
              have hY : HasR ((wr.alloc y.o).alloc row0.o) wr.heap.size y := (HasR.new wr y).alloc _
              have hZ : HasR ((wr.alloc y.o).alloc row0.o) (wr.heap.size + 1) row0 := by simpa using HasR.new (wr.alloc y.o) row0
              have hBW : Below wr.heap.size wr ((wr.alloc y.o).alloc row0.o) := ((Below.refl _ _).alloc (Nat.le_refl _) _).alloc (by simp) _
              have hX1 := hX.below hBW hg
              generalize (wr.alloc y.o).alloc row0.o = W2 at *
              have hn1 := (combo_nums (far_at hry v) (far_at hra 0) (far_at hra v) (far_at hry 0)).1
              have hn2 : IntKind.i64.wrap (-y.at v) = -y.at v := (w64 _).trans hn1
              have hcx := hX1.cell v hv
              have hcy := hY.cell v hv
              go_quiet (fail)
              clear hcx hcy
              go_wp2_with fail
              have hBN : Below wr.heap.size wr (W2.drewN nq) := below_drewN hBW nq
              have hYN : HasR (W2.drewN nq) wr.heap.size y := hY
              have hZN : HasR (W2.drewN nq) (wr.heap.size + 1) row0 := hZ
              generalize W2.drewN nq = W3 at *
              obtain ⟨wi, rfl⟩ : ∃ wi : World, wi = wr := ⟨_, rfl⟩
              clear hY hZ hX1 hBW
              go_loopw [91] (fun i w4 => ∃ n : Nat, n ≤ 8 ∧ i = .int .i64 n ∧ HasR w4 wi.heap.size y ∧ HasR w4 (wi.heap.size + 1) (comboK x y v n) ∧ Below wi.heap.size wi w4) (fun i _ => 8 - (intOf i).toNat)
              case atStart => exact ⟨0, by omega, rfl, hYN, hZN, hBN⟩
              case round =>
                clear hBN hYN hZN
                obtain ⟨n, hn, rfl, hY, hZ, hBW⟩ := hrel
                by_cases hlt8 : n < 8
                · have hX1 := hX.below hBW hg
                  have hcx := hX1.cell n hlt8
                  have hcy := hY.cell n hlt8
                  have hcz := hZ.cell n hlt8
                  have hfz := hZ.frozen
                  obtain ⟨q1, q2, q3, q4, _⟩ := combo_nums (far_at hry v) (far_at hra n) (far_at hra v) (far_at hry n)
                  have q2' : IntKind.i64.wrap (-y.at v * x.at n) = -y.at v * x.at n := (w64 _).trans q2
                  have q3' : IntKind.i64.wrap (x.at v * y.at n) = x.at v * y.at n := (w64 _).trans q3
                  have q4' : IntKind.i64.wrap (-y.at v * x.at n + x.at v * y.at n) = -y.at v * x.at n + x.at v * y.at n := (w64 _).trans q4
                  have hne : wi.heap.size + 1 ≠ gx := by omega
                  go_wp2_with fail
                  go_region
                  go_wp2_with fail
                  exact ⟨⟨n + 1, by omega, by go_num, (hY.far (by simp) _).drew, (hZ.setk n (by omega) _).drew, (hBW.setCell (by simp) _).drew⟩, by simp [intOf]; omega⟩
                · have hn8 : n = 8 := by omega
                  subst hn8
                  have hX1 := hX.below hBW hg
                  have hcx := hX1.cells.2.2.2.2.2.2.2.2
                  have hcy := hY.cells.2.2.2.2.2.2.2.2
                  have hfz := hZ.frozen
                  obtain ⟨z0, z1, z2, z3, z4, z5, z6, z7, z8⟩ := hZ.cells
                  have hxc : far x.c = true := by simp [Row.right] at hra; exact hra.2
                  have hyc : far y.c = true := by simp [Row.right] at hry; exact hry.2
                  obtain ⟨q1, q2, q3, q4, _⟩ := combo_nums (far_at hry v) hxc (far_at hra v) hyc
                  have hZ9 := hZ.setk 8 (by omega) (-y.at v * x.c + x.at v * y.c)
                  rw [comboK_8] at hZ9
                  have hBW9 := hBW.setCell (p := ⟨wi.heap.size + 1, 8, none⟩) (by simp) (.int .i64 (-y.at v * x.c + x.at v * y.c))
                  go_wp2_with fail
                  clear z0 z1 z2 z3 z4 z5 z6 z7 z8 hcx hcy hfz q1 q2 q3 q4 hX1
                  have hcb := combo_big v hra hry
                  refine (shrink_any (mkC (comboK x y v 8) (-y.at v * x.c + x.at v * y.c)) _ (by rw [comboK_mk]; exact hcb.1) (by rw [comboK_mk]; exact hcb.2)).mono ?_
                  rintro e w5 ⟨rfl, hb1⟩
                  rw [comboK_mk]
                  replace hBW9 := hBW9.trans (hb1.mono hBW9.size)
                  replace hS := hS.mono hBW9
                  have hX5 := hX.below hBW9 hg
                  have hg5 : gx < w5.heap.size := Nat.lt_of_lt_of_le hg hBW9.size
                  clear hb1 hBW9 hBW hZ9 hZ hY hX hcb
                  have hone : one v x out2 y = if (combo x y v).shrink.right then some (if (combo x y v).shrink.keep then out2 ++ [(combo x y v).shrink] else out2) else none := rfl
                  have HONE := Lib.hid hone
                  clear hone
                  generalize (combo x y v).shrink = t at *
                  go_wp2_with fail
                  have hT : HasR (w5.alloc t.o) w5.heap.size t := HasR.new w5 t
                  have hBt : Below w5.heap.size w5 (w5.alloc t.o) := (Below.refl _ _).alloc (Nat.le_refl _) _
                  replace hS := hS.mono hBt
                  replace hX5 := hX5.below hBt hg5
                  have hg6 : gx < (w5.alloc t.o).heap.size := Nat.lt_of_lt_of_le hg5 hBt.size
                  generalize w5.alloc t.o = W6 at hS hX5 hT hg6 ⊢
                  refine (right_any t _).mono ?_; rintro e w7 ⟨rfl, hb1⟩
                  replace hS := hS.mono hb1
                  replace hX5 := hX5.below hb1 hX5.lt
                  replace hT := hT.below hb1 hT.lt
                  replace hg6 := Nat.lt_of_lt_of_le hg6 hb1.size
                  clear hb1 hBt hg5
                  cases hrt : t.right
                  · have hfin : stepS v l = none := HNO2.out (by rw [HONE.out, hrt]; rfl)
                    have HFIN := Lib.hid hfin
                    clear hfin
                    go_wp2_with fail
                    go_ret2
                    exact step_no HFIN.out hS.hB
                  · obtain ⟨c0, c1, c2, c3, c4, c5, c6, c7, c8⟩ := hT.cells
                    go_wp2_with fail
                    clear c0 c1 c2 c3 c4 c5 c6 c7 c8
                    refine (bare_any t _).mono ?_; rintro e w8 ⟨rfl, hb1⟩
                    replace hS := hS.mono hb1
                    replace hX5 := hX5.below hb1 hX5.lt
                    replace hT := hT.below hb1 hT.lt
                    replace hg6 := Nat.lt_of_lt_of_le hg6 hb1.size
                    clear hb1
                    have HRT := Lib.hid hrt
                    clear hrt
                    obtain ⟨c0, c1, c2, c3, c4, c5, c6, c7, c8⟩ := hT.cells
                    cases hbr : (t.F == [0, 0, 0, 0, 0, 0, 0, 0])
                    · have hkp : t.keep = true := by simp [Row.keep, Row.bare, hbr]
                      have HKP := Lib.hid hkp
                      clear hkp
                      have HBR := Lib.hid hbr
                      clear hbr
                      have hfold : (down.take (j + 1)).foldlM (one v x) out = some (out2 ++ [t]) := by rw [HTS2.out]; exact HONE.out.trans (by rw [HRT.out, HKP.out]; rfl)
                      have HFO := Lib.hid hfold
                      clear hfold
                      go_wp2_with (at_builtin; refine append_row rfl _ _ rfl w.heap.size _ out2 rfl (hS.mono ((Below.refl _ _).alloc (Nat.le_refl _) _)).h6 _ t rfl (HasR.new _ t) (by omega) (by have := hS.hB.size; simp; omega) ?_; intro V' w9 ho hga hat)
                      have hxw := (hX5.alloc t.o).grown hga HGN.out
                      exact ⟨⟨j + 1, out2 ++ [t], by omega, by go_num, by simp; omega, HFO, (hS.mono ((Below.refl _ _).alloc (Nat.le_refl _) _)).app ho hga hat, hxw, hxw.lt, fun e => by rcases hat with h | h <;> rw [h] at e <;> first | exact HGN.out e | (injection e with e; simp at e; omega)⟩, by simp [intOf]; omega⟩
                    · by_cases hc0 : t.c < 0
                      · have hkp : t.keep = true := by simp [Row.keep, hc0]
                        have HKP := Lib.hid hkp
                        clear hkp
                        have HBR := Lib.hid hbr
                        clear hbr
                        have hfold : (down.take (j + 1)).foldlM (one v x) out = some (out2 ++ [t]) := by rw [HTS2.out]; exact HONE.out.trans (by rw [HRT.out, HKP.out]; rfl)
                        have HFO := Lib.hid hfold
                        clear hfold
                        go_wp2_with (at_builtin; refine append_row rfl _ _ rfl w.heap.size _ out2 rfl (hS.mono ((Below.refl _ _).alloc (Nat.le_refl _) _)).h6 _ t rfl (HasR.new _ t) (by omega) (by have := hS.hB.size; simp; omega) ?_; intro V' w9 ho hga hat)
                        have hxw := (hX5.alloc t.o).grown hga HGN.out
                        exact ⟨⟨j + 1, out2 ++ [t], by omega, by go_num, by simp; omega, HFO, (hS.mono ((Below.refl _ _).alloc (Nat.le_refl _) _)).app ho hga hat, hxw, hxw.lt, fun e => by rcases hat with h | h <;> rw [h] at e <;> first | exact HGN.out e | (injection e with e; simp at e; omega)⟩, by simp [intOf]; omega⟩
                      · have hkp : t.keep = false := by simp [Row.keep, Row.bare, hbr, hc0]
                        have HKP := Lib.hid hkp
                        clear hkp
                        have HBR := Lib.hid hbr
                        clear hbr
                        have hfold : (down.take (j + 1)).foldlM (one v x) out = some out2 := by rw [HTS2.out]; exact HONE.out.trans (by rw [HRT.out, HKP.out]; rfl)
                        have HFO := Lib.hid hfold
                        clear hfold
                        go_wp2_with fail
                        exact ⟨⟨j + 1, out2, by omega, by go_num, by omega, HFO, hS, hX5, hg6, HGN.out⟩, by simp [intOf]; omega⟩
            · have hjl : j = down.length := by omega
              subst hjl
              rw [List.take_length] at HF2
              have hin : inner v down out x = some out2 := HF2.out
              have HIN := Lib.hid hin
              clear hin HF2
              have hfold : (up.take (k + 1)).foldlM (inner v down) out0 = some out2 := by rw [HTS.out]; exact HIN.out
              have HFO := Lib.hid hfold
              clear hfold
              go_wp2_with fail
              exact ⟨⟨k + 1, out2, by omega, by go_num, by omega, HFO, hS⟩, by simp [intOf]; omega⟩
        · have hkl : k = up.length := by omega
          subst hkl
          rw [List.take_length] at HF
          have hst : stepS v l = if out.length ≤ 64 then some out else none := by rw [HST.out, HF.out]
          have HS2 := Lib.hid hst
          clear hst HF HST
          obtain ⟨A6, cap6, e6, _, _⟩ := hS.h6.form
          subst e6
          by_cases ho : out.length ≤ 64
          · go_wp2_with fail
            go_ret2
            refine ⟨hS.hB, ?_⟩
            rw [HS2.out, if_pos ho]
            exact ⟨_, rfl, hS.h6⟩
          · have hfin : stepS v l = none := by rw [HS2.out, if_neg ho]
            go_wp2_with fail
            go_ret2
            exact step_no hfin hS.hB
end Go.Proofs.Ytfaccdidjhaahaa
