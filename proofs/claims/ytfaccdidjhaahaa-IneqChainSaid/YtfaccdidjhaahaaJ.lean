import Derived.Test.YtfaccdidjhaahaaI
import Derived.Deep.RegionWith
import Derived.Deep.RegionHeld3
import Derived.Deep.DeepFit
namespace Go.Proofs.Ytfaccdidjhaahaa
open Go.RowKit

theorem made_rows (n : Nat) : (madeCells row0.enc.cells (n * 9)).toList = cellsOf (List.replicate n row0) := by
  apply List.ext_getElem?
  intro j
  by_cases hj : j < n * 9
  · have h1 : j / 9 < n := by omega
    have h2 : j % 9 < 9 := Nat.mod_lt _ (by omega)
    have hc := cellsOf_at (List.replicate n row0) (j / 9) (j % 9) (by simpa using h1) h2
    have e : j / 9 * 9 + j % 9 = j := by omega
    rw [e] at hc
    rw [hc, List.getElem_replicate]
    have h9 : ∀ m, m < 9 → row0.l[m]? = some (.int .i64 0) := fun m hm => by
      have : m = 0 ∨ m = 1 ∨ m = 2 ∨ m = 3 ∨ m = 4 ∨ m = 5 ∨ m = 6 ∨ m = 7 ∨ m = 8 := by omega
      rcases this with rfl | rfl | rfl | rfl | rfl | rfl | rfl | rfl | rfl <;> rfl
    rw [h9 _ h2]
    have h10 : ∀ m, m < 9 → (row0.enc.cells)[m]! = .int .i64 0 := fun m hm => by
      have : m = 0 ∨ m = 1 ∨ m = 2 ∨ m = 3 ∨ m = 4 ∨ m = 5 ∨ m = 6 ∨ m = 7 ∨ m = 8 := by omega
      rcases this with rfl | rfl | rfl | rfl | rfl | rfl | rfl | rfl | rfl <;> rfl
    simp only [madeCells, Array.toList_map, Array.toList_range, List.getElem?_map, List.getElem?_range hj, Option.map_some]
    exact congrArg some (h10 (j % 9) h2)
  · rw [List.getElem?_eq_none (by simp [madeCells]; omega), List.getElem?_eq_none (by rw [cellsOf_len]; simp; omega)]
theorem Own.base {w : World} {B B' : Nat} {V : Value} {l : List Row} (h : Own w B V l) (hB : B' ≤ B) : Own w B' V l := by
  obtain ⟨h1, h2⟩ := h
  refine ⟨h1, ?_⟩
  rcases h2 with h2 | ⟨g, cap, cur, a, b, c⟩
  · exact .inl h2
  · exact .inr ⟨g, cap, cur, a, by omega, c⟩
theorem set9 (a : Row) (m : List Value) (i : Nat) (v : Value) : (a.l ++ m).set (i + 9) v = a.l ++ m.set i v := rfl
def setL (m : List Value) (i : Nat) (r : Row) : List Value :=
  ((((((((m.set i (.int .i64 r.f0)).set (i + 1) (.int .i64 r.f1)).set (i + 2) (.int .i64 r.f2)).set (i + 3) (.int .i64 r.f3)).set (i + 4) (.int .i64 r.f4)).set (i + 5) (.int .i64 r.f5)).set (i + 6) (.int .i64 r.f6)).set (i + 7) (.int .i64 r.f7)).set (i + 8) (.int .i64 r.c)
theorem setL_app (a : Row) (m : List Value) (i : Nat) (r : Row) : setL (a.l ++ m) (i + 9) r = a.l ++ setL m i r := rfl
theorem cellsOf_set (l : List Row) (k : Nat) (hk : k < l.length) (r : Row) : setL (cellsOf l) (k * 9) r = cellsOf (l.set k r) := by
  induction l generalizing k with
  | nil => simp at hk
  | cons a l ih =>
    cases k with
    | zero => rfl
    | succ k =>
      have h1 := ih k (by simpa using hk)
      rw [show (k + 1) * 9 = k * 9 + 9 by omega]
      show setL (a.l ++ cellsOf l) (k * 9 + 9) r = a.l ++ cellsOf (l.set k r)
      rw [setL_app, h1]
/-- row number k of the slice at block g overwritten -/
abbrev setRowAt (w : World) (g k : Nat) (r : Row) : World :=
  ((((((((w.setCell ⟨g, k * 9, none⟩ (.int .i64 r.f0)).setCell ⟨g, k * 9 + 1, none⟩ (.int .i64 r.f1)).setCell ⟨g, k * 9 + 2, none⟩ (.int .i64 r.f2)).setCell ⟨g, k * 9 + 3, none⟩ (.int .i64 r.f3)).setCell ⟨g, k * 9 + 4, none⟩ (.int .i64 r.f4)).setCell ⟨g, k * 9 + 5, none⟩ (.int .i64 r.f5)).setCell ⟨g, k * 9 + 6, none⟩ (.int .i64 r.f6)).setCell ⟨g, k * 9 + 7, none⟩ (.int .i64 r.f7)).setCell ⟨g, k * 9 + 8, none⟩ (.int .i64 r.c)
theorem Own.setRow {w : World} {B g cap : Nat} {l : List Row} (h : Own w B (.slice (some ⟨g, 0, none⟩) l.length cap) l) (k : Nat) (hk : k < l.length) (r : Row) :
    Own (setRowAt w g k r) B (.slice (some ⟨g, 0, none⟩) l.length cap) (l.set k r) := by
  have h9 := (World.ownsRow.stored (World.ownsRow.stored (World.ownsRow.stored (World.ownsRow.stored (World.ownsRow.stored (World.ownsRow.stored (World.ownsRow.stored (World.ownsRow.stored (World.ownsRow.stored h
    (k * 9) (.int .i64 r.f0)).1 (k * 9 + 1) (.int .i64 r.f1)).1 (k * 9 + 2) (.int .i64 r.f2)).1 (k * 9 + 3) (.int .i64 r.f3)).1 (k * 9 + 4) (.int .i64 r.f4)).1 (k * 9 + 5) (.int .i64 r.f5)).1 (k * 9 + 6) (.int .i64 r.f6)).1
    (k * 9 + 7) (.int .i64 r.f7)).1 (k * 9 + 8) (.int .i64 r.c)).1
  have e := cellsOf_set l k hk r
  unfold setL at e
  rw [e] at h9
  unfold Own
  rw [List.length_set]
  exact h9

/-- block g is a variable that holds the slice value V -/
def HasV (w : World) (g : Nat) (V : Value) : Prop := w.heap[g]? = some (.cells #[V] 29)
section
variable {w w' : World} {g : Nat} {V U : Value}
theorem HasV.new (w : World) (V : Value) : HasV (w.alloc (.cells #[V] 29)) w.heap.size V := heap_alloc_new w _
theorem HasV.lt (h : HasV w g V) : g < w.heap.size := (Array.getElem?_eq_some_iff.1 h).1
theorem HasV.cell (h : HasV w g V) : w.cell? ⟨g, 0, none⟩ = some V := by unfold HasV at h; simp [World.cell?, h]
theorem HasV.frozen (h : HasV w g V) (o : Nat) : w.frozen? ⟨g, o, none⟩ = false := by unfold HasV at h; simp [World.frozen?, h]
theorem HasV.alloc (h : HasV w g V) (o : Obj) : HasV (w.alloc o) g V := (Below.heap_alloc w o g h.lt).trans h
theorem HasV.below {B : Nat} (h : HasV w g V) (hb : Below B w w') (hB : g < B) : HasV w' g V := (hb.block g hB).trans h
theorem HasV.set_ (h : HasV w g V) (U : Value) : HasV (w.setCell ⟨g, 0, none⟩ U) g U := by
  unfold HasV at h ⊢; simp [World.setCell, Array.getElem?_modify, h]
theorem HasV.far (h : HasV w g V) {p : Addr} (hp : g ≠ p.block) (u : Value) : HasV (w.setCell p u) g V := (Below.heap_setCell w p u g hp).trans h
theorem HasV.drew (h : HasV w g V) : HasV w.drew g V := h
theorem Own.neV {B g' : Nat} {l : List Row} {cap n : Nat} (h : Own w B (.slice (some ⟨g', 0, none⟩) n cap) l) (hv : HasV w g V) : g' ≠ g := by
  rintro rfl
  rcases h.2 with ⟨e, _⟩ | ⟨g2, cap2, cur, e, _, hh, _⟩
  · cases e
  · cases e
    unfold HasV at hv
    rw [hv] at hh
    injection hh with hh
    injection hh with _ ht
    exact absurd ht (by decide)
theorem Own.setV {B : Nat} {l : List Row} (h : Own w B V l) (hv : HasV w g U) (u : Value) : Own (w.setCell ⟨g, 0, none⟩ u) B V l := by
  refine World.ownsRow.kept (row := some g) h ⟨rfl, rfl, rfl, by simp [World.setCell], fun k _ hne => Below.heap_setCell w ⟨g, 0, none⟩ u k (fun e => hne (by rw [e]))⟩ ?_
  cases hb : V.ownBlock with
  | none => exact .inl rfl
  | some g' =>
    refine .inr (fun e => ?_)
    injection e with e
    subst e
    rcases h.2 with ⟨e, _⟩ | ⟨g2, cap2, cur, e, _, hh, _⟩
    · subst e; simp [Value.ownBlock] at hb
    · subst e
      simp [Value.ownBlock] at hb
      subst hb
      unfold HasV at hv
      rw [hv] at hh
      injection hh with hh
      injection hh with _ ht
      exact absurd ht (by decide)
end
theorem Own.setRow' {w : World} {B g n cap : Nat} {l : List Row} (h : Own w B (.slice (some ⟨g, 0, none⟩) n cap) l) (hn : l.length = n) (k : Nat) (hk : k < n) (r : Row) :
    Own (setRowAt w g k r) B (.slice (some ⟨g, 0, none⟩) n cap) (l.set k r) := by
  subst hn; exact h.setRow k hk r
theorem HasV.far9 {w : World} {b g k : Nat} {V : Value} (h : HasV w b V) (hb : b ≠ g) (s : Row) : HasV (setRowAt w g k s) b V := by
  exact ((((((((h.far hb _).far hb _).far hb _).far hb _).far hb _).far hb _).far hb _).far hb _).far hb _
theorem below_setRowAt {B : Nat} {a w : World} (h : Below B a w) {g k : Nat} (hb : B ≤ g) (s : Row) : Below B a (setRowAt w g k s) := by
  exact ((((((((h.setCell hb _).setCell hb _).setCell hb _).setCell hb _).setCell hb _).setCell hb _).setCell hb _).setCell hb _).setCell hb _
def mixed (l : List Row) (k : Nat) : List Row := (l.take k).map Row.tight ++ List.replicate (l.length - k) row0
theorem mixed_len (l : List Row) (k : Nat) (hk : k ≤ l.length) : (mixed l k).length = l.length := by simp [mixed]; omega
theorem mixed_zero (l : List Row) : mixed l 0 = List.replicate l.length row0 := by simp [mixed]
theorem mixed_all (l : List Row) : mixed l l.length = l.map Row.tight := by simp [mixed]
theorem mixed_set (l : List Row) (k : Nat) (hk : k < l.length) : (mixed l k).set k (l[k].tight) = mixed l (k + 1) := by
  unfold mixed
  rw [take_snoc' l k hk, List.map_append, List.append_assoc]
  have e : l.length - k = (l.length - (k + 1)) + 1 := by omega
  rw [e, List.replicate_succ, List.set_append_right _ _ (by simp; omega)]
  have e2 : k - ((l.take k).map Row.tight).length = 0 := by simp; omega
  rw [e2]
  simp
theorem never_not (l : List Row) (k : Nat) (h : k < l.length) (hr : (l[k]).right = false) : neverS l = false := by
  have : l.all Row.right = false := by
    rw [List.all_eq_false]; exact ⟨l[k], List.getElem_mem h, by simp [hr]⟩
  simp [neverS, this]
theorem Own.drew {w : World} {B : Nat} {V : Value} {l : List Row} (h : Own w B V l) : Own w.drew B V l := h
theorem Own.at_ {w : World} {B g n cap : Nat} {l : List Row} (h : Own w B (.slice (some ⟨g, 0, none⟩) n cap) l) (k : Nat) (hk : k < l.length) :
    (w.cell? ⟨g, k * 9, none⟩ = some (.int .i64 l[k].f0) ∧ w.cell? ⟨g, k * 9 + 1, none⟩ = some (.int .i64 l[k].f1) ∧ w.cell? ⟨g, k * 9 + 2, none⟩ = some (.int .i64 l[k].f2) ∧
    w.cell? ⟨g, k * 9 + 3, none⟩ = some (.int .i64 l[k].f3) ∧ w.cell? ⟨g, k * 9 + 4, none⟩ = some (.int .i64 l[k].f4) ∧ w.cell? ⟨g, k * 9 + 5, none⟩ = some (.int .i64 l[k].f5) ∧
    w.cell? ⟨g, k * 9 + 6, none⟩ = some (.int .i64 l[k].f6) ∧ w.cell? ⟨g, k * 9 + 7, none⟩ = some (.int .i64 l[k].f7) ∧ w.cell? ⟨g, k * 9 + 8, none⟩ = some (.int .i64 l[k].c)) ∧ ∀ o, w.frozen? ⟨g, o, none⟩ = false := by
  obtain ⟨A, cap', e, _, hr⟩ := h.form
  injection e with e1 e2 e3
  subst e1 e2 e3
  obtain ⟨b, o, e, hlt, hc⟩ := hr (by omega)
  injection e with e
  injection e with e1 e2
  subst e1 e2
  have hh : ∀ j, j < 9 → w.cell? ⟨g, k * 9 + j, none⟩ = (l[k]).l[j]? := fun j hj => by
    have := hc (k * 9 + j) (by omega)
    rw [Nat.zero_add] at this
    rw [this, cellsOf_at l k j hk hj]
  exact ⟨⟨hh 0 (by omega), hh 1 (by omega), hh 2 (by omega), hh 3 (by omega), hh 4 (by omega), hh 5 (by omega), hh 6 (by omega), hh 7 (by omega), hh 8 (by omega)⟩, fun o => World.ownsRow.frozenAt h o⟩

set_option maxRecDepth 100000 in
set_option maxHeartbeats 1000000 in
theorem never_any (l : List Row) (A : Option Addr) (cap : Nat) (w : World) (hl : l.length ≤ 64) (hR : Rd w w.heap.size A l) :
    Calls Try.prog 18 #[.slice A l.length cap] w fun e w' => e = .returned (.bool (neverS l)) ∧ Below w.heap.size w w' := by
  obtain ⟨i0, hi, hz0, hz1, hz2⟩ := info_parts i24'
  go_enter Try.func18, Try.ntmps18
  go_wp2_with (at_make; refine wpList_make_full _ rfl _ _ 29 rfl w.heap.size 24 i0 row0.enc 9 (by kernel_rfl) hi hz0 hz1 .i64 .i64 _ _ l.length rfl rfl rfl rfl (by rw [hz2]; omega) (by simp only [maxLen]; omega) (Nat.le_refl _) ?_; intro w1 hown hgr)
  have hown1 : Own w1 w.heap.size (.slice (some ⟨w.heap.size, 0, none⟩) l.length l.length) (List.replicate l.length row0) := by
    unfold Own; rw [List.length_replicate, ← made_rows]; exact hown
  have hB1 : Below w.heap.size w w1 := (Below.refl _ _).grown hgr (Nat.le_refl _) (fun k hk => by cases hk)
  clear hown hgr
  rw [← mixed_zero] at hown1
  have hV : HasV (w1.alloc (.cells #[.slice (some ⟨w.heap.size, 0, none⟩) l.length l.length] 29)) w1.heap.size (.slice (some ⟨w.heap.size, 0, none⟩) l.length l.length) := HasV.new w1 _
  have hgB : w.heap.size ≤ w1.heap.size := hB1.size
  replace hB1 := hB1.trans (((Below.refl w1.heap.size w1).alloc (Nat.le_refl _) (.cells #[.slice (some ⟨w.heap.size, 0, none⟩) l.length l.length] 29)).mono hB1.size)
  replace hown1 := hown1.alloc (.cells #[.slice (some ⟨w.heap.size, 0, none⟩) l.length l.length] 29)
  generalize w1.alloc (.cells #[.slice (some ⟨w.heap.size, 0, none⟩) l.length l.length] 29) = W1 at *
  generalize w1.heap.size = gN at *
  clear w1
  go_loopw [15] (fun i wr => ∃ k : Nat, k ≤ l.length ∧ i = .int .i64 k ∧ HasV wr gN (.slice (some ⟨w.heap.size, 0, none⟩) l.length l.length) ∧ Own wr w.heap.size (.slice (some ⟨w.heap.size, 0, none⟩) l.length l.length) (mixed l k) ∧ Below w.heap.size w wr ∧ Hid (∀ j (hj : j < l.length), j < k → l[j].right = true)) (fun i _ => l.length - (intOf i).toNat)
  case atStart => exact ⟨0, by omega, rfl, hV, hown1, hB1, fun j _ hj => by omega⟩
  case round =>
    clear hV hown1 hB1
    obtain ⟨k, hk, rfl, hV, hO, hB, HR⟩ := hrel
    by_cases hlt : k < l.length
    · obtain ⟨b, o, rfl, hb, c0, c1, c2, c3, c4, c5, c6, c7, c8⟩ := (hR.below hB (Nat.le_refl _)).at_ k hlt
      have hno := never_not l k hlt
      have hnext : l[k].right = true → ∀ j (hj : j < l.length), j < k + 1 → l[j].right = true := fun h j hj hjk => by
        rcases Nat.lt_succ_iff_lt_or_eq.1 hjk with h' | rfl
        · exact HR.out j hj h'
        · exact h
      have hms := mixed_set l k hlt
      have HMS := Lib.hid hms
      have HNO := Lib.hid hno
      have HX := Lib.hid hnext
      clear hno hnext HR hms
      generalize l[k] = x at c0 c1 c2 c3 c4 c5 c6 c7 c8 HNO HX HMS
      go_wp2_with fail
      clear c0 c1 c2 c3 c4 c5 c6 c7 c8
      have hX : HasR (wr.alloc x.o) wr.heap.size x := HasR.new wr x
      have hbw : Below wr.heap.size wr (wr.alloc x.o) := (Below.refl wr.heap.size wr).alloc (Nat.le_refl _) x.o
      replace hO := hO.below hbw
      replace hV := hV.below hbw hV.lt
      replace hB := hB.trans (hbw.mono hB.size)
      clear hbw
      generalize wr.alloc x.o = W2 at *
      refine (right_any x _).mono ?_; rintro e w3 ⟨rfl, hb1⟩
      replace hO := hO.below hb1
      replace hX := hX.below hb1 hX.lt
      replace hV := hV.below hb1 hV.lt
      replace hB := hB.trans (hb1.mono hB.size)
      clear hb1
      cases hr : x.right
      · have HF := Lib.hid (HNO.out hr)
        go_wp2_with fail
        go_returns
        exact ⟨ret_b HF.out.symm, hB⟩
      · have HRX := Lib.hid hr
        have hrr := hr
        clear hr
        obtain ⟨c0, c1, c2, c3, c4, c5, c6, c7, c8⟩ := hX.cells
        have hcv := hV.cell
        go_wp2_with fail
        have hml := mixed_len l k hk
        have HML := Lib.hid hml
        clear hml
        go_region_with (go_at_call 15; refine (tight_any x _).mono ?_; rintro e w4 ⟨rfl, hb1⟩; have hO4 := hO.drew.below hb1; have hV4 := hV.drew.below hb1 hV.lt; have hcv4 := hV4.cell; obtain ⟨⟨d0, d1, d2, d3, d4, d5, d6, d7, d8⟩, hfz⟩ := hO4.at_ k (by rw [HML.out]; exact hlt))
        all_goals go_wp2_with fail
        all_goals
          have hO5 := hO4.setRow' HML.out k hlt x.tight
          rw [HMS.out] at hO5
          exact ⟨⟨k + 1, by omega, by go_num, hV4.far9 (hO4.neV hV4).symm _, hO5, below_setRowAt (hB.drew.trans (hb1.mono hB.size)) (Nat.le_refl _) _, HX.out HRX.out⟩, by simp [intOf]; omega⟩
    · have hkl : k = l.length := by omega
      subst hkl
      rw [mixed_all] at hO
      have hall : l.all Row.right = true := List.all_eq_true.2 (fun r hr => by
        obtain ⟨j, hj, rfl⟩ := List.getElem_of_mem hr
        exact HR.out j hj hj)
      have hfin : neverS l = nevAux 8 0 (l.map Row.tight) := by simp [neverS, hall]
      have HF := Lib.hid hfin
      clear hfin HR hall
      have hml : (l.map Row.tight).length = l.length := List.length_map _
      have HML := Lib.hid hml
      clear hml
      generalize l.map Row.tight = rows at *
      go_wp2_with fail
      go_loopw [30] (fun i wr => ∃ (v : Nat) (V : Value) (rows : List Row), v ≤ 8 ∧ i = .int .i64 v ∧ HasV wr gN V ∧ Own wr w.heap.size V rows ∧ rows.length ≤ 64 ∧ Below w.heap.size w wr ∧ Hid (neverS l = nevAux (8 - v) v rows)) (fun i _ => 8 - (intOf i).toNat)
      case atStart => exact ⟨0, _, rows, by omega, rfl, hV, hO, by rw [HML.out]; exact hl, hB, HF.out⟩
      case round =>
        clear hV hO hB HF HML
        obtain ⟨v, V, rows2, hv, rfl, hV, hO, hrl, hB, HF⟩ := hrel
        obtain ⟨A2, cap2, rfl, _, hRd⟩ := hO.form
        by_cases hlt : v < 8
        · have hsub : 8 - v = (8 - (v + 1)) + 1 := by omega
          have hun : neverS l = (rows2.any Row.never || match stepS v rows2 with
              | none => false
              | some out => nevAux (8 - (v + 1)) (v + 1) out) := by rw [HF.out, hsub]; rfl
          have HU := Lib.hid hun
          clear hun hsub HF
          go_wp2_with fail
          refine (never1_any rows2 A2 cap2 gN _ hrl hRd hV.cell).mono ?_
          rintro e w1 ⟨rfl, hb1⟩
          replace hO := hO.below hb1
          replace hV := hV.below hb1 hV.lt
          replace hB := hB.trans (hb1.mono hB.size)
          clear hb1 hRd
          cases hnv : rows2.any Row.never
          · have HNV := Lib.hid hnv
            clear hnv
            have hcv := hV.cell
            go_wp2_with fail
            refine (step_any rows2 A2 cap2 v _ hrl hlt hO.rd).mono ?_
            rintro e w2 ⟨hb2, hp⟩
            have hO2 := hO.below hb2
            have hV2 := hV.below hb2 hV.lt
            have hB2 := hB.trans (hb2.mono hB.size)
            cases hst : stepS v rows2 with
            | none =>
              rw [hst] at hp
              subst hp
              have hfin : neverS l = false := by rw [HU.out, HNV.out, hst]; rfl
              have HFIN := Lib.hid hfin
              clear hfin hst
              go_wp2_with fail
              go_returns
              exact ⟨ret_b HFIN.out.symm, hB2⟩
            | some out =>
              rw [hst] at hp
              obtain ⟨V3, rfl, hO3⟩ := hp
              have hfin : neverS l = nevAux (8 - (v + 1)) (v + 1) out := by rw [HU.out, HNV.out, hst]; rfl
              have hol : out.length ≤ 64 := by
                unfold stepS at hst
                split at hst
                · split at hst
                  · split at hst
                    · injection hst with hst; subst hst; assumption
                    · cases hst
                  · cases hst
                · cases hst
              have HFIN := Lib.hid hfin
              clear hfin hst
              obtain ⟨A3, cap3, rfl, _, _⟩ := hO3.form
              have hfz := hV2.frozen
              have hcv2 := hV2.cell
              clear hcv
              have hV3 := hV2.set_ (.slice A3 out.length cap3)
              have hO4 := (hO3.base hB.size).setV hV2 (.slice A3 out.length cap3)
              go_wp2_with fail
              exact ⟨⟨v + 1, _, out, by omega, by go_num, hV3, hO4, hol, hB2.setCell hgB _, HFIN⟩, by simp [intOf]; omega⟩
          · have hfin : neverS l = true := by rw [HU.out, hnv]; rfl
            have HFIN := Lib.hid hfin
            clear hfin hnv
            go_wp2_with fail
            go_returns
            exact ⟨ret_b HFIN.out.symm, hB⟩
        · have hv8 : v = 8 := by omega
          subst hv8
          have hun : neverS l = rows2.any Row.never := by rw [HF.out]; rfl
          have HU := Lib.hid hun
          clear hun HF
          go_wp2_with fail
          refine (never1_any rows2 A2 cap2 gN _ hrl hRd hV.cell).mono ?_
          rintro e w1 ⟨rfl, hb1⟩
          go_wp2_with fail
          go_returns
          exact ⟨ret_b HU.out.symm, hB.trans (hb1.mono hB.size)⟩
end Go.Proofs.Ytfaccdidjhaahaa
