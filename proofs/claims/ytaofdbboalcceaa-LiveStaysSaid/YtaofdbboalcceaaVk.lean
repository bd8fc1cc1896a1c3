import Derived.Test.YtaofdbboalcceaaVi
import Derived.Test.YtaofdbboalcceaaCl
/- live.Ahead. -/
namespace Go.Proofs.Ytaofdbboalcceaa
open Go.RowKit Go.BigFrame

theorem info_ints : (Try.prog.info? 42).map (fun i => (i.zero, i.size, i.bytes)) = some (some (.slice none 0 0), 1, 24) := by kernel_rfl
theorem make_intss (L : Nat) (hL : L ≤ 100000) (W : World) : (Instr.makeSlice 59 (.int .i64 L) (.int .i64 L)).run Try.prog W = .ok (.slice (some ⟨W.heap.size, 0, none⟩) L L) (W.alloc (.cells (madeCells #[.slice none 0 0] L) 42)) := by
  obtain ⟨i0, hi, hz0, hz1, hz2⟩ := info_parts info_ints
  have := run_make (P := Try.prog) W 59 42 i0 (.slice none 0 0) (by kernel_rfl) hi hz0 .i64 .i64 L L (by omega) (by omega) (by rw [hz2]; omega) (by omega)
  simpa [hz1, Value.cells] using this
theorem RightFunc_yes (f : Fn7) (hf : OkF f) (C : Option Addr) (cap : Nat) (w : World) (hC : RdI w C f.code) : Calls Try.prog 47 #[funcAgg f.nm f.ps f.R f.Fr C f.code.length cap] w fun e w' => e = .returned (.bool true) ∧ Below w.heap.size w w' :=
  (RightFunc_any f C cap w hC).mono fun e w' ⟨⟨b, h1, h2⟩, hb⟩ => ⟨by rw [h1, h2.2 hf], hb⟩
theorem RightFunc_no (f : Fn7) (hf : ¬ OkF f) (C : Option Addr) (cap : Nat) (w : World) (hC : RdI w C f.code) : Calls Try.prog 47 #[funcAgg f.nm f.ps f.R f.Fr C f.code.length cap] w fun e w' => e = .returned (.bool false) ∧ Below w.heap.size w w' :=
  (RightFunc_any f C cap w hC).mono fun e w' ⟨⟨b, h1, h2⟩, hb⟩ => ⟨by
    cases b with
    | false => exact h1
    | true => exact absurd (h2.1 rfl) hf, hb⟩
theorem RdN.store_other {w : World} {A : Option Addr} {l : List Int} (h : RdN w A l) {ob k : Nat} {v0 : Value} (hc : w.cell? ⟨ob, k, none⟩ = some v0) (hv : ∀ n, v0 ≠ .int .i64 n) (v : Value) : RdN (w.setCell ⟨ob, k, none⟩ v) A l := fun j n hn => by
  obtain ⟨b, o, e1, e2, e3⟩ := h j n hn
  refine ⟨b, o, e1, by simpa using e2, ?_⟩
  rw [World.cell?_setCell_other]
  · exact e3
  · intro e
    injection e with e4 e5
    subst e4 e5
    rw [hc] at e3
    injection e3 with e3
    exact hv n e3
/-- a slice that reads as a set, in order -/
def RowV (w : World) (v : Value) (P : Int → Prop) : Prop := ∃ A l cap, v = .slice A l.length cap ∧ RdN w A l ∧ l.Pairwise (· < ·) ∧ ∀ x, x ∈ l ↔ P x
theorem RowV.below {w w' : World} {v : Value} {P : Int → Prop} (h : RowV w v P) (hb : Below w.heap.size w w') : RowV w' v P := by
  obtain ⟨A, l, cap, h1, h2, h3⟩ := h
  exact ⟨A, l, cap, h1, h2.below hb, h3⟩
/-- rows, the first k of them done -/
def RowsK (w : World) (ob N k : Nat) (P : Nat → Int → Prop) : Prop := ∃ vs : List Value, vs.length = N ∧ Pre g1 1 42 w ob vs ∧ (∀ (j : Nat) (v : Value), vs[j]? = some v → ∃ A n c, v = Value.slice A n c) ∧ ∀ j, j < k → ∃ v, vs[j]? = some v ∧ RowV w v (P j)
theorem RowsK.later {w w' : World} {ob N k : Nat} {P : Nat → Int → Prop} (h : RowsK w ob N k P) (hb : Below w.heap.size w w') : RowsK w' ob N k P := by
  obtain ⟨vs, h1, h2, h3, h4⟩ := h
  exact ⟨vs, h1, Pre.later h2 hb, h3, fun j hj => by obtain ⟨v, h5, h6⟩ := h4 j hj; exact ⟨v, h5, h6.below hb⟩⟩
theorem RowsK.lt {w : World} {ob N k : Nat} {P : Nat → Int → Prop} (h : RowsK w ob N k P) : ob < w.heap.size := by
  obtain ⟨vs, h1, h2, h3, h4⟩ := h
  exact Pre.lt h2
theorem RowsK.cell {w : World} {ob N k p : Nat} {P : Nat → Int → Prop} (h : RowsK w ob N k P) (hp : p < N) : (∃ A n c, w.cell? ⟨ob, p, none⟩ = some (Value.slice A n c)) ∧ w.frozen? ⟨ob, p, none⟩ = false := by
  obtain ⟨vs, h1, h2, h3, h4⟩ := h
  have hv : vs[p]? = some (vs[p]'(by omega)) := List.getElem?_eq_getElem (by omega)
  obtain ⟨A, n, c, h5⟩ := h3 p _ hv
  exact ⟨⟨A, n, c, by rw [Pre1.cell h2 hv, h5]⟩, Pre.free h2 p⟩
theorem RowsK.set {w : World} {ob N k : Nat} {P : Nat → Int → Prop} (h : RowsK w ob N k P) (hk : k < N) {v : Value} (hv : RowV w v (P k)) : RowsK (w.setCell ⟨ob, k, none⟩ v) ob N (k + 1) P := by
  obtain ⟨⟨A, n, c, hc⟩, _⟩ := h.cell hk
  obtain ⟨vs, h1, h2, h3, h4⟩ := h
  have hst : ∀ {u : Value} {Q : Int → Prop}, RowV w u Q → RowV (w.setCell ⟨ob, k, none⟩ v) u Q := fun ⟨A', l, c', e1, e2, e3⟩ => ⟨A', l, c', e1, e2.store_other hc (fun n h => by cases h) v, e3⟩
  refine ⟨vs.set k v, by simp [h1], Pre1.set h2 (by omega) v, fun j u hu => ?_, fun j hj => ?_⟩
  · rw [List.getElem?_set] at hu
    split at hu
    · rename_i e
      subst e
      rw [if_pos (by omega)] at hu
      injection hu with hu
      subst hu
      obtain ⟨A', l, c', e1, _⟩ := hv
      exact ⟨A', _, c', e1⟩
    · exact h3 j u hu
  · by_cases e : j = k
    · subst e
      exact ⟨v, by rw [List.getElem?_set_self (by omega)], hst hv⟩
    · obtain ⟨u, h5, h6⟩ := h4 j (by omega)
      exact ⟨u, by rw [List.getElem?_set_ne (by omega)]; exact h5, hst h6⟩
theorem RowsK.made (W : World) (N : Nat) (P : Nat → Int → Prop) : RowsK (W.alloc (.cells (madeCells #[.slice none 0 0] N) 42)) W.heap.size N 0 P := by
  have h := made_pre (g := g1) (d := 1) (t := 42) W #[.slice none 0 0] N (.slice none 0 0) rfl (fun k hk => by
    obtain rfl : k = 0 := by omega
    rfl)
  rw [Nat.mul_one] at h
  exact ⟨_, by simp, h, fun j v hj => by
    have := List.mem_of_getElem? hj
    exact ⟨none, 0, 0, List.eq_of_mem_replicate this⟩, fun j hj => by omega⟩
theorem RowsK.done {w : World} {ob N : Nat} {P : Nat → Int → Prop} (h : RowsK w ob N N P) {p : Nat} (hp : p < N) : ∃ v, w.cell? ⟨ob, p, none⟩ = some v ∧ RowV w v (P p) := by
  obtain ⟨vs, h1, h2, h3, h4⟩ := h
  obtain ⟨v, h5, h6⟩ := h4 p hp
  exact ⟨v, Pre1.cell h2 h5, h6⟩
def RowsT (N : Nat) (P : Nat → Int → Prop) (e : Ending) (w : World) : Prop := ∃ ob, e = .returned (.slice (some ⟨ob, 0, none⟩) N N) ∧ RowsK w ob N N P
theorem MapsW.other {w : World} {sb N : Nat} {S : Sets} (h : MapsW w sb N S) {ob k : Nat} (hob : ob < sb) (v : Value) : MapsW (w.setCell ⟨ob, k, none⟩ v) sb N S :=
  ⟨Pre.other h.h (by simp only; omega) v, fun p hp => (h.r p hp).of_block (heap_setCell_other w ⟨ob, k, none⟩ _ v (by simp only; omega))⟩
theorem Ahead_no (f : Fn7) (hf : ¬ OkF f) (C : Option Addr) (cap : Nat) (w : World) (hC : RdI w C f.code) :
    Calls Try.prog 39 #[funcAgg f.nm f.ps f.R f.Fr C f.code.length cap] w fun e w' => e = .returned (.slice none 0 0) ∧ Below w.heap.size w w' := by
  have hB := Below.one w (funcObj f.nm f.ps f.R f.Fr C f.code.length cap)
  have bx := heap_alloc_new w (funcObj f.nm f.ps f.R f.Fr C f.code.length cap)
  have hR := Lib.hid (RightFunc_no f hf C cap _ (hC.below hB))
  simp only [funcObj, funcAgg] at hB bx hR ⊢
  clear hf hC
  go_enter Try.func39, Try.ntmps39
  go_wp2_with (first
    | (refine hR.out.mono ?_; rintro e w3 ⟨rfl, hb3⟩))
  go_returns
  exact ⟨rfl, hB.trans (hb3.mono hB.size)⟩
set_option maxRecDepth 1000000 in
set_option maxHeartbeats 16000000 in
theorem Ahead_yes (f : Fn7) (hf : OkF f) (C : Option Addr) (cap : Nat) (w : World) (hC : RdI w C f.code) :
    Calls Try.prog 39 #[funcAgg f.nm f.ps f.R f.Fr C f.code.length cap] w fun e w' => RowsT f.code.length (Lv f.code) e w' ∧ Below w.heap.size w w' := by
  obtain ⟨N, hN⟩ : ∃ N, f.code.length = N := ⟨_, rfl⟩
  have hN2 : N ≤ 8192 := by rw [← hN]; exact hf.len.2
  have hR0 : 0 ≤ f.R ∧ f.R ≤ 4096 := by have := hf.R; have := hf.ps; omega
  have hB := Below.one w (funcObj f.nm f.ps f.R f.Fr C f.code.length cap)
  have bx := heap_alloc_new w (funcObj f.nm f.ps f.R f.Fr C f.code.length cap)
  have hC1 := hC.below hB
  have hR := RightFunc_yes f hf C cap _ hC1
  have hM := fun W h => flow_live f hf C cap W h
  have hbd : ∀ p r, Lv f.code p r → 0 ≤ r ∧ r < (f.R.toNat : Int) := fun p r h => by have := (h.bound hf).1; omega
  rw [hN] at hR hM hB bx hC1 ⊢
  simp only [funcObj, funcAgg] at hR hB bx hC1 hM ⊢
  have HR := Lib.hid hR
  have HM := Lib.hid hM
  have HC1 := Lib.hid hC1
  have HBD := Lib.hid hbd
  have HB := Lib.hid hB
  have hRn : f.R.toNat ≤ 5000 := by omega
  obtain ⟨W, hW⟩ : ∃ W, w.alloc (.cells #[.string f.nm, .int .i64 f.ps, .int .i64 f.R, .int .i64 f.Fr, .slice C N cap] 24) = W := ⟨_, rfl⟩
  rw [hW] at bx HR HC1 HB
  have HBX := Lib.hid bx
  have hBl := (Array.getElem?_eq_some_iff.1 bx).1
  have hmk := fun W => make_intss N (by omega) W
  have g0 := cell_of_heap bx 0 _ rfl
  have g1 := cell_of_heap bx 1 _ rfl
  have g2 := cell_of_heap bx 2 _ rfl
  have g3 := cell_of_heap bx 3 _ rfl
  have g4 := cell_of_heap bx 4 _ rfl
  clear hf hN hC hB hR hM hC1 hbd bx
  go_enter Try.func39, Try.ntmps39
  go_wp2_with (first
    | (refine HR.out.mono ?_; rintro e w3 ⟨rfl, hb3⟩; have hx3 := (hb3.block _ hBl).trans HBX.out; have h0 := cell_of_heap hx3 0 _ rfl; have h1 := cell_of_heap hx3 1 _ rfl; have h2 := cell_of_heap hx3 2 _ rfl; have h3 := cell_of_heap hx3 3 _ rfl; have h4 := cell_of_heap hx3 4 _ rfl; have hl3 := (Array.getElem?_eq_some_iff.1 hx3).1; clear hx3)
    | (refine (HM.out _ ((HC1.out.below hb3).below (Below.one _ _))).mono ?_; rintro e w5 ⟨⟨sb, S, rfl, hbase, hmw, hS⟩, hb5⟩))
  have hbase' : w3.heap.size < sb := by simp at hbase; omega
  have hb35 := hb3.trans (((Below.one w3 _).trans (hb5.mono (by simp))).mono hb3.size)
  have H0 := Lib.hid (show RowsK w5 w3.heap.size N 0 (Lv f.code) ∧ MapsW w5 sb N S ∧ Below w.heap.size w w5 from ⟨(RowsK.made w3 N (Lv f.code)).later hb5, hmw, HB.out.trans (hb35.mono HB.out.size)⟩)
  have HS := Lib.hid hS
  have hw3 : w.heap.size ≤ w3.heap.size := Nat.le_trans HB.out.size hb3.size
  clear hS hmw hbase hb5 hb3 hb35 h0 h1 h2 h3 h4 g0 g1 g2 g3 g4 hW hmk
  go_loopw [16] (fun ix wr => ∃ k : Nat, k ≤ N ∧ ix = .int .i64 k ∧ RowsK wr w3.heap.size N k (Lv f.code) ∧ MapsW wr sb N S ∧ Below w.heap.size w wr) (fun ix _ => N - (intOf ix).toNat)
  case atStart => exact ⟨0, by omega, rfl, H0.out⟩
  case round =>
    obtain ⟨k, hk, rfl, hrk, hmw, hb⟩ := hrel
    clear H0
    by_cases hlt : k < N
    · have c0 := hmw.cell hlt
      have hso := sorted_any (sb + 2 + k) (S k) _ hRn wr (hmw.r k hlt) (fun x hx => HBD.out k x ((HS.out k hlt x).1 hx))
      have HSO := Lib.hid hso
      have HRK := Lib.hid hrk
      have HMW := Lib.hid hmw
      have HBB := Lib.hid hb
      clear hso hrk hmw hb
      go_wp2_with (first
        | (refine HSO.out.mono ?_; rintro e w6 ⟨⟨A, l, c, rfl, hrd, hpw, hmem⟩, hb6⟩; have hrk6 := HRK.out.later hb6; have ⟨⟨A0, n0, c0', hc6⟩, hf6⟩ := hrk6.cell hlt; have hl6 := hrk6.lt; have HRK6 := Lib.hid hrk6; have HV := Lib.hid (show RowV w6 (.slice A l.length c) (Lv f.code k) from ⟨A, l, c, rfl, hrd, hpw, fun x => (hmem x).trans (HS.out k hlt x)⟩); have HB6 := Lib.hid hb6; clear hrk6 hrd hpw hmem hb6))
      exact ⟨⟨k + 1, by omega, by go_num, HRK6.out.set hlt HV.out, (HMW.out.later HB6.out).other hbase' _, (HBB.out.trans (HB6.out.mono HBB.out.size)).setCell (by simp only; omega) _⟩, by simp [intOf]; omega⟩
    · obtain rfl : k = N := by omega
      have HR2 := Lib.hid (show RowsT k (Lv f.code) (.returned (.slice (some ⟨w3.heap.size, 0, none⟩) k k)) wr ∧ Below w.heap.size w wr from ⟨⟨_, rfl, hrk⟩, hb⟩)
      clear hrk hmw hb
      go_wp2
      go_returns
      exact HR2.out
end Go.Proofs.Ytaofdbboalcceaa

/- live.Behind. -/
namespace Go.Proofs.Ytaofdbboalcceaa
open Go.RowKit Go.BigFrame

noncomputable def lb1 : Code := ((((Try.f40.body).map loopsOf).getD [])[0]?).getD .skip
noncomputable def lb2 : Code := ((loopsOf (inLoop lb1))[0]?).getD .skip
noncomputable def lb3 : Code := ((loopsOf (inLoop lb2))[0]?).getD .skip
theorem RdN.kp1 {w w' : World} {mb : Nat} {S : Int → Bool} {A : Option Addr} {l : List Int} (h : RdN w A l) (hm : SetI w mb S) (hk : Kp w w' mb mb) : RdN w' A l := fun j n hn => by
  obtain ⟨b, o, e1, e2, e3⟩ := h j n hn
  have hne : b ≠ mb := fun e => by
    subst e
    obtain ⟨es, clock, h2, _⟩ := hm
    simp [World.cell?, h2] at e3
  have hb : w'.heap[b]? = w.heap[b]? := hk.k b e2 hne hne
  exact ⟨b, o, e1, Nat.lt_of_lt_of_le e2 hk.s, by rw [← e3]; simp only [World.cell?, hb]⟩
theorem MapsW.kp {w w' : World} {sb N mb : Nat} {S : Sets} (h : MapsW w sb N S) (hk : Kp w w' mb mb) (hm : sb + 2 + N ≤ mb) : MapsW w' sb N S :=
  ⟨Pre.of_heap h.h (hk.k _ (Pre.lt h.h) (by omega) (by omega)), fun p hp => (h.r p hp).of_block (hk.k _ (h.r p hp).lt (by omega) (by omega))⟩
theorem Kp.grown {w w' : World} {mb : Nat} (hg : w.grownBy w' (some mb)) (hz : w'.heap.size = w.heap.size) : Kp w w' mb mb := ⟨by omega, fun b hb h1 _ => hg.block b hb (fun e => h1 (by injection e))⟩
set_option maxRecDepth 1000000 in
set_option maxHeartbeats 8000000 in
theorem lb3_any (w0 w : World) (mb rb b : Nat) (S T0 : Int → Bool) (lst : List Int) (hm : SetI w mb T0) (hR : RgD w rb b S lst) (hall : ∀ x, x ∈ lst ↔ S x = true) (hk : Kp w0 w mb mb) (hbw : Below mb w0 w) (hmb : mb < w0.heap.size) (hrb : w0.heap.size ≤ rb) (hb : b ≠ mb)
    (x0 x1 x2 x3 x4 x5 x6 x8 x9 x10 x11 x12 x13 x14 x15 x16 x17 x18 x19 x20 x21 x22 x23 x24 x25 x26 x27 x28 x29 x30 x31 x32 x33 x34 x35 x36 x37 x38 x39 x40 x42 x43 x44 x45 x46 x47 x48 x49 x50 x51 x52 x53 x54 x55 : Value) (Q : Exit → Act → World → Prop)
    (hexit : ∀ (y10 y42 y43 y44 y45 y46 y47 : Value) (w' : World) (T : Int → Bool), SetI w' mb T → Kp w0 w' mb mb → Below mb w0 w' → (∀ x, T x = true ↔ T0 x = true ∨ S x = true) → Q (.exit 4) ⟨(x0 :: x1 :: x2 :: x3 :: x4 :: x5 :: x6 :: .map (some mb) :: x8 :: x9 :: y10 :: x11 :: x12 :: x13 :: x14 :: x15 :: x16 :: x17 :: x18 :: x19 :: x20 :: x21 :: x22 :: x23 :: x24 :: x25 :: x26 :: x27 :: x28 :: x29 :: x30 :: x31 :: x32 :: x33 :: x34 :: x35 :: x36 :: x37 :: x38 :: x39 :: x40 :: .pointer (some ⟨rb, 0, none⟩) :: y42 :: y43 :: y44 :: y45 :: y46 :: y47 :: x48 :: x49 :: x50 :: x51 :: x52 :: x53 :: x54 :: x55 :: []).toArray, []⟩ w') :
    Code.wp Try.prog lb3 Q ⟨(x0 :: x1 :: x2 :: x3 :: x4 :: x5 :: x6 :: .map (some mb) :: x8 :: x9 :: x10 :: x11 :: x12 :: x13 :: x14 :: x15 :: x16 :: x17 :: x18 :: x19 :: x20 :: x21 :: x22 :: x23 :: x24 :: x25 :: x26 :: x27 :: x28 :: x29 :: x30 :: x31 :: x32 :: x33 :: x34 :: x35 :: x36 :: x37 :: x38 :: x39 :: x40 :: .pointer (some ⟨rb, 0, none⟩) :: x42 :: x43 :: x44 :: x45 :: x46 :: x47 :: x48 :: x49 :: x50 :: x51 :: x52 :: x53 :: x54 :: x55 :: []).toArray, []⟩ w := by
  conv => arg 2; whnf
  have HE := Lib.hid hexit
  have H0 : Hid (∃ (lst' : List Int) (T : Int → Bool), lst.length = lst'.length ∧ RgD w rb b S lst' ∧ SetI w mb T ∧ Kp w0 w mb mb ∧ Below mb w0 w ∧ (∀ x, T x = true ↔ T0 x = true ∨ (S x = true ∧ x ∉ lst'))) :=
    Lib.hid ⟨lst, T0, rfl, hR, hm, hk, hbw, fun x => ⟨Or.inl, fun h => h.elim (fun h => h) (fun h => absurd ((hall x).2 h.1) h.2)⟩⟩
  clear hexit hm hR hall hk hbw
  go_loopg [42] lst.length (fun g _ wr => ∃ (lst' : List Int) (T : Int → Bool), g = lst'.length ∧ RgD wr rb b S lst' ∧ SetI wr mb T ∧ Kp w0 wr mb mb ∧ Below mb w0 wr ∧ (∀ x, T x = true ↔ T0 x = true ∨ (S x = true ∧ x ∉ lst')))
  case atStart => exact H0.out
  case round =>
    obtain ⟨lst', T, hg, hrg, hm, hk, hbw, hT⟩ := hrel
    have HG := Lib.hid hg
    have HRG := Lib.hid hrg
    have HM := Lib.hid hm
    have HK := Lib.hid hk
    have HT := Lib.hid hT
    have HBW := Lib.hid hbw
    clear hg hrg hm hk hT H0 hbw
    go_wp2_with (first
      | (at_next; refine wpList_next_set _ rfl _ rfl rb b S lst' rfl HRG.out ?_ ?_))
    · intro hl
      have HX := fun y10 y42 y43 y44 y45 y46 y47 => Lib.hid (HE.out y10 y42 y43 y44 y45 y46 y47 wr T HM.out HK.out HBW.out (fun x => (HT.out x).trans (by rw [hl]; simp)))
      clear HE
      go_wp2
      exact (HX _ _ _ _ _ _ _).out
    · intro s l' w2 hms hs hmem hlt hrg2 hg2 hz2 hen
      have hks := HK.out.s
      have hm2 : SetI w2 mb T := HM.out.kept hg2 (fun e => by injection e; omega)
      have hk2 : Kp w0 w2 mb mb := ⟨by omega, fun x hx h1 h2 => (hg2.block x (by omega) (fun e => by injection e; omega)).trans (HK.out.k x hx h1 h2)⟩
      have HB2 := Lib.hid (Below.grown HBW.out hg2 (by omega) (fun k hk => by injection hk; omega))
      have HM2 := Lib.hid hm2
      have HK2 := Lib.hid hk2
      have HRG2 := Lib.hid hrg2
      have HME := Lib.hid hmem
      have HS := Lib.hid hs
      have HMS := Lib.hid hms
      have HLT := Lib.hid hlt
      clear hms hs hmem hlt hrg2 hg2 hz2 hm2 hk2
      go_wp2_with (first
        | (refine wpList_update_set _ rfl _ _ _ 84 rfl umap uint mb T rfl HM2.out s rfl rfl ?_; intro w3 hm3 hg3 hz3))
      go_roundg l'.length
      case measure => rw [HG.out]; exact HLT.out
      case rel =>
        have hl2 := HRG2.out.lt
        have hk3 := Kp.grown hg3 hz3
        refine ⟨l', _, rfl, HRG2.out.of_blocks (hk3.k _ hl2.1 hb hb) (hk3.k _ hl2.2 (by omega) (by omega)), hm3, HK2.out.trans hk3, Below.grown HB2.out hg3 (by omega) (fun k hk => by injection hk; omega), fun x => ?_⟩
        rw [HME.out]
        simp only [insS_, Bool.or_eq_true, decide_eq_true_eq]
        rw [HT.out]
        constructor
        · rintro (rfl | h | ⟨h1, h2⟩)
          · exact Or.inr ⟨HS.out, fun h => h.2 rfl⟩
          · exact Or.inl h
          · exact Or.inr ⟨h1, fun h => h2 h.1⟩
        · rintro (h | ⟨h1, h2⟩)
          · exact Or.inr (Or.inl h)
          · by_cases hx : x = s
            · exact Or.inl hx
            · exact Or.inr (Or.inr ⟨h1, fun h => h2 ⟨h, hx⟩⟩)
set_option maxRecDepth 1000000 in
set_option maxHeartbeats 8000000 in
theorem lb2_any (w : World) (sb N mb : Nat) (S : Sets) (T0 : Int → Bool) (hT0 : ∀ x, T0 x = false) (nx : List Int) (A : Option Addr) (cap Ln : Nat) (hLn : nx.length = Ln) (hLn2 : Ln ≤ 100) (hM : MapsW w sb N S) (hm : SetI w mb T0) (hmb : sb + 2 + N ≤ mb) (hR : RdN w A nx) (hin : ∀ n ∈ nx, 0 ≤ n ∧ n.toNat < N)
    (x0 x1 x2 x4 x5 x6 x8 x9 x10 x11 x12 x13 x14 x15 x16 x17 x18 x19 x20 x21 x22 x23 x24 x25 x26 x27 x28 x29 x30 x34 x35 x36 x37 x38 x39 x40 x41 x42 x43 x44 x45 x46 x47 x48 x49 x50 x51 x52 x53 x54 x55 : Value) (Q : Exit → Act → World → Prop)
    (hexit : ∀ (y9 y10 y34 y35 y36 y37 y38 y39 y40 y41 y42 y43 y44 y45 y46 y47 y48 : Value) (w' : World) (T : Int → Bool), SetI w' mb T → Kp w w' mb mb → Below mb w w' → (∀ x, T x = true ↔ ∃ n ∈ nx, S n.toNat x = true) → Q (.exit 2) ⟨(x0 :: x1 :: x2 :: .slice (some ⟨sb, 0, none⟩) N N :: x4 :: x5 :: x6 :: .map (some mb) :: x8 :: y9 :: y10 :: x11 :: x12 :: x13 :: x14 :: x15 :: x16 :: x17 :: x18 :: x19 :: x20 :: x21 :: x22 :: x23 :: x24 :: x25 :: x26 :: x27 :: x28 :: x29 :: x30 :: .slice A Ln cap :: .int .i64 (Ln : Int) :: .int .i64 (Ln : Int) :: y34 :: y35 :: y36 :: y37 :: y38 :: y39 :: y40 :: y41 :: y42 :: y43 :: y44 :: y45 :: y46 :: y47 :: y48 :: x49 :: x50 :: x51 :: x52 :: x53 :: x54 :: x55 :: []).toArray, []⟩ w') :
    Code.wp Try.prog lb2 Q ⟨(x0 :: x1 :: x2 :: .slice (some ⟨sb, 0, none⟩) N N :: x4 :: x5 :: x6 :: .map (some mb) :: x8 :: x9 :: x10 :: x11 :: x12 :: x13 :: x14 :: x15 :: x16 :: x17 :: x18 :: x19 :: x20 :: x21 :: x22 :: x23 :: x24 :: x25 :: x26 :: x27 :: x28 :: x29 :: x30 :: .slice A Ln cap :: .int .i64 (Ln : Int) :: .int .i64 0 :: x34 :: x35 :: x36 :: x37 :: x38 :: x39 :: x40 :: x41 :: x42 :: x43 :: x44 :: x45 :: x46 :: x47 :: x48 :: x49 :: x50 :: x51 :: x52 :: x53 :: x54 :: x55 :: []).toArray, []⟩ w := by
  conv => arg 2; whnf
  have HE := Lib.hid hexit
  have HLN := Lib.hid hLn
  have HR := Lib.hid hR
  have HIN := Lib.hid hin
  have HM := Lib.hid hM
  have hml := hm.lt
  have HM0 := Lib.hid hm
  have HT0 := Lib.hid hT0
  clear hexit hLn hR hin hM hm hT0
  go_loopw [33] (fun ix wr => ∃ (k : Nat) (T : Int → Bool), k ≤ Ln ∧ ix = .int .i64 k ∧ SetI wr mb T ∧ Kp w wr mb mb ∧ Below mb w wr ∧ (∀ x, T x = true ↔ ∃ (j : Nat) (n : Int), j < k ∧ nx[j]? = some n ∧ S n.toNat x = true)) (fun ix _ => Ln - (intOf ix).toNat)
  case atStart => exact ⟨0, T0, by omega, rfl, HM0.out, Kp.refl _ _ _, Below.refl _ _, fun x => ⟨fun h => (by rw [HT0.out] at h; cases h), fun ⟨j, n, hj, _⟩ => by omega⟩⟩
  case round =>
    obtain ⟨k, T, hk, rfl, hm, hkp, hbw, hT⟩ := hrel
    by_cases hlt : k < Ln
    · obtain ⟨n, hn⟩ : ∃ n, nx[k]? = some n := ⟨_, List.getElem?_eq_getElem (by rw [HLN.out]; exact hlt)⟩
      have hnb := HIN.out n (List.mem_of_getElem? hn)
      obtain ⟨m, rfl⟩ : ∃ m : Nat, n = (m : Int) := ⟨n.toNat, by omega⟩
      have hmN : m < N := by have := hnb.2; rwa [Int.toNat_natCast] at this
      obtain ⟨b, o, rfl, hbl, hc⟩ := (HR.out.kp1 HM0.out hkp) k _ hn
      have hmw := HM.out.kp hkp hmb
      have c1 := hmw.cell hmN
      have HSET := Lib.hid (hmw.r m hmN)
      have HNN := Lib.hid hn
      have HMM := Lib.hid hm
      have HK := Lib.hid hkp
      have HT := Lib.hid hT
      have HBW := Lib.hid hbw
      have hmlt := hm.lt
      clear hn hnb hm hkp hT hmw hbw
      go_wp2_with (first
        | (at_range; refine wpList_range_set _ rfl _ 84 rfl umap (sb + 2 + m) (S m) rfl HSET.out ?_; intro lst o' hrg hnd hall))
      go_frame
      refine lb3_any wr (wr.alloc o') mb wr.heap.size (sb + 2 + m) (S m) T lst (HMM.out.below (Below.one _ _) hmlt) hrg hall (Kp.below (Below.one _ _)) ((Below.one _ _).mono (by omega)) hmlt (Nat.le_refl _) (by omega) _ _ _ _ _ _ _ _ _ _ _ _ _ _ _ _ _ _ _ _ _ _ _ _ _ _ _ _ _ _ _ _ _ _ _ _ _ _ _ _ _ _ _ _ _ _ _ _ _ _ _ _ _ _ _ ?_
      intro z10 z42 z43 z44 z45 z46 z47 w' T' hm' hk' hb' hT'
      have HN : Hid (∃ (k' : Nat) (T2 : Int → Bool), k' ≤ Ln ∧ Value.int IntKind.i64 ((k : Int) + 1) = .int .i64 k' ∧ SetI w' mb T2 ∧ Kp w w' mb mb ∧ Below mb w w' ∧ (∀ x, T2 x = true ↔ ∃ (j : Nat) (n : Int), j < k' ∧ nx[j]? = some n ∧ S n.toNat x = true)) := Lib.hid ⟨k + 1, T', by omega, by go_num, hm', HK.out.trans hk', HBW.out.trans hb', fun x => by
        rw [hT', HT.out]
        constructor
        · rintro (⟨j, n, h1, h2, h3⟩ | h)
          · exact ⟨j, n, by omega, h2, h3⟩
          · exact ⟨k, m, by omega, HNN.out, by rw [Int.toNat_natCast]; exact h⟩
        · rintro ⟨j, n, h1, h2, h3⟩
          by_cases hjk : j = k
          · subst hjk
            rw [HNN.out] at h2
            injection h2 with h2
            subst h2
            rw [Int.toNat_natCast] at h3
            exact Or.inr h3
          · exact Or.inl ⟨j, n, by omega, h2, h3⟩⟩
      clear hm' hk' hT' hb'
      go_wp2
      exact ⟨HN.out, by simp [intOf]; omega⟩
    · obtain rfl : k = Ln := by omega
      have HX := fun y9 y10 y34 y35 y36 y37 y38 y39 y40 y41 y42 y43 y44 y45 y46 y47 y48 => Lib.hid (HE.out y9 y10 y34 y35 y36 y37 y38 y39 y40 y41 y42 y43 y44 y45 y46 y47 y48 wr T hm hkp hbw (fun x => (hT x).trans ⟨fun ⟨j, n, h1, h2, h3⟩ => ⟨n, List.mem_of_getElem? h2, h3⟩, fun ⟨n, h1, h2⟩ => by
        obtain ⟨j, hj⟩ := List.mem_iff_getElem?.1 h1
        exact ⟨j, n, by have := (List.getElem?_eq_some_iff.1 hj).1; rw [HLN.out] at this; exact this, hj, h2⟩⟩))
      clear hm hkp HE hT hbw
      go_wp2
      exact (HX _ _ _ _ _ _ _ _ _ _ _ _ _ _ _ _ _).out
theorem MapsW.other2 {w : World} {sb N : Nat} {S : Sets} (h : MapsW w sb N S) {ob k : Nat} (hob : sb + 2 + N ≤ ob) (v : Value) : MapsW (w.setCell ⟨ob, k, none⟩ v) sb N S :=
  ⟨Pre.other h.h (by simp only; omega) v, fun p hp => (h.r p hp).of_block (heap_setCell_other w ⟨ob, k, none⟩ _ v (by simp only; omega))⟩
theorem RowV.kp {w w' : World} {mb : Nat} {S : Int → Bool} {v : Value} {P : Int → Prop} (h : RowV w v P) (hm : SetI w mb S) (hk : Kp w w' mb mb) : RowV w' v P := by
  obtain ⟨A, l, cap, h1, h2, h3⟩ := h
  exact ⟨A, l, cap, h1, h2.kp1 hm hk, h3⟩
theorem RowsK.kp {w w' : World} {ob N k mb : Nat} {P : Nat → Int → Prop} {S : Int → Bool} (h : RowsK w ob N k P) (hm : SetI w mb S) (hk : Kp w w' mb mb) (hne : ob ≠ mb) : RowsK w' ob N k P := by
  obtain ⟨vs, h1, h2, h3, h4⟩ := h
  exact ⟨vs, h1, Pre.of_heap h2 (hk.k _ (Pre.lt h2) hne hne), h3, fun j hj => by obtain ⟨v, h5, h6⟩ := h4 j hj; exact ⟨v, h5, h6.kp hm hk⟩⟩
/-- a register is live behind an instruction -/
def Bh (l : List Ins) (p : Nat) (r : Int) : Prop := ∃ i, l[p]? = some i ∧ ∃ n ∈ i.next p, Lv l n.toNat r
theorem Behind_no (f : Fn7) (hf : ¬ OkF f) (C : Option Addr) (cap : Nat) (w : World) (hC : RdI w C f.code) :
    Calls Try.prog 40 #[funcAgg f.nm f.ps f.R f.Fr C f.code.length cap] w fun e w' => e = .returned (.slice none 0 0) ∧ Below w.heap.size w w' := by
  have hB := Below.one w (funcObj f.nm f.ps f.R f.Fr C f.code.length cap)
  have hR := Lib.hid (RightFunc_no f hf C cap _ (hC.below hB))
  simp only [funcObj, funcAgg] at hB hR ⊢
  clear hf hC
  go_enter Try.func40, Try.ntmps40
  go_wp2_with (first
    | (refine hR.out.mono ?_; rintro e w3 ⟨rfl, hb3⟩))
  go_returns
  exact ⟨rfl, hB.trans (hb3.mono hB.size)⟩
set_option maxRecDepth 1000000 in
set_option maxHeartbeats 16000000 in
theorem Behind_yes (f : Fn7) (hf : OkF f) (C : Option Addr) (cap : Nat) (w : World) (hC : RdI w C f.code) :
    Calls Try.prog 40 #[funcAgg f.nm f.ps f.R f.Fr C f.code.length cap] w fun e w' => RowsT f.code.length (Bh f.code) e w' ∧ Below w.heap.size w w' := by
  obtain ⟨N, hN⟩ : ∃ N, f.code.length = N := ⟨_, rfl⟩
  have hN2 : N ≤ 8192 := by rw [← hN]; exact hf.len.2
  have hR0 : 0 ≤ f.R ∧ f.R ≤ 4096 := by have := hf.R; have := hf.ps; omega
  have hB := Below.one w (funcObj f.nm f.ps f.R f.Fr C f.code.length cap)
  have bx := heap_alloc_new w (funcObj f.nm f.ps f.R f.Fr C f.code.length cap)
  have hC1 := hC.below hB
  have hR := RightFunc_yes f hf C cap _ hC1
  have hM := fun W h => flow_live f hf C cap W h
  have hbd : ∀ p r, Lv f.code p r → 0 ≤ r ∧ r < (f.R.toNat : Int) := fun p r h => by have := (h.bound hf).1; omega
  rw [hN] at hR hM hB bx hC1 ⊢
  simp only [funcObj, funcAgg] at hR hB bx hC1 hM ⊢
  have HR := Lib.hid hR
  have HM := Lib.hid hM
  have HC1 := Lib.hid hC1
  have HBD := Lib.hid hbd
  have HB := Lib.hid hB
  have HF := Lib.hid hf
  have HN := Lib.hid hN
  have hRn : f.R.toNat ≤ 5000 := by omega
  obtain ⟨W, hW⟩ : ∃ W, w.alloc (.cells #[.string f.nm, .int .i64 f.ps, .int .i64 f.R, .int .i64 f.Fr, .slice C N cap] 24) = W := ⟨_, rfl⟩
  rw [hW] at bx HR HC1 HB
  have HBX := Lib.hid bx
  have hBl := (Array.getElem?_eq_some_iff.1 bx).1
  have hmk := fun W => make_intss N (by omega) W
  have g0 := cell_of_heap bx 0 _ rfl
  have g1 := cell_of_heap bx 1 _ rfl
  have g2 := cell_of_heap bx 2 _ rfl
  have g3 := cell_of_heap bx 3 _ rfl
  have g4 := cell_of_heap bx 4 _ rfl
  clear hf hN hC hB hR hM hC1 hbd bx
  go_enter Try.func40, Try.ntmps40
  go_wp2_with (first
    | (refine HR.out.mono ?_; rintro e w3 ⟨rfl, hb3⟩; have hx3 := (hb3.block _ hBl).trans HBX.out; have h0 := cell_of_heap hx3 0 _ rfl; have h1 := cell_of_heap hx3 1 _ rfl; have h2 := cell_of_heap hx3 2 _ rfl; have h3 := cell_of_heap hx3 3 _ rfl; have h4 := cell_of_heap hx3 4 _ rfl; have hl3 := (Array.getElem?_eq_some_iff.1 hx3).1; have HX3 := Lib.hid hx3; clear hx3)
    | (refine (HM.out _ (HC1.out.below hb3)).mono ?_; rintro e w5 ⟨⟨sb, S, rfl, hbase, hmw, hS⟩, hb5⟩; have hx5 := (hb5.block _ hl3).trans HX3.out; have h5 := cell_of_heap hx5 4 _ rfl; have hl5 := (Array.getElem?_eq_some_iff.1 hx5).1; have HMW := Lib.hid hmw; have HX5 := Lib.hid hx5; clear hmw hx5))
  have HS := Lib.hid hS
  have hw3 : w.heap.size ≤ w3.heap.size := Nat.le_trans HB.out.size hb3.size
  have hmN := fun (h : 0 < N) => (HMW.out.r (N - 1) (by omega)).lt
  have H0 := Lib.hid (show RowsK (w5.alloc (.cells (madeCells #[.slice none 0 0] N) 42)) w5.heap.size N 0 (Bh f.code) ∧ MapsW (w5.alloc (.cells (madeCells #[.slice none 0 0] N) 42)) sb N S ∧ Below w5.heap.size w5 (w5.alloc (.cells (madeCells #[.slice none 0 0] N) 42)) from ⟨RowsK.made w5 N (Bh f.code), HMW.out.later (Below.one _ _), Below.one _ _⟩)
  have HW5 := Lib.hid (show Below W.heap.size W w5 from hb3.trans (hb5.mono hb3.size))
  have hw5 : w.heap.size ≤ w5.heap.size := Nat.le_trans hw3 hb5.size
  have hsbl : sb < w5.heap.size := Pre.lt HMW.out.h
  clear hS hbase hb5 hb3 h0 h1 h2 h3 h4 h5 g0 g1 g2 g3 g4 hW hmk
  go_loopw [23] (fun ix wr => ∃ k : Nat, k ≤ N ∧ ix = .int .i64 k ∧ RowsK wr w5.heap.size N k (Bh f.code) ∧ MapsW wr sb N S ∧ Below w5.heap.size w5 wr) (fun ix _ => N - (intOf ix).toNat)
  case atStart => exact ⟨0, by omega, rfl, H0.out⟩
  case round =>
    obtain ⟨k, hk, rfl, hrk, hmw, hb⟩ := hrel
    clear H0
    by_cases hlt : k < N
    · have hmN := hmN (by omega)
      obtain ⟨i, hi⟩ : ∃ i, f.code[k]? = some i := ⟨_, List.getElem?_eq_getElem (by rw [HN.out]; exact hlt)⟩
      obtain ⟨bb, oo, rfl, hbl, hcs⟩ := ((HC1.out.below HW5.out).below hb) k i hi
      obtain ⟨x0, x1, x2, x3, x4, x5, x6, x7, x8, x9, x10, x11, x12, x13, x14⟩ := RdI.load hcs
      have kx := heap_alloc_new wr i.obj
      have hnxt := HF.out.next hi
      rw [HN.out] at hnxt
      have hnl := Ins.next_len i k
      have hna := fun W => Next_any i k (by omega) W
      have HBH : Hid (∀ x, Bh f.code k x ↔ ∃ n ∈ i.next k, Lv f.code n.toNat x) := Lib.hid fun x => ⟨fun ⟨i', h1, h2⟩ => by
        rw [hi] at h1
        injection h1 with h1
        subst h1
        exact h2, fun h => ⟨i, hi, h⟩⟩
      obtain ⟨nx, hnx⟩ : ∃ nx, i.next k = nx := ⟨_, rfl⟩
      rw [hnx] at hnl hna hnxt HBH
      clear hnx
      obtain ⟨Ln, hLn⟩ : ∃ Ln, nx.length = Ln := ⟨_, rfl⟩
      obtain ⟨kk, op, dst, a, b', n, text, r0, r1, r2, r3, r4, r5, to_, els⟩ := i
      have hNA : ∀ W, Calls Try.prog 48 #[.agg #[.int .i64 kk, .int .i64 op, .int .i64 dst, .int .i64 a, .int .i64 b', .int .i64 n, .string text, .int .i64 r0, .int .i64 r1, .int .i64 r2, .int .i64 r3, .int .i64 r4, .int .i64 r5, .int .i64 to_, .int .i64 els], .int .i64 k] W fun e w' => (∃ A c, e = .returned (.slice A Ln c) ∧ RdN w' A nx) ∧ Below W.heap.size W w' := fun W => (hna W).mono fun e w' ⟨⟨A, c, h1, h2⟩, h3⟩ => ⟨⟨A, c, by rw [h1, hLn], h2⟩, h3⟩
      have HNA := Lib.hid hNA
      have HNXT := Lib.hid hnxt
      have HLn := Lib.hid hLn
      have HN10 : Hid (Ln ≤ 100) := Lib.hid (by omega)
      have kx2 := alloc_keeps kx (.map #[] 0)
      have ⟨d0, d1, d2, d3, d4, d5, d6, d7, d8, d9, d10, d11, d12, d13, d14⟩ := Ins.cells (i := ⟨kk, op, dst, a, b', n, text, r0, r1, r2, r3, r4, r5, to_, els⟩) kx
      simp only at x0 x1 x2 x3 x4 x5 x6 x7 x8 x9 x10 x11 x12 x13 x14 d0 d1 d2 d3 d4 d5 d6 d7 d8 d9 d10 d11 d12 d13 d14
      have hm0 := SetI.made (wr.alloc (Ins.obj ⟨kk, op, dst, a, b', n, text, r0, r1, r2, r3, r4, r5, to_, els⟩))
      rw [show (wr.alloc (Ins.obj ⟨kk, op, dst, a, b', n, text, r0, r1, r2, r3, r4, r5, to_, els⟩)).heap.size = wr.heap.size + 1 by simp] at hm0
      have hb2 : Below wr.heap.size wr ((wr.alloc (Ins.obj ⟨kk, op, dst, a, b', n, text, r0, r1, r2, r3, r4, r5, to_, els⟩)).alloc (.map #[] 0)) := (Below.one wr _).alloc (by simp) _
      have hw5r := hb.size
      have HM0 := Lib.hid hm0
      have HB2 := Lib.hid hb2
      have HRK := Lib.hid hrk
      have HMW2 := Lib.hid hmw
      have HBB := Lib.hid hb
      clear hna hNA hnxt hLn hnl hi kx kx2 hcs hm0 hb2 hrk hmw hb
      have hmm := @run_makeMap Try.prog
      go_wp2_with (first
        | (refine (HNA.out _).mono ?_; rintro e w6 ⟨⟨A4, c4, rfl, hrd⟩, hb6⟩; have HB6 := Lib.hid hb6; have HRD := Lib.hid hrd; clear hrd hb6))
      have hmb : sb + 2 + N ≤ wr.heap.size + 1 := by
        have := (HMW2.out.r (N - 1) (by omega)).lt
        omega
      have hB26 := HB2.out.trans (HB6.out.mono HB2.out.size)
      have hrk6 := HRK.out.later hB26
      have hmw6 := HMW2.out.later hB26
      have hm6 := HM0.out.below HB6.out HM0.out.lt
      have hobl := HRK.out.lt
      refine lb2_any w6 sb N (wr.heap.size + 1) S (fun _ => false) (fun _ => rfl) nx A4 c4 Ln HLn.out HN10.out hmw6 hm6 hmb HRD.out HNXT.out _ _ _ _ _ _ _ _ _ _ _ _ _ _ _ _ _ _ _ _ _ _ _ _ _ _ _ _ _ _ _ _ _ _ _ _ _ _ _ _ _ _ _ _ _ _ _ _ _ _ _ _ ?_
      intro z9 z10 z34 z35 z36 z37 z38 z39 z40 z41 z42 z43 z44 z45 z46 z47 z48 w7 T hm7 hk7 hb7 hT7
      have hrk7 := hrk6.kp hm6 hk7 (by omega)
      have hmw7 := hmw6.kp hk7 hmb
      have hTL : ∀ x, T x = true ↔ Bh f.code k x := fun x => (hT7 x).trans ⟨fun ⟨n, h1, h2⟩ => (HBH.out x).2 ⟨n, h1, (HS.out _ (HNXT.out n h1).2 x).1 h2⟩, fun h => by
        obtain ⟨n, h1, h2⟩ := (HBH.out x).1 h
        exact ⟨n, h1, (HS.out _ (HNXT.out n h1).2 x).2 h2⟩⟩
      have hso := sorted_any (wr.heap.size + 1) T _ hRn w7 hm7 (fun x hx => by
        obtain ⟨i', h1, n, h2, h3⟩ := (hTL x).1 hx
        exact HBD.out _ x h3)
      have hB7 := HBB.out.trans ((hB26.trans (hb7.mono (by omega))).mono hw5r)
      have HSO := Lib.hid hso
      have HRK7 := Lib.hid hrk7
      have HMW7 := Lib.hid hmw7
      have HTL := Lib.hid hTL
      have HB7 := Lib.hid hB7
      clear hB26 hrk6 hmw6 hm6 hm7 hk7 hb7 hT7 hrk7 hmw7 hTL hso hB7
      go_wp2_with (first
        | (refine HSO.out.mono ?_; rintro e w8 ⟨⟨A, l, c, rfl, hrd, hpw, hmem⟩, hb8⟩; have hrk8 := HRK7.out.later hb8; have ⟨⟨A0, n0, c0', hc8⟩, hf8⟩ := hrk8.cell hlt; have hl8 := hrk8.lt; have HRK8 := Lib.hid hrk8; have HV := Lib.hid (show RowV w8 (.slice A l.length c) (Bh f.code k) from ⟨A, l, c, rfl, hrd, hpw, fun x => (hmem x).trans (HTL.out x)⟩); have HB8 := Lib.hid hb8; clear hrk8 hrd hpw hmem hb8))
      exact ⟨⟨k + 1, by omega, by go_num, HRK8.out.set hlt HV.out, (HMW7.out.later HB8.out).other2 (by omega) _, (HB7.out.trans (HB8.out.mono HB7.out.size)).setCell (by simp only; omega) _⟩, by simp [intOf]; omega⟩
    · obtain rfl : k = N := by omega
      have HR2 := Lib.hid (show RowsT k (Bh f.code) (.returned (.slice (some ⟨w5.heap.size, 0, none⟩) k k)) wr ∧ Below w.heap.size w wr from ⟨⟨_, rfl, hrk⟩, HB.out.trans ((HW5.out.mono HB.out.size).trans (hb.mono hw5))⟩)
      clear hrk hmw hb
      go_wp2
      go_returns
      exact HR2.out
end Go.Proofs.Ytaofdbboalcceaa
