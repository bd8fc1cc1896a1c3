import Derived.Test.YthbcdckonaljiaaQf
import Derived.Carry
namespace Go.Proofs.Ythbcdckonaljiaa
open Go.RowKit Go.BigFrame

theorem OwnN.room {w : World} {A : Option Addr} {l : List Int} {c : Nat} (h : OwnN w (.slice A l.length c) l) : l.length ≤ c := by
  obtain ⟨h1, h2⟩ := h
  rcases h2 with ⟨h3, hn⟩ | ⟨g, cap, cur, h3, hB, hg, hnc, _⟩
  · omega
  · injection h3 with h4 h5 h6
    omega
def SortT2 (S : Int → Bool) (e : Ending) (w : World) : Prop := ∃ A l cap, e = .returned (.slice A l.length cap) ∧ RdN w A l ∧ l.Pairwise (· < ·) ∧ (∀ x, x ∈ l ↔ S x = true) ∧ l.length ≤ cap
set_option maxRecDepth 1000000 in
set_option maxHeartbeats 8000000 in
theorem sorted_any2 (b : Nat) (S : Int → Bool) (R : Nat) (hR : R ≤ 5000) (w : World) (hS : SetI w b S) (hbd : ∀ x, S x = true → 0 ≤ x ∧ x < (R : Int)) : Calls Try.prog 65 #[.map (some b)] w fun e w' => SortT2 S e w' ∧ Below w.heap.size w w' := by
  have HS := Lib.hid hS
  have HBD := Lib.hid hbd
  have hbl := hS.lt
  clear hS hbd
  go_enter Try.func65, Try.ntmps65
  go_wp2_with (first
    | (at_range; refine wpList_range_set _ rfl _ 73 rfl umap b S rfl HS.out ?_; intro lst o' hrg hnd hall))
  go_frame
  have H0 : Hid (∃ (lst' acc : List Int), lst.length = lst'.length ∧ RgD (w.alloc o') w.heap.size b S lst' ∧ OwnN (w.alloc o') (.slice none 0 0) acc ∧ (∀ k, (Value.slice none 0 0).ownBlock = some k → w.heap.size < k) ∧ acc.Nodup ∧ (∀ x, x ∈ acc ↔ S x = true ∧ x ∉ lst') ∧ acc.length + lst'.length ≤ R ∧ Below w.heap.size w (w.alloc o')) :=
    Lib.hid ⟨lst, [], rfl, hrg, OwnN.nil _, (fun k hk => by simp [Value.ownBlock] at hk), List.nodup_nil, (fun x => ⟨fun h => by simp at h, fun ⟨h1, h2⟩ => absurd ((hall x).2 h1) h2⟩), by
      have := nodup_le R lst hnd (fun x hx => HBD.out x ((hall x).1 hx))
      simpa using this, Below.one _ _⟩
  clear hrg hnd hall
  go_loopg [3] lst.length (fun g V wr => ∃ (lst' acc : List Int), g = lst'.length ∧ RgD wr w.heap.size b S lst' ∧ OwnN wr V acc ∧ (∀ k, V.ownBlock = some k → w.heap.size < k) ∧ acc.Nodup ∧ (∀ x, x ∈ acc ↔ S x = true ∧ x ∉ lst') ∧ acc.length + lst'.length ≤ R ∧ Below w.heap.size w wr)
  case atStart => exact H0.out
  case round =>
    obtain ⟨lst', acc, hg, hrg, hown, hV, hnd, hmem, hlen, hb⟩ := hrel
    have HG := Lib.hid hg
    have HRG := Lib.hid hrg
    have HOWN := Lib.hid hown
    have HV := Lib.hid hV
    have HND := Lib.hid hnd
    have HM := Lib.hid hmem
    have HB := Lib.hid hb
    have hsz := hb.size
    clear hg hrg hown hV hnd hmem hb H0
    go_wp2_with (first
      | (at_next; refine wpList_next_set _ rfl _ rfl w.heap.size b S lst' rfl HRG.out ?_ ?_))
    · intro hl
      have hso := sort_own w.heap.size w wr HB.out hsz u3 acc HOWN.out (fun k hk => by have := HV.out k hk; omega) (by omega)
      have HSO := Lib.hid hso
      have HL := Lib.hid hl
      clear hso hl
      go_wp2_with (first
        | (refine HSO.out.mono ?_; rintro e w3 ⟨rfl, hb3, A, cap, rfl, hrd⟩; have HRD := Lib.hid hrd; clear hrd))
      go_returns
      exact ⟨⟨A, isort acc, cap, (by rw [isort_len]; rfl), HRD.out, isort_lt HND.out, fun x => ⟨fun h => ((HM.out x).1 ((isort_mem _ _).1 h)).1, fun h => (isort_mem _ _).2 ((HM.out x).2 ⟨h, by rw [HL.out]; simp⟩)⟩, by rw [isort_len]; exact HOWN.out.room⟩, hb3⟩
    · intro s l' w2 hm hs hmem hlt hrg2 hg2 hz2 hen
      have hlr := HRG.out.lt
      have ho2 : OwnN w2 u3 acc := World.ownsRow.kept HOWN.out hg2 (Or.inr fun e => by have := HV.out _ e; omega)
      have hb2 : Below w.heap.size w w2 := Below.grown HB.out hg2 hsz (fun k hk => by injection hk; omega)
      have HO2 := Lib.hid (OwnN.alloc ho2 (.cells #[.int .i64 s] 3))
      have HG2 := Lib.hid (hrg2.below (Below.one w2 (.cells #[.int .i64 s] 3)))
      have HB2 := Lib.hid (hb2.alloc (by omega) (.cells #[.int .i64 s] 3))
      have HX := Lib.hid (show s ∉ acc from fun h => ((HM.out s).1 h).2 hm)
      have HS2 := Lib.hid hs
      have HME := Lib.hid hmem
      have HLT := Lib.hid hlt
      have hsz2 : w.heap.size ≤ w2.heap.size := by omega
      have hal : acc.length ≤ 90000 := by omega
      clear hm hs hmem hlt hrg2 hg2 hz2 ho2 hb2
      go_wp2_with (first
        | (at_builtin; refine append_one rfl (.tmp 11) (.tmp 13) rfl u3 acc rfl HO2.out w2.heap.size s rfl (heap_alloc_new _ _) hal ?_; intro V' w4 ho4 hg4 hb4; have HO4 := Lib.hid ho4; have HG4 := Lib.hid hg4; have HB4 := Lib.hid hb4; clear ho4 hg4 hb4))
      go_roundg l'.length
      case measure => rw [HG.out]; exact HLT.out
      case rel =>
        have hne : ∀ k, u3.ownBlock = some k → w.heap.size < k := HV.out
        have hl2 := HG2.out.lt
        have hk : ∀ x, x < (w2.alloc (.cells #[.int .i64 s] 3)).heap.size → x ≤ w.heap.size → w4.heap[x]? = (w2.alloc (.cells #[.int .i64 s] 3)).heap[x]? := fun x h1 h2 => HG4.out.block x h1 (fun e => by have := hne x e.symm; omega)
        refine ⟨l', acc ++ [s], rfl, HG2.out.of_blocks (hk _ hl2.1 (by omega)) (hk _ hl2.2 (Nat.le_refl _)), HO4.out, fun k hk2 => ?_, ?_, fun x => ?_, ?_, Below.grown HB2.out HG4.out (by simp; omega) (fun k hk2 => by have := hne k hk2; omega)⟩
        · rcases HB4.out with e | e
          · rw [e] at hk2; exact hne k hk2
          · rw [e] at hk2; injection hk2 with hk2; simp at hk2; omega
        · rw [List.nodup_append]
          exact ⟨HND.out, by simp, fun a ha b' hb' e => by
            simp only [List.mem_singleton] at hb'
            subst hb' e
            exact HX.out ha⟩
        · rw [List.mem_append, List.mem_singleton, HM.out, HME.out]
          constructor
          · rintro (⟨h1, h2⟩ | rfl)
            · exact ⟨h1, fun h => h2 h.1⟩
            · exact ⟨HS2.out, fun h => h.2 rfl⟩
          · rintro ⟨h1, h2⟩
            by_cases hxs : x = s
            · exact Or.inr hxs
            · exact Or.inl ⟨h1, fun h => h2 ⟨h, hxs⟩⟩
        · have := HLT.out
          rw [List.length_append]
          simp
          omega
def RowV2 (w : World) (v : Value) (P : Int → Prop) : Prop := ∃ A l cap, v = .slice A l.length cap ∧ RdN w A l ∧ l.Pairwise (· < ·) ∧ (∀ x, x ∈ l ↔ P x) ∧ l.length ≤ cap
theorem RowV2.below {w w' : World} {v : Value} {P : Int → Prop} (h : RowV2 w v P) (hb : Below w.heap.size w w') : RowV2 w' v P := by
  obtain ⟨A, l, cap, h1, h2, h3⟩ := h
  exact ⟨A, l, cap, h1, h2.below hb, h3⟩
def RowsK2 (w : World) (ob N k : Nat) (P : Nat → Int → Prop) : Prop := ∃ vs : List Value, vs.length = N ∧ Pre g1 1 45 w ob vs ∧ (∀ (j : Nat) (v : Value), vs[j]? = some v → ∃ A n c, v = Value.slice A n c) ∧ ∀ j, j < k → ∃ v, vs[j]? = some v ∧ RowV2 w v (P j)
theorem RowsK2.later {w w' : World} {ob N k : Nat} {P : Nat → Int → Prop} (h : RowsK2 w ob N k P) (hb : Below w.heap.size w w') : RowsK2 w' ob N k P := by
  obtain ⟨vs, h1, h2, h3, h4⟩ := h
  exact ⟨vs, h1, Pre.later h2 hb, h3, fun j hj => by obtain ⟨v, h5, h6⟩ := h4 j hj; exact ⟨v, h5, h6.below hb⟩⟩
theorem RowsK2.lt {w : World} {ob N k : Nat} {P : Nat → Int → Prop} (h : RowsK2 w ob N k P) : ob < w.heap.size := by
  obtain ⟨vs, h1, h2, h3, h4⟩ := h
  exact Pre.lt h2
theorem RowsK2.cell {w : World} {ob N k p : Nat} {P : Nat → Int → Prop} (h : RowsK2 w ob N k P) (hp : p < N) : (∃ A n c, w.cell? ⟨ob, p, none⟩ = some (Value.slice A n c)) ∧ w.frozen? ⟨ob, p, none⟩ = false := by
  obtain ⟨vs, h1, h2, h3, h4⟩ := h
  have hv : vs[p]? = some (vs[p]'(by omega)) := List.getElem?_eq_getElem (by omega)
  obtain ⟨A, n, c, h5⟩ := h3 p _ hv
  exact ⟨⟨A, n, c, by rw [Pre1.cell h2 hv, h5]⟩, Pre.free h2 p⟩
theorem RowsK2.set {w : World} {ob N k : Nat} {P : Nat → Int → Prop} (h : RowsK2 w ob N k P) (hk : k < N) {v : Value} (hv : RowV2 w v (P k)) : RowsK2 (w.setCell ⟨ob, k, none⟩ v) ob N (k + 1) P := by
  obtain ⟨⟨A, n, c, hc⟩, _⟩ := h.cell hk
  obtain ⟨vs, h1, h2, h3, h4⟩ := h
  have hst : ∀ {u : Value} {Q : Int → Prop}, RowV2 w u Q → RowV2 (w.setCell ⟨ob, k, none⟩ v) u Q := fun ⟨A', l, c', e1, e2, e3⟩ => ⟨A', l, c', e1, e2.store_other hc (fun n h => by cases h) v, e3⟩
  refine ⟨vs.set k v, by simp [h1], Pre1.set h2 (by omega) v, fun j u hu => ?_, fun j hj => ?_⟩
  · rw [List.getElem?_set] at hu
    split at hu
    · rename_i e
      subst e
      rw [if_pos (by omega)] at hu
      injection hu with hu
      subst hu
      obtain ⟨A', l, c', e1, _⟩ := hv
      exact ⟨A', _, c', e1⟩
    · exact h3 j u hu
  · by_cases e : j = k
    · subst e
      exact ⟨v, by rw [List.getElem?_set_self (by omega)], hst hv⟩
    · obtain ⟨u, h5, h6⟩ := h4 j (by omega)
      exact ⟨u, by rw [List.getElem?_set_ne (by omega)]; exact h5, hst h6⟩
theorem RowsK2.made (W : World) (N : Nat) (P : Nat → Int → Prop) : RowsK2 (W.alloc (.cells (madeCells #[.slice none 0 0] N) 45)) W.heap.size N 0 P := by
  have h := made_pre (g := g1) (d := 1) (t := 45) W #[.slice none 0 0] N (.slice none 0 0) rfl (fun k hk => by
    obtain rfl : k = 0 := by omega
    rfl)
  rw [Nat.mul_one] at h
  exact ⟨_, by simp, h, fun j v hj => by
    have := List.mem_of_getElem? hj
    exact ⟨none, 0, 0, List.eq_of_mem_replicate this⟩, fun j hj => by omega⟩
theorem RowsK2.done {w : World} {ob N : Nat} {P : Nat → Int → Prop} (h : RowsK2 w ob N N P) {p : Nat} (hp : p < N) : ∃ v, w.cell? ⟨ob, p, none⟩ = some v ∧ RowV2 w v (P p) := by
  obtain ⟨vs, h1, h2, h3, h4⟩ := h
  obtain ⟨v, h5, h6⟩ := h4 p hp
  exact ⟨v, Pre1.cell h2 h5, h6⟩
def RowsT2 (N : Nat) (P : Nat → Int → Prop) (e : Ending) (w : World) : Prop := ∃ ob, e = .returned (.slice (some ⟨ob, 0, none⟩) N N) ∧ RowsK2 w ob N N P
set_option maxRecDepth 1000000 in
set_option maxHeartbeats 16000000 in
theorem Ahead_yes2 (f : Fn7) (hf : OkF f) (C : Option Addr) (cap : Nat) (w : World) (hC : RdI w C f.code) :
    Calls Try.prog 48 #[funcAgg f.nm f.ps f.R f.Fr C f.code.length cap] w fun e w' => RowsT2 f.code.length (Lv f.code) e w' ∧ Below w.heap.size w w' := by
  obtain ⟨N, hN⟩ : ∃ N, f.code.length = N := ⟨_, rfl⟩
  have hN2 : N ≤ 8192 := by rw [← hN]; exact hf.len.2
  have hR0 : 0 ≤ f.R ∧ f.R ≤ 4096 := by have := hf.R; have := hf.ps; omega
  have hB := Below.one w (funcObj f.nm f.ps f.R f.Fr C f.code.length cap)
  have bx := heap_alloc_new w (funcObj f.nm f.ps f.R f.Fr C f.code.length cap)
  have hC1 := hC.below hB
  have hR := RightFunc_yes f hf C cap _ hC1
  have hM := fun W h => flow_live f hf C cap W h
  have hbd : ∀ p r, Lv f.code p r → 0 ≤ r ∧ r < (f.R.toNat : Int) := fun p r h => by have := (h.bound hf).1; omega
  rw [hN] at hR hM hB bx hC1 ⊢
  simp only [funcObj, funcAgg] at hR hB bx hC1 hM ⊢
  have HR := Lib.hid hR
  have HM := Lib.hid hM
  have HC1 := Lib.hid hC1
  have HBD := Lib.hid hbd
  have HB := Lib.hid hB
  have hRn : f.R.toNat ≤ 5000 := by omega
  obtain ⟨W, hW⟩ : ∃ W, w.alloc (.cells #[.string f.nm, .int .i64 f.ps, .int .i64 f.R, .int .i64 f.Fr, .slice C N cap] 26) = W := ⟨_, rfl⟩
  rw [hW] at bx HR HC1 HB
  have HBX := Lib.hid bx
  have hBl := (Array.getElem?_eq_some_iff.1 bx).1
  have hmk := fun W => make_intss N (by omega) W
  have g0 := cell_of_heap bx 0 _ rfl
  have g1 := cell_of_heap bx 1 _ rfl
  have g2 := cell_of_heap bx 2 _ rfl
  have g3 := cell_of_heap bx 3 _ rfl
  have g4 := cell_of_heap bx 4 _ rfl
  clear hf hN hC hB hR hM hC1 hbd bx
  go_enter Try.func48, Try.ntmps48
  go_wp2_with (first
    | (refine HR.out.mono ?_; rintro e w3 ⟨rfl, hb3⟩; have hx3 := (hb3.block _ hBl).trans HBX.out; have h0 := cell_of_heap hx3 0 _ rfl; have h1 := cell_of_heap hx3 1 _ rfl; have h2 := cell_of_heap hx3 2 _ rfl; have h3 := cell_of_heap hx3 3 _ rfl; have h4 := cell_of_heap hx3 4 _ rfl; have hl3 := (Array.getElem?_eq_some_iff.1 hx3).1; clear hx3)
    | (refine (HM.out _ ((HC1.out.below hb3).below (Below.one _ _))).mono ?_; rintro e w5 ⟨⟨sb, S, rfl, hbase, hmw, hS⟩, hb5⟩))
  have hbase' : w3.heap.size < sb := by simp at hbase; omega
  have hb35 := hb3.trans (((Below.one w3 _).trans (hb5.mono (by simp))).mono hb3.size)
  have H0 := Lib.hid (show RowsK2 w5 w3.heap.size N 0 (Lv f.code) ∧ MapsW w5 sb N S ∧ Below w.heap.size w w5 from ⟨(RowsK2.made w3 N (Lv f.code)).later hb5, hmw, HB.out.trans (hb35.mono HB.out.size)⟩)
  have HS := Lib.hid hS
  have hw3 : w.heap.size ≤ w3.heap.size := Nat.le_trans HB.out.size hb3.size
  clear hS hmw hbase hb5 hb3 hb35 h0 h1 h2 h3 h4 g0 g1 g2 g3 g4 hW hmk
  go_loopw [16] (fun ix wr => ∃ k : Nat, k ≤ N ∧ ix = .int .i64 k ∧ RowsK2 wr w3.heap.size N k (Lv f.code) ∧ MapsW wr sb N S ∧ Below w.heap.size w wr) (fun ix _ => N - (intOf ix).toNat)
  case atStart => exact ⟨0, by omega, rfl, H0.out⟩
  case round =>
    obtain ⟨k, hk, rfl, hrk, hmw, hb⟩ := hrel
    clear H0
    by_cases hlt : k < N
    · have c0 := hmw.cell hlt
      have hso := sorted_any2 (sb + 2 + k) (S k) _ hRn wr (hmw.r k hlt) (fun x hx => HBD.out k x ((HS.out k hlt x).1 hx))
      have HSO := Lib.hid hso
      have HRK := Lib.hid hrk
      have HMW := Lib.hid hmw
      have HBB := Lib.hid hb
      clear hso hrk hmw hb
      go_wp2_with (first
        | (refine HSO.out.mono ?_; rintro e w6 ⟨⟨A, l, c, rfl, hrd, hpw, hmem, hcp⟩, hb6⟩; have hrk6 := HRK.out.later hb6; have ⟨⟨A0, n0, c0', hc6⟩, hf6⟩ := hrk6.cell hlt; have hl6 := hrk6.lt; have HRK6 := Lib.hid hrk6; have HV := Lib.hid (show RowV2 w6 (.slice A l.length c) (Lv f.code k) from ⟨A, l, c, rfl, hrd, hpw, fun x => (hmem x).trans (HS.out k hlt x), hcp⟩); have HB6 := Lib.hid hb6; clear hrk6 hrd hpw hmem hb6))
      exact ⟨⟨k + 1, by omega, by go_num, HRK6.out.set hlt HV.out, (HMW.out.later HB6.out).other hbase' _, (HBB.out.trans (HB6.out.mono HBB.out.size)).setCell (by simp only; omega) _⟩, by simp [intOf]; omega⟩
    · obtain rfl : k = N := by omega
      have HR2 := Lib.hid (show RowsT2 k (Lv f.code) (.returned (.slice (some ⟨w3.heap.size, 0, none⟩) k k)) wr ∧ Below w.heap.size w wr from ⟨⟨_, rfl, hrk⟩, hb⟩)
      clear hrk hmw hb
      go_wp2
      go_returns
      exact HR2.out
open Go.RowKit Go.BigFrame

theorem Mm.cellk {W1 w wr : World} {sb N : Nat} {S S' : Sets} (h : Mm W1 w wr sb N S') (h0 : Mm W1 w w sb N S) {b o : Nat} {v : Value} (hc : w.cell? ⟨b, o, none⟩ = some v) : wr.cell? ⟨b, o, none⟩ = some v := by
  have hc0 := hc
  unfold World.cell? at hc ⊢
  cases hb : w.heap[b]? with
  | none => rw [hb] at hc; cases hc
  | some ob =>
    have hbl := (Array.getElem?_eq_some_iff.1 hb).1
    have hk : wr.heap[b]? = w.heap[b]? := by
      refine h.m.k b hbl ?_
      by_cases h1 : b < sb + 2
      · exact Or.inl h1
      · by_cases h2 : sb + 2 + N ≤ b
        · exact Or.inr h2
        · obtain ⟨es, ck, h3, _⟩ := h0.r (b - (sb + 2)) (by omega)
          rw [show sb + 2 + (b - (sb + 2)) = b by omega] at h3
          rw [h3] at hc
          cases hc
    simp only [hk]
    exact hc
theorem Mm.rd {W1 w wr : World} {sb N : Nat} {S S' : Sets} (h : Mm W1 w wr sb N S') (h0 : Mm W1 w w sb N S) {A : Option Addr} {l : List Int} (hr : RdN w A l) : RdN wr A l := fun j n hn => by
  obtain ⟨b, o, e1, e2, e3⟩ := hr j n hn
  exact ⟨b, o, e1, Nat.lt_of_lt_of_le e2 h.m.z, h.cellk h0 e3⟩
theorem prS_iff {S : Sets} {a b p : Nat} {r : Int} : prS S a b p r = true ↔ S p r = true ∨ (a ≠ b ∧ ((p = a ∧ r = b) ∨ (p = b ∧ r = a))) := by
  unfold prS
  by_cases hab : a = b
  · rw [if_pos hab]
    exact ⟨Or.inl, fun h => h.elim id fun h => absurd hab h.1⟩
  · rw [if_neg hab]
    unfold upd2
    by_cases h1 : p = b
    · subst h1
      rw [if_pos rfl]
      by_cases h2 : p = a
      · exact absurd h2.symm hab
      · rw [if_neg h2, Bool.or_eq_true, decide_eq_true_eq]
        constructor
        · rintro (h | h)
          · exact Or.inr ⟨hab, Or.inr ⟨rfl, h⟩⟩
          · exact Or.inl h
        · rintro (h | ⟨_, ⟨h, _⟩ | ⟨_, h⟩⟩)
          · exact Or.inr h
          · exact absurd h h2
          · exact Or.inl h
    · rw [if_neg h1]
      by_cases h2 : p = a
      · subst h2
        rw [if_pos rfl, Bool.or_eq_true, decide_eq_true_eq]
        constructor
        · rintro (h | h)
          · exact Or.inr ⟨hab, Or.inl ⟨rfl, h⟩⟩
          · exact Or.inl h
        · rintro (h | ⟨_, ⟨_, h⟩ | ⟨h, _⟩⟩)
          · exact Or.inr h
          · exact Or.inl h
          · exact absurd h h1
      · rw [if_neg h2]
        exact ⟨Or.inl, fun h => h.elim id fun h => h.2.elim (fun h => absurd h.1 h2) fun h => absurd h.1 h1⟩
def Tg (l : List Int) (k j : Nat) (p : Nat) (r : Int) : Prop := (p : Int) ≠ r ∧ ∃ i m, m < i ∧ (i < k ∨ (i = k ∧ m < j)) ∧ ((l[i]? = some (p : Int) ∧ l[m]? = some r) ∨ (l[i]? = some r ∧ l[m]? = some (p : Int)))
theorem Tg.none (l : List Int) (p : Nat) (r : Int) : ¬ Tg l 0 0 p r := by
  rintro ⟨_, i, m, h1, h2 | ⟨h2, h3⟩, _⟩ <;> omega
theorem Tg.next (l : List Int) (k p : Nat) (r : Int) : Tg l k k p r ↔ Tg l (k + 1) 0 p r := by
  constructor
  · rintro ⟨h0, i, m, h1, h2, h3⟩
    exact ⟨h0, i, m, h1, Or.inl (by omega), h3⟩
  · rintro ⟨h0, i, m, h1, h2, h3⟩
    refine ⟨h0, i, m, h1, ?_, h3⟩
    rcases h2 with h2 | ⟨h2, h4⟩
    · by_cases hik : i < k
      · exact Or.inl hik
      · exact Or.inr ⟨by omega, by omega⟩
    · omega
theorem Tg.more {l : List Int} {k j a b : Nat} (ha : l[k]? = some (a : Int)) (hb : l[j]? = some (b : Int)) (hjk : j < k) (p : Nat) (r : Int) : Tg l k (j + 1) p r ↔ Tg l k j p r ∨ (a ≠ b ∧ ((p = a ∧ r = b) ∨ (p = b ∧ r = a))) := by
  constructor
  · rintro ⟨h0, i, m, h1, h2, h3⟩
    rcases h2 with h2 | ⟨rfl, h2⟩
    · exact Or.inl ⟨h0, i, m, h1, Or.inl h2, h3⟩
    · by_cases hmj : m < j
      · exact Or.inl ⟨h0, i, m, h1, Or.inr ⟨rfl, hmj⟩, h3⟩
      · obtain rfl : m = j := by omega
        rw [ha, hb] at h3
        right
        rcases h3 with ⟨h3, h4⟩ | ⟨h3, h4⟩
        · injection h3 with h3
          injection h4 with h4
          exact ⟨by omega, Or.inl ⟨by omega, by omega⟩⟩
        · injection h3 with h3
          injection h4 with h4
          exact ⟨by omega, Or.inr ⟨by omega, by omega⟩⟩
  · rintro (⟨h0, i, m, h1, h2, h3⟩ | ⟨h0, h | h⟩)
    · refine ⟨h0, i, m, h1, ?_, h3⟩
      rcases h2 with h2 | ⟨h2, h4⟩
      · exact Or.inl h2
      · exact Or.inr ⟨h2, by omega⟩
    · exact ⟨by omega, k, j, hjk, Or.inr ⟨rfl, by omega⟩, Or.inl ⟨by rw [ha, h.1], by rw [hb, h.2]⟩⟩
    · exact ⟨by omega, k, j, hjk, Or.inr ⟨rfl, by omega⟩, Or.inr ⟨by rw [ha, h.2], by rw [hb, h.1]⟩⟩
theorem Tg.all (l : List Int) (p : Nat) (r : Int) : Tg l l.length 0 p r ↔ (p : Int) ≠ r ∧ (p : Int) ∈ l ∧ r ∈ l := by
  constructor
  · rintro ⟨h0, i, m, _, _, ⟨h1, h2⟩ | ⟨h1, h2⟩⟩
    · exact ⟨h0, List.mem_of_getElem? h1, List.mem_of_getElem? h2⟩
    · exact ⟨h0, List.mem_of_getElem? h2, List.mem_of_getElem? h1⟩
  · rintro ⟨h0, h1, h2⟩
    obtain ⟨i, hi⟩ := List.mem_iff_getElem?.1 h1
    obtain ⟨m, hm⟩ := List.mem_iff_getElem?.1 h2
    have hil := (List.getElem?_eq_some_iff.1 hi).1
    have hml := (List.getElem?_eq_some_iff.1 hm).1
    by_cases him : i = m
    · subst him
      rw [hi] at hm
      injection hm with hm
      exact absurd hm h0
    · rcases Nat.lt_or_gt_of_ne him with h | h
      · exact ⟨h0, m, i, h, Or.inl hml, Or.inr ⟨hm, hi⟩⟩
      · exact ⟨h0, i, m, h, Or.inl hil, Or.inl ⟨hi, hm⟩⟩
def TgM (W1 w wr : World) (sb N : Nat) (S : Sets) (l : List Int) (k j : Nat) (S' : Sets) : Prop := Mm W1 w wr sb N S' ∧ ∀ p r, S' p r = true ↔ S p r = true ∨ Tg l k j p r
set_option maxRecDepth 1000000 in
set_option maxHeartbeats 8000000 in
theorem together_any (W1 w : World) (sb N pb : Nat) (S : Sets) (l : List Int) (A : Option Addr) (Ln cap : Nat) (hLn : l.length = Ln) (hcap : Ln ≤ cap) (hLn2 : Ln ≤ 10000) (hin : ∀ x ∈ l, 0 ≤ x ∧ x < (N : Int)) (hR : RdN w A l)
    (hpb : w.cell? ⟨pb, 0, none⟩ = some (.func (.func 45) #[] #[.pointer (some ⟨sb + 1, 0, none⟩)])) (hm : Mm W1 w w sb N S) :
    Calls Try.prog 47 #[.slice A Ln cap, .pointer (some ⟨pb, 0, none⟩)] w fun e w' => e = .returned (.tuple #[]) ∧ ∃ S', TgM W1 w w' sb N S l Ln 0 S' := by
  have HM := Lib.hid hm
  have HR := Lib.hid hR
  have HPB := Lib.hid hpb
  have HI := Lib.hid hin
  have HLN := Lib.hid hLn
  clear hm hR hpb hin hLn
  go_enter Try.func47, Try.ntmps47
  go_wp2
  go_loopw [9] (fun ix wr => ∃ (k : Nat) (S' : Sets), k ≤ Ln ∧ ix = .int .i64 k ∧ TgM W1 w wr sb N S l k 0 S') (fun ix _ => Ln - (intOf ix).toNat)
  case atStart => exact ⟨0, S, by omega, rfl, HM.out, fun p r => ⟨Or.inl, fun h => h.elim id fun h => absurd h (Tg.none l p r)⟩⟩
  case round =>
    obtain ⟨k, S', hk, rfl, ht⟩ := hrel
    have HT := Lib.hid ht
    by_cases hlt : k < Ln
    · have hki : (k : Int) < Ln := by omega
      obtain ⟨x, hx⟩ : ∃ x, l[k]? = some x := ⟨_, List.getElem?_eq_getElem (by rw [HLN.out]; exact hlt)⟩
      have hxb := HI.out x (List.mem_of_getElem? hx)
      obtain ⟨a, rfl⟩ : ∃ a : Nat, x = a := ⟨x.toNat, by omega⟩
      have haN : a < N := by omega
      have HX := Lib.hid hx
      obtain ⟨b, o, rfl, hbl, hc⟩ := (ht.1.rd HM.out HR.out) k _ hx
      have hkc : (k : Int) ≤ cap := by omega
      have HLT := Lib.hid hlt
      clear ht hxb hx hlt hk
      go_wp2
      obtain ⟨w8, rfl⟩ : ∃ w8 : World, w8 = wr := ⟨_, rfl⟩
      go_loopw [18] (fun ix wr => ∃ (j : Nat) (S' : Sets), j ≤ k ∧ ix = .int .i64 j ∧ TgM W1 w wr sb N S l k j S') (fun ix _ => k - (intOf ix).toNat)
      case atStart => exact ⟨0, S', by omega, rfl, HT.out⟩
      case round =>
        obtain ⟨j, S2, hj, rfl, ht2⟩ := hrel
        have HT2 := Lib.hid ht2
        by_cases hlt2 : j < k
        · have hji : (j : Int) < k := by omega
          obtain ⟨y, hy⟩ : ∃ y, l[j]? = some y := ⟨_, List.getElem?_eq_getElem (by rw [HLN.out]; have := HLT.out; omega)⟩
          have hyb := HI.out y (List.mem_of_getElem? hy)
          obtain ⟨c, rfl⟩ : ∃ c : Nat, y = c := ⟨y.toNat, by omega⟩
          have hcN : c < N := by omega
          obtain ⟨b2, o2, he2, hbl2, hc2⟩ := (ht2.1.rd HM.out HR.out) j _ hy
          injection he2 with he2
          injection he2 with he3 he4
          subst he3
          subst he4
          have hpc := ht2.1.cellk HM.out HPB.out
          have HPR := Lib.hid (pair_any W1 w sb N a c S2 haN hcN wr ht2.1)
          have HE : Hid (∀ w', Mm W1 w w' sb N (prS S2 a c) → TgM W1 w w' sb N S l k (j + 1) (prS S2 a c)) := Lib.hid fun w' h => ⟨h, fun p r => by
            rw [prS_iff, HT2.out.2, Tg.more HX.out hy hlt2, or_assoc]⟩
          have HLT2 := Lib.hid hlt2
          clear ht2 hy hyb hlt2 hj
          go_wp2_with (go_at_call 45; refine HPR.out.mono ?_; rintro e w3 ⟨rfl, hm3⟩; have HM3 := Lib.hid (HE.out w3 hm3); clear hm3)
          have := HLT2.out
          exact ⟨⟨j + 1, _, by omega, by go_num, HM3.out⟩, by simp [intOf]; omega⟩
        · obtain rfl : j = k := by omega
          have hji : ¬ (j : Int) < (j : Int) := by omega
          have HE : Hid (TgM W1 w wr sb N S l (j + 1) 0 S2) := Lib.hid ⟨ht2.1, fun p r => by rw [ht2.2, Tg.next]⟩
          clear ht2 hlt2 hj
          go_wp2
          have := HLT.out
          exact ⟨⟨j + 1, S2, by omega, by go_num, HE.out⟩, by simp [intOf]; omega⟩
    · obtain rfl : k = Ln := by omega
      have hki : ¬ (k : Int) < (k : Int) := by omega
      clear ht hlt hk
      go_wp2
      go_returns
      exact ⟨rfl, S', HT.out⟩
end Go.Proofs.Ythbcdckonaljiaa
