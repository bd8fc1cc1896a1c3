import Derived.Test.YthbcdckonaljiaaDz
import Derived.Test.YthbcdckonaljiaaZa
import Derived.Test.YthbcdckonaljiaaZj
namespace Go.Proofs.Ythbcdckonaljiaa
open Go.RowKit Go.BigFrame

def Bq (B0 : Nat → List Int) (M : List Nat) (p k j : Nat) : List Int := if j ∈ M.take k then B0 j ++ [(p : Int)] else B0 j
theorem Bq_zero (B0 : Nat → List Int) (M : List Nat) (p : Nat) : Bq B0 M p 0 = B0 := by funext j; simp [Bq]
theorem take_next {M : List Nat} {k n : Nat} (h : M[k]? = some n) : M.take (k + 1) = M.take k ++ [n] := by
  rw [List.take_add_one, h]; rfl
theorem Bq_skip {B0 : Nat → List Int} {M : List Nat} {p k n : Nat} (h : M[k]? = some n) (hm : n ∈ M.take k) : Bq B0 M p (k + 1) = Bq B0 M p k := by
  funext j
  unfold Bq
  rw [take_next h]
  by_cases e : j ∈ M.take k
  · rw [if_pos e, if_pos (List.mem_append_left _ e)]
  · rw [if_neg e, if_neg (fun g => by
      rcases List.mem_append.1 g with g | g
      · exact e g
      · simp only [List.mem_singleton] at g; subst g; exact e hm)]
theorem Bq_add {B0 : Nat → List Int} {M : List Nat} {p k n : Nat} (h : M[k]? = some n) (hm : n ∉ M.take k) : Bq B0 M p (k + 1) = addAt (Bq B0 M p k) n p := by
  funext j
  unfold addAt
  simp only [Bq]
  rw [take_next h]
  by_cases e : j = n
  · subst e
    rw [if_pos rfl, if_pos (by simp), if_neg hm]
  · rw [if_neg e]
    by_cases e2 : j ∈ M.take k
    · rw [if_pos e2, if_pos (List.mem_append_left _ e2)]
    · rw [if_neg e2, if_neg (fun g => by
        rcases List.mem_append.1 g with g | g
        · exact e2 g
        · simp only [List.mem_singleton] at g; exact e g)]
theorem Bq_has {B0 : Nat → List Int} {M : List Nat} {p k n : Nat} (h : (p : Int) ∉ B0 n) : (Bq B0 M p k n).contains (p : Int) = decide (n ∈ M.take k) := by
  rw [Bool.eq_iff_iff, List.contains_iff_mem, decide_eq_true_eq]
  unfold Bq
  by_cases e : n ∈ M.take k
  · rw [if_pos e]; simp [e]
  · rw [if_neg e]; exact ⟨fun g => absurd g h, fun g => absurd g e⟩
theorem Bq_len (B0 : Nat → List Int) (M : List Nat) (p k n : Nat) : (Bq B0 M p k n).length ≤ (B0 n).length + 1 := by
  unfold Bq
  split
  · simp
  · omega
noncomputable def bf1 : Code := ((((Try.f83.body).map loopsOf).getD [])[0]?).getD .skip
noncomputable def bf2 : Code := ((loopsOf (inLoop bf1))[0]?).getD .skip
structure BfS (w wr : World) (base ob N : Nat) (A : Option Addr) (M : List Nat) (vs : Nat → Value) (B : Nat → List Int) : Prop where
  rows : RowsO wr base ob N vs B
  rd : RdN wr A (M.map fun n : Nat => (n : Int))
  far : ∀ b o, A = some ⟨b, o, none⟩ → b ≠ ob ∧ ∀ j, j < N → (vs j).ownBlock ≠ some b
  bel : Below base w wr
  le : base ≤ wr.heap.size
  lt : ∀ b o, A = some ⟨b, o, none⟩ → M ≠ [] → b < wr.heap.size
theorem BfS.push {w wr w' : World} {base ob N n : Nat} {A : Option Addr} {M : List Nat} {vs : Nat → Value} {B : Nat → List Int} (h : BfS w wr base ob N A M vs B) (hn : n < N) (hMn : M ≠ []) {x : Int} {v : Value} {o : Obj}
    (ho : OwnN w' v (B n ++ [x])) (hg : (wr.alloc o).grownBy w' (vs n).ownBlock) (hv : v.ownBlock = (vs n).ownBlock ∨ v.ownBlock = some (wr.alloc o).heap.size) : BfS w (w'.setCell ⟨ob, n, none⟩ v) base ob N A M (rowAt vs n v) (addAt B n x) := by
  have hv' : v.ownBlock = (vs n).ownBlock ∨ v.ownBlock = some (wr.heap.size + 1) := by simpa using hv
  have hbn : ∀ k, (vs n).ownBlock = some k → base ≤ k := fun k hk => (h.rows.far n k hn hk).1
  have hw' : Below base w w' := Below.grown (h.bel.alloc h.le o) hg (by have := h.le; simp; omega) hbn
  refine ⟨h.rows.push hn rfl ho hg hv' h.le, ?_, fun b oo e => ?_, ?_, ?_, ?_⟩
  · refine h.rd.keepS (by have := hg.size; simp at this ⊢; omega) (fun b oo e hb => ?_)
    have h1 := h.far b oo e
    rw [heap_setCell_other w' ⟨ob, n, none⟩ b v (by simpa using h1.1), hg.block b (by simp; omega) (fun e2 => h1.2 n hn e2.symm), heap_alloc_old wr o hb]
  · have h1 := h.far b oo e
    refine ⟨h1.1, fun j hj => ?_⟩
    unfold rowAt
    by_cases ej : j = n
    · rw [if_pos ej]
      intro e2
      rcases hv' with e3 | e3
      · exact h1.2 n hn (by rw [← e3]; exact e2)
      · rw [e3] at e2
        injection e2 with e2
        have := h.lt b oo e hMn
        omega
    · rw [if_neg ej]; exact h1.2 j hj
  · exact hw'.setCell h.rows.hob _
  · have h1 := hg.size; have := h.le; simp only [World.size_alloc, World.size_setCell] at h1 ⊢; omega
  · intro b oo e _; have h1 := hg.size; have := h.lt b oo e hMn; simp only [World.size_alloc, World.size_setCell] at h1 ⊢; omega
set_option maxRecDepth 1000000 in
set_option maxHeartbeats 8000000 in
theorem bf2_any (w wr0 : World) (base ob N : Nat) (p : Nat) (M : List Nat) (B0 : Nat → List Int) (vs0 : Nat → Value) (A : Option Addr) (cap Ln : Nat) (hLn : M.length = Ln) (hLn2 : Ln ≤ 100) (hS : BfS w wr0 base ob N A M vs0 B0)
    (hin : ∀ n ∈ M, n < N) (hno : ∀ n, n < N → (p : Int) ∉ B0 n) (hlen : ∀ n, n < N → (B0 n).length ≤ 8192)
    (x0 x1 x2 x5 x6 x7 x8 x9 x10 x11 x12 x13 x14 x15 x16 x17 x18 x19 x20 x21 x22 x23 x24 x28 x29 x30 x31 x32 x33 x34 x35 x36 x37 x38 x39 x40 x41 x42 x43 x44 x45 x46 x47 x48 x49 x50 : Value) (Q : Exit → Act → World → Prop)
    (hexit : ∀ (y7 y28 y29 y30 y31 y32 y33 y34 y35 y36 y37 y38 y39 y40 y41 y42 y43 y44 y45 y46 y47 y48 : Value) (w' : World) (vs : Nat → Value), BfS w w' base ob N A M vs (Bq B0 M p Ln) → Q (.exit 2) ⟨(x0::x1::x2::.slice (some ⟨ob, 0, none⟩) N N::.int .i64 p::x5::x6::y7::x8::x9::x10::x11::x12::x13::x14::x15::x16::x17::x18::x19::x20::x21::x22::x23::x24::.slice A Ln cap::.int .i64 (Ln : Int)::.int .i64 (Ln : Int)::y28::y29::y30::y31::y32::y33::y34::y35::y36::y37::y38::y39::y40::y41::y42::y43::y44::y45::y46::y47::y48::x49::x50::[]).toArray, []⟩ w') :
    Code.wp Try.prog bf2 Q ⟨(x0::x1::x2::.slice (some ⟨ob, 0, none⟩) N N::.int .i64 p::x5::x6::x7::x8::x9::x10::x11::x12::x13::x14::x15::x16::x17::x18::x19::x20::x21::x22::x23::x24::.slice A Ln cap::.int .i64 (Ln : Int)::.int .i64 0::x28::x29::x30::x31::x32::x33::x34::x35::x36::x37::x38::x39::x40::x41::x42::x43::x44::x45::x46::x47::x48::x49::x50::[]).toArray, []⟩ wr0 := by
  conv => arg 2; whnf
  have HE := Lib.hid hexit
  have HLN := Lib.hid hLn
  have HIN := Lib.hid hin
  have HNO := Lib.hid hno
  have HLE := Lib.hid hlen
  have H0 := Lib.hid (show BfS w wr0 base ob N A M vs0 (Bq B0 M p 0) by rw [Bq_zero]; exact hS)
  clear hexit hLn hin hno hlen hS
  go_loopw [27] (fun ix wr => ∃ (k : Nat) (vs : Nat → Value), k ≤ Ln ∧ ix = .int .i64 k ∧ BfS w wr base ob N A M vs (Bq B0 M p k)) (fun ix _ => Ln - (intOf ix).toNat)
  case atStart => exact ⟨0, vs0, by omega, rfl, H0.out⟩
  case round =>
    obtain ⟨k, vs, hk, rfl, hs⟩ := hrel
    clear H0
    have HS := Lib.hid hs
    by_cases hlt : k < Ln
    · obtain ⟨n, hn⟩ : ∃ n, M[k]? = some n := ⟨_, List.getElem?_eq_getElem (by rw [HLN.out]; exact hlt)⟩
      have hnN := HIN.out n (List.mem_of_getElem? hn)
      obtain ⟨b, o, rfl, hbl, hc⟩ := hs.rd k n (by rw [List.getElem?_map, hn]; rfl)
      have hcell := hs.rows.cell hnN
      obtain ⟨A1, c1, hvf, _, hrd⟩ := (hs.rows.own n hnN).form
      have hfz := Pre.free hs.rows.pre n
      have hll : (Bq B0 M p k n).length ≤ 9000 := by have := Bq_len B0 M p k n; have := HLE.out n hnN; omega
      have hca := fun W h => Contains_rd A1 (Bq B0 M p k n) c1 p W h (by omega)
      rw [Bq_has (HNO.out n hnN)] at hca
      rw [hvf] at hcell
      have HN := Lib.hid hn
      have HNN := Lib.hid hnN
      have HRD := Lib.hid hrd
      have HLL := Lib.hid hll
      have HOW := Lib.hid (hs.rows.own n hnN)
      have HVF := Lib.hid hvf
      obtain ⟨z, hz⟩ : ∃ z, decide (n ∈ M.take k) = z := ⟨_, rfl⟩
      rw [hz] at hca
      have hzz : z = true ↔ n ∈ M.take k := by rw [← hz, decide_eq_true_eq]
      have HZ := Lib.hid hzz
      obtain ⟨Lk, hLk⟩ : ∃ Lk, (Bq B0 M p k n).length = Lk := ⟨_, rfl⟩
      rw [hLk] at hca hcell hvf
      have HCA := Lib.hid hca
      have HLk := Lib.hid hLk
      have hnk : (n : Int) < N := by omega
      have hkl : (k : Int) < Ln := by omega
      have hpl := Pre.lt hs.rows.pre
      clear hs hn hrd hll hvf hz hzz hca hLk
      cases z with
      | true =>
        go_wp2_with (first
          | (refine (HCA.out _ HRD.out).mono ?_; rintro e w3 ⟨rfl, rfl⟩))
        exact ⟨⟨k + 1, vs, by omega, by go_num, by rw [Bq_skip HN.out (HZ.out.1 (by simp))]; exact HS.out⟩, by simp [intOf]; omega⟩
      | false =>
        go_wp2_with (first
          | (refine (HCA.out _ HRD.out).mono ?_; rintro e w3 ⟨rfl, rfl⟩)
          | (at_builtin; refine append_one rfl (.tmp 43) (.tmp 45) rfl (.slice A1 Lk c1) (Bq B0 M p k n) rfl (by have h := HOW.out; rw [HVF.out, HLk.out] at h; exact h.alloc _) wr.heap.size p rfl (heap_alloc_new _ _) (by have := HLL.out; omega) ?_; intro V' w8 ho8 hg8 hb8; obtain ⟨A9, c9, hV9, _, _⟩ := ho8.form; subst hV9; simp only [List.length_append, List.length_cons, List.length_nil, Nat.zero_add] at ho8 hb8; rw [← HLk.out, ← HVF.out] at hg8 hb8; obtain ⟨hz8, hl8, hc8⟩ := HS.out.rows.still HNN.out hg8; have hz8 := hz8 n; have hc8 := hc8 n HNN.out; have HG8 := Lib.hid hg8; have HB8 := Lib.hid hb8; have HO8 := Lib.hid ho8; clear hg8 hb8 ho8))
        exact ⟨⟨k + 1, rowAt vs n _, by omega, by go_num, by rw [Bq_add HN.out (fun h => by have := HZ.out.2 h; cases this)]; exact HS.out.push HNN.out (fun h => by have h2 := HN.out; rw [h] at h2; cases h2) HO8.out HG8.out HB8.out⟩, by simp [intOf]; omega⟩
    · obtain rfl : k = Ln := by omega
      have HX := fun (y7 y28 y29 y30 y31 y32 y33 y34 y35 y36 y37 y38 y39 y40 y41 y42 y43 y44 y45 y46 y47 y48 : Value) => Lib.hid (HE.out y7 y28 y29 y30 y31 y32 y33 y34 y35 y36 y37 y38 y39 y40 y41 y42 y43 y44 y45 y46 y47 y48 wr vs hs)
      clear hs HE
      go_wp2
      exact (HX _ _ _ _ _ _ _ _ _ _ _ _ _ _ _ _ _ _ _ _ _ _).out
noncomputable def bfB (l : List Ins) (p j : Nat) : List Int := upL p fun q => Eg l q j
theorem bfB_next (l : List Ins) (p Ln : Nat) (h : (nxN l p).length = Ln) : Bq (bfB l p) (nxN l p) p Ln = bfB l (p + 1) := by
  funext j
  simp only [Bq, bfB]
  rw [upL_succ, ← h, List.take_length]
  by_cases e : Eg l p j
  · rw [if_pos (show j ∈ nxN l p from e), if_pos (tb_true.2 e)]
  · rw [if_neg (show ¬ j ∈ nxN l p from e), if_neg (fun g => e (tb_true.1 g)), List.append_nil]
theorem Before_no (f : Fn7) (hf : ¬ OkF f) (C : Option Addr) (cap : Nat) (w : World) (hC : RdI w C f.code) :
    Calls Try.prog 83 #[funcAgg f.nm f.ps f.R f.Fr C f.code.length cap] w fun e w' => e = .returned (.slice none 0 0) ∧ Below w.heap.size w w' := by
  have hB := Below.one w (funcObj f.nm f.ps f.R f.Fr C f.code.length cap)
  have hR := Lib.hid (RightFunc_no f hf C cap _ (hC.below hB))
  simp only [funcObj, funcAgg] at hB hR ⊢
  clear hf hC
  go_enter Try.func83, Try.ntmps83
  go_wp2_with (first
    | (refine hR.out.mono ?_; rintro e w3 ⟨rfl, hb3⟩))
  go_returns
  exact ⟨rfl, hB.trans (hb3.mono hB.size)⟩
set_option maxRecDepth 1000000 in
set_option maxHeartbeats 16000000 in
theorem Before_yes (f : Fn7) (hf : OkF f) (C : Option Addr) (cap : Nat) (w : World) (hC : RdI w C f.code) :
    Calls Try.prog 83 #[funcAgg f.nm f.ps f.R f.Fr C f.code.length cap] w fun e w' => RowsRT w.heap.size f.code.length (bfB f.code f.code.length) e w' ∧ Below w.heap.size w w' := by
  obtain ⟨N, hN⟩ : ∃ N, f.code.length = N := ⟨_, rfl⟩
  have hN2 : N ≤ 8192 := by rw [← hN]; exact hf.len.2
  have hB := Below.one w (funcObj f.nm f.ps f.R f.Fr C f.code.length cap)
  have bx := heap_alloc_new w (funcObj f.nm f.ps f.R f.Fr C f.code.length cap)
  have hC1 := hC.below hB
  have hR := RightFunc_yes f hf C cap _ hC1
  rw [hN] at hR hB bx hC1 ⊢
  simp only [funcObj, funcAgg] at hR hB bx hC1 ⊢
  have HR := Lib.hid hR
  have HC1 := Lib.hid hC1
  have HB := Lib.hid hB
  have HF := Lib.hid hf
  have HN := Lib.hid hN
  obtain ⟨W, hW⟩ : ∃ W, w.alloc (.cells #[.string f.nm, .int .i64 f.ps, .int .i64 f.R, .int .i64 f.Fr, .slice C N cap] 26) = W := ⟨_, rfl⟩
  rw [hW] at bx HR HC1 HB
  have HBX := Lib.hid bx
  have hBl := (Array.getElem?_eq_some_iff.1 bx).1
  have hmk := fun W => make_intss N (by omega) W
  have g0 := cell_of_heap bx 0 _ rfl
  have g1 := cell_of_heap bx 1 _ rfl
  have g2 := cell_of_heap bx 2 _ rfl
  have g3 := cell_of_heap bx 3 _ rfl
  have g4 := cell_of_heap bx 4 _ rfl
  clear hf hN hC hB hR hC1 bx
  go_enter Try.func83, Try.ntmps83
  go_wp2_with (first
    | (refine HR.out.mono ?_; rintro e w3 ⟨rfl, hb3⟩; have hx3 := (hb3.block _ hBl).trans HBX.out; have h4 := cell_of_heap hx3 4 _ rfl; have hl3 := (Array.getElem?_eq_some_iff.1 hx3).1; have HX3 := Lib.hid hx3; clear hx3))
  have HB3 := Lib.hid hb3
  have hws : w.heap.size ≤ w3.heap.size := Nat.le_trans HB.out.size hb3.size
  have H0 := Lib.hid (show RowsO (w3.alloc (.cells (madeCells #[.slice none 0 0] N) 45)) w3.heap.size w3.heap.size N (fun _ => .slice none 0 0) (bfB f.code 0) from RowsO.made w3 N w3.heap.size (Nat.le_refl _))
  clear hb3 g0 g1 g2 g3 g4 hW h4 hmk
  go_loopw [18] (fun ix wr => ∃ (k : Nat) (vs : Nat → Value), k ≤ N ∧ ix = .int .i64 k ∧ RowsO wr w3.heap.size w3.heap.size N vs (bfB f.code k) ∧ Below w3.heap.size w3 wr) (fun ix _ => N - (intOf ix).toNat)
  case atStart => exact ⟨0, _, by omega, rfl, H0.out, Below.one _ _⟩
  case round =>
    obtain ⟨k, vs, hk, rfl, hrows, hb⟩ := hrel
    clear H0
    by_cases hlt : k < N
    · obtain ⟨i, hi⟩ : ∃ i, f.code[k]? = some i := ⟨_, List.getElem?_eq_getElem (by rw [HN.out]; exact hlt)⟩
      obtain ⟨bb, oo, rfl, hbl, hcs⟩ := ((HC1.out.below HB3.out).below hb) k i hi
      obtain ⟨x0, x1, x2, x3, x4, x5, x6, x7, x8, x9, x10, x11, x12, x13, x14⟩ := RdI.load hcs
      have kx := heap_alloc_new wr i.obj
      have hna := fun W => Next_fr i k (by omega) W
      have hnl := Ins.next_len i k
      have hnx : i.next k = (nxN f.code k).map fun n : Nat => (n : Int) := nxN_int HF.out hi
      rw [hnx] at hna hnl
      obtain ⟨M, hM⟩ : ∃ M, nxN f.code k = M := ⟨_, rfl⟩
      have hin : ∀ n ∈ M, n < N := fun n hn => by rw [← HN.out]; exact Eg.lt HF.out (show Eg f.code k n by unfold Eg; rw [hM]; exact hn)
      rw [hM] at hna hnl
      obtain ⟨Ln, hLn⟩ : ∃ Ln, M.length = Ln := ⟨_, rfl⟩
      have hnl2 : Ln ≤ 100 := by rw [List.length_map, hLn] at hnl; omega
      obtain ⟨kk, op, dst, a, b', n, text, r0, r1, r2, r3, r4, r5, to_, els⟩ := i
      have ⟨d0, d1, d2, d3, d4, d5, d6, d7, d8, d9, d10, d11, d12, d13, d14⟩ := Ins.cells (i := ⟨kk, op, dst, a, b', n, text, r0, r1, r2, r3, r4, r5, to_, els⟩) kx
      simp only at x0 x1 x2 x3 x4 x5 x6 x7 x8 x9 x10 x11 x12 x13 x14 d0 d1 d2 d3 d4 d5 d6 d7 d8 d9 d10 d11 d12 d13 d14
      have HNA : Hid (∀ W, Calls Try.prog 54 (#[.agg #[.int .i64 kk, .int .i64 op, .int .i64 dst, .int .i64 a, .int .i64 b', .int .i64 n, .string text, .int .i64 r0, .int .i64 r1, .int .i64 r2, .int .i64 r3, .int .i64 r4, .int .i64 r5, .int .i64 to_, .int .i64 els], .int .i64 k]) W fun e w' => (∃ A c, e = .returned (.slice A Ln c) ∧ RdN w' A (M.map fun n : Nat => (n : Int)) ∧ ∀ b o, A = some ⟨b, o, none⟩ → W.heap.size ≤ b) ∧ Below W.heap.size W w') := Lib.hid fun W => (hna W).mono fun e w' ⟨⟨A, c, h1, h2, h3⟩, h4⟩ => ⟨⟨A, c, by rw [h1, List.length_map, hLn], h2, h3⟩, h4⟩
      have HROWS := Lib.hid hrows
      have HBB := Lib.hid hb
      have HI := Lib.hid hi
      have HM := Lib.hid hM
      have HIN := Lib.hid hin
      have HLn := Lib.hid hLn
      have hklt : (k : Int) < N := by omega
      have hw3r := hb.size
      clear hrows hb hi hcs hna hnl hnx hM hin hLn kx
      go_wp2_with (first
        | (refine (HNA.out _).mono ?_; rintro e w6 ⟨⟨A6, c6, rfl, hrd6, hfr6⟩, hb6⟩))
      have hb6' : Below wr.heap.size wr w6 := (Below.one wr _).trans (hb6.mono (by simp))
      have hb6s := hb6'.size
      have hrows6 := HROWS.out.later hb6'
      have HLT6 : ∀ b o, A6 = some ⟨b, o, none⟩ → M ≠ [] → b < w6.heap.size := fun b o e hne => by
        obtain ⟨x, hx⟩ := List.exists_mem_of_ne_nil _ hne
        obtain ⟨j, hj⟩ := List.mem_iff_getElem?.1 hx
        obtain ⟨b2, o2, e2, h2, _⟩ := hrd6 j x (by rw [List.getElem?_map, hj]; rfl)
        rw [e] at e2
        injection e2 with e2
        injection e2 with e2
        omega
      have hS : BfS w3 w6 w3.heap.size w3.heap.size N A6 M vs (bfB f.code k) := ⟨hrows6, hrd6, fun b o e => by
        have h1 := hfr6 b o e
        simp only [World.size_alloc] at h1
        refine ⟨by have := Pre.lt HROWS.out.pre; omega, fun j hj e2 => ?_⟩
        have := (HROWS.out.far j b hj e2).2.2
        omega, HBB.out.trans (hb6'.mono hw3r), by omega, HLT6⟩
      refine bf2_any w3 w6 w3.heap.size w3.heap.size N k M (bfB f.code k) vs A6 c6 Ln HLn.out hnl2 hS HIN.out (fun n hn h => ?_) (fun n hn => ?_) _ _ _ _ _ _ _ _ _ _ _ _ _ _ _ _ _ _ _ _ _ _ _ _ _ _ _ _ _ _ _ _ _ _ _ _ _ _ _ _ _ _ _ _ _ _ _ ?_
      · obtain ⟨q, e1, e2, _⟩ := upL_mem.1 h
        omega
      · exact Nat.le_trans (upL_len k _) (by omega)
      · intro z7 z28 z29 z30 z31 z32 z33 z34 z35 z36 z37 z38 z39 z40 z41 z42 z43 z44 z45 z46 z47 z48 w9 vs9 hS9
        rw [← HM.out, bfB_next f.code k Ln (by rw [HM.out]; exact HLn.out)] at hS9
        have HROWS9 := Lib.hid hS9.rows
        have HBB9 := Lib.hid hS9.bel
        clear hS9 hS hb6 hb6' hrd6 hfr6 hrows6
        go_wp2
        exact ⟨⟨k + 1, vs9, by omega, by go_num, HROWS9.out, HBB9.out⟩, by simp [intOf]; omega⟩
    · obtain rfl : k = N := by omega
      have HR2 := Lib.hid (show RowsRT w.heap.size k (bfB f.code k) (.returned (.slice (some ⟨w3.heap.size, 0, none⟩) k k)) wr ∧ Below w.heap.size w wr from ⟨⟨_, rfl, hws, Pre.lt hrows.pre, hrows.rd, fun j hj A n c hc b o e => ⟨Nat.le_trans hws (hrows.far2 j hj A n c hc b o e).1, (hrows.far2 j hj A n c hc b o e).2⟩⟩, HB.out.trans ((HB3.out.mono HB.out.size).trans (hb.mono hws))⟩)
      clear hrows hb
      go_wp2
      go_returns
      exact HR2.out
end Go.Proofs.Ythbcdckonaljiaa
