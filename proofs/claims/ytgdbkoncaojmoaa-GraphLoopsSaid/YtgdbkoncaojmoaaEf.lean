import Derived.Test.YtgdbkoncaojmoaaEe
import Derived.StillTailTactics
/- The document's leave, Order. -/
namespace Go.Proofs.Ytgdbkoncaojmoaa
open Go.RowKit Go.BigFrame

/-- append of numbers that are read, of none too -/
theorem run_append_all (w : World) (ty : TypeId) (V : Value) (k : List Int) (hown : OwnN w V k) (A : Option Addr) (l : List Int) (cap : Nat) (hR : RdN w A l) (hn : k.length + l.length ≤ 100000) :
    ∃ V' w', (Builtin.append_ #[31, 31] ty #[V, .slice A l.length cap]).run Try.prog w = .ok V' w' ∧ OwnN w' V' (k ++ l) ∧ w.grownBy w' V.ownBlock ∧ (V'.ownBlock = V.ownBlock ∨ V'.ownBlock = some w.heap.size) := by
  by_cases hl : 0 < l.length
  · exact run_append_n w ty V k hown A l cap hR hl hn
  · have hl0 : l = [] := List.eq_nil_of_length_eq_zero (by omega)
    subst hl0
    obtain ⟨i0, hi, hz0, hz1, hz2⟩ := info_parts info_n
    have ht : Try.prog.underlying 31 = some (.slice 3) := by kernel_rfl
    refine ⟨V, w, ?_, by rw [List.append_nil]; exact hown, World.grownBy.refl w _, Or.inl rfl⟩
    rcases hown.2 with ⟨rfl, _⟩ | ⟨g, cp, cur, rfl, _, _, hc, _⟩
    · cases A <;> simp [Builtin.append_, run_underlying ht, sizeOf, typeInfo, hi, Builtin.lenOf, Builtin.firstCells, loadCells, loadCellsFrom]
    · cases A <;> simp [Builtin.append_, run_underlying ht, sizeOf, typeInfo, hi, Builtin.lenOf, Builtin.firstCells, loadCells, loadCellsFrom, hc, storeCells]
theorem append_all {ops : Array Oper} {rest : List Oper} {o : Oper} {a : Act} {w : World} {Q : Exit → Act → World → Prop} (hgd : o.guard = none) (s x : Operand)
    (ho : o.op = .call { callee := .builtin .append, args := #[s, x], argTypes := #[31, 31] }) (V : Value) (k : List Int) (hs : a.eval s = V) (hown : OwnN w V k)
    (A : Option Addr) (l : List Int) (cap : Nat) (hx : a.eval x = .slice A l.length cap) (hR : RdN w A l) (hn : k.length + l.length ≤ 100000)
    (h : ∀ V' w', OwnN w' V' (k ++ l) → w.grownBy w' V.ownBlock → (V'.ownBlock = V.ownBlock ∨ V'.ownBlock = some w.heap.size) → wpList Try.prog ops Q rest (a.put o.dst V') w') :
    wpList Try.prog ops Q (o :: rest) a w := by
  obtain ⟨V', w', hr, h1, h2, h3⟩ := run_append_all w o.type V k hown A l cap hR hn
  exact append_ran hgd s x ho hs hx hr (h V' w' h1 h2 h3)
theorem OwnN.zero (w : World) : OwnN (w.alloc (.cells #[] 3)) (.slice (some ⟨w.heap.size, 0, none⟩) 0 0) [] :=
  ⟨rfl, Or.inr ⟨w.heap.size, 0, #[], rfl, Nat.zero_le _, heap_alloc_new w _, Nat.le_refl _, by decide, rfl, rfl⟩⟩
/-- what leave tells -/
def LvT (nx : Nat → List Nat) (n : Nat) (S L : List Nat) (e : Ending) (w : World) : Prop := ∃ S1 L1 A1 c1 A2 c2, Ls nx (nx n) (S ++ [n]) L S1 L1 ∧ e = .returned (.tuple #[.slice A1 S1.length c1, .slice A2 (L1.length + 1) c2]) ∧ RdN w A1 (asI S1) ∧ RdN w A2 (asI (L1 ++ [n]))
structure LvP (N : Nat) (S L : List Nat) : Prop where
  nd : S.Nodup
  lt : ∀ x ∈ S, x < N
  ndL : L.Nodup
  sub : ∀ x ∈ L, x ∈ S
theorem LvP.len {N : Nat} {S L : List Nat} (h : LvP N S L) : S.length ≤ N ∧ L.length ≤ N := ⟨nodup_leN N S h.nd h.lt, nodup_leN N L h.ndL fun x hx => h.lt x (h.sub x hx)⟩
theorem LvP.add {N n : Nat} {S L : List Nat} (h : LvP N S L) (hn : n < N) (hS : n ∉ S) : LvP N (S ++ [n]) L :=
  ⟨by rw [List.nodup_append]; exact ⟨h.nd, by simp, fun a ha b hb e => by simp only [List.mem_singleton] at hb; subst hb e; exact hS ha⟩, fun x hx => by
    rcases List.mem_append.1 hx with h1 | h1
    · exact h.lt x h1
    · simp only [List.mem_singleton] at h1; subst h1; exact hn, h.ndL, fun x hx => List.mem_append_left _ (h.sub x hx)⟩
theorem LvP.walk {nx : Nat → List Nat} {N : Nat} (hnx : ∀ p, ∀ q ∈ nx p, q < N) {ns S L S1 L1 : List Nat} (h : LvP N S L) (hns : ∀ n ∈ ns, n < N) (hl : Ls nx ns S L S1 L1) : LvP N S1 L1 ∧ S.length ≤ S1.length ∧ ∀ x ∈ S, x ∈ S1 := by
  induction hl with
  | nil => exact ⟨h, Nat.le_refl _, fun _ hx => hx⟩
  | skip _ _ ih => exact ih h fun x hx => hns x (List.mem_cons_of_mem _ hx)
  | @go n ns S L S1 L1 S' L' hn h1 _ ih1 ih2 =>
    obtain ⟨a1, a2, a3⟩ := ih1 (h.add (hns n (by simp)) hn) (hnx n)
    have hnS1 : n ∈ S1 := a3 n (by simp)
    have hnL1 : n ∉ L1 := by
      obtain ⟨A, D, e1, e2, f⟩ := h1.facts
      rw [e2]
      intro hm
      rcases List.mem_append.1 hm with g | g
      · exact hn (h.sub n g)
      · exact f.new n ((f.same n).2 g) (by simp)
    have hp : LvP N S1 (L1 ++ [n]) := ⟨a1.nd, a1.lt, by rw [List.nodup_append]; exact ⟨a1.ndL, by simp, fun a ha b hb e => by simp only [List.mem_singleton] at hb; subst hb e; exact hnL1 ha⟩, fun x hx => by
      rcases List.mem_append.1 hx with g | g
      · exact a1.sub x g
      · simp only [List.mem_singleton] at g; subst g; exact hnS1⟩
    obtain ⟨b1, b2, b3⟩ := ih2 hp fun x hx => hns x (List.mem_cons_of_mem _ hx)
    rw [List.length_append] at a2
    simp at a2
    exact ⟨b1, by omega, fun x hx => b3 x (a3 x (List.mem_append_left _ hx))⟩
set_option maxRecDepth 1000000 in
set_option maxHeartbeats 16000000 in
theorem leave_any (f : Fn7) (hf : OkF f) (C : Option Addr) (cap N : Nat) (hN : f.code.length = N) : ∀ (k n : Nat) (S L : List Nat) (As : Option Addr) (cs : Nat) (Al : Option Addr) (cl : Nat) (w : World), n < N → n ∉ S → LvP N S L → N ≤ S.length + k → RdI w C f.code → RdN w As (asI S) → RdN w Al (asI L) →
    Calls Try.prog 35 #[.agg #[.string f.nm, .int .i64 f.ps, .int .i64 f.R, .int .i64 f.Fr, .slice C N cap], .int .i64 (n : Int), .slice As S.length cs, .slice Al L.length cl] w fun e w' => LvT (nxN f.code) n S L e w' ∧ Below w.heap.size w w' := by
  intro k
  induction k with
  | zero =>
    intro n S L As cs Al cl w hn hS hp hk _ _ _
    have := (hp.add hn hS).len.1
    rw [List.length_append] at this
    simp at this
    omega
  | succ k ih =>
    intro n S L As cs Al cl w hn hS hp hk hC hrs hrl
    have hN2 : N ≤ 8192 := by rw [← hN]; exact hf.len.2
    have hnx : ∀ p, ∀ q ∈ nxN f.code p, q < N := fun p q hq => by rw [← hN]; exact Eg.lt hf hq
    have hB := Below.one w (.cells #[.string f.nm, .int .i64 f.ps, .int .i64 f.R, .int .i64 f.Fr, .slice C N cap] 24)
    have bx := heap_alloc_new w (.cells #[.string f.nm, .int .i64 f.ps, .int .i64 f.R, .int .i64 f.Fr, .slice C N cap] 24)
    have HC := Lib.hid (hC.below hB)
    have HRS := Lib.hid (hrs.below hB)
    have HRL := Lib.hid (hrl.below hB)
    have HIH := Lib.hid ih
    have HF := Lib.hid hf
    have HN := Lib.hid hN
    have HNX := Lib.hid hnx
    have HP := Lib.hid hp
    have HS := Lib.hid hS
    have HK := Lib.hid hk
    obtain ⟨W, hW⟩ : ∃ W, w.alloc (.cells #[.string f.nm, .int .i64 f.ps, .int .i64 f.R, .int .i64 f.Fr, .slice C N cap] 24) = W := ⟨_, rfl⟩
    rw [hW] at bx HC HRS HRL hB
    have HB := Lib.hid hB
    have HBX := Lib.hid bx
    have hBl := (Array.getElem?_eq_some_iff.1 bx).1
    obtain ⟨ls, hls⟩ : ∃ ls, S.length = ls := ⟨_, rfl⟩
    obtain ⟨ll, hll⟩ : ∃ ll, L.length = ll := ⟨_, rfl⟩
    have hlen := hp.len
    rw [hls, hll] at hlen ⊢
    have HLS := Lib.hid hls
    have HLL := Lib.hid hll
    clear ih hf hN hnx hp hS hk hC hrs hrl hB bx hls hll
    go_enter Try.func35, Try.ntmps35
    go_upto_region 2 with (first
      | (show wpList Try.prog _ _ (⟨some 14, _, _, _, _, _⟩ :: _) _ _; at_builtin; refine append_all rfl (.tmp 12) (.tmp 13) rfl (.slice (some ⟨W.heap.size, 0, none⟩) 0 0) [] rfl (OwnN.zero W) As (asI S) cs (by unfold asI; rw [List.length_map, HLS.out]; rfl) (HRS.out.below (Below.one W _)) (by unfold asI; rw [List.length_map, HLS.out]; simp; omega) ?_; intro V1 w1 ho1 hg1 hv1; rw [List.nil_append] at ho1; have HO1 := Lib.hid ho1; have HB1 : Hid (Below W.heap.size W w1 ∧ ∀ b, V1.ownBlock = some b → W.heap.size ≤ b) := Lib.hid ⟨Below.grown (Below.one W _) hg1 (by simp) (fun b hb => by simp only [Value.ownBlock, Option.some.injEq] at hb; omega), fun b hb => by rcases hv1 with e | e <;> rw [e] at hb <;> simp only [Value.ownBlock, Option.some.injEq, World.size_alloc] at hb <;> omega⟩; clear ho1 hg1 hv1)
      | (show wpList Try.prog _ _ (⟨some 17, _, _, _, _, _⟩ :: _) _ _; at_builtin; refine append_one rfl (.tmp 14) (.tmp 16) rfl V1 (asI S) rfl (HO1.out.alloc _) w1.heap.size n rfl (heap_alloc_new _ _) (by unfold asI; rw [List.length_map, HLS.out]; omega) ?_; intro V2 w2 ho2 hg2 hv2; have HO2 : Hid (OwnN w2 V2 (asI (S ++ [n]))) := Lib.hid (by unfold asI at ho2 ⊢; rw [List.map_append]; exact ho2); have HB2 : Hid (Below W.heap.size W w2) := Lib.hid (Below.grown (HB1.out.1.alloc HB1.out.1.size _) hg2 (by have := HB1.out.1.size; simp; omega) (fun b hb => HB1.out.2 b hb)); clear ho2 hg2 hv2))
    have HO2' := HO2.out
    obtain ⟨As2, cs2, rfl, _, hrs2⟩ := HO2'.form
    have hsl2 : (asI (S ++ [n])).length = ls + 1 := by unfold asI; rw [List.length_map, List.length_append, HLS.out]; rfl
    rw [hsl2]
    have HRS2 := Lib.hid hrs2
    have hx2 := (HB2.out.block _ hBl).trans HBX.out
    have g4 := cell_of_heap hx2 4 _ rfl
    have hll2 := (Array.getElem?_eq_some_iff.1 hx2).1
    have hsz2 := HB2.out.size
    obtain ⟨i, hi⟩ : ∃ i, f.code[n]? = some i := ⟨_, List.getElem?_eq_getElem (by rw [HN.out]; exact hn)⟩
    have hC2 := HC.out.below HB2.out
    have HC2 := Lib.hid hC2
    obtain ⟨bb, oo, rfl, hbl, hcs⟩ := hC2 n i hi
    obtain ⟨x0, x1, x2, x3, x4, x5, x6, x7, x8, x9, x10, x11, x12, x13, x14⟩ := RdI.load hcs
    have hna := fun W => refNext_fr i n (by omega) W
    have hnl := Ins.next_len i n
    have hni := nxN_int HF.out hi
    have hnxn := HNX.out n
    obtain ⟨nf, hnf⟩ : ∃ nf, nxN f.code = nf := ⟨_, rfl⟩
    have HNF := Lib.hid hnf
    rw [hnf] at hni hnxn HIH HNX
    obtain ⟨nx, hnx⟩ : ∃ nx, nf n = nx := ⟨_, rfl⟩
    rw [hnx] at hni hnxn
    rw [hni] at hna hnl
    rw [List.length_map] at hnl
    obtain ⟨Ln, hLn⟩ : ∃ Ln, nx.length = Ln := ⟨_, rfl⟩
    obtain ⟨kk, op, dst, a, b', nn, text, r0, r1, r2, r3, r4, r5, to_, els⟩ := i
    simp only at x0 x1 x2 x3 x4 x5 x6 x7 x8 x9 x10 x11 x12 x13 x14
    have HNA : Hid (∀ W, Calls Try.prog 27 (#[.agg #[.int .i64 kk, .int .i64 op, .int .i64 dst, .int .i64 a, .int .i64 b', .int .i64 nn, .string text, .int .i64 r0, .int .i64 r1, .int .i64 r2, .int .i64 r3, .int .i64 r4, .int .i64 r5, .int .i64 to_, .int .i64 els], .int .i64 n]) W fun e w' => (∃ A c, e = .returned (.slice A Ln c) ∧ RdN w' A (asI nx)) ∧ Below W.heap.size W w') := Lib.hid fun W => (hna W).mono fun e w' ⟨⟨A, c, h1, h2, _⟩, h4⟩ => ⟨⟨A, c, by rw [h1, List.length_map, hLn], h2⟩, h4⟩
    have HNXN := Lib.hid hnxn
    have HNX1 := Lib.hid hnx
    have HLn := Lib.hid hLn
    rw [hLn] at hnl
    clear hi hC2 hcs hna hni hx2 hrs2 hsl2 HO2' hnxn hnx hnf hLn HO2 HO1 HB1 HRS
    go_wp2_with (first
      | (refine (HNA.out _).mono ?_; rintro e w3 ⟨⟨A3, c3, rfl, hrd3⟩, hb3⟩; have HRD3 := Lib.hid hrd3; have HB3 := Lib.hid (HB2.out.trans (hb3.mono hsz2)); have HRS3 := Lib.hid (HRS2.out.below hb3); clear hb3 hrd3 HRS2 HNA))
    clear x0 x1 x2 x3 x4 x5 x6 x7 x8 x9 x10 x11 x12 x13 x14 g4 hll2 hsz2 hbl HC2 HB2
    have H0 : Hid ((∀ Sf Lf, Ls nf (nx.drop 0) (S ++ [n]) L Sf Lf → Ls nf nx (S ++ [n]) L Sf Lf) ∧ LvP N (S ++ [n]) L) := Lib.hid ⟨fun _ _ h => h, HP.out.add hn HS.out⟩
    go_loopw [2, 3, 11] (fun V2 V3 ix wr => ∃ (j : Nat) (S' L' : List Nat) (A2 : Option Addr) (c2 : Nat) (A4 : Option Addr) (c4 : Nat), j ≤ Ln ∧ ix = .int .i64 j ∧ V2 = .slice A2 S'.length c2 ∧ V3 = .slice A4 L'.length c4 ∧ RdN wr A2 (asI S') ∧ RdN wr A4 (asI L') ∧ LvP N S' L' ∧ ls + 1 ≤ S'.length ∧ (∀ Sf Lf, Ls nf (nx.drop j) S' L' Sf Lf → Ls nf nx (S ++ [n]) L Sf Lf) ∧ Below w3.heap.size w3 wr) (fun _ _ ix _ => Ln - (intOf ix).toNat)
    case atStart => exact ⟨0, S ++ [n], L, As2, cs2, Al, cl, by omega, rfl, by rw [List.length_append, HLS.out]; rfl, by rw [HLL.out], HRS3.out, HRL.out.below HB3.out, H0.out.2, by rw [List.length_append, HLS.out]; simp, H0.out.1, Below.refl _ _⟩
    case round =>
      obtain ⟨j, S', L', A2, c2, A4, c4, hj, rfl, rfl, rfl, hr2, hr4, hp', hlen', hgo, hb⟩ := hrel
      clear H0 HRS3
      have HR2 := Lib.hid hr2
      have HR4 := Lib.hid hr4
      have HP' := Lib.hid hp'
      have HGO := Lib.hid hgo
      have hl12 := hp'.len
      have HBW := Lib.hid (HB3.out.trans (hb.mono HB3.out.size))
      have HBB := Lib.hid hb
      obtain ⟨s', hs'⟩ : ∃ s', S'.length = s' := ⟨_, rfl⟩
      obtain ⟨l', hl'⟩ : ∃ l', L'.length = l' := ⟨_, rfl⟩
      rw [hs', hl'] at hl12 ⊢
      rw [hs'] at hlen'
      have HS' := Lib.hid hs'
      have HL' := Lib.hid hl'
      clear hr2 hr4 hp' hgo hs' hl'
      by_cases hlt : j < Ln
      · have hji : (j : Int) < Ln := by omega
        obtain ⟨m, hm⟩ : ∃ m, nx[j]? = some m := ⟨_, List.getElem?_eq_getElem (by rw [HLn.out]; exact hlt)⟩
        obtain ⟨b3, o3, rfl, hbl3, hc3⟩ := (HRD3.out.below hb) j (m : Int) (by unfold asI; rw [List.getElem?_map, hm]; rfl)
        have hmN : m < N := HNXN.out m (List.mem_of_getElem? hm)
        have HM : Hid (nx.drop j = m :: nx.drop (j + 1)) := Lib.hid (by
          obtain ⟨h1, h2⟩ := List.getElem?_eq_some_iff.1 hm
          rw [List.drop_eq_getElem_cons h1, h2])
        obtain ⟨y, hy⟩ : ∃ y, (asI S').contains (m : Int) = y := ⟨_, rfl⟩
        have HCA : Hid (∀ W A c, RdN W A (asI S') → Calls Try.prog 26 #[.slice A s' c, .int .i64 (m : Int)] W fun e w' => e = .returned (.bool y) ∧ W = w') := Lib.hid fun W A c hr => by
          have := In_any A (asI S') c (m : Int) W hr (by unfold asI; rw [List.length_map, HS'.out]; omega)
          rw [hy] at this
          unfold asI at this
          rw [List.length_map, HS'.out] at this
          exact this
        have HY : Hid (y = true ↔ m ∈ S') := Lib.hid (by rw [← hy, List.contains_iff_mem]; unfold asI; simp only [List.mem_map]; exact ⟨fun ⟨a, h1, h2⟩ => by obtain rfl : a = m := (by omega); exact h1, fun h => ⟨m, h, rfl⟩⟩)
        clear hm hy hb
        cases y with
        | true =>
          go_wp2_with (first
            | (refine (HCA.out _ _ _ HR2.out).mono ?_; rintro e w7 ⟨rfl, rfl⟩))
          exact ⟨⟨j + 1, S', L', A2, c2, A4, c4, by omega, by go_num, by rw [HS'.out], by rw [HL'.out], HR2.out, HR4.out, HP'.out, by rw [HS'.out]; exact hlen', fun Sf Lf h => HGO.out Sf Lf (by rw [HM.out]; exact Ls.skip (HY.out.1 (by simp)) h), HBB.out⟩, by simp [intOf]; omega⟩
        | false =>
          have hx4 : wr.heap[w.heap.size]? = _ := (HBW.out.block _ hBl).trans HBX.out
          have g0 := cell_of_heap hx4 0 _ rfl
          have g1 := cell_of_heap hx4 1 _ rfl
          have g2 := cell_of_heap hx4 2 _ rfl
          have g3 := cell_of_heap hx4 3 _ rfl
          have g4 := cell_of_heap hx4 4 _ rfl
          have hll2 := (Array.getElem?_eq_some_iff.1 hx4).1
          have hnm : m ∉ S' := fun h => by have := HY.out.2 h; cases this
          have HR : Hid (∀ W, Below wr.heap.size wr W → Calls Try.prog 35 #[.agg #[.string f.nm, .int .i64 f.ps, .int .i64 f.R, .int .i64 f.Fr, .slice (some ⟨bb, oo, none⟩) N cap], .int .i64 (m : Int), .slice A2 s' c2, .slice A4 l' c4] W fun e w' => LvT nf m S' L' e w' ∧ Below W.heap.size W w') := Lib.hid fun W hW => by
            have := HIH.out m S' L' A2 c2 A4 c4 W hmN hnm HP'.out (by have := HK.out; have e1 := HS'.out; have e2 := HLS.out; omega) ((HC.out.below HBW.out).below hW) (HR2.out.below hW) (HR4.out.below hW)
            rw [HS'.out, HL'.out] at this
            exact this
          have HNM := Lib.hid hnm
          clear hx4 hnm
          go_wp2_with (first
            | (refine (HCA.out _ _ _ HR2.out).mono ?_; rintro e w7 ⟨rfl, rfl⟩))
          clear HCA
          refine wp_region_noPanic ?_
          go_region_with (first
            | (refine (HR.out _ (Below.refl _ wr).drew).mono ?_; rintro e w8 ⟨⟨S1, L1, A8, c8, A9, c9, hls8, rfl, hr8, hr9⟩, hb8⟩; have HLS8 := Lib.hid hls8; have HR8 := Lib.hid hr8; have HR9 := Lib.hid hr9; have HB8 : Hid (Below wr.heap.size wr w8) := Lib.hid (((Below.refl wr.heap.size wr).drew).trans hb8); clear hls8 hr8 hr9 hb8))
          all_goals
            refine NoPanic.normal ?_
            go_wp2
            obtain ⟨q1, q2, q3⟩ := HP'.out.walk HNX.out (ns := [m]) (by simp only [List.mem_singleton]; rintro _ rfl; exact hmN) (Ls.go HNM.out HLS8.out (Ls.nil _ _))
            exact ⟨⟨j + 1, S1, L1 ++ [m], A8, c8, A9, c9, by omega, by go_num, rfl, by rw [List.length_append]; rfl, HR8.out, HR9.out, q1, by have := HS'.out; omega, fun Sf Lf h => HGO.out Sf Lf (by rw [HM.out]; exact Ls.go HNM.out HLS8.out h), HBB.out.trans (HB8.out.mono HBB.out.size)⟩, by simp [intOf]; omega⟩
      · obtain rfl : j = Ln := by omega
        have HFIN : Hid (Ls nf nx (S ++ [n]) L S' L') := Lib.hid (HGO.out S' L' (by rw [List.drop_eq_nil_of_le (by rw [HLn.out]; exact Nat.le_refl _)]; exact Ls.nil _ _))
        clear hb HGO
        go_wp2_with (first
          | (show wpList Try.prog _ _ (⟨some 52, _, _, _, _, _⟩ :: _) _ _; at_builtin; refine append_all rfl (.tmp 50) (.tmp 51) rfl (.slice (some ⟨wr.heap.size, 0, none⟩) 0 0) [] rfl (OwnN.zero wr) A4 (asI L') c4 (by unfold asI; rw [List.length_map, HL'.out]; rfl) (HR4.out.below (Below.one wr _)) (by unfold asI; rw [List.length_map, HL'.out]; simp; omega) ?_; intro V5 w5 ho5 hg5 hv5; rw [List.nil_append] at ho5; have HO5 := Lib.hid ho5; have HB5 : Hid (Below wr.heap.size wr w5 ∧ ∀ b, V5.ownBlock = some b → wr.heap.size ≤ b) := Lib.hid ⟨Below.grown (Below.one wr _) hg5 (by simp) (fun b hb => by simp only [Value.ownBlock, Option.some.injEq] at hb; omega), fun b hb => by rcases hv5 with e | e <;> rw [e] at hb <;> simp only [Value.ownBlock, Option.some.injEq, World.size_alloc] at hb <;> omega⟩; clear ho5 hg5 hv5)
          | (show wpList Try.prog _ _ (⟨some 55, _, _, _, _, _⟩ :: _) _ _; at_builtin; refine append_one rfl (.tmp 52) (.tmp 54) rfl V5 (asI L') rfl (HO5.out.alloc _) w5.heap.size n rfl (heap_alloc_new _ _) (by unfold asI; rw [List.length_map, HL'.out]; omega) ?_; intro V6 w6 ho6 hg6 hv6; have HQ : Hid (LvT (nxN f.code) n S L (.returned (.tuple #[.slice A2 s' c2, V6])) w6 ∧ Below w.heap.size w w6) := Lib.hid (by
              have HB6 : Below wr.heap.size wr w6 := Below.grown (HB5.out.1.alloc HB5.out.1.size _) hg6 (by have := HB5.out.1.size; simp; omega) (fun b hb => HB5.out.2 b hb)
              have ho7 : OwnN w6 V6 (asI (L' ++ [n])) := by unfold asI at ho6 ⊢; rw [List.map_append]; exact ho6
              obtain ⟨A6, c6, e, _, h6⟩ := ho7.form
              refine ⟨⟨S', L', A2, c2, A6, c6, ?_, ?_, HR2.out.below HB6, h6⟩, HB.out.trans ((HBW.out.trans (HB6.mono HBW.out.size)).mono HB.out.size)⟩
              · rw [HNF.out, HNX1.out]; exact HFIN.out
              · rw [e, HS'.out]; unfold asI; rw [List.length_map, List.length_append]; rfl); clear ho6 hg6 hv6))
        go_returns
        exact HQ.out
end Go.Proofs.Ytgdbkoncaojmoaa
