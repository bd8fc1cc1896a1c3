import Derived.Test.YthbcdckonaljiaaQj
namespace Go.Proofs.Ythbcdckonaljiaa
open Go.RowKit Go.BigFrame

theorem prc_edb {f : Fn7} {k : Nat} {i : Ins} {a b : Nat} (hab : a ≠ b) : (PrC f k i a b ∨ PrC f k i b a) ↔ EdB f k i a (b : Int) := by
  unfold PrC EdB
  constructor
  · rintro (⟨h1, h2, h3⟩ | ⟨h1, h2, h3⟩)
    · exact ⟨by omega, by omega, Or.inl ⟨h1, h2, fun h => h3 ⟨h.1, h.2.symm⟩⟩⟩
    · exact ⟨by omega, by omega, Or.inr ⟨h1, h2, fun h => h3 ⟨h.1, h.2.symm⟩⟩⟩
  · rintro ⟨_, _, ⟨h1, h2, h3⟩ | ⟨h1, h2, h3⟩⟩
    · exact Or.inl ⟨h1, h2, fun h => h3 ⟨h.1, h.2.symm⟩⟩
    · exact Or.inr ⟨h1, h2, fun h => h3 ⟨h.1, h.2.symm⟩⟩
def MtA (f : Fn7) (a b : Nat) : Prop := (a : Int) < f.ps ∧ (b : Int) < f.ps
def MtL (f : Fn7) (a b : Nat) : Prop := Lv f.code 0 (a : Int) ∧ Lv f.code 0 (b : Int)
theorem meP_cases {f : Fn7} {a b : Nat} (hab : a ≠ b) : MeP f a (b : Int) ↔ MtA f a b ∨ MtL f a b ∨ EdK f f.code.length a (b : Int) := by
  unfold MeP MtA MtL
  constructor
  · rintro (h | ⟨_, h1, h2⟩ | ⟨_, h1, _, h2⟩)
    · exact Or.inr (Or.inr h)
    · exact Or.inr (Or.inl ⟨h1, h2⟩)
    · exact Or.inl ⟨h1, h2⟩
  · rintro (⟨h1, h2⟩ | ⟨h1, h2⟩ | h)
    · exact Or.inr (Or.inr ⟨by omega, h1, by omega, h2⟩)
    · exact Or.inr (Or.inl ⟨by omega, h1, h2⟩)
    · exact Or.inl h
set_option maxRecDepth 1000000 in
set_option maxHeartbeats 16000000 in
theorem meets14_loop (f : Fn7) (hf : OkF f) (a b : Nat) (hab : a ≠ b) (C : Option Addr) (N cap B : Nat) (hN : f.code.length = N) (W w : World) (hB : W.heap[B]? = some (funcObj f.nm f.ps f.R f.Fr C N cap)) (hC : RdI W C f.code) (hw : Below W.heap.size W w)
    (x0 x4 x5 x6 x7 x8 x9 x10 x11 x12 x13 x14 x15 x16 x17 x18 x19 x20 x21 x22 x23 x24 x25 x26 x27 x28 x29 x30 x31 x32 x33 x34 x38 x39 x40 x41 x42 x43 x44 x45 x46 x47 x48 x49 x50 x51 x52 x53 x54 x55 x56 x57 x58 x59 x60 x61 x62 x63 x64 x65 x66 x67 x68 x69 x70 x71 x72 x73 x74 x75 x76 x77 x78 : Value) (Q : Exit → Act → World → Prop)
    (hQ1 : ∀ (y6 y7 y8 y10 y37 y38 y39 y40 y41 y42 y43 y44 y45 y46 y47 y48 y49 y50 y51 y52 y53 y54 y55 y56 y57 y58 y59 y60 y61 y62 y63 y64 y65 y66 y67 y68 y69 y70 y71 y72 y73 y74 y75 y76 y77 y78 : Value) (w' : World), ¬ EdK f N a (b : Int) → Below W.heap.size W w' → Q (.exit 0) ⟨(x0::.int .i64 (a : Int)::.int .i64 (b : Int)::.pointer (some ⟨B, 0, none⟩)::x4::x5::y6::y7::y8::x9::y10::x11::x12::x13::x14::x15::x16::x17::x18::x19::x20::x21::x22::x23::x24::x25::x26::x27::x28::x29::x30::x31::x32::x33::x34::.slice C N cap::.int .i64 (N : Int)::y37::y38::y39::y40::y41::y42::y43::y44::y45::y46::y47::y48::y49::y50::y51::y52::y53::y54::y55::y56::y57::y58::y59::y60::y61::y62::y63::y64::y65::y66::y67::y68::y69::y70::y71::y72::y73::y74::y75::y76::y77::y78::[]).toArray, []⟩ w')
    (hQ2 : ∀ (A : Act) (w' : World), A.tmps.getD 6 undef = .bool true → A.defers = [] → EdK f N a (b : Int) → Below W.heap.size W w' → Q .ret A w') :
    Code.wp Try.prog mt0 Q ⟨(x0::.int .i64 (a : Int)::.int .i64 (b : Int)::.pointer (some ⟨B, 0, none⟩)::x4::x5::x6::x7::x8::x9::x10::x11::x12::x13::x14::x15::x16::x17::x18::x19::x20::x21::x22::x23::x24::x25::x26::x27::x28::x29::x30::x31::x32::x33::x34::.slice C N cap::.int .i64 (N : Int)::.int .i64 (0)::x38::x39::x40::x41::x42::x43::x44::x45::x46::x47::x48::x49::x50::x51::x52::x53::x54::x55::x56::x57::x58::x59::x60::x61::x62::x63::x64::x65::x66::x67::x68::x69::x70::x71::x72::x73::x74::x75::x76::x77::x78::[]).toArray, []⟩ w := by
  conv => arg 2; whnf
  have HQ1 := Lib.hid hQ1
  have HQ2 := Lib.hid hQ2
  have HC := Lib.hid hC
  have HB := Lib.hid hB
  have HF := Lib.hid hf
  have HN := Lib.hid hN
  have HW := Lib.hid hw
  have hBl := (Array.getElem?_eq_some_iff.1 hB).1
  have hN2 : N ≤ 8192 := by rw [← hN]; exact hf.len.2
  clear hQ1 hQ2 hC hB hf hN hw
  go_loopw [37] (fun ix wr => ∃ k : Nat, k ≤ N ∧ ix = .int .i64 k ∧ ¬ EdK f k a (b : Int) ∧ Below W.heap.size W wr) (fun ix _ => N - (intOf ix).toNat)
  case atStart => exact ⟨0, by omega, rfl, fun ⟨q, i, h, _⟩ => absurd h (Nat.not_lt_zero _), HW.out⟩
  case round =>
    obtain ⟨k, hk, rfl, hno, hb⟩ := hrel
    have HNO := Lib.hid hno
    have HBB := Lib.hid hb
    by_cases hlt : k < N
    · have hki : (k : Int) < N := by omega
      obtain ⟨i, hi⟩ : ∃ i, f.code[k]? = some i := ⟨_, List.getElem?_eq_getElem (by rw [HN.out]; exact hlt)⟩
      obtain ⟨bb, oo, he, hbl, hcs⟩ := (HC.out.below hb) k i hi
      obtain ⟨x0, x1, x2, x3, x4, x5, x6, x7, x8, x9, x10, x11, x12, x13, x14⟩ := RdI.load hcs
      have kx := heap_alloc_new wr i.obj
      have hb1 := Below.one wr i.obj
      have hbw := hb.trans (hb1.mono hb.size)
      have HX1 := Lib.hid ((hbw.block _ hBl).trans HB.out)
      have HC1 := Lib.hid (HC.out.below hbw)
      have HBW := Lib.hid hbw
      have HKX := Lib.hid kx
      have HII := Lib.hid hi
      have HLT := Lib.hid hlt
      have HI2 : Hid (∃ j : Ins, j = i) := Lib.hid ⟨i, rfl⟩
      subst he
      obtain ⟨kk, op, dst, aa, b', n, text, r0, r1, r2, r3, r4, r5, to_, els⟩ := i
      simp only at x0 x1 x2 x3 x4 x5 x6 x7 x8 x9 x10 x11 x12 x13 x14
      clear hk hno hb hi hcs kx hb1 hbw hlt HI2
      go_wp2
      refine mt2_any f HF.out N k a b B wr.heap.size cap HN.out HLT.out ⟨kk, op, dst, aa, b', n, text, r0, r1, r2, r3, r4, r5, to_, els⟩ _ (wr.alloc (Ins.obj ⟨kk, op, dst, aa, b', n, text, r0, r1, r2, r3, r4, r5, to_, els⟩)) HC1.out HX1.out HKX.out _ _ _ _ _ _ _ _ _ _ _ _ _ _ _ _ _ _ _ _ _ _ _ _ _ _ _ _ _ _ _ _ _ _ _ _ _ _ _ _ _ _ _ _ _ _ _ _ _ _ _ _ _ _ _ _ _ _ _ _ _ _ _ _ _ _ _ _ _ _ _ _ _ _ _ ?_ ?_
      · intro v6 v10 v49 v50 v51 v52 v53 v54 v55 v56 v57 v58 v59 v60 v61 v62 v63 v64 v65 v66 v67 v68 v69 v70 v71 v72 v73 v74 v75 v76 v77 w4 h1 h2 hb4
        have HNK : Hid (¬ EdK f (k + 1) a (b : Int)) := Lib.hid fun h => by
          rcases (EdK.more HII.out a (b : Int)).1 h with h | h
          · exact HNO.out h
          · rcases (prc_edb hab).2 h with h | h
            · exact h1 h
            · exact h2 h
        have HB4 := Lib.hid (HBW.out.trans (hb4.mono HBW.out.size))
        clear h1 h2 hb4
        go_wp2
        have := HLT.out
        exact ⟨⟨k + 1, by omega, by go_num, HNK.out, HB4.out⟩, by simp [intOf]; omega⟩
      · intro A w4 h6 hd hp hb4
        have hlt := HLT.out
        exact HQ2.out A w4 h6 hd ⟨k, _, hlt, HII.out, (prc_edb hab).1 hp⟩ (HBW.out.trans (hb4.mono HBW.out.size))
    · obtain rfl : k = N := by omega
      have hki : ¬ (k : Int) < (k : Int) := by omega
      clear hk hno hb hlt
      go_wp2
      exact HQ1.out _ _ _ _ _ _ _ _ _ _ _ _ _ _ _ _ _ _ _ _ _ _ _ _ _ _ _ _ _ _ _ _ _ _ _ _ _ _ _ _ _ _ _ _ _ _ wr HNO.out HBB.out
open Go.RowKit Go.BigFrame

theorem MeP.irr {f : Fn7} {a : Nat} : ¬ MeP f a (a : Int) := fun hm => by
  rcases hm with ⟨q, i, _, _, h5⟩ | ⟨h5, _⟩ | ⟨h5, _⟩
  · exact h5.2.1 rfl
  · exact h5 rfl
  · exact h5 rfl
set_option maxRecDepth 1000000 in
set_option maxHeartbeats 16000000 in
theorem meets14_any (f : Fn7) (hf : OkF f) (a b : Nat) (_ : a ≤ 100000) (hb : b ≤ 100000) (C : Option Addr) (cap : Nat) (w : World) (hC : RdI w C f.code) :
    Calls Try.prog 17 #[funcAgg f.nm f.ps f.R f.Fr C f.code.length cap, .int .i64 a, .int .i64 b] w fun e w' => e = .returned (.bool (tb (MeP f a (b : Int)))) ∧ Below w.heap.size w w' := by
  obtain ⟨N, hN⟩ : ∃ N, f.code.length = N := ⟨_, rfl⟩
  have hl1 := hf.len.1
  have hB := Below.one w (funcObj f.nm f.ps f.R f.Fr C f.code.length cap)
  have bx := heap_alloc_new w (funcObj f.nm f.ps f.R f.Fr C f.code.length cap)
  have hC1 := hC.below hB
  have hA := fun (r : Int) W h => refAhead_any f hf 0 (by omega) r C cap W h
  have hcs := fun (hab : a ≠ b) => meP_cases (f := f) hab
  rw [hN] at hB bx hC1 hA hcs ⊢
  simp only [funcObj, funcAgg] at hB bx hC1 hA ⊢
  obtain ⟨W, hW⟩ : ∃ W, w.alloc (.cells #[.string f.nm, .int .i64 f.ps, .int .i64 f.R, .int .i64 f.Fr, .slice C N cap] 26) = W := ⟨_, rfl⟩
  rw [hW] at bx hC1 hB
  have HB := Lib.hid hB
  have HBX := Lib.hid bx
  have hBl := (Array.getElem?_eq_some_iff.1 bx).1
  have HC1 := Lib.hid hC1
  have HF := Lib.hid hf
  have HN := Lib.hid hN
  obtain ⟨tva, hta⟩ : ∃ t, tb (Lv f.code 0 (a : Int)) = t := ⟨_, rfl⟩
  obtain ⟨tvb, htb⟩ : ∃ t, tb (Lv f.code 0 (b : Int)) = t := ⟨_, rfl⟩
  have HTA := Lib.hid hta
  have HTB := Lib.hid htb
  have haa := hA (a : Int) W hC1
  have hab' := fun W h => hA (b : Int) W h
  rw [hta] at haa
  rw [htb] at hab'
  have HAA := Lib.hid haa
  have HAB := Lib.hid hab'
  by_cases hab : a = b
  · subst hab
    have HY : Hid (tb (MeP f a (a : Int)) = false) := Lib.hid (tb_false.2 MeP.irr)
    clear hf hN hC hB hC1 bx hl1 hA hcs hta htb haa hab'
    go_enter Try.func17, Try.ntmps17
    go_wp2
    go_returns
    exact ⟨congrArg (fun x => Ending.returned (.bool x)) HY.out.symm, HB.out⟩
  · have HCS := Lib.hid (hcs hab)
    have g0 := cell_of_heap bx 0 _ rfl
    have g1 := cell_of_heap bx 1 _ rfl
    have g2 := cell_of_heap bx 2 _ rfl
    have g3 := cell_of_heap bx 3 _ rfl
    have g4 := cell_of_heap bx 4 _ rfl
    have hne : ((a : Int) == (b : Int)) = false := by rw [beq_eq_false_iff_ne]; omega
    have hne2 : ¬ (a : Int) = (b : Int) := by omega
    clear hf hN hC hB hC1 bx hl1 hA hcs hta htb haa hab'
    by_cases h1 : (a : Int) < f.ps
    · by_cases h2 : (b : Int) < f.ps
      · have HY : Hid (tb (MeP f a (b : Int)) = true) := Lib.hid (tb_true.2 (HCS.out.2 (Or.inl ⟨h1, h2⟩)))
        go_enter Try.func17, Try.ntmps17
        go_wp2
        go_returns
        exact ⟨congrArg (fun x => Ending.returned (.bool x)) HY.out.symm, HB.out⟩
      · have HNA := Lib.hid (show ¬ MtA f a b from fun h => h2 h.2)
        go_enter Try.func17, Try.ntmps17
        cases tva with
        | false =>
          have HNL := Lib.hid (show ¬ MtL f a b from fun h => tb_false.1 HTA.out h.1)
          go_wp2_with (go_at_call 43; first | (refine HAA.out.mono ?_; rintro e w4 ⟨rfl, hb4⟩; have hx4 := (hb4.block _ hBl).trans HBX.out; have k0 := cell_of_heap hx4 0 _ rfl; have k1 := cell_of_heap hx4 1 _ rfl; have k2 := cell_of_heap hx4 2 _ rfl; have k3 := cell_of_heap hx4 3 _ rfl; have k4 := cell_of_heap hx4 4 _ rfl; have HB4 := Lib.hid hb4; clear hb4 hx4))
          refine meets14_loop f HF.out a b hab C N cap w.heap.size HN.out W _ HBX.out HC1.out HB4.out _ _ _ _ _ _ _ _ _ _ _ _ _ _ _ _ _ _ _ _ _ _ _ _ _ _ _ _ _ _ _ _ _ _ _ _ _ _ _ _ _ _ _ _ _ _ _ _ _ _ _ _ _ _ _ _ _ _ _ _ _ _ _ _ _ _ _ _ _ _ _ _ _ _ ?_ ?_
          · intro v6 v7 v8 v10 v37 v38 v39 v40 v41 v42 v43 v44 v45 v46 v47 v48 v49 v50 v51 v52 v53 v54 v55 v56 v57 v58 v59 v60 v61 v62 v63 v64 v65 v66 v67 v68 v69 v70 v71 v72 v73 v74 v75 v76 v77 v78 w9 hno hb9
            have HY : Hid (tb (MeP f a (b : Int)) = false) := Lib.hid (tb_false.2 fun h => by
              rcases HCS.out.1 h with h | h | h
              · exact HNA.out h
              · exact HNL.out h
              · exact hno h)
            have HB9 := Lib.hid hb9
            clear hno hb9
            go_wp2
            go_returns
            exact ⟨congrArg (fun x => Ending.returned (.bool x)) HY.out.symm, HB.out.trans (HB9.out.mono HB.out.size)⟩
          · intro A w9 h6 hd he hb9
            have HY : Hid (tb (MeP f a (b : Int)) = true) := Lib.hid (tb_true.2 (HCS.out.2 (Or.inr (Or.inr he))))
            simp only [Exit.inBlock, Exit.then]
            exact bodyPost_ret (v := .bool true) (by simp [results, Try.results17]; simpa using h6) hd ⟨congrArg (fun x => Ending.returned (.bool x)) HY.out.symm, HB.out.trans (hb9.mono HB.out.size)⟩
        | true =>
          go_wp2_with fail
          refine HAA.out.mono ?_
          rintro e w4 ⟨rfl, hb4⟩
          dsimp only
          have hx4 := (hb4.block _ hBl).trans HBX.out
          have k0 := cell_of_heap hx4 0 _ rfl
          have k1 := cell_of_heap hx4 1 _ rfl
          have k2 := cell_of_heap hx4 2 _ rfl
          have k3 := cell_of_heap hx4 3 _ rfl
          have k4 := cell_of_heap hx4 4 _ rfl
          have HB4 := Lib.hid hb4
          have HAB4 := Lib.hid (HAB.out w4 (HC1.out.below hb4))
          clear hb4 hx4
          cases tvb with
          | true =>
            have HY : Hid (tb (MeP f a (b : Int)) = true) := Lib.hid (tb_true.2 (HCS.out.2 (Or.inr (Or.inl ⟨tb_true.1 HTA.out, tb_true.1 HTB.out⟩))))
            go_wp2_with (go_at_call 43; refine HAB4.out.mono ?_; rintro e w5 ⟨rfl, hb5⟩; have HB5 := Lib.hid (HB4.out.trans (hb5.mono HB4.out.size)); clear hb5)
            go_returns
            exact ⟨congrArg (fun x => Ending.returned (.bool x)) HY.out.symm, HB.out.trans (HB5.out.mono HB.out.size)⟩
          | false =>
            have HNL := Lib.hid (show ¬ MtL f a b from fun h => tb_false.1 HTB.out h.2)
            go_wp2_with (go_at_call 43; refine HAB4.out.mono ?_; rintro e w5 ⟨rfl, hb5⟩; have HB5 := Lib.hid (HB4.out.trans (hb5.mono HB4.out.size)); have z4 := cell_of_heap ((HB5.out.block _ hBl).trans HBX.out) 4 _ rfl; clear hb5)
            refine meets14_loop f HF.out a b hab C N cap w.heap.size HN.out W _ HBX.out HC1.out HB5.out _ _ _ _ _ _ _ _ _ _ _ _ _ _ _ _ _ _ _ _ _ _ _ _ _ _ _ _ _ _ _ _ _ _ _ _ _ _ _ _ _ _ _ _ _ _ _ _ _ _ _ _ _ _ _ _ _ _ _ _ _ _ _ _ _ _ _ _ _ _ _ _ _ _ ?_ ?_
            · intro v6 v7 v8 v10 v37 v38 v39 v40 v41 v42 v43 v44 v45 v46 v47 v48 v49 v50 v51 v52 v53 v54 v55 v56 v57 v58 v59 v60 v61 v62 v63 v64 v65 v66 v67 v68 v69 v70 v71 v72 v73 v74 v75 v76 v77 v78 w9 hno hb9
              have HY : Hid (tb (MeP f a (b : Int)) = false) := Lib.hid (tb_false.2 fun h => by
                rcases HCS.out.1 h with h | h | h
                · exact HNA.out h
                · exact HNL.out h
                · exact hno h)
              have HB9 := Lib.hid hb9
              clear hno hb9
              go_wp2
              go_returns
              exact ⟨congrArg (fun x => Ending.returned (.bool x)) HY.out.symm, HB.out.trans (HB9.out.mono HB.out.size)⟩
            · intro A w9 h6 hd he hb9
              have HY : Hid (tb (MeP f a (b : Int)) = true) := Lib.hid (tb_true.2 (HCS.out.2 (Or.inr (Or.inr he))))
              simp only [Exit.inBlock, Exit.then]
              exact bodyPost_ret (v := .bool true) (by simp [results, Try.results17]; simpa using h6) hd ⟨congrArg (fun x => Ending.returned (.bool x)) HY.out.symm, HB.out.trans (hb9.mono HB.out.size)⟩
    · have HNA := Lib.hid (show ¬ MtA f a b from fun h => h1 h.1)
      go_enter Try.func17, Try.ntmps17
      cases tva with
      | false =>
        have HNL := Lib.hid (show ¬ MtL f a b from fun h => tb_false.1 HTA.out h.1)
        go_wp2_with (go_at_call 43; first | (refine HAA.out.mono ?_; rintro e w4 ⟨rfl, hb4⟩; have hx4 := (hb4.block _ hBl).trans HBX.out; have k0 := cell_of_heap hx4 0 _ rfl; have k1 := cell_of_heap hx4 1 _ rfl; have k2 := cell_of_heap hx4 2 _ rfl; have k3 := cell_of_heap hx4 3 _ rfl; have k4 := cell_of_heap hx4 4 _ rfl; have HB4 := Lib.hid hb4; clear hb4 hx4))
        refine meets14_loop f HF.out a b hab C N cap w.heap.size HN.out W _ HBX.out HC1.out HB4.out _ _ _ _ _ _ _ _ _ _ _ _ _ _ _ _ _ _ _ _ _ _ _ _ _ _ _ _ _ _ _ _ _ _ _ _ _ _ _ _ _ _ _ _ _ _ _ _ _ _ _ _ _ _ _ _ _ _ _ _ _ _ _ _ _ _ _ _ _ _ _ _ _ _ ?_ ?_
        · intro v6 v7 v8 v10 v37 v38 v39 v40 v41 v42 v43 v44 v45 v46 v47 v48 v49 v50 v51 v52 v53 v54 v55 v56 v57 v58 v59 v60 v61 v62 v63 v64 v65 v66 v67 v68 v69 v70 v71 v72 v73 v74 v75 v76 v77 v78 w9 hno hb9
          have HY : Hid (tb (MeP f a (b : Int)) = false) := Lib.hid (tb_false.2 fun h => by
            rcases HCS.out.1 h with h | h | h
            · exact HNA.out h
            · exact HNL.out h
            · exact hno h)
          have HB9 := Lib.hid hb9
          clear hno hb9
          go_wp2
          go_returns
          exact ⟨congrArg (fun x => Ending.returned (.bool x)) HY.out.symm, HB.out.trans (HB9.out.mono HB.out.size)⟩
        · intro A w9 h6 hd he hb9
          have HY : Hid (tb (MeP f a (b : Int)) = true) := Lib.hid (tb_true.2 (HCS.out.2 (Or.inr (Or.inr he))))
          simp only [Exit.inBlock, Exit.then]
          exact bodyPost_ret (v := .bool true) (by simp [results, Try.results17]; simpa using h6) hd ⟨congrArg (fun x => Ending.returned (.bool x)) HY.out.symm, HB.out.trans (hb9.mono HB.out.size)⟩
      | true =>
        go_wp2_with fail
        refine HAA.out.mono ?_
        rintro e w4 ⟨rfl, hb4⟩
        dsimp only
        have hx4 := (hb4.block _ hBl).trans HBX.out
        have k0 := cell_of_heap hx4 0 _ rfl
        have k1 := cell_of_heap hx4 1 _ rfl
        have k2 := cell_of_heap hx4 2 _ rfl
        have k3 := cell_of_heap hx4 3 _ rfl
        have k4 := cell_of_heap hx4 4 _ rfl
        have HB4 := Lib.hid hb4
        have HAB4 := Lib.hid (HAB.out w4 (HC1.out.below hb4))
        clear hb4 hx4
        cases tvb with
        | true =>
          have HY : Hid (tb (MeP f a (b : Int)) = true) := Lib.hid (tb_true.2 (HCS.out.2 (Or.inr (Or.inl ⟨tb_true.1 HTA.out, tb_true.1 HTB.out⟩))))
          go_wp2_with (go_at_call 43; refine HAB4.out.mono ?_; rintro e w5 ⟨rfl, hb5⟩; have HB5 := Lib.hid (HB4.out.trans (hb5.mono HB4.out.size)); clear hb5)
          go_returns
          exact ⟨congrArg (fun x => Ending.returned (.bool x)) HY.out.symm, HB.out.trans (HB5.out.mono HB.out.size)⟩
        | false =>
          have HNL := Lib.hid (show ¬ MtL f a b from fun h => tb_false.1 HTB.out h.2)
          go_wp2_with (go_at_call 43; refine HAB4.out.mono ?_; rintro e w5 ⟨rfl, hb5⟩; have HB5 := Lib.hid (HB4.out.trans (hb5.mono HB4.out.size)); have z4 := cell_of_heap ((HB5.out.block _ hBl).trans HBX.out) 4 _ rfl; clear hb5)
          refine meets14_loop f HF.out a b hab C N cap w.heap.size HN.out W _ HBX.out HC1.out HB5.out _ _ _ _ _ _ _ _ _ _ _ _ _ _ _ _ _ _ _ _ _ _ _ _ _ _ _ _ _ _ _ _ _ _ _ _ _ _ _ _ _ _ _ _ _ _ _ _ _ _ _ _ _ _ _ _ _ _ _ _ _ _ _ _ _ _ _ _ _ _ _ _ _ _ ?_ ?_
          · intro v6 v7 v8 v10 v37 v38 v39 v40 v41 v42 v43 v44 v45 v46 v47 v48 v49 v50 v51 v52 v53 v54 v55 v56 v57 v58 v59 v60 v61 v62 v63 v64 v65 v66 v67 v68 v69 v70 v71 v72 v73 v74 v75 v76 v77 v78 w9 hno hb9
            have HY : Hid (tb (MeP f a (b : Int)) = false) := Lib.hid (tb_false.2 fun h => by
              rcases HCS.out.1 h with h | h | h
              · exact HNA.out h
              · exact HNL.out h
              · exact hno h)
            have HB9 := Lib.hid hb9
            clear hno hb9
            go_wp2
            go_returns
            exact ⟨congrArg (fun x => Ending.returned (.bool x)) HY.out.symm, HB.out.trans (HB9.out.mono HB.out.size)⟩
          · intro A w9 h6 hd he hb9
            have HY : Hid (tb (MeP f a (b : Int)) = true) := Lib.hid (tb_true.2 (HCS.out.2 (Or.inr (Or.inr he))))
            simp only [Exit.inBlock, Exit.then]
            exact bodyPost_ret (v := .bool true) (by simp [results, Try.results17]; simpa using h6) hd ⟨congrArg (fun x => Ending.returned (.bool x)) HY.out.symm, HB.out.trans (hb9.mono HB.out.size)⟩
end Go.Proofs.Ythbcdckonaljiaa
