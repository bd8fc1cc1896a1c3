import Derived.Test.YtgdbkoncaojmoaaEb
/- GraphWalk. -/
namespace Go.Proofs.Ytgdbkoncaojmoaa
open Go.RowKit Go.BigFrame

theorem dom_late {f : Fn7} {O : List Nat} (h : OrdL (nxN f.code) f.code.length O) {a b : Nat} (hb : b ∈ O) (hlt : O.idxOf b < O.idxOf a) : ¬ Dom (Eg f.code) a b := by
  have key : ∀ k x, x ∈ O → O.idxOf x ≤ k → O.idxOf x < O.idxOf a → Av (Eg f.code) a x := by
    intro k
    induction k with
    | zero =>
      intro x hx hk hlt
      have h0 : O.idxOf 0 = 0 := h.ord.z
      have : x = 0 := h.ord.inj x 0 ((h.mem x).1 hx) R0.zero (by show O.idxOf x = O.idxOf 0; omega)
      subst this
      exact Av.zero (fun e => by subst e; omega)
    | succ k ih =>
      intro x hx hk hlt
      by_cases h0 : x = 0
      · subst h0
        exact Av.zero (fun e => by subst e; omega)
      · obtain ⟨p, hp, hpl, hpm⟩ := h.par x hx h0
        exact Av.step (ih p hpm (by omega) (by omega)) hp (fun e => by subst e; omega)
  exact fun hd => hd.2 (key _ b hb (Nat.le_refl _) hlt)
noncomputable def cntR (f : Fn7) (k : Nat) : Nat := ((List.range k).filter fun p => tb (R0 (Eg f.code) p)).length
theorem cntR_succ (f : Fn7) (k : Nat) : cntR f (k + 1) = cntR f k + (if tb (R0 (Eg f.code) k) = true then 1 else 0) := by
  unfold cntR
  rw [List.range_succ, List.filter_append, List.length_append]
  congr 1
  cases h : tb (R0 (Eg f.code) k) <;> simp [h]
theorem cntR_le (f : Fn7) (k : Nat) : cntR f k ≤ k := by
  unfold cntR
  have := List.length_filter_le (fun p => tb (R0 (Eg f.code) p)) (List.range k)
  rwa [List.length_range] at this
theorem perm_len : ∀ {l l' : List Nat}, l.Nodup → l'.Nodup → (∀ x, x ∈ l ↔ x ∈ l') → l.length = l'.length := by
  have half : ∀ {l l' : List Nat}, l.Nodup → (∀ x, x ∈ l → x ∈ l') → l.length ≤ l'.length := by
    intro l
    induction l with
    | nil => intro l' _ _; simp
    | cons a l ih =>
      intro l' hn hs
      rw [List.nodup_cons] at hn
      have ha := hs a (by simp)
      have h1 := ih (l' := l'.erase a) hn.2 (fun x hx => (List.mem_erase_of_ne (fun e => hn.1 (by rw [← e]; exact hx))).2 (hs x (List.mem_cons_of_mem _ hx)))
      rw [List.length_erase_of_mem ha] at h1
      have := List.length_pos_of_mem ha
      simp only [List.length_cons]
      omega
  intro l l' h1 h2 h
  exact Nat.le_antisymm (half h1 fun x hx => (h x).1 hx) (half h2 fun x hx => (h x).2 hx)
theorem cntR_all {f : Fn7} {O : List Nat} (h : OrdL (nxN f.code) f.code.length O) : O.length = cntR f f.code.length := by
  unfold cntR
  refine perm_len h.nd (List.Pairwise.filter _ List.nodup_range) fun x => ?_
  rw [List.mem_filter, List.mem_range, tb_true]
  exact ⟨fun hx => ⟨h.lt x hx, (h.mem x).1 hx⟩, fun hx => (h.mem x).2 hx.2⟩
noncomputable def wk2 : Code := ((loopsOf (inLoop (((((Try.f8.body).map loopsOf).getD [])[1]?).getD .skip)))[0]?).getD .skip
set_option maxRecDepth 1000000 in
set_option maxHeartbeats 16000000 in
theorem wk2_any (f : Fn7) (C : Option Addr) (cap N : Nat) (w : World) (bx a : Nat) (hC : RdI w C f.code) (hX : w.heap[bx]? = some (.cells #[.string f.nm, .int .i64 f.ps, .int .i64 f.R, .int .i64 f.Fr, .slice C N cap] 24))
    (hD : ∀ a b W, RdI W C f.code → Calls Try.prog 20 #[.agg #[.string f.nm, .int .i64 f.ps, .int .i64 f.R, .int .i64 f.Fr, .slice C N cap], .int .i64 a, .int .i64 b] W fun e w' => e = .returned (.bool (dmB f a b)) ∧ Below W.heap.size W w')
    (O : List Nat) (A : Option Addr) (cp k : Nat) (hk9 : k ≤ 9000) (hk : k ≤ O.length) (hR : RdN w A (asI O)) (hL : ∀ b ∈ O.take k, ¬ Dom (Eg f.code) a b)
    (x0 x2 x3 x4 x5 x6 x7 x8 x10 x11 x12 x13 x14 x15 x16 x17 x18 x19 x20 x21 x22 x23 x24 x25 x26 x27 x28 x29 x30 x31 x32 x33 x34 x35 x36 x37 x38 x39 x40 x41 x42 x43 x44 x45 x46 x47 x48 x49 x50 x51 x52 x53 x54 x55 x56 x57 x58 x59 x60 x61 x62 x63 x64 x65 x69 x70 x71 x72 x73 x74 x75 x76 x77 x78 x79 x80 x81 x82 x83 x84 x85 x86 x87 x88 x89 x90 x91 x92 x93 x94 : Value) (Q : Exit → Act → World → Prop)
    (hexit : ∀ (y2 y11 y69 y70 y71 y72 y73 y74 y75 y76 : Value) (w' : World), Below w.heap.size w w' → Q (.exit 4) ⟨(x0 :: .pointer (some ⟨bx, 0, none⟩) :: y2 :: x3 :: x4 :: x5 :: x6 :: x7 :: x8 :: .int .i64 (a : Int) :: x10 :: y11 :: x12 :: x13 :: x14 :: x15 :: x16 :: x17 :: x18 :: x19 :: x20 :: x21 :: x22 :: x23 :: x24 :: x25 :: x26 :: x27 :: x28 :: x29 :: x30 :: x31 :: x32 :: x33 :: x34 :: x35 :: x36 :: x37 :: x38 :: x39 :: x40 :: x41 :: x42 :: x43 :: x44 :: x45 :: x46 :: x47 :: x48 :: x49 :: x50 :: x51 :: x52 :: x53 :: x54 :: x55 :: x56 :: x57 :: x58 :: x59 :: x60 :: x61 :: x62 :: x63 :: x64 :: x65 :: .slice A k cp :: .int .i64 (k : Int) :: .int .i64 (k : Int) :: y69 :: y70 :: y71 :: y72 :: y73 :: y74 :: y75 :: y76 :: x77 :: x78 :: x79 :: x80 :: x81 :: x82 :: x83 :: x84 :: x85 :: x86 :: x87 :: x88 :: x89 :: x90 :: x91 :: x92 :: x93 :: x94 :: []).toArray, []⟩ w') :
    Code.wp Try.prog wk2 Q ⟨(x0 :: .pointer (some ⟨bx, 0, none⟩) :: x2 :: x3 :: x4 :: x5 :: x6 :: x7 :: x8 :: .int .i64 (a : Int) :: x10 :: x11 :: x12 :: x13 :: x14 :: x15 :: x16 :: x17 :: x18 :: x19 :: x20 :: x21 :: x22 :: x23 :: x24 :: x25 :: x26 :: x27 :: x28 :: x29 :: x30 :: x31 :: x32 :: x33 :: x34 :: x35 :: x36 :: x37 :: x38 :: x39 :: x40 :: x41 :: x42 :: x43 :: x44 :: x45 :: x46 :: x47 :: x48 :: x49 :: x50 :: x51 :: x52 :: x53 :: x54 :: x55 :: x56 :: x57 :: x58 :: x59 :: x60 :: x61 :: x62 :: x63 :: x64 :: x65 :: .slice A k cp :: .int .i64 (k : Int) :: .int .i64 0 :: x69 :: x70 :: x71 :: x72 :: x73 :: x74 :: x75 :: x76 :: x77 :: x78 :: x79 :: x80 :: x81 :: x82 :: x83 :: x84 :: x85 :: x86 :: x87 :: x88 :: x89 :: x90 :: x91 :: x92 :: x93 :: x94 :: []).toArray, []⟩ w := by
  conv => arg 2; whnf
  have HE := Lib.hid hexit
  have HC := Lib.hid hC
  have HX := Lib.hid hX
  have HD := Lib.hid hD
  have HR := Lib.hid hR
  have HL := Lib.hid hL
  have HK := Lib.hid hk
  have hlx := (Array.getElem?_eq_some_iff.1 hX).1
  clear hexit hC hX hD hR hL hk
  go_loopw [68] (fun ix wr => ∃ j : Nat, j ≤ k ∧ ix = .int .i64 j ∧ Below w.heap.size w wr) (fun ix _ => k - (intOf ix).toNat)
  case atStart => exact ⟨0, by omega, rfl, Below.refl _ _⟩
  case round =>
    obtain ⟨j, hj, rfl, hb⟩ := hrel
    by_cases hlt : j < k
    · obtain ⟨n, hn⟩ : ∃ n, O[j]? = some n := ⟨_, List.getElem?_eq_getElem (by have := HK.out; omega)⟩
      have hnd := HL.out n (List.mem_iff_getElem?.2 ⟨j, by rw [List.getElem?_take_of_lt hlt]; exact hn⟩)
      obtain ⟨b, o, rfl, hbl, hc⟩ := (HR.out.below hb) j n (by unfold asI; rw [List.getElem?_map, hn]; rfl)
      have kx := (hb.block _ hlx).trans HX.out
      have d0 := cell_of_heap kx 0 _ rfl
      have d1 := cell_of_heap kx 1 _ rfl
      have d2 := cell_of_heap kx 2 _ rfl
      have d3 := cell_of_heap kx 3 _ rfl
      have d4 := cell_of_heap kx 4 _ rfl
      have HCR := Lib.hid (HC.out.below hb)
      have hq := fun W hh => HD.out (a : Int) (n : Int) W hh
      simp only [dmB_nat] at hq
      rw [tb_false.2 hnd] at hq
      have HQ := Lib.hid hq
      have HBB := Lib.hid hb
      have hsz := hb.size
      have hji : (j : Int) < k := by omega
      clear hb hn hnd kx hq
      go_wp2_with fail
      refine (HQ.out _ HCR.out).mono ?_
      rintro e w7 ⟨rfl, hb7⟩
      have HB7 := Lib.hid (HBB.out.trans (hb7.mono hsz))
      clear hb7 d0 d1 d2 d3 d4
      go_wp2
      exact ⟨⟨j + 1, by omega, by go_num, HB7.out⟩, by simp [intOf]; omega⟩
    · obtain rfl : k = j := by omega
      have HX2 := fun (y2 y11 y69 y70 y71 y72 y73 y74 y75 y76 : Value) => Lib.hid (HE.out y2 y11 y69 y70 y71 y72 y73 y74 y75 y76 wr hb)
      clear hb HE
      go_wp2
      exact (HX2 _ _ _ _ _ _ _ _ _ _).out
set_option maxRecDepth 1000000 in
set_option maxHeartbeats 8000000 in
theorem walk_few (f : Fn7) (hf : ¬ Fw9 f) (C : Option Addr) (cap : Nat) (hl9 : f.code.length ≤ 9223372036854775807) (w : World) (hC : RdI w C f.code) :
    Calls Try.prog 8 #[funcAgg f.nm f.ps f.R f.Fr C f.code.length cap] w fun e w' => e = .returned (.bool true) ∧ Below w.heap.size w w' := by
  have hB := Below.one w (funcObj f.nm f.ps f.R f.Fr C f.code.length cap)
  have bx := heap_alloc_new w (funcObj f.nm f.ps f.R f.Fr C f.code.length cap)
  have hC1 := hC.below hB
  have hA := fun W => awake9_any W
  have hF := fun W h => few9_no f hf C cap hl9 W h
  obtain ⟨N, hN⟩ : ∃ N, f.code.length = N := ⟨_, rfl⟩
  rw [hN] at hB bx hC1 hF ⊢
  simp only [funcObj, funcAgg] at hB bx hC1 hF ⊢
  obtain ⟨W, hW⟩ : ∃ W, w.alloc (.cells #[.string f.nm, .int .i64 f.ps, .int .i64 f.R, .int .i64 f.Fr, .slice C N cap] 24) = W := ⟨_, rfl⟩
  rw [hW] at bx hC1 hB
  have HC0 := Lib.hid hC1
  have HB0 := Lib.hid hB
  have HX0 := Lib.hid bx
  have hl0 := (Array.getElem?_eq_some_iff.1 bx).1
  have HAW := Lib.hid hA
  have c00 := cell_of_heap bx 0 _ rfl
  have c01 := cell_of_heap bx 1 _ rfl
  have c02 := cell_of_heap bx 2 _ rfl
  have c03 := cell_of_heap bx 3 _ rfl
  have c04 := cell_of_heap bx 4 _ rfl
  have HF := Lib.hid hF
  clear hf hN hC hC1 hB bx hF hA
  go_enter Try.func8, Try.ntmps8
  go_wp2_with fail
  refine (HF.out _ HC0.out).mono ?_
  rintro e w1 ⟨rfl, hb1⟩
  have kx1 := (hb1.block _ hl0).trans HX0.out
  have c10 := cell_of_heap kx1 0 _ rfl
  have c11 := cell_of_heap kx1 1 _ rfl
  have c12 := cell_of_heap kx1 2 _ rfl
  have c13 := cell_of_heap kx1 3 _ rfl
  have c14 := cell_of_heap kx1 4 _ rfl
  have hl1 := (Array.getElem?_eq_some_iff.1 kx1).1
  have HX1 := Lib.hid kx1
  have HC1 := Lib.hid (HC0.out.below hb1)
  have HB1 := Lib.hid (HB0.out.trans (hb1.mono HB0.out.size))
  clear kx1 hb1 c00 c01 c02 c03 c04
  go_wp2_with fail
  refine (HAW.out _).mono ?_
  rintro e w2 ⟨rfl, hb2⟩
  go_wp2
  go_returns
  exact ⟨rfl, HB1.out.trans (hb2.mono HB1.out.size)⟩
set_option maxRecDepth 1000000 in
set_option maxHeartbeats 8000000 in
theorem walk_bad (f : Fn7) (hf : Fw9 f) (hok : ¬ OkF f) (C : Option Addr) (cap : Nat) (hl9 : f.code.length ≤ 9223372036854775807) (w : World) (hC : RdI w C f.code) :
    Calls Try.prog 8 #[funcAgg f.nm f.ps f.R f.Fr C f.code.length cap] w fun e w' => e = .returned (.bool true) ∧ Below w.heap.size w w' := by
  have hB := Below.one w (funcObj f.nm f.ps f.R f.Fr C f.code.length cap)
  have bx := heap_alloc_new w (funcObj f.nm f.ps f.R f.Fr C f.code.length cap)
  have hC1 := hC.below hB
  have hA := fun W => awake9_any W
  have hF := fun W h => few9_yes f hf C cap hl9 W h
  have hR := fun W h => rr9_no f hok C cap W h
  obtain ⟨N, hN⟩ : ∃ N, f.code.length = N := ⟨_, rfl⟩
  rw [hN] at hB bx hC1 hF hR ⊢
  simp only [funcObj, funcAgg] at hB bx hC1 hF hR ⊢
  obtain ⟨W, hW⟩ : ∃ W, w.alloc (.cells #[.string f.nm, .int .i64 f.ps, .int .i64 f.R, .int .i64 f.Fr, .slice C N cap] 24) = W := ⟨_, rfl⟩
  rw [hW] at bx hC1 hB
  have HC0 := Lib.hid hC1
  have HB0 := Lib.hid hB
  have HX0 := Lib.hid bx
  have hl0 := (Array.getElem?_eq_some_iff.1 bx).1
  have HAW := Lib.hid hA
  have c00 := cell_of_heap bx 0 _ rfl
  have c01 := cell_of_heap bx 1 _ rfl
  have c02 := cell_of_heap bx 2 _ rfl
  have c03 := cell_of_heap bx 3 _ rfl
  have c04 := cell_of_heap bx 4 _ rfl
  have HF := Lib.hid hF
  have HR := Lib.hid hR
  clear hf hN hC hC1 hB bx hF hA hR hok
  go_enter Try.func8, Try.ntmps8
  go_wp2_with fail
  refine (HF.out _ HC0.out).mono ?_
  rintro e w1 ⟨rfl, hb1⟩
  have kx1 := (hb1.block _ hl0).trans HX0.out
  have c10 := cell_of_heap kx1 0 _ rfl
  have c11 := cell_of_heap kx1 1 _ rfl
  have c12 := cell_of_heap kx1 2 _ rfl
  have c13 := cell_of_heap kx1 3 _ rfl
  have c14 := cell_of_heap kx1 4 _ rfl
  have hl1 := (Array.getElem?_eq_some_iff.1 kx1).1
  have HX1 := Lib.hid kx1
  have HC1 := Lib.hid (HC0.out.below hb1)
  have HB1 := Lib.hid (HB0.out.trans (hb1.mono HB0.out.size))
  clear kx1 hb1 c00 c01 c02 c03 c04
  go_wp2_with fail
  refine (HR.out _ HC1.out).mono ?_
  rintro e w2 ⟨rfl, hb2⟩
  have kx2 := (hb2.block _ hl1).trans HX1.out
  have c20 := cell_of_heap kx2 0 _ rfl
  have c21 := cell_of_heap kx2 1 _ rfl
  have c22 := cell_of_heap kx2 2 _ rfl
  have c23 := cell_of_heap kx2 3 _ rfl
  have c24 := cell_of_heap kx2 4 _ rfl
  have hl2 := (Array.getElem?_eq_some_iff.1 kx2).1
  have HX2 := Lib.hid kx2
  have HC2 := Lib.hid (HC1.out.below hb2)
  have HB2 := Lib.hid (HB1.out.trans (hb2.mono HB1.out.size))
  clear kx2 hb2 c10 c11 c12 c13 c14
  go_wp2_with fail
  refine (HAW.out _).mono ?_
  rintro e w3 ⟨rfl, hb3⟩
  go_wp2
  go_returns
  exact ⟨rfl, HB2.out.trans (hb3.mono HB2.out.size)⟩
def WkA (f : Fn7) (N : Nat) (W : World) (s t : Value) (wx : World) : Prop := ∃ O A c rb, OrdIs f O ∧ s = .slice A O.length c ∧ RdN wx A (asI O) ∧ O.length ≤ c ∧ t = .slice (some ⟨rb, 0, none⟩) N N ∧ Pre gB 1 4 wx rb (bl N fun p => tb (R0 (Eg f.code) p)) ∧ Below W.heap.size W wx
set_option maxRecDepth 1000000 in
set_option maxHeartbeats 16000000 in
theorem walk_good (f : Fn7) (hf : Fw9 f) (hok : OkF f) (C : Option Addr) (cap : Nat) (hl9 : f.code.length ≤ 9223372036854775807) (w : World) (hC : RdI w C f.code) :
    Calls Try.prog 8 #[funcAgg f.nm f.ps f.R f.Fr C f.code.length cap] w fun e w' => e = .returned (.bool true) ∧ Below w.heap.size w w' := by
  have hB := Below.one w (funcObj f.nm f.ps f.R f.Fr C f.code.length cap)
  have bx := heap_alloc_new w (funcObj f.nm f.ps f.R f.Fr C f.code.length cap)
  have hC1 := hC.below hB
  have hA := fun W => awake9_any W
  have hF := fun W h => few9_yes f hf C cap hl9 W h
  have hRR := fun W h => rr9_yes f hok C cap W h
  have hO := fun W h => gOrder_yes f hok C cap W h
  have hR := fun W h => gReached_yes f hok C cap W h
  have hD := fun a b W h => gDominates_yes f hok a b C cap W h
  have hN2 := hok.len.2
  obtain ⟨N, hN⟩ : ∃ N, f.code.length = N := ⟨_, rfl⟩
  rw [hN] at hB bx hC1 hF hRR hO hR hD hN2 ⊢
  simp only [funcObj, funcAgg] at hB bx hC1 hF hRR hO hR hD hN2 ⊢
  obtain ⟨W, hW⟩ : ∃ W, w.alloc (.cells #[.string f.nm, .int .i64 f.ps, .int .i64 f.R, .int .i64 f.Fr, .slice C N cap] 24) = W := ⟨_, rfl⟩
  rw [hW] at bx hC1 hB
  have HC0 := Lib.hid hC1
  have HB0 := Lib.hid hB
  have HX0 := Lib.hid bx
  have hl0 := (Array.getElem?_eq_some_iff.1 bx).1
  have HAW := Lib.hid hA
  have c00 := cell_of_heap bx 0 _ rfl
  have c01 := cell_of_heap bx 1 _ rfl
  have c02 := cell_of_heap bx 2 _ rfl
  have c03 := cell_of_heap bx 3 _ rfl
  have c04 := cell_of_heap bx 4 _ rfl
  have HF := Lib.hid hF
  have HRR := Lib.hid hRR
  have HO := Lib.hid hO
  have HR := Lib.hid hR
  have HD := Lib.hid hD
  have HOK := Lib.hid hok
  have HN := Lib.hid hN
  clear hf hC hC1 hB bx hF hA hRR hO hR hD hok hl9 hN
  go_enter Try.func8, Try.ntmps8
  go_wp2_with fail
  refine (HF.out _ HC0.out).mono ?_
  rintro e w1 ⟨rfl, hb1⟩
  have kx1 := (hb1.block _ hl0).trans HX0.out
  have c10 := cell_of_heap kx1 0 _ rfl
  have c11 := cell_of_heap kx1 1 _ rfl
  have c12 := cell_of_heap kx1 2 _ rfl
  have c13 := cell_of_heap kx1 3 _ rfl
  have c14 := cell_of_heap kx1 4 _ rfl
  have hl1 := (Array.getElem?_eq_some_iff.1 kx1).1
  have HX1 := Lib.hid kx1
  have HC1 := Lib.hid (HC0.out.below hb1)
  have HB1 := Lib.hid (HB0.out.trans (hb1.mono HB0.out.size))
  clear kx1 hb1 c00 c01 c02 c03 c04
  go_wp2_with fail
  refine (HRR.out _ HC1.out).mono ?_
  rintro e w2 ⟨rfl, hb2⟩
  have kx2 := (hb2.block _ hl1).trans HX1.out
  have c20 := cell_of_heap kx2 0 _ rfl
  have c21 := cell_of_heap kx2 1 _ rfl
  have c22 := cell_of_heap kx2 2 _ rfl
  have c23 := cell_of_heap kx2 3 _ rfl
  have c24 := cell_of_heap kx2 4 _ rfl
  have hl2 := (Array.getElem?_eq_some_iff.1 kx2).1
  have HX2 := Lib.hid kx2
  have HC2 := Lib.hid (HC1.out.below hb2)
  have HB2 := Lib.hid (HB1.out.trans (hb2.mono HB1.out.size))
  clear kx2 hb2 c10 c11 c12 c13 c14
  go_upto_region 3 with fail
  go_cut [3, 4] from 21 to 24 (fun s t wx => WkA f N w2 s t wx)
  case first =>
    refine wp_region_noPanic ?_
    have hd0 : Below w2.heap.size w2 w2.drew := (Below.refl _ _).drew
    have HD0 := Lib.hid hd0
    clear hd0
    go_region_with (first
      | (go_at_call 13; refine (HO.out _ (HC2.out.below (by first | exact HD0.out | exact hbB))).mono ?_; rintro e wA ⟨⟨O, A, c, hO1, rfl, hO2, hO3, _⟩, hbA'⟩; have hbA : Below w2.heap.size w2 wA := (by first | exact HD0.out.trans hbA' | exact hbB.trans (hbA'.mono hbB.size)); have HO1 := Lib.hid hO1; have HO2 := Lib.hid hO2; have HO3 := Lib.hid hO3; have hxA := (hbA.block _ hl2).trans HX2.out; have h0 := cell_of_heap hxA 0 _ rfl; have h1 := cell_of_heap hxA 1 _ rfl; have h2 := cell_of_heap hxA 2 _ rfl; have h3 := cell_of_heap hxA 3 _ rfl; have h4 := cell_of_heap hxA 4 _ rfl; clear hxA hO1 hO2 hO3)
      | (go_at_call 12; refine (HR.out _ (HC2.out.below (by first | exact HD0.out | exact hbA))).mono ?_; rintro e wB ⟨⟨rb, rfl, _, hpr⟩, hbB'⟩; have hbB : Below w2.heap.size w2 wB := (by first | exact HD0.out.trans hbB' | exact hbA.trans (hbB'.mono hbA.size)); have HPR := Lib.hid hpr; have hxB := (hbB.block _ hl2).trans HX2.out; have h0 := cell_of_heap hxB 0 _ rfl; have h1 := cell_of_heap hxB 1 _ rfl; have h2 := cell_of_heap hxB 2 _ rfl; have h3 := cell_of_heap hxB 3 _ rfl; have h4 := cell_of_heap hxB 4 _ rfl; clear hxB hpr))
    all_goals
      have HQ : WkA f N w2 (.slice A O.length c) (.slice (some ⟨rb, 0, none⟩) N N) _ := ⟨O, A, c, rb, HO1.out, rfl, (by first | exact HO2.out.below hbB' | exact HO2.out), HO3.out, rfl, (by first | exact Pre.later HPR.out hbA' | exact HPR.out), (by first | exact hbB | exact hbA)⟩
      refine NoPanic.normal ?_
      go_wp2
      go_meet
      exact HQ
  case rest =>
    obtain ⟨O, A, c, rb, hOI, rfl, hrd, hlc, rfl, hrp, hbc⟩ := hcut
    have hOL := hOI.ordL HOK.out
    have hcn := cntR_all hOL
    rw [HN.out] at hcn
    have kxc := (hbc.block _ hl2).trans HX2.out
    have hlw := (Array.getElem?_eq_some_iff.1 kxc).1
    have HXC := Lib.hid kxc
    have HCC := Lib.hid (HC2.out.below hbc)
    have HBC := Lib.hid (HB2.out.trans (hbc.mono HB2.out.size))
    have HRD := Lib.hid hrd
    have HRP := Lib.hid hrp
    have HOL := Lib.hid hOL
    obtain ⟨m, hm⟩ : ∃ m, O.length = m := ⟨_, rfl⟩
    rw [hm] at hlc hcn ⊢
    have hmN : m ≤ N := by rw [hcn]; exact cntR_le f N
    have hm0 : 0 < m := by have := (List.getElem?_eq_some_iff.1 HOL.out.hd).1; omega
    have HM := Lib.hid hm
    have HCN := Lib.hid hcn
    obtain ⟨b0, o0, rfl, hb0, hc00⟩ := HRD.out 0 0 (by unfold asI; rw [List.getElem?_map, HOL.out.hd]; rfl)
    have HC00 := Lib.hid hc00
    clear kxc hbc hrd hrp hOL hOI hm hcn c20 c21 c22 c23 c24 hc00
    go_wp2
    go_loopw [5, 27] (fun V ix wr => ∃ k : Nat, k ≤ N ∧ ix = .int .i64 k ∧ V = .int .i64 (cntR f k : Int) ∧ wc = wr) (fun _ ix _ => N - (intOf ix).toNat)
    case atStart => exact ⟨0, by omega, rfl, rfl, rfl⟩
    case round =>
      obtain ⟨k, hk, rfl, rfl, rfl⟩ := hrel
      by_cases hlt : k < N
      · have hcr := PreB.cell HRP.out (bl_get (m := fun p => tb (R0 (Eg f.code) p)) hlt)
        have hki : (k : Int) < N := by omega
        have hcs := cntR_succ f k
        have hcl := cntR_le f k
        have hrbl := Pre.lt HRP.out
        cases hz : tb (R0 (Eg f.code) k) with
        | false =>
          rw [hz] at hcr hcs
          have HCS : Hid (cntR f (k + 1) = cntR f k) := Lib.hid (by simpa using hcs)
          clear hcs hz
          go_wp2
          exact ⟨⟨k + 1, by omega, by go_num, by rw [HCS.out], by simp⟩, by simp [intOf]; omega⟩
        | true =>
          rw [hz] at hcr hcs
          have HCS : Hid (cntR f (k + 1) = cntR f k + 1) := Lib.hid (by simpa using hcs)
          obtain ⟨q, hq⟩ : ∃ q, cntR f k = q := ⟨_, rfl⟩
          rw [hq] at hcl HCS ⊢
          clear hcs hz
          go_wp2
          exact ⟨⟨k + 1, by omega, by go_num, by rw [HCS.out]; go_num, by simp⟩, by simp [intOf]; omega⟩
      · obtain rfl : N = k := by omega
        rw [← HCN.out]
        go_wp2
        go_loopw [37] (fun ix wr => ∃ k : Nat, k ≤ m ∧ ix = .int .i64 k ∧ Below wc.heap.size wc wr) (fun ix _ => m - (intOf ix).toNat)
        case atStart => exact ⟨0, by omega, rfl, Below.refl _ _⟩
        case round =>
          obtain ⟨k, hk, rfl, hb⟩ := hrel
          have HBB := Lib.hid hb
          have kx := (hb.block _ hlw).trans HXC.out
          have HXR := Lib.hid kx
          have HCR := Lib.hid (HCC.out.below hb)
          have HRR2 := Lib.hid (HRD.out.below hb)
          have hsz := hb.size
          by_cases hlt : k < m
          · obtain ⟨a, ha⟩ : ∃ a, O[k]? = some a := ⟨_, List.getElem?_eq_getElem (by rw [HM.out]; exact hlt)⟩
            have ham := List.mem_of_getElem? ha
            have haN : a < N := by rw [← HN.out]; exact HOL.out.lt a ham
            have hpa := HOL.out.pl_at ha
            obtain ⟨bq, oq, e1, hbl, hc⟩ := HRR2.out k a (by unfold asI; rw [List.getElem?_map, ha]; rfl)
            injection e1 with e1
            injection e1 with e1 e2
            subst e1 e2
            have hcr := PreB.cell (Pre.later HRP.out hb) (bl_get (m := fun p => tb (R0 (Eg f.code) p)) haN)
            have har : R0 (Eg f.code) a := (HOL.out.mem a).1 ham
            rw [tb_true.2 har] at hcr
            have hai : (a : Int) < N := by omega
            have ha0 : ¬ ((a : Int) < 0) := by omega
            have hki : (k : Int) < m := by omega
            have hkc : (k : Int) ≤ c := by omega
            have hin : Hid (∀ W, RdN W (some ⟨b0, o0, none⟩) (asI O) → Calls Try.prog 26 #[.slice (some ⟨b0, o0, none⟩) k c, .int .i64 (a : Int)] W fun e w' => e = .returned (.bool false) ∧ W = w') := Lib.hid fun W h => by
              have hl : (asI (O.take k)).length = k := by unfold asI; rw [List.length_map, List.length_take]; have := HM.out; omega
              have h2 := In_any (some ⟨b0, o0, none⟩) (asI (O.take k)) c (a : Int) W (fun j n hj => h j n (by
                unfold asI at hj ⊢
                rw [List.getElem?_map] at hj ⊢
                have hjk : j < k := by
                  rcases Nat.lt_or_ge j k with h | h
                  · exact h
                  · rw [List.getElem?_eq_none (by rw [List.length_take]; omega)] at hj; cases hj
                rwa [List.getElem?_take_of_lt hjk] at hj)) (by omega)
              rw [hl] at h2
              have hno : (asI (O.take k)).contains (a : Int) = false := by
                rw [Bool.eq_false_iff]
                intro hh
                rw [List.contains_iff_mem] at hh
                unfold asI at hh
                obtain ⟨q, hq, e⟩ := List.mem_map.1 hh
                have : q = a := by omega
                subst this
                obtain ⟨j, hj⟩ := List.mem_iff_getElem?.1 hq
                have hjk : j < k := by have := (List.getElem?_eq_some_iff.1 hj).1; rw [List.length_take] at this; omega
                rw [List.getElem?_take_of_lt hjk] at hj
                have := HOL.out.pl_at hj
                omega
              rw [hno] at h2
              exact h2
            have HLT : Hid (∀ b ∈ O.take k, ¬ Dom (Eg f.code) a b) := Lib.hid fun b hbm => by
              obtain ⟨j, hj⟩ := List.mem_iff_getElem?.1 hbm
              have hjk : j < k := by have := (List.getElem?_eq_some_iff.1 hj).1; rw [List.length_take] at this; omega
              rw [List.getElem?_take_of_lt hjk] at hj
              exact dom_late HOL.out (List.mem_of_getElem? hj) (by have := HOL.out.pl_at hj; omega)
            clear hb kx ha ham hpa har
            go_wp2_with fail
            refine (hin.out _ HRR2.out).mono ?_
            rintro e w9 ⟨rfl, rfl⟩
            go_wp2
            refine wk2_any f C cap N wr w.heap.size a HCR.out HXR.out HD.out O (some ⟨b0, o0, none⟩) c k (by omega) (by have := HM.out; omega) HRR2.out HLT.out _ _ _ _ _ _ _ _ _ _ _ _ _ _ _ _ _ _ _ _ _ _ _ _ _ _ _ _ _ _ _ _ _ _ _ _ _ _ _ _ _ _ _ _ _ _ _ _ _ _ _ _ _ _ _ _ _ _ _ _ _ _ _ _ _ _ _ _ _ _ _ _ _ _ _ _ _ _ _ _ _ _ _ _ _ _ _ _ _ _ _ ?_
            intro z2 z11 z69 z70 z71 z72 z73 z74 z75 z76 w8 hb8
            have HB8 := Lib.hid (HBB.out.trans (hb8.mono hsz))
            clear hb8
            go_wp2
            exact ⟨⟨k + 1, by omega, by go_num, HB8.out⟩, by simp [intOf]; omega⟩
          · obtain rfl : m = k := by omega
            have hc0 : wr.cell? ⟨b0, o0, none⟩ = some (.int .i64 0) := (hb.cell (p := ⟨b0, o0, none⟩) hb0).trans (by simpa using HC00.out)
            have hmi : (0 : Int) < m := by omega
            have hb0r : b0 < wr.heap.size := Nat.lt_of_lt_of_le hb0 hsz
            clear hb kx
            go_wp2_with fail
            refine (HAW.out _).mono ?_
            rintro e w9 ⟨rfl, hb9⟩
            have hbb := HBC.out.trans (HBB.out.mono HBC.out.size)
            go_wp2
            go_returns
            exact ⟨rfl, hbb.trans (hb9.mono hbb.size)⟩
theorem GraphWalk_any (f : Fn7) (C : Option Addr) (cap : Nat) (hl9 : f.code.length ≤ 9223372036854775807) (w : World) (hC : RdI w C f.code) :
    Calls Try.prog 8 #[funcAgg f.nm f.ps f.R f.Fr C f.code.length cap] w fun e w' => e = .returned (.bool true) ∧ Below w.heap.size w w' := by
  by_cases hf : Fw9 f
  · by_cases hok : OkF f
    · exact walk_good f hf hok C cap hl9 w hC
    · exact walk_bad f hf hok C cap hl9 w hC
  · exact walk_few f hf C cap hl9 w hC
end Go.Proofs.Ytgdbkoncaojmoaa
