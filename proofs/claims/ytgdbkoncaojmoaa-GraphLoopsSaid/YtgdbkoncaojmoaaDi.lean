import Derived.Test.YtgdbkoncaojmoaaDh
/- graph.Above: the loop over the ones before; the loop over the order. -/
namespace Go.Proofs.Ytgdbkoncaojmoaa
open Go.RowKit Go.BigFrame

noncomputable def ab4 : Code := ((((Try.f19.body).map loopsOf).getD [])[2]?).getD .skip
noncomputable def ab6 : Code := ((loopsOf (inLoop ab4))[0]?).getD .skip
noncomputable def ab8 : Code := ((loopsOf (inLoop ab6))[0]?).getD .skip
/-- what stays in a pass -/
structure AbF (E : Nat → Nat → Prop) (O : List Nat) (N : Nat) : Prop where
  ord : Ord E fun n => O.idxOf n
  mem : ∀ n, R0 E n → n ∈ O ∧ n < N
set_option maxRecDepth 1000000 in
set_option maxHeartbeats 8000000 in
theorem ab8_any {E : Nat → Nat → Prop} (w : World) (pb xb mb ob N : Nat) (O : List Nat) (up : Nat → Option Nat) (hF : AbF E O N) (hM : MtS w pb xb mb ob N O up) (hT : Tree E (fun n => O.idxOf n) up) (hr : ∀ n, up n ≠ none → R0 E n)
    (L : List Nat) (A : Option Addr) (cap Ln : Nat) (hLn : L.length = Ln) (hLn2 : Ln ≤ 9000) (hin : ∀ n ∈ L, n < N) (hR : RdN w A (L.map fun n : Nat => (n : Int)))
    (x0 x1 x2 x3 x4 x5 x7 x8 x9 x11 x12 x13 x15 x16 x17 x18 x19 x20 x21 x22 x23 x24 x25 x26 x27 x28 x29 x30 x31 x32 x33 x34 x35 x36 x37 x38 x39 x40 x41 x42 x43 x44 x45 x46 x47 x48 x49 x50 x51 x52 x53 x54 x55 x56 x57 x58 x59 x60 x61 x62 x66 x67 x68 x69 x70 x71 x72 x73 x74 x75 x76 x77 x78 x79 x80 x81 x82 x83 x84 x85 x86 x87 x88 x89 x90 x91 x92 x93 x94 x95 : Value) (Q : Exit → Act → World → Prop)
    (hexit : ∀ (y16 y66 y67 y68 y69 y70 y71 y72 y73 y74 y75 y76 y77 y78 y79 y80 y81 : Value) (b : Option Nat), Best up L b → Q (.exit 8) ⟨(x0 :: x1 :: x2 :: x3 :: x4 :: x5 :: .pointer (some ⟨xb, 0, none⟩) :: x7 :: x8 :: x9 :: .func (.func 37) #[] #[.pointer (some ⟨pb, 0, none⟩), .pointer (some ⟨xb, 0, none⟩)] :: x11 :: x12 :: x13 :: .int .i64 (bestI b) :: x15 :: y16 :: x17 :: x18 :: x19 :: x20 :: x21 :: x22 :: x23 :: x24 :: x25 :: x26 :: x27 :: x28 :: x29 :: x30 :: x31 :: x32 :: x33 :: x34 :: x35 :: x36 :: x37 :: x38 :: x39 :: x40 :: x41 :: x42 :: x43 :: x44 :: x45 :: x46 :: x47 :: x48 :: x49 :: x50 :: x51 :: x52 :: x53 :: x54 :: x55 :: x56 :: x57 :: x58 :: x59 :: x60 :: x61 :: x62 :: .slice A Ln cap :: .int .i64 (Ln : Int) :: .int .i64 (Ln : Int) :: y66 :: y67 :: y68 :: y69 :: y70 :: y71 :: y72 :: y73 :: y74 :: y75 :: y76 :: y77 :: y78 :: y79 :: y80 :: y81 :: x82 :: x83 :: x84 :: x85 :: x86 :: x87 :: x88 :: x89 :: x90 :: x91 :: x92 :: x93 :: x94 :: x95 :: []).toArray, []⟩ w) :
    Code.wp Try.prog ab8 Q ⟨(x0 :: x1 :: x2 :: x3 :: x4 :: x5 :: .pointer (some ⟨xb, 0, none⟩) :: x7 :: x8 :: x9 :: .func (.func 37) #[] #[.pointer (some ⟨pb, 0, none⟩), .pointer (some ⟨xb, 0, none⟩)] :: x11 :: x12 :: x13 :: .int .i64 (-1) :: x15 :: x16 :: x17 :: x18 :: x19 :: x20 :: x21 :: x22 :: x23 :: x24 :: x25 :: x26 :: x27 :: x28 :: x29 :: x30 :: x31 :: x32 :: x33 :: x34 :: x35 :: x36 :: x37 :: x38 :: x39 :: x40 :: x41 :: x42 :: x43 :: x44 :: x45 :: x46 :: x47 :: x48 :: x49 :: x50 :: x51 :: x52 :: x53 :: x54 :: x55 :: x56 :: x57 :: x58 :: x59 :: x60 :: x61 :: x62 :: .slice A Ln cap :: .int .i64 (Ln : Int) :: .int .i64 0 :: x66 :: x67 :: x68 :: x69 :: x70 :: x71 :: x72 :: x73 :: x74 :: x75 :: x76 :: x77 :: x78 :: x79 :: x80 :: x81 :: x82 :: x83 :: x84 :: x85 :: x86 :: x87 :: x88 :: x89 :: x90 :: x91 :: x92 :: x93 :: x94 :: x95 :: []).toArray, []⟩ w := by
  conv => arg 2; whnf
  have HE := Lib.hid hexit
  have HLN := Lib.hid hLn
  have HIN := Lib.hid hin
  have HM := Lib.hid hM
  have HRD := Lib.hid hR
  have hxb := hM.xb
  have hobl := Pre.lt hM.pre
  have HMT := Lib.hid fun a b ha hb => meet_any (E := E) w pb xb mb ob N O up a b hM hT hF.ord hr hF.mem ha hb
  have H0 : Hid (Best up (L.take 0) none) := Lib.hid (fun p hp => by simp at hp)
  clear hexit hLn hin hM hR hT hr
  go_loopw [14, 65] (fun V ix wr => ∃ (k : Nat) (b : Option Nat), k ≤ Ln ∧ ix = .int .i64 k ∧ V = .int .i64 (bestI b) ∧ Best up (L.take k) b ∧ w = wr) (fun _ ix _ => Ln - (intOf ix).toNat)
  case atStart => exact ⟨0, none, by omega, rfl, rfl, H0.out, rfl⟩
  case round =>
    obtain ⟨k, b, hk, rfl, rfl, hb, rfl⟩ := hrel
    clear H0
    have HB := Lib.hid hb
    by_cases hlt : k < Ln
    · obtain ⟨p, hp⟩ : ∃ p, L[k]? = some p := ⟨_, List.getElem?_eq_getElem (by rw [HLN.out]; exact hlt)⟩
      have hpN := HIN.out p (List.mem_of_getElem? hp)
      obtain ⟨bb, oo, rfl, hbl, hc⟩ := HRD.out k p (by rw [List.getElem?_map, hp]; rfl)
      have hcp := PreN.cell HM.out.pre (upI_get hpN)
      have HP := Lib.hid hp
      have hpi : (p : Int) < N := by omega
      have hki : (k : Int) < Ln := by omega
      have HTK := Lib.hid (take_next hp)
      clear hp hb
      cases hu : up p with
      | none =>
        rw [hu] at hcp
        have HB2 : Hid (Best up (L.take (k + 1)) b) := Lib.hid (by rw [HTK.out]; exact HB.out.skip hu)
        simp only [bestI] at hcp
        clear hu
        go_wp2
        exact ⟨⟨k + 1, b, by omega, by go_num, rfl, HB2.out, by simp⟩, by simp [intOf]; omega⟩
      | some q =>
        rw [hu] at hcp
        simp only [bestI] at hcp
        have hq : ¬ ((q : Int) < 0) := by omega
        have hup : up p ≠ none := by rw [hu]; simp
        have HUP := Lib.hid hup
        clear hu hup
        cases b with
        | none =>
          have HB2 : Hid (Best up (L.take (k + 1)) (some p)) := Lib.hid (by rw [HTK.out]; exact HB.out.first HUP.out)
          simp only [bestI]
          go_wp2
          exact ⟨⟨k + 1, some p, by omega, by go_num, rfl, HB2.out, by simp⟩, by simp [intOf]; omega⟩
        | some m =>
          have hm : ¬ ((m : Int) < 0) := by omega
          have HMM := Lib.hid (HMT.out p m HUP.out HB.out.1)
          simp only [bestI]
          go_wp2_with (first
            | (refine HMM.out.mono ?_; rintro e w3 ⟨⟨r, rfl, hr1, hr2⟩, rfl⟩; have HR1 := Lib.hid hr1; have HR2 := Lib.hid hr2; clear hr1 hr2))
          exact ⟨⟨k + 1, some r, by omega, by go_num, rfl, by rw [HTK.out]; exact HB.out.more HUP.out HR1.out HR2.out, by simp⟩, by simp [intOf]; omega⟩
    · obtain rfl : k = Ln := by omega
      have HX := fun (y16 y66 y67 y68 y69 y70 y71 y72 y73 y74 y75 y76 y77 y78 y79 y80 y81 : Value) => Lib.hid (HE.out y16 y66 y67 y68 y69 y70 y71 y72 y73 y74 y75 y76 y77 y78 y79 y80 y81 b (by have h := HB.out; rw [← HLN.out, List.take_length] at h; exact h))
      clear hb HE
      go_wp2
      exact (HX _ _ _ _ _ _ _ _ _ _ _ _ _ _ _ _ _).out
theorem upN_is (N : Nat) (P : Nat → Prop) : ∃ L : List Nat, upL N P = L.map (fun n : Nat => (n : Int)) ∧ ∀ p, p ∈ L ↔ (p < N ∧ P p) :=
  ⟨(List.range N).filter fun n => tb (P n), rfl, fun p => by rw [List.mem_filter, List.mem_range, tb_true]⟩
/-- memory of the passes: all but one block stay -/
structure AbM (w1 w0 wr : World) (ob N : Nat) (up : Nat → Option Nat) : Prop where
  bel : Below w1.heap.size w1 wr
  oth : ∀ b, b ≠ ob → wr.heap[b]? = w0.heap[b]?
  pre : Pre gN 1 3 wr ob (upI N up)
  le : w1.heap.size ≤ ob
theorem AbM.set {w1 w0 wr : World} {ob N n m : Nat} {up : Nat → Option Nat} (h : AbM w1 w0 wr ob N up) (hn : n < N) : AbM w1 w0 (wr.setCell ⟨ob, n, none⟩ (.int .i64 (m : Int))) ob N (setU up n m) :=
  ⟨h.bel.setCell h.le _, fun b hb => (heap_setCell_other wr ⟨ob, n, none⟩ b _ hb).trans (h.oth b hb), by have h1 := PreN.set h.pre (j := n) (by simp [upI, hn]) (m : Int); rw [upI_set] at h1; exact h1, h.le⟩
theorem AbM.mts {w1 w0 wr : World} {pb xb mb ob N : Nat} {O : List Nat} {up up0 : Nat → Option Nat} (h : AbM w1 w0 wr ob N up) (hM : MtS w0 pb xb mb ob N O up0) (hp : pb ≠ ob) (hx : xb ≠ ob) (hm : mb ≠ ob) : MtS wr pb xb mb ob N O up :=
  ⟨(World.cell?_of_block (h.oth pb hp)).trans hM.pb, (World.cell?_of_block (h.oth xb hx)).trans hM.xb, hM.mp.of_block (h.oth mb hm), h.pre⟩
/-- has the pass changed anything? -/
def Cg (E : Nat → Nat → Prop) (O : List Nat) (N : Nat) (up0 up : Nat → Option Nat) (ch : Bool) (t : Nat) : Prop :=
  (ch = false ∧ up = up0 ∧ ∀ n, R0 E n → n ≠ 0 → O.idxOf n < t → ∃ m, up n = some m ∧ Meet E up n m) ∨ (ch = true ∧ sumW (fun n => O.idxOf n) N up N < sumW (fun n => O.idxOf n) N up0 N)
theorem Cg.start {E : Nat → Nat → Prop} {O : List Nat} {N : Nat} {up : Nat → Option Nat} (ho : Ord E fun n => O.idxOf n) : Cg E O N up up false 1 :=
  Or.inl ⟨rfl, rfl, fun n hn h0 hlt => absurd (ho.inj n 0 hn R0.zero (by have h1 := ho.z; show O.idxOf n = O.idxOf 0; have h2 : O.idxOf 0 = 0 := h1; omega)) h0⟩
theorem Cg.same {E : Nat → Nat → Prop} {O : List Nat} {N t : Nat} {up0 up : Nat → Option Nat} {ch : Bool} {n m : Nat} (h : Cg E O N up0 up ch t) (ho : Ord E fun n => O.idxOf n) (hr : R0 E n) (ht : O.idxOf n = t) (hu : up n = some m) (hm : Meet E up n m) : Cg E O N up0 up ch (t + 1) := by
  rcases h with ⟨h1, h2, h3⟩ | h
  · refine Or.inl ⟨h1, h2, fun x hx h0 hlt => ?_⟩
    by_cases e : O.idxOf x < t
    · exact h3 x hx h0 e
    · have : x = n := ho.inj x n hx hr (show O.idxOf x = O.idxOf n by omega)
      subst this
      exact ⟨m, hu, hm⟩
  · exact Or.inr h
theorem Cg.new {E : Nat → Nat → Prop} {O : List Nat} {N t t' : Nat} {up0 up : Nat → Option Nat} {ch : Bool} {n m : Nat} (h : Cg E O N up0 up ch t) (hl : sumW (fun n => O.idxOf n) N (setU up n m) N < sumW (fun n => O.idxOf n) N up N) : Cg E O N up0 (setU up n m) true t' := by
  rcases h with ⟨_, h2, _⟩ | ⟨_, h2⟩
  · subst h2; exact Or.inr ⟨rfl, hl⟩
  · exact Or.inr ⟨rfl, Nat.lt_trans hl h2⟩
set_option maxRecDepth 1000000 in
set_option maxHeartbeats 8000000 in
theorem ab6_any {E : Nat → Nat → Prop} (w1 w0 wr0 : World) (pb xb mb ob rb N : Nat) (O : List Nat) (up0 upz : Nat → Option Nat) (hF : AbF E O N) (hN : N ≤ 8192) (hM : MtS w0 pb xb mb ob N O upz) (hp : pb ≠ ob) (hx : xb ≠ ob) (hm : mb ≠ ob) (hrb : rb < w1.heap.size)
    (hA : AbM w1 w0 wr0 ob N up0) (hP : Psd E (fun n => O.idxOf n) up0 1) (hrows : RowsR w1 rb N fun n => upL N fun q => E q n) (hE : ∀ p q, E p q → p < N) (hOR : ∀ n ∈ O, R0 E n) (hOat : ∀ (k : Nat) n, O[k]? = some n → O.idxOf n = k) (hO0 : O[0]? = some 0)
    (A1 : Option Addr) (cap1 L1 : Nat) (hL1 : O.length = L1 + 1) (hON : O.length ≤ N) (hR : RdN w1 A1 (O.tail.map fun n : Nat => (n : Int)))
    (x0 x1 x2 x3 x5 x7 x8 x9 x12 x13 x14 x15 x16 x17 x18 x19 x20 x21 x22 x23 x24 x25 x26 x27 x28 x29 x30 x31 x32 x33 x34 x35 x36 x37 x38 x39 x40 x41 x42 x43 x44 x45 x46 x47 x48 x49 x50 x51 x52 x53 x57 x58 x59 x60 x61 x62 x63 x64 x65 x66 x67 x68 x69 x70 x71 x72 x73 x74 x75 x76 x77 x78 x79 x80 x81 x82 x83 x84 x85 x86 x87 x88 x89 x90 x91 x92 x93 x94 x95 : Value) (Q : Exit → Act → World → Prop)
    (hexit : ∀ (y13 y14 y16 y57 y58 y59 y60 y61 y62 y63 y64 y65 y66 y67 y68 y69 y70 y71 y72 y73 y74 y75 y76 y77 y78 y79 y80 y81 y82 y83 y84 y85 y86 y87 y88 y89 y90 y91 y92 : Value) (w' : World) (up : Nat → Option Nat) (ch : Bool), AbM w1 w0 w' ob N up → Psd E (fun n => O.idxOf n) up (L1 + 1) → Cg E O N up0 up ch (L1 + 1) → Q (.exit 6) ⟨(x0 :: x1 :: x2 :: x3 :: .slice (some ⟨rb, 0, none⟩) N N :: x5 :: .pointer (some ⟨xb, 0, none⟩) :: x7 :: x8 :: x9 :: .func (.func 37) #[] #[.pointer (some ⟨pb, 0, none⟩), .pointer (some ⟨xb, 0, none⟩)] :: .bool ch :: x12 :: y13 :: y14 :: x15 :: y16 :: x17 :: x18 :: x19 :: x20 :: x21 :: x22 :: x23 :: x24 :: x25 :: x26 :: x27 :: x28 :: x29 :: x30 :: x31 :: x32 :: x33 :: x34 :: x35 :: x36 :: x37 :: x38 :: x39 :: x40 :: x41 :: x42 :: x43 :: x44 :: x45 :: x46 :: x47 :: x48 :: x49 :: x50 :: x51 :: x52 :: x53 :: .slice A1 L1 cap1 :: .int .i64 (L1 : Int) :: .int .i64 (L1 : Int) :: y57 :: y58 :: y59 :: y60 :: y61 :: y62 :: y63 :: y64 :: y65 :: y66 :: y67 :: y68 :: y69 :: y70 :: y71 :: y72 :: y73 :: y74 :: y75 :: y76 :: y77 :: y78 :: y79 :: y80 :: y81 :: y82 :: y83 :: y84 :: y85 :: y86 :: y87 :: y88 :: y89 :: y90 :: y91 :: y92 :: x93 :: x94 :: x95 :: []).toArray, []⟩ w') :
    Code.wp Try.prog ab6 Q ⟨(x0 :: x1 :: x2 :: x3 :: .slice (some ⟨rb, 0, none⟩) N N :: x5 :: .pointer (some ⟨xb, 0, none⟩) :: x7 :: x8 :: x9 :: .func (.func 37) #[] #[.pointer (some ⟨pb, 0, none⟩), .pointer (some ⟨xb, 0, none⟩)] :: .bool false :: x12 :: x13 :: x14 :: x15 :: x16 :: x17 :: x18 :: x19 :: x20 :: x21 :: x22 :: x23 :: x24 :: x25 :: x26 :: x27 :: x28 :: x29 :: x30 :: x31 :: x32 :: x33 :: x34 :: x35 :: x36 :: x37 :: x38 :: x39 :: x40 :: x41 :: x42 :: x43 :: x44 :: x45 :: x46 :: x47 :: x48 :: x49 :: x50 :: x51 :: x52 :: x53 :: .slice A1 L1 cap1 :: .int .i64 (L1 : Int) :: .int .i64 0 :: x57 :: x58 :: x59 :: x60 :: x61 :: x62 :: x63 :: x64 :: x65 :: x66 :: x67 :: x68 :: x69 :: x70 :: x71 :: x72 :: x73 :: x74 :: x75 :: x76 :: x77 :: x78 :: x79 :: x80 :: x81 :: x82 :: x83 :: x84 :: x85 :: x86 :: x87 :: x88 :: x89 :: x90 :: x91 :: x92 :: x93 :: x94 :: x95 :: []).toArray, []⟩ wr0 := by
  conv => arg 2; whnf
  have HE := Lib.hid hexit
  have HL1 := Lib.hid hL1
  have HF := Lib.hid hF
  have HM := Lib.hid hM
  have HROWS := Lib.hid hrows
  have HEE := Lib.hid hE
  have HOR := Lib.hid hOR
  have HOA := Lib.hid hOat
  have HO0 := Lib.hid hO0
  have HRD := Lib.hid hR
  have HON := Lib.hid hON
  have hL1N : L1 ≤ 8192 := by omega
  have HPX := Lib.hid (show pb ≠ ob ∧ xb ≠ ob ∧ mb ≠ ob from ⟨hp, hx, hm⟩)
  have H0 := Lib.hid (show AbM w1 w0 wr0 ob N up0 ∧ Psd E (fun n => O.idxOf n) up0 1 ∧ Cg E O N up0 up0 false 1 from ⟨hA, hP, Cg.start hF.ord⟩)
  clear hexit hL1 hF hM hrows hE hOR hOat hO0 hR hA hP hON hp hx hm
  go_loopw [11, 56] (fun V ix wr => ∃ (k : Nat) (up : Nat → Option Nat) (ch : Bool), k ≤ L1 ∧ ix = .int .i64 k ∧ V = .bool ch ∧ AbM w1 w0 wr ob N up ∧ Psd E (fun n => O.idxOf n) up (k + 1) ∧ Cg E O N up0 up ch (k + 1)) (fun _ ix _ => L1 - (intOf ix).toNat)
  case atStart => exact ⟨0, up0, false, by omega, rfl, rfl, H0.out.1, H0.out.2.1, H0.out.2.2⟩
  case round =>
    obtain ⟨k, up, ch, hk, rfl, rfl, ha, hpsd, hcg⟩ := hrel
    clear H0
    have HA := Lib.hid ha
    have HP := Lib.hid hpsd
    have HC := Lib.hid hcg
    by_cases hlt : k < L1
    · obtain ⟨n, hn⟩ : ∃ n, O[k + 1]? = some n := ⟨_, List.getElem?_eq_getElem (by rw [HL1.out]; omega)⟩
      have hnm := List.mem_of_getElem? hn
      have hnr := HOR.out n hnm
      have hnN := (HF.out.mem n hnr).2
      have hpl := HOA.out (k + 1) n hn
      have hn0 : n ≠ 0 := fun e => by
        have := HOA.out 0 0 HO0.out
        rw [e] at hpl
        omega
      have hrd := HRD.out.below ha.bel
      obtain ⟨bb, oo, rfl, hbl, hc⟩ := hrd k n (by rw [List.getElem?_map, List.getElem?_tail, hn]; rfl)
      have hrr := HROWS.out.below ha.bel
      obtain ⟨A, c, hcr, hrw⟩ := hrr n hnN
      obtain ⟨L, hLe, hLm⟩ := upN_is N fun q => E q n
      simp only at hcr hrw
      rw [hLe] at hcr hrw
      rw [List.length_map] at hcr
      obtain ⟨Ln, hLn⟩ : ∃ Ln, L.length = Ln := ⟨_, rfl⟩
      have hLn2 : Ln ≤ 9000 := by
        have h := congrArg List.length hLe
        rw [List.length_map, hLn] at h
        have := upL_len N fun q => E q n
        omega
      rw [hLn] at hcr
      have hmts := ha.mts HM.out HPX.out.1 HPX.out.2.1 HPX.out.2.2
      have hrbl : rb < wr.heap.size := Nat.lt_of_lt_of_le hrb ha.bel.size
      have HMTS := Lib.hid hmts
      have HRW := Lib.hid hrw
      have HLM := Lib.hid hLm
      have HLn := Lib.hid hLn
      have HNR := Lib.hid hnr
      have HPL := Lib.hid hpl
      have HN0 := Lib.hid hn0
      have hni : (n : Int) < N := by omega
      have hki : (k : Int) < L1 := by omega
      have hxb := hmts.xb
      have hcn := PreN.cell ha.pre (upI_get hnN)
      have hfz := Pre.free ha.pre n
      have hobl := Pre.lt ha.pre
      clear ha hpsd hcg hn hnm hnr hpl hn0 hrd hrr hrw hLe hLm hLn hmts
      go_wp2
      refine ab8_any wr pb xb mb ob N O up HF.out HMTS.out HP.out.tr HP.out.r L A c Ln HLn.out hLn2 (fun q hq => ((HLM.out q).1 hq).1) HRW.out _ _ _ _ _ _ _ _ _ _ _ _ _ _ _ _ _ _ _ _ _ _ _ _ _ _ _ _ _ _ _ _ _ _ _ _ _ _ _ _ _ _ _ _ _ _ _ _ _ _ _ _ _ _ _ _ _ _ _ _ _ _ _ _ _ _ _ _ _ _ _ _ _ _ _ _ _ _ _ _ _ _ _ _ _ _ _ _ _ _ _ ?_
      intro z16 z66 z67 z68 z69 z70 z71 z72 z73 z74 z75 z76 z77 z78 z79 z80 z81 b hb
      obtain ⟨m, hbm, hme⟩ : ∃ m, b = some m ∧ Meet E up n m := by
        cases b with
        | none =>
          obtain ⟨p1, hp1, he1, hl1⟩ := HF.out.ord.par n HNR.out HN0.out
          have hl1 : O.idxOf p1 < O.idxOf n := hl1
          exact absurd (hb p1 ((HLM.out p1).2 ⟨HEE.out p1 n he1, he1⟩)) (HP.out.seen p1 hp1 (by have := HPL.out; show O.idxOf p1 < k + 1; omega))
        | some m => exact ⟨m, rfl, hb.meet fun q => ⟨fun g => ((HLM.out q).1 g).2, fun g => (HLM.out q).2 ⟨HEE.out q n g, g⟩⟩⟩
      subst hbm
      have HME := Lib.hid hme
      simp only [bestI]
      by_cases hu : up n = some m
      · rw [hu] at hcn
        simp only [bestI] at hcn
        have HU := Lib.hid hu
        clear hu hb hme
        go_wp2
        exact ⟨⟨k + 1, up, ch, by omega, by go_num, rfl, HA.out, HP.out.skip HF.out.ord HN0.out HNR.out HPL.out HME.out HU.out, HC.out.same HF.out.ord HNR.out HPL.out HU.out HME.out⟩, by simp [intOf]; omega⟩
      · have hne : ¬ (bestI (up n) = (m : Int)) := fun e => hu (bestI_inj (b := some m) e)
        have HU := Lib.hid hu
        obtain ⟨v, hv⟩ : ∃ v, bestI (up n) = v := ⟨_, rfl⟩
        rw [hv] at hcn hne
        clear hu hb hme hv
        go_wp2
        have hmN : ∀ p, R0 E p → O.idxOf p ≤ N := fun p _ => Nat.le_trans List.idxOf_le_length HON.out
        exact ⟨⟨k + 1, setU up n m, true, by omega, by go_num, rfl, HA.out.set hnN, HP.out.next HF.out.ord HN0.out HNR.out HPL.out HME.out, HC.out.new (HP.out.less HF.out.ord hmN HN0.out HNR.out HPL.out hnN HME.out HU.out)⟩, by simp [intOf]; omega⟩
    · obtain rfl : k = L1 := by omega
      have HX := fun (y13 y14 y16 y57 y58 y59 y60 y61 y62 y63 y64 y65 y66 y67 y68 y69 y70 y71 y72 y73 y74 y75 y76 y77 y78 y79 y80 y81 y82 y83 y84 y85 y86 y87 y88 y89 y90 y91 y92 : Value) => Lib.hid (HE.out y13 y14 y16 y57 y58 y59 y60 y61 y62 y63 y64 y65 y66 y67 y68 y69 y70 y71 y72 y73 y74 y75 y76 y77 y78 y79 y80 y81 y82 y83 y84 y85 y86 y87 y88 y89 y90 y91 y92 wr up ch ha hpsd hcg)
      clear ha hpsd hcg HE
      go_wp2
      exact (HX _ _ _ _ _ _ _ _ _ _ _ _ _ _ _ _ _ _ _ _ _ _ _ _ _ _ _ _ _ _ _ _ _ _ _ _ _ _ _).out
end Go.Proofs.Ytgdbkoncaojmoaa
