import Derived.Test.YtaofdbboalcceaaGg
/- flow.Fold: its loop, by itself. -/
namespace Go.Proofs.Ytaofdbboalcceaa
open Go.RowKit Go.BigFrame

theorem PreI.cells {W : World} {b : Nat} {l : List Ins} (h : PreI W b l) {p : Nat} {i : Ins} (hp : l[p]? = some i) : W.cell? ⟨b, p * 15, none⟩ = some (.int .i64 i.kind) ∧ W.cell? ⟨b, p * 15 + 1, none⟩ = some (.int .i64 i.op) ∧ W.cell? ⟨b, p * 15 + 2, none⟩ = some (.int .i64 i.dst) ∧ W.cell? ⟨b, p * 15 + 3, none⟩ = some (.int .i64 i.a) ∧ W.cell? ⟨b, p * 15 + 4, none⟩ = some (.int .i64 i.b) ∧ W.cell? ⟨b, p * 15 + 5, none⟩ = some (.int .i64 i.n) ∧ W.cell? ⟨b, p * 15 + 6, none⟩ = some (.string i.text) ∧ W.cell? ⟨b, p * 15 + 7, none⟩ = some (.int .i64 i.r0) ∧ W.cell? ⟨b, p * 15 + 8, none⟩ = some (.int .i64 i.r1) ∧ W.cell? ⟨b, p * 15 + 9, none⟩ = some (.int .i64 i.r2) ∧ W.cell? ⟨b, p * 15 + 10, none⟩ = some (.int .i64 i.r3) ∧ W.cell? ⟨b, p * 15 + 11, none⟩ = some (.int .i64 i.r4) ∧ W.cell? ⟨b, p * 15 + 12, none⟩ = some (.int .i64 i.r5) ∧ W.cell? ⟨b, p * 15 + 13, none⟩ = some (.int .i64 i.to_) ∧ W.cell? ⟨b, p * 15 + 14, none⟩ = some (.int .i64 i.els) :=
  ⟨Pre.cell h hp (k := 0) (by omega) rfl, Pre.cell h hp (k := 1) (by omega) rfl, Pre.cell h hp (k := 2) (by omega) rfl, Pre.cell h hp (k := 3) (by omega) rfl, Pre.cell h hp (k := 4) (by omega) rfl, Pre.cell h hp (k := 5) (by omega) rfl, Pre.cell h hp (k := 6) (by omega) rfl, Pre.cell h hp (k := 7) (by omega) rfl, Pre.cell h hp (k := 8) (by omega) rfl, Pre.cell h hp (k := 9) (by omega) rfl, Pre.cell h hp (k := 10) (by omega) rfl, Pre.cell h hp (k := 11) (by omega) rfl, Pre.cell h hp (k := 12) (by omega) rfl, Pre.cell h hp (k := 13) (by omega) rfl, Pre.cell h hp (k := 14) (by omega) rfl⟩
noncomputable def foldLoop : Code := ((((Try.f30.body).map loopsOf).getD [])[0]?).getD .skip
set_option maxRecDepth 1000000 in
set_option maxHeartbeats 8000000 in
theorem foldRound_stay (f : Fn7) (M : List (List Vl)) (L Rn ob cb B0 p : Nat) (pb : Nat → Nat) (hpl : p < f.code.length) (hL : f.code.length = L) (hL8 : L ≤ 8192) (hR4 : Rn ≤ 4096) (wr : World)
    (y4 : wr.cell? ⟨B0, 4, none⟩ = some (.slice (some ⟨cb, 0, none⟩) L L)) (hd : wr.cell? ⟨ob, p, none⟩ = some (.slice (some ⟨pb p, 0, none⟩) Rn Rn)) (hpv : PreV wr (pb p) (row M p)) (hvl : (row M p).length = Rn) (hC : PreI wr cb (foldTo f M p)) (hok : Ok (insAt f.code p) (Rn : Int) f.Fr L)
    (x0 x2 x3 x4 x6 x7 x8 x9 x10 x11 x12 x13 x14 x15 x16 x17 x18 x19 x23 x24 x25 x26 x27 x28 x29 x30 x31 x32 x33 x34 x35 x36 x37 x38 x39 x40 x41 x42 x43 x44 x45 x46 x47 x48 x49 x50 x51 x52 x53 x54 x55 x56 x57 x58 x59 x60 x61 x62 x63 x64 x65 x66 x67 x68 x69 x70 x71 x72 x73 x74 x75 x76 x77 x78 x79 x80 x81 x82 x83 x84 x85 x86 : Value) (K : Act → World → Prop) (Q : Exit → Act → World → Prop)
    (hK : ∀ (y6 y7 y8 y9 y10 y11 y12 y23 y24 y25 y26 y27 y28 y29 y30 y31 y32 y33 y34 y35 y36 y37 y38 y39 y40 y41 y42 y43 y44 y45 y46 y47 y48 y49 y50 y51 y52 y53 y54 y55 y56 y57 y58 y59 y60 y61 y62 y63 y64 y65 y66 y67 y68 y69 y70 y71 y72 y73 y74 y75 y76 y77 y78 y79 y80 y81 y82 y83 y84 : Value) (w' : World), Below cb wr w' → PreI w' cb (foldTo f M (p + 1)) → K ⟨(x0 :: .pointer (some ⟨B0, 0, none⟩) :: x2 :: x3 :: x4 :: .int .i64 (foldN f M (p + 1) : Int) :: y6 :: y7 :: y8 :: y9 :: y10 :: y11 :: y12 :: x13 :: x14 :: x15 :: x16 :: x17 :: x18 :: x19 :: .slice (some ⟨ob, 0, none⟩) L L :: .int .i64 (L : Int) :: .int .i64 ((p : Int) + 1) :: y23 :: y24 :: y25 :: y26 :: y27 :: y28 :: y29 :: y30 :: y31 :: y32 :: y33 :: y34 :: y35 :: y36 :: y37 :: y38 :: y39 :: y40 :: y41 :: y42 :: y43 :: y44 :: y45 :: y46 :: y47 :: y48 :: y49 :: y50 :: y51 :: y52 :: y53 :: y54 :: y55 :: y56 :: y57 :: y58 :: y59 :: y60 :: y61 :: y62 :: y63 :: y64 :: y65 :: y66 :: y67 :: y68 :: y69 :: y70 :: y71 :: y72 :: y73 :: y74 :: y75 :: y76 :: y77 :: y78 :: y79 :: y80 :: y81 :: y82 :: y83 :: y84 :: x85 :: x86 :: []).toArray, []⟩ w')
    (hkk : ¬ ((insAt f.code p).kind = 4 ∨ (insAt f.code p).kind = 2 ∨ (insAt f.code p).kind = 3) ∧ (insAt f.code p).kind ≠ 12) :
    Code.wp Try.prog (inLoop foldLoop) (Exit.then K Q) ⟨(x0 :: .pointer (some ⟨B0, 0, none⟩) :: x2 :: x3 :: x4 :: .int .i64 (foldN f M p : Int) :: x6 :: x7 :: x8 :: x9 :: x10 :: x11 :: x12 :: x13 :: x14 :: x15 :: x16 :: x17 :: x18 :: x19 :: .slice (some ⟨ob, 0, none⟩) L L :: .int .i64 (L : Int) :: .int .i64 (p : Int) :: x23 :: x24 :: x25 :: x26 :: x27 :: x28 :: x29 :: x30 :: x31 :: x32 :: x33 :: x34 :: x35 :: x36 :: x37 :: x38 :: x39 :: x40 :: x41 :: x42 :: x43 :: x44 :: x45 :: x46 :: x47 :: x48 :: x49 :: x50 :: x51 :: x52 :: x53 :: x54 :: x55 :: x56 :: x57 :: x58 :: x59 :: x60 :: x61 :: x62 :: x63 :: x64 :: x65 :: x66 :: x67 :: x68 :: x69 :: x70 :: x71 :: x72 :: x73 :: x74 :: x75 :: x76 :: x77 :: x78 :: x79 :: x80 :: x81 :: x82 :: x83 :: x84 :: x85 :: x86 :: []).toArray, []⟩ wr := by
  conv => arg 2; whnf
  have hlt : p < L := by omega
  obtain ⟨c0, c1, c2, c3, c4, c5, c6, c7, c8, c9, c10, c11, c12, c13, c14⟩ := PreI.cells hC (foldTo_at hpl)
  have hcl := Pre.lt hC
  have hyl := World.block_lt_of_cell? wr ⟨B0, 4, none⟩ y4
  have hol := World.block_lt_of_cell? wr ⟨ob, p, none⟩ hd
  have hfn := foldN_le f M p
  have HT := Lib.hid (foldTo_set (M := M) hpl)
  have HSM := Lib.hid (foldTo_same (M := M) hpl)
  have HTL := Lib.hid (foldTo_len (f := f) (M := M) (p := p) (by omega))
  have HFN : Hid (foldN f M (p + 1) = foldN f M p + (if foldI (insAt f.code p) p (row M p) = insAt f.code p then 0 else 1)) := Lib.hid rfl
  have HC := Lib.hid hC
  have HV := Lib.hid hvl
  have HOK := Lib.hid hok
  have HPV := Lib.hid hpv
  have HL := Lib.hid hL
  generalize insAt f.code p = i at *
  generalize row M p = v at *
  have hbi := heap_alloc_new wr i.obj
  have hBi := Below.one wr i.obj
  obtain ⟨k, op, dst, a, b, n, text, r0, r1, r2, r3, r4, r5, to_, els⟩ := i
  simp only at c0 c1 c2 c3 c4 c5 c6 c7 c8 c9 c10 c11 c12 c13 c14 hkk
  simp only [Ins.obj] at hbi hBi
  clear hvl hok hC hpl hL
  have hct := ContainsV_any (pb p) Rn v Rn HV.out hR4 (wr.alloc (.cells #[.int .i64 k, .int .i64 op, .int .i64 dst, .int .i64 a, .int .i64 b, .int .i64 n, .string text, .int .i64 r0, .int .i64 r1, .int .i64 r2, .int .i64 r3, .int .i64 r4, .int .i64 r5, .int .i64 to_, .int .i64 els] 38)) (Pre.later HPV.out hBi)
  have hne := fun (x : Ins) W => neq_ins x ⟨k, op, dst, a, b, n, text, r0, r1, r2, r3, r4, r5, to_, els⟩ W
  have HFO : Hid (v.any (fun x => x.k == 0) = true ∨ (¬ (k = 4 ∨ k = 2 ∨ k = 3) ∧ k ≠ 12) → foldI ⟨k, op, dst, a, b, n, text, r0, r1, r2, r3, r4, r5, to_, els⟩ p v = ⟨k, op, dst, a, b, n, text, r0, r1, r2, r3, r4, r5, to_, els⟩) := Lib.hid fun h => by
    unfold foldI
    rcases h with h | ⟨h, h'⟩
    · rw [if_pos h]
    · by_cases hc : v.any (fun x => x.k == 0) = true
      · rw [if_pos hc]
      · rw [if_neg hc, if_neg h, if_neg h']
  have HSTAY : Hid (foldI ⟨k, op, dst, a, b, n, text, r0, r1, r2, r3, r4, r5, to_, els⟩ p v = ⟨k, op, dst, a, b, n, text, r0, r1, r2, r3, r4, r5, to_, els⟩ → foldTo f M (p + 1) = foldTo f M p ∧ foldN f M (p + 1) = foldN f M p) := Lib.hid fun h => ⟨HSM.out h, by rw [HFN.out, if_pos h]; rfl⟩
  have q4 : (k == 4) = false := by simp; omega
  have q2 : (k == 2) = false := by simp; omega
  have q3 : (k == 3) = false := by simp; omega
  have q12 : (k == 12) = false := by simp; omega
  have HS := Lib.hid (HSTAY.out (HFO.out (Or.inr hkk)))
  have hneq := hne ⟨k, op, dst, a, b, n, text, r0, r1, r2, r3, r4, r5, to_, els⟩
  simp only [Ins.agg, decide_true, Bool.not_true] at hneq
  rw [HS.out.1, HS.out.2] at hK
  clear hne hkk HFO HSTAY HT HSM HFN
  go_wp2_with (first
    | (go_at_call 61; refine hct.mono ?_; rintro e w1 ⟨⟨bv, rfl, hbv⟩, hb1⟩; have HBV := Lib.hid hbv; clear hbv; have hib := (hb1.block _ (by simp)).trans hbi; have hil := (Array.getElem?_eq_some_iff.1 hib).1; have hBw : Below wr.heap.size wr w1 := hBi.trans (hb1.mono hBi.size); have ⟨d0, d1, d2, d3, d4, d5, d6, d7, d8, d9, d10, d11, d12, d13, d14⟩ := Ins.cells (i := ⟨k, op, dst, a, b, n, text, r0, r1, r2, r3, r4, r5, to_, els⟩) hib; simp only at d0 d1 d2 d3 d4 d5 d6 d7 d8 d9 d10 d11 d12 d13 d14; clear c0 c1 c2 c3 c4 c5 c6 c7 c8 c9 c10 c11 c12 c13 c14; cases bv))
  · exact hK _ _ _ _ _ _ _ _ _ _ _ _ _ _ _ _ _ _ _ _ _ _ _ _ _ _ _ _ _ _ _ _ _ _ _ _ _ _ _ _ _ _ _ _ _ _ _ _ _ _ _ _ _ _ _ _ _ _ _ _ _ _ _ _ _ _ _ _ _ _ ((hBw.alloc hBw.size _).mono (Nat.le_of_lt hcl)) (Pre.later HC.out (hBw.alloc hBw.size _))
  · exact hK _ _ _ _ _ _ _ _ _ _ _ _ _ _ _ _ _ _ _ _ _ _ _ _ _ _ _ _ _ _ _ _ _ _ _ _ _ _ _ _ _ _ _ _ _ _ _ _ _ _ _ _ _ _ _ _ _ _ _ _ _ _ _ _ _ _ _ _ _ _ (hBw.mono (Nat.le_of_lt hcl)) (Pre.later HC.out hBw)
end Go.Proofs.Ytaofdbboalcceaa

/- flow.Fold: rounds of its loop. -/
namespace Go.Proofs.Ytaofdbboalcceaa
open Go.RowKit Go.BigFrame

set_option maxRecDepth 1000000 in
set_option maxHeartbeats 8000000 in
theorem foldRound_never (f : Fn7) (M : List (List Vl)) (L Rn ob cb B0 p : Nat) (pb : Nat → Nat) (hpl : p < f.code.length) (hL : f.code.length = L) (hL8 : L ≤ 8192) (hR4 : Rn ≤ 4096) (wr : World)
    (y4 : wr.cell? ⟨B0, 4, none⟩ = some (.slice (some ⟨cb, 0, none⟩) L L)) (hd : wr.cell? ⟨ob, p, none⟩ = some (.slice (some ⟨pb p, 0, none⟩) Rn Rn)) (hpv : PreV wr (pb p) (row M p)) (hvl : (row M p).length = Rn) (hC : PreI wr cb (foldTo f M p)) (hok : Ok (insAt f.code p) (Rn : Int) f.Fr L)
    (x0 x2 x3 x4 x6 x7 x8 x9 x10 x11 x12 x13 x14 x15 x16 x17 x18 x19 x23 x24 x25 x26 x27 x28 x29 x30 x31 x32 x33 x34 x35 x36 x37 x38 x39 x40 x41 x42 x43 x44 x45 x46 x47 x48 x49 x50 x51 x52 x53 x54 x55 x56 x57 x58 x59 x60 x61 x62 x63 x64 x65 x66 x67 x68 x69 x70 x71 x72 x73 x74 x75 x76 x77 x78 x79 x80 x81 x82 x83 x84 x85 x86 : Value) (K : Act → World → Prop) (Q : Exit → Act → World → Prop)
    (hK : ∀ (y6 y7 y8 y9 y10 y11 y12 y23 y24 y25 y26 y27 y28 y29 y30 y31 y32 y33 y34 y35 y36 y37 y38 y39 y40 y41 y42 y43 y44 y45 y46 y47 y48 y49 y50 y51 y52 y53 y54 y55 y56 y57 y58 y59 y60 y61 y62 y63 y64 y65 y66 y67 y68 y69 y70 y71 y72 y73 y74 y75 y76 y77 y78 y79 y80 y81 y82 y83 y84 : Value) (w' : World), Below cb wr w' → PreI w' cb (foldTo f M (p + 1)) → K ⟨(x0 :: .pointer (some ⟨B0, 0, none⟩) :: x2 :: x3 :: x4 :: .int .i64 (foldN f M (p + 1) : Int) :: y6 :: y7 :: y8 :: y9 :: y10 :: y11 :: y12 :: x13 :: x14 :: x15 :: x16 :: x17 :: x18 :: x19 :: .slice (some ⟨ob, 0, none⟩) L L :: .int .i64 (L : Int) :: .int .i64 ((p : Int) + 1) :: y23 :: y24 :: y25 :: y26 :: y27 :: y28 :: y29 :: y30 :: y31 :: y32 :: y33 :: y34 :: y35 :: y36 :: y37 :: y38 :: y39 :: y40 :: y41 :: y42 :: y43 :: y44 :: y45 :: y46 :: y47 :: y48 :: y49 :: y50 :: y51 :: y52 :: y53 :: y54 :: y55 :: y56 :: y57 :: y58 :: y59 :: y60 :: y61 :: y62 :: y63 :: y64 :: y65 :: y66 :: y67 :: y68 :: y69 :: y70 :: y71 :: y72 :: y73 :: y74 :: y75 :: y76 :: y77 :: y78 :: y79 :: y80 :: y81 :: y82 :: y83 :: y84 :: x85 :: x86 :: []).toArray, []⟩ w')
    (hnv : (row M p).any (fun x => x.k == 0) = true) :
    Code.wp Try.prog (inLoop foldLoop) (Exit.then K Q) ⟨(x0 :: .pointer (some ⟨B0, 0, none⟩) :: x2 :: x3 :: x4 :: .int .i64 (foldN f M p : Int) :: x6 :: x7 :: x8 :: x9 :: x10 :: x11 :: x12 :: x13 :: x14 :: x15 :: x16 :: x17 :: x18 :: x19 :: .slice (some ⟨ob, 0, none⟩) L L :: .int .i64 (L : Int) :: .int .i64 (p : Int) :: x23 :: x24 :: x25 :: x26 :: x27 :: x28 :: x29 :: x30 :: x31 :: x32 :: x33 :: x34 :: x35 :: x36 :: x37 :: x38 :: x39 :: x40 :: x41 :: x42 :: x43 :: x44 :: x45 :: x46 :: x47 :: x48 :: x49 :: x50 :: x51 :: x52 :: x53 :: x54 :: x55 :: x56 :: x57 :: x58 :: x59 :: x60 :: x61 :: x62 :: x63 :: x64 :: x65 :: x66 :: x67 :: x68 :: x69 :: x70 :: x71 :: x72 :: x73 :: x74 :: x75 :: x76 :: x77 :: x78 :: x79 :: x80 :: x81 :: x82 :: x83 :: x84 :: x85 :: x86 :: []).toArray, []⟩ wr := by
  conv => arg 2; whnf
  have hlt : p < L := by omega
  obtain ⟨c0, c1, c2, c3, c4, c5, c6, c7, c8, c9, c10, c11, c12, c13, c14⟩ := PreI.cells hC (foldTo_at hpl)
  have hcl := Pre.lt hC
  have hyl := World.block_lt_of_cell? wr ⟨B0, 4, none⟩ y4
  have hol := World.block_lt_of_cell? wr ⟨ob, p, none⟩ hd
  have hfn := foldN_le f M p
  have HT := Lib.hid (foldTo_set (M := M) hpl)
  have HSM := Lib.hid (foldTo_same (M := M) hpl)
  have HTL := Lib.hid (foldTo_len (f := f) (M := M) (p := p) (by omega))
  have HFN : Hid (foldN f M (p + 1) = foldN f M p + (if foldI (insAt f.code p) p (row M p) = insAt f.code p then 0 else 1)) := Lib.hid rfl
  have HC := Lib.hid hC
  have HV := Lib.hid hvl
  have HOK := Lib.hid hok
  have HPV := Lib.hid hpv
  have HL := Lib.hid hL
  generalize insAt f.code p = i at *
  generalize row M p = v at *
  have hbi := heap_alloc_new wr i.obj
  have hBi := Below.one wr i.obj
  obtain ⟨k, op, dst, a, b, n, text, r0, r1, r2, r3, r4, r5, to_, els⟩ := i
  simp only at c0 c1 c2 c3 c4 c5 c6 c7 c8 c9 c10 c11 c12 c13 c14
  simp only [Ins.obj] at hbi hBi
  clear hvl hok hC hpl hL
  have hct := ContainsV_any (pb p) Rn v Rn HV.out hR4 (wr.alloc (.cells #[.int .i64 k, .int .i64 op, .int .i64 dst, .int .i64 a, .int .i64 b, .int .i64 n, .string text, .int .i64 r0, .int .i64 r1, .int .i64 r2, .int .i64 r3, .int .i64 r4, .int .i64 r5, .int .i64 to_, .int .i64 els] 38)) (Pre.later HPV.out hBi)
  have hne := fun (x : Ins) W => neq_ins x ⟨k, op, dst, a, b, n, text, r0, r1, r2, r3, r4, r5, to_, els⟩ W
  have HFO : Hid (v.any (fun x => x.k == 0) = true ∨ (¬ (k = 4 ∨ k = 2 ∨ k = 3) ∧ k ≠ 12) → foldI ⟨k, op, dst, a, b, n, text, r0, r1, r2, r3, r4, r5, to_, els⟩ p v = ⟨k, op, dst, a, b, n, text, r0, r1, r2, r3, r4, r5, to_, els⟩) := Lib.hid fun h => by
    unfold foldI
    rcases h with h | ⟨h, h'⟩
    · rw [if_pos h]
    · by_cases hc : v.any (fun x => x.k == 0) = true
      · rw [if_pos hc]
      · rw [if_neg hc, if_neg h, if_neg h']
  have HSTAY : Hid (foldI ⟨k, op, dst, a, b, n, text, r0, r1, r2, r3, r4, r5, to_, els⟩ p v = ⟨k, op, dst, a, b, n, text, r0, r1, r2, r3, r4, r5, to_, els⟩ → foldTo f M (p + 1) = foldTo f M p ∧ foldN f M (p + 1) = foldN f M p) := Lib.hid fun h => ⟨HSM.out h, by rw [HFN.out, if_pos h]; rfl⟩
  have HS := Lib.hid (HSTAY.out (HFO.out (Or.inl hnv)))
  have HEX : Hid (∃ x ∈ v, x.k = 0) := Lib.hid (by simpa using hnv)
  rw [HS.out.1, HS.out.2] at hK
  clear hne hnv HFO HSTAY HT HSM HFN
  go_wp2_with (first
    | (go_at_call 61; refine hct.mono ?_; rintro e w1 ⟨⟨bv, rfl, hbv⟩, hb1⟩; obtain rfl : bv = true := hbv.2 HEX.out; clear hbv; have hib := (hb1.block _ (by simp)).trans hbi; have hil := (Array.getElem?_eq_some_iff.1 hib).1; have hBw : Below wr.heap.size wr w1 := hBi.trans (hb1.mono hBi.size); have ⟨d0, d1, d2, d3, d4, d5, d6, d7, d8, d9, d10, d11, d12, d13, d14⟩ := Ins.cells (i := ⟨k, op, dst, a, b, n, text, r0, r1, r2, r3, r4, r5, to_, els⟩) hib; simp only at d0 d1 d2 d3 d4 d5 d6 d7 d8 d9 d10 d11 d12 d13 d14; clear c0 c1 c2 c3 c4 c5 c6 c7 c8 c9 c10 c11 c12 c13 c14))
  exact hK _ _ _ _ _ _ _ _ _ _ _ _ _ _ _ _ _ _ _ _ _ _ _ _ _ _ _ _ _ _ _ _ _ _ _ _ _ _ _ _ _ _ _ _ _ _ _ _ _ _ _ _ _ _ _ _ _ _ _ _ _ _ _ _ _ _ _ _ _ _ (hBw.mono (Nat.le_of_lt hcl)) (Pre.later HC.out hBw)
end Go.Proofs.Ytaofdbboalcceaa
