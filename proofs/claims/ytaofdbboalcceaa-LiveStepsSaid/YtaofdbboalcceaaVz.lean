import Derived.Test.YtaofdbboalcceaaVy
/- LiveSteps: its inner loops. -/
namespace Go.Proofs.Ytaofdbboalcceaa
open Go.RowKit Go.BigFrame

noncomputable def ls1 : Code := ((((Try.f12.body).map loopsOf).getD [])[0]?).getD .skip
noncomputable def ls2 : Code := ((loopsOf (inLoop ls1))[0]?).getD .skip
noncomputable def ls3 : Code := ((loopsOf (inLoop ls2))[0]?).getD .skip
theorem InRow {w : World} {v : Value} {P : Int → Prop} (h : RowV w v P) (hb : ∀ x, P x → 0 ≤ x ∧ x < 5000) (r : Int) : Calls Try.prog 42 #[v, .int .i64 r] w fun e w' => e = .returned (.bool (tb (P r))) ∧ w = w' := by
  obtain ⟨A, l, cap, rfl, hrd, hpw, hm⟩ := h
  have hl : l.length ≤ 5000 := nodup_le 5000 l (hpw.imp (fun h e => by omega)) (fun x hx => by have := hb x ((hm x).1 hx); omega)
  refine (In_any A l cap r w hrd (by omega)).mono fun e w' ⟨h1, h2⟩ => ⟨?_, h2⟩
  rw [h1]
  have : l.contains r = tb (P r) := by
    rw [Bool.eq_iff_iff, tb_true, List.contains_iff_mem, hm]
  rw [this]
set_option maxRecDepth 1000000 in
set_option maxHeartbeats 8000000 in
theorem ls3_any (f : Fn7) (hf : OkF f) (N oa : Nat) (r : Int) (w : World) (hka : RowsK w oa N N (Lv f.code)) (nx : List Int) (A : Option Addr) (cap Ln : Nat) (hLn : nx.length = Ln) (hLn2 : Ln ≤ 100) (hR : RdN w A nx) (hin : ∀ n ∈ nx, 0 ≤ n ∧ n.toNat < N)
    (x0 x1 x2 x4 x5 x6 x8 x10 x11 x12 x13 x14 x15 x16 x17 x18 x19 x20 x21 x22 x23 x24 x25 x26 x27 x28 x29 x30 x31 x32 x33 x34 x35 x36 x37 x38 x39 x40 x41 x42 x43 x44 x45 x46 x47 x48 x49 x50 x51 x52 x53 x54 x55 x56 x57 x58 x59 x60 x61 x62 x63 x64 x65 x66 x67 x68 x69 x70 x71 x75 x76 x77 x78 x79 x80 x81 x82 x83 x84 x85 x86 x87 x88 x89 x90 x91 x92 x93 x94 x95 x96 x97 x98 x99 x100 x101 x102 x103 x104 x105 x106 x107 x108 : Value) (Q : Exit → Act → World → Prop)
    (hexit : ∀ (y11 y75 y76 y77 y78 y79 y80 y81 y82 y83 y84 y85 y86 y87 : Value), Q (.exit 4) ⟨(x0 :: x1 :: x2 :: .slice (some ⟨oa, 0, none⟩) N N :: x4 :: x5 :: x6 :: .int .i64 r :: x8 :: .bool (tb (∃ n ∈ nx, Lv f.code n.toNat r)) :: x10 :: y11 :: x12 :: x13 :: x14 :: x15 :: x16 :: x17 :: x18 :: x19 :: x20 :: x21 :: x22 :: x23 :: x24 :: x25 :: x26 :: x27 :: x28 :: x29 :: x30 :: x31 :: x32 :: x33 :: x34 :: x35 :: x36 :: x37 :: x38 :: x39 :: x40 :: x41 :: x42 :: x43 :: x44 :: x45 :: x46 :: x47 :: x48 :: x49 :: x50 :: x51 :: x52 :: x53 :: x54 :: x55 :: x56 :: x57 :: x58 :: x59 :: x60 :: x61 :: x62 :: x63 :: x64 :: x65 :: x66 :: x67 :: x68 :: x69 :: x70 :: x71 :: .slice A Ln cap :: .int .i64 (Ln : Int) :: .int .i64 (Ln : Int) :: y75 :: y76 :: y77 :: y78 :: y79 :: y80 :: y81 :: y82 :: y83 :: y84 :: y85 :: y86 :: y87 :: x88 :: x89 :: x90 :: x91 :: x92 :: x93 :: x94 :: x95 :: x96 :: x97 :: x98 :: x99 :: x100 :: x101 :: x102 :: x103 :: x104 :: x105 :: x106 :: x107 :: x108 :: []).toArray, []⟩ w) :
    Code.wp Try.prog ls3 Q ⟨(x0 :: x1 :: x2 :: .slice (some ⟨oa, 0, none⟩) N N :: x4 :: x5 :: x6 :: .int .i64 r :: x8 :: .bool false :: x10 :: x11 :: x12 :: x13 :: x14 :: x15 :: x16 :: x17 :: x18 :: x19 :: x20 :: x21 :: x22 :: x23 :: x24 :: x25 :: x26 :: x27 :: x28 :: x29 :: x30 :: x31 :: x32 :: x33 :: x34 :: x35 :: x36 :: x37 :: x38 :: x39 :: x40 :: x41 :: x42 :: x43 :: x44 :: x45 :: x46 :: x47 :: x48 :: x49 :: x50 :: x51 :: x52 :: x53 :: x54 :: x55 :: x56 :: x57 :: x58 :: x59 :: x60 :: x61 :: x62 :: x63 :: x64 :: x65 :: x66 :: x67 :: x68 :: x69 :: x70 :: x71 :: .slice A Ln cap :: .int .i64 (Ln : Int) :: .int .i64 0 :: x75 :: x76 :: x77 :: x78 :: x79 :: x80 :: x81 :: x82 :: x83 :: x84 :: x85 :: x86 :: x87 :: x88 :: x89 :: x90 :: x91 :: x92 :: x93 :: x94 :: x95 :: x96 :: x97 :: x98 :: x99 :: x100 :: x101 :: x102 :: x103 :: x104 :: x105 :: x106 :: x107 :: x108 :: []).toArray, []⟩ w := by
  conv => arg 2; whnf
  have HE := Lib.hid hexit
  have HF := Lib.hid hf
  have HK := Lib.hid hka
  have HLN := Lib.hid hLn
  have HR := Lib.hid hR
  have HIN := Lib.hid hin
  clear hexit hf hka hLn hR hin
  go_loopw [9, 74] (fun t ix wr => ∃ (k : Nat) (b : Bool), k ≤ Ln ∧ ix = .int .i64 k ∧ t = .bool b ∧ wr = w ∧ (b = true ↔ ∃ (j : Nat) (n : Int), j < k ∧ nx[j]? = some n ∧ Lv f.code n.toNat r)) (fun _ ix _ => Ln - (intOf ix).toNat)
  case atStart => exact ⟨0, false, by omega, rfl, rfl, rfl, ⟨(fun h => by cases h), fun ⟨j, n, h, _⟩ => by omega⟩⟩
  case round =>
    obtain ⟨k, b, hk, rfl, rfl, rfl, hb⟩ := hrel
    have HB := Lib.hid hb
    clear hb
    by_cases hlt : k < Ln
    · obtain ⟨n, hn⟩ : ∃ n, nx[k]? = some n := ⟨_, List.getElem?_eq_getElem (by rw [HLN.out]; exact hlt)⟩
      have hnb := HIN.out n (List.mem_of_getElem? hn)
      obtain ⟨m, rfl⟩ : ∃ m : Nat, n = (m : Int) := ⟨n.toNat, by omega⟩
      have hmN : m < N := by have := hnb.2; rwa [Int.toNat_natCast] at this
      obtain ⟨bb, o, rfl, hbl, hc⟩ := HR.out k _ hn
      obtain ⟨v, hcv, hrv⟩ := HK.out.done hmN
      have hir := InRow hrv (fun x hx => by have := (hx.bound HF.out).1; have := HF.out.R; omega) r
      have HIR := Lib.hid hir
      have HN := Lib.hid hn
      clear hn hnb hrv hir
      cases b with
      | true =>
        go_wp2
        exact ⟨⟨k + 1, true, by omega, by go_num, by simp, by simp, ⟨fun _ => by
          obtain ⟨j, n, h1, h2⟩ := HB.out.1 (by simp)
          exact ⟨j, n, by omega, h2⟩, fun _ => rfl⟩⟩, by simp [intOf]; omega⟩
      | false =>
        obtain ⟨y, hy⟩ : ∃ y, tb (Lv f.code m r) = y := ⟨_, rfl⟩
        rw [hy] at HIR
        have HY := Lib.hid hy
        clear hy
        go_wp2_with fail
        refine HIR.out.mono ?_
        rintro e w3 ⟨rfl, rfl⟩
        go_wp2
        exact ⟨⟨k + 1, y, by omega, by go_num, by simp, by simp, by
          constructor
          · intro h
            exact ⟨k, m, by omega, HN.out, by rw [Int.toNat_natCast]; exact tb_true.1 (HY.out.trans h)⟩
          · rintro ⟨j, n, h1, h2, h3⟩
            by_cases hjk : j = k
            · subst hjk
              rw [HN.out] at h2
              injection h2 with h2
              subst h2
              rw [Int.toNat_natCast] at h3
              rw [← HY.out]
              exact tb_true.2 h3
            · have := HB.out.2 ⟨j, n, by omega, h2, h3⟩
              cases this⟩, by simp [intOf]; omega⟩
    · obtain rfl : k = Ln := by omega
      have hbe : b = tb (∃ n ∈ nx, Lv f.code n.toNat r) := by
        rw [Bool.eq_iff_iff, tb_true, HB.out]
        exact ⟨fun ⟨j, n, h1, h2, h3⟩ => ⟨n, List.mem_of_getElem? h2, h3⟩, fun ⟨n, h1, h2⟩ => by
          obtain ⟨j, hj⟩ := List.mem_iff_getElem?.1 h1
          exact ⟨j, n, by have := (List.getElem?_eq_some_iff.1 hj).1; rw [HLN.out] at this; exact this, hj, h2⟩⟩
      have HX := fun y11 y75 y76 y77 y78 y79 y80 y81 y82 y83 y84 y85 y86 y87 => Lib.hid (HE.out y11 y75 y76 y77 y78 y79 y80 y81 y82 y83 y84 y85 y86 y87)
      rw [← hbe] at HX
      clear HE hbe HB
      go_wp2
      exact (HX _ _ _ _ _ _ _ _ _ _ _ _ _ _).out
set_option maxRecDepth 1000000 in
set_option maxHeartbeats 16000000 in
theorem ls2_any (f : Fn7) (hf : OkF f) (Rn N p oa ob wi : Nat) (hR4 : Rn ≤ 4096) (hN : f.code.length = N) (hp : p < N) (i : Ins) (hi : f.code[p]? = some i) (w : World) (hka : RowsK w oa N N (Lv f.code)) (hkb : RowsK w ob N N (Bh f.code)) (hwi : w.heap[wi]? = some i.obj)
    (x0 x1 x2 x7 x8 x9 x10 x11 x12 x13 x14 x15 x16 x17 x18 x19 x20 x21 x22 x23 x24 x25 x26 x27 x28 x29 x30 x31 x32 x33 x34 x35 x36 x37 x38 x39 x40 x41 x42 x43 x44 x45 x46 x47 x50 x51 x52 x53 x54 x55 x56 x57 x58 x59 x60 x61 x62 x63 x64 x65 x66 x67 x68 x69 x70 x71 x72 x73 x74 x75 x76 x77 x78 x79 x80 x81 x82 x83 x84 x85 x86 x87 x88 x89 x90 x91 x92 x93 x94 x95 x96 x97 x98 x99 x100 x101 x102 x103 x104 x105 x106 x107 x108 : Value) (Q : Exit → Act → World → Prop)
    (hexit : ∀ (y2 y7 y8 y9 y11 y50 y51 y52 y53 y54 y55 y56 y57 y58 y59 y60 y61 y62 y63 y64 y65 y66 y67 y68 y69 y70 y71 y72 y73 y74 y75 y76 y77 y78 y79 y80 y81 y82 y83 y84 y85 y86 y87 y88 y89 y90 y91 y92 y93 y94 y95 y96 y97 y98 y99 y100 y101 y102 y103 y104 y105 y106 : Value) (w' : World), Below w.heap.size w w' → Q (.exit 2) ⟨(x0 :: x1 :: y2 :: .slice (some ⟨oa, 0, none⟩) N N :: .slice (some ⟨ob, 0, none⟩) N N :: .int .i64 (p : Int) :: .pointer (some ⟨wi, 0, none⟩) :: y7 :: y8 :: y9 :: x10 :: y11 :: x12 :: x13 :: x14 :: x15 :: x16 :: x17 :: x18 :: x19 :: x20 :: x21 :: x22 :: x23 :: x24 :: x25 :: x26 :: x27 :: x28 :: x29 :: x30 :: x31 :: x32 :: x33 :: x34 :: x35 :: x36 :: x37 :: x38 :: x39 :: x40 :: x41 :: x42 :: x43 :: x44 :: x45 :: x46 :: x47 :: .int .i64 (Rn : Int) :: .int .i64 (Rn : Int) :: y50 :: y51 :: y52 :: y53 :: y54 :: y55 :: y56 :: y57 :: y58 :: y59 :: y60 :: y61 :: y62 :: y63 :: y64 :: y65 :: y66 :: y67 :: y68 :: y69 :: y70 :: y71 :: y72 :: y73 :: y74 :: y75 :: y76 :: y77 :: y78 :: y79 :: y80 :: y81 :: y82 :: y83 :: y84 :: y85 :: y86 :: y87 :: y88 :: y89 :: y90 :: y91 :: y92 :: y93 :: y94 :: y95 :: y96 :: y97 :: y98 :: y99 :: y100 :: y101 :: y102 :: y103 :: y104 :: y105 :: y106 :: x107 :: x108 :: []).toArray, []⟩ w') :
    Code.wp Try.prog ls2 Q ⟨(x0 :: x1 :: x2 :: .slice (some ⟨oa, 0, none⟩) N N :: .slice (some ⟨ob, 0, none⟩) N N :: .int .i64 (p : Int) :: .pointer (some ⟨wi, 0, none⟩) :: x7 :: x8 :: x9 :: x10 :: x11 :: x12 :: x13 :: x14 :: x15 :: x16 :: x17 :: x18 :: x19 :: x20 :: x21 :: x22 :: x23 :: x24 :: x25 :: x26 :: x27 :: x28 :: x29 :: x30 :: x31 :: x32 :: x33 :: x34 :: x35 :: x36 :: x37 :: x38 :: x39 :: x40 :: x41 :: x42 :: x43 :: x44 :: x45 :: x46 :: x47 :: .int .i64 (Rn : Int) :: .int .i64 0 :: x50 :: x51 :: x52 :: x53 :: x54 :: x55 :: x56 :: x57 :: x58 :: x59 :: x60 :: x61 :: x62 :: x63 :: x64 :: x65 :: x66 :: x67 :: x68 :: x69 :: x70 :: x71 :: x72 :: x73 :: x74 :: x75 :: x76 :: x77 :: x78 :: x79 :: x80 :: x81 :: x82 :: x83 :: x84 :: x85 :: x86 :: x87 :: x88 :: x89 :: x90 :: x91 :: x92 :: x93 :: x94 :: x95 :: x96 :: x97 :: x98 :: x99 :: x100 :: x101 :: x102 :: x103 :: x104 :: x105 :: x106 :: x107 :: x108 :: []).toArray, []⟩ w := by
  conv => arg 2; whnf
  have hN2 : N ≤ 8192 := by rw [← hN]; exact hf.len.2
  have HE := Lib.hid hexit
  have HF := Lib.hid hf
  have HKA := Lib.hid hka
  have HKB := Lib.hid hkb
  have HWI := Lib.hid hwi
  have HI := Lib.hid hi
  have HN := Lib.hid hN
  have hil := (Array.getElem?_eq_some_iff.1 hwi).1
  have hua := fun W => refUses_any i W
  have hsa := fun W => refSets_any i W
  have hna := fun W => refNext_any i p (by omega) W
  have hul := Ins.uses_len i
  have hnl := Ins.next_len i p
  have hnxt := hf.next hi
  rw [hN] at hnxt
  have hlv : ∀ r, Lv f.code p r ↔ r ∈ i.uses ∨ (i.sets ≠ r ∧ Bh f.code p r) := fun r => by
    rw [Lv.iff hi]
    constructor
    · rintro (h | ⟨h1, n, h2, h3⟩)
      · exact Or.inl h
      · exact Or.inr ⟨h1, i, hi, n, h2, h3⟩
    · rintro (h | ⟨h1, i', h2, n, h3, h4⟩)
      · exact Or.inl h
      · rw [hi] at h2
        injection h2 with h2
        subst h2
        exact Or.inr ⟨h1, n, h3, h4⟩
  have hbh : ∀ r, tb (Bh f.code p r) = tb (∃ n ∈ i.next p, Lv f.code n.toNat r) := fun r => by
    rw [Bool.eq_iff_iff, tb_true, tb_true]
    constructor
    · rintro ⟨i', h2, n, h3, h4⟩
      rw [hi] at h2
      injection h2 with h2
      subst h2
      exact ⟨n, h3, h4⟩
    · rintro ⟨n, h3, h4⟩
      exact ⟨i, hi, n, h3, h4⟩
  obtain ⟨us, hus⟩ : ∃ us, i.uses = us := ⟨_, rfl⟩
  obtain ⟨sr, hsr⟩ : ∃ sr, i.sets = sr := ⟨_, rfl⟩
  obtain ⟨nx, hnx⟩ : ∃ nx, i.next p = nx := ⟨_, rfl⟩
  rw [hus] at hua hul hlv
  rw [hsr] at hsa hlv
  rw [hnx] at hna hnl hnxt hbh
  obtain ⟨Lu, hLu⟩ : ∃ Lu, us.length = Lu := ⟨_, rfl⟩
  obtain ⟨Ln, hLn⟩ : ∃ Ln, nx.length = Ln := ⟨_, rfl⟩
  have HUA : Hid (∀ W, Calls Try.prog 43 #[i.agg] W fun e w' => (∃ A c, e = .returned (.slice A Lu c) ∧ RdN w' A us) ∧ Below W.heap.size W w') := Lib.hid fun W => (hua W).mono fun e w' ⟨⟨A, c, h1, h2⟩, h3⟩ => ⟨⟨A, c, by rw [h1, hLu], h2⟩, h3⟩
  have HNA : Hid (∀ W, Calls Try.prog 27 #[i.agg, .int .i64 p] W fun e w' => (∃ A c, e = .returned (.slice A Ln c) ∧ RdN w' A nx) ∧ Below W.heap.size W w') := Lib.hid fun W => (hna W).mono fun e w' ⟨⟨A, c, h1, h2⟩, h3⟩ => ⟨⟨A, c, by rw [h1, hLn], h2⟩, h3⟩
  have HIN : Hid (∀ A c r W, RdN W A us → Calls Try.prog 42 #[.slice A Lu c, .int .i64 r] W fun e w' => e = .returned (.bool (us.contains r)) ∧ W = w') := Lib.hid fun A c r W h => by
    have := In_any A us c r W h (by omega)
    rw [hLu] at this
    exact this
  have HSA := Lib.hid hsa
  have HLV := Lib.hid hlv
  have HBH := Lib.hid hbh
  have HNX := Lib.hid hnxt
  have HLN := Lib.hid hLn
  have HLN2 : Hid (Ln ≤ 100) := Lib.hid (by omega)
  have HBD : Hid (∀ q x, Lv f.code q x → 0 ≤ x ∧ x < 5000) := Lib.hid fun q x hx => by have := (hx.bound hf).1; have := hf.R; omega
  have HBD2 : Hid (∀ x, Bh f.code p x → 0 ≤ x ∧ x < 5000) := Lib.hid fun x ⟨_, _, n, _, hx⟩ => by have := (hx.bound hf).1; have := hf.R; omega
  obtain ⟨kk, op, dst, a', b', n, text, r0, r1, r2, r3, r4, r5, to_, els⟩ := i
  simp only [Ins.agg] at HUA HNA HSA
  clear hexit hf hka hkb hwi hi hN hua hsa hna hul hnl hnxt hlv hbh hus hsr hnx hLu hLn
  go_loopw [49] (fun ix wr => ∃ k : Nat, k ≤ Rn ∧ ix = .int .i64 k ∧ Below w.heap.size w wr) (fun ix _ => Rn - (intOf ix).toNat)
  case atStart => exact ⟨0, by omega, rfl, Below.refl _ _⟩
  case round =>
    obtain ⟨k, hk, rfl, hb⟩ := hrel
    by_cases hlt : k < Rn
    · have hx := (hb.block _ hil).trans HWI.out
      have ⟨d0, d1, d2, d3, d4, d5, d6, d7, d8, d9, d10, d11, d12, d13, d14⟩ := Ins.cells (i := ⟨kk, op, dst, a', b', n, text, r0, r1, r2, r3, r4, r5, to_, els⟩) hx; simp only at d0 d1 d2 d3 d4 d5 d6 d7 d8 d9 d10 d11 d12 d13 d14
      have HBB := Lib.hid hb
      obtain ⟨va, hca, hra⟩ := (HKA.out.later hb).done hp
      obtain ⟨vb, hcb, hrb⟩ := (HKB.out.later hb).done hp
      have HRA := Lib.hid hra
      have HRB := Lib.hid hrb
      have HX := Lib.hid hx
      have HCA := Lib.hid hca
      have HCB := Lib.hid hcb
      have hxl := (Array.getElem?_eq_some_iff.1 hx).1
      obtain ⟨u, hu⟩ : ∃ u, us.contains (k : Int) = u := ⟨_, rfl⟩
      obtain ⟨z, hz⟩ : ∃ z, tb (Lv f.code p (k : Int)) = z := ⟨_, rfl⟩
      obtain ⟨y, hy⟩ : ∃ y, tb (Bh f.code p (k : Int)) = y := ⟨_, rfl⟩
      have hzz : z = true ↔ u = true ∨ (sr ≠ (k : Int) ∧ y = true) := by rw [← hz, ← hu, ← hy, tb_true, tb_true, List.contains_iff_mem]; exact HLV.out k
      have HU := Lib.hid hu
      have HZ := Lib.hid hz
      have HY := Lib.hid hy
      have hinu := fun A c W h => HIN.out A c (k : Int) W h
      rw [hu] at hinu
      have HINU := Lib.hid hinu
      clear hb hra hrb hx hca hcb hu hz hy hinu
      go_upto_region 12 with (fail)
      go_cut [8] from 52 to 69 (fun s wx => s = .bool z ∧ Below wr.heap.size wr wx)
      case first =>
        cases u with
        | true =>
          obtain rfl : z = true := hzz.2 (Or.inl rfl)
          clear hzz
          go_wp2_with fail
          refine (HUA.out _).mono ?_
          rintro e w3 ⟨⟨A3, c3, rfl, hrd3⟩, hb3⟩
          have HRD3 := Lib.hid hrd3
          clear hrd3
          go_wp2_with fail
          refine (HINU.out _ _ _ HRD3.out).mono ?_
          rintro e w4 ⟨rfl, rfl⟩
          go_wp2
          go_meet
          exact ⟨rfl, hb3⟩
        | false =>
          go_wp2_with fail
          refine (HUA.out _).mono ?_
          rintro e w3 ⟨⟨A3, c3, rfl, hrd3⟩, hb3⟩
          have HRD3 := Lib.hid hrd3
          have hcb3 := (hb3.cell (p := ⟨ob, p, none⟩) (World.block_lt_of_cell? wr ⟨ob, p, none⟩ HCB.out)).trans HCB.out
          have hir := InRow (HRB.out.below hb3) HBD2.out (k : Int)
          rw [HY.out] at hir
          have HIR := Lib.hid hir
          have hx3 := (hb3.block _ hxl).trans HX.out
          have ⟨d0, d1, d2, d3, d4, d5, d6, d7, d8, d9, d10, d11, d12, d13, d14⟩ := Ins.cells (i := ⟨kk, op, dst, a', b', n, text, r0, r1, r2, r3, r4, r5, to_, els⟩) hx3; simp only at d0 d1 d2 d3 d4 d5 d6 d7 d8 d9 d10 d11 d12 d13 d14
          clear hrd3 hir hx3
          go_wp2_with fail
          refine (HINU.out _ _ _ HRD3.out).mono ?_
          rintro e w4 ⟨rfl, rfl⟩
          go_wp2_with fail
          refine HIR.out.mono ?_
          rintro e w4 ⟨rfl, rfl⟩
          cases y with
          | false =>
            obtain rfl : z = false := by
              cases z with
              | false => rfl
              | true => rcases hzz.1 rfl with h | ⟨_, h⟩ <;> cases h
            clear hzz
            go_wp2
            go_meet
            exact ⟨rfl, hb3⟩
          | true =>
            by_cases hsk : sr = (k : Int)
            · have q1 : (sr == (k : Int)) = true := by simp [hsk]
              have q2 : (sr != (k : Int)) = false := by simp [hsk]
              obtain rfl : z = false := by
                cases z with
                | false => rfl
                | true => rcases hzz.1 rfl with h | ⟨h, _⟩
                          · cases h
                          · exact absurd hsk h
              clear hzz hsk
              go_wp2_with fail
              refine (HSA.out _).mono ?_
              rintro e w5 ⟨rfl, hb5⟩
              go_wp2
              go_meet
              exact ⟨rfl, hb3.trans (hb5.mono hb3.size)⟩
            · have q1 : (sr == (k : Int)) = false := by simp [hsk]
              have q2 : (sr != (k : Int)) = true := by simp [hsk]
              obtain rfl : z = true := hzz.2 (Or.inr ⟨hsk, rfl⟩)
              clear hzz hsk
              go_wp2_with fail
              refine (HSA.out _).mono ?_
              rintro e w5 ⟨rfl, hb5⟩
              go_wp2
              go_meet
              exact ⟨rfl, hb3.trans (hb5.mono hb3.size)⟩
      case rest =>
        obtain ⟨rfl, hbc⟩ := hcut
        have hxc := (hbc.block _ hxl).trans HX.out
        have ⟨d0, d1, d2, d3, d4, d5, d6, d7, d8, d9, d10, d11, d12, d13, d14⟩ := Ins.cells (i := ⟨kk, op, dst, a', b', n, text, r0, r1, r2, r3, r4, r5, to_, els⟩) hxc; simp only at d0 d1 d2 d3 d4 d5 d6 d7 d8 d9 d10 d11 d12 d13 d14
        have HBC := Lib.hid hbc
        clear hbc hxc
        go_wp2_with fail
        refine (HNA.out _).mono ?_
        rintro e w5 ⟨⟨A5, c5, rfl, hrd5⟩, hb5⟩
        have HBT := Lib.hid (HBC.out.trans (hb5.mono HBC.out.size))
        have HRD5 := Lib.hid hrd5
        clear hrd5 hb5 d0 d1 d2 d3 d4 d5 d6 d7 d8 d9 d10 d11 d12 d13 d14
        go_wp2
        refine ls3_any f HF.out N oa (k : Int) w5 (HKA.out.later (HBB.out.trans (HBT.out.mono HBB.out.size))) nx A5 c5 Ln HLN.out HLN2.out HRD5.out HNX.out _ _ _ _ _ _ _ _ _ _ _ _ _ _ _ _ _ _ _ _ _ _ _ _ _ _ _ _ _ _ _ _ _ _ _ _ _ _ _ _ _ _ _ _ _ _ _ _ _ _ _ _ _ _ _ _ _ _ _ _ _ _ _ _ _ _ _ _ _ _ _ _ _ _ _ _ _ _ _ _ _ _ _ _ _ _ _ _ _ _ _ _ _ _ _ _ _ _ _ _ _ _ _ _ ?_
        intro z11 z75 z76 z77 z78 z79 z80 z81 z82 z83 z84 z85 z86 z87
        have e9 : tb (∃ n ∈ nx, Lv f.code n.toNat (k : Int)) = y := by rw [← HBH.out, HY.out]
        rw [e9]
        have hca5 := (HBT.out.cell (p := ⟨oa, p, none⟩) (World.block_lt_of_cell? wr ⟨oa, p, none⟩ HCA.out)).trans HCA.out
        have hcb5 := (HBT.out.cell (p := ⟨ob, p, none⟩) (World.block_lt_of_cell? wr ⟨ob, p, none⟩ HCB.out)).trans HCB.out
        have hirA := InRow (HRA.out.below HBT.out) (HBD.out p) (k : Int)
        have hirB := InRow (HRB.out.below HBT.out) HBD2.out (k : Int)
        rw [HZ.out] at hirA
        rw [HY.out] at hirB
        have HIA := Lib.hid hirA
        have HIB := Lib.hid hirB
        clear e9 hirA hirB hzz
        cases z
        all_goals
          cases y
          all_goals
            go_wp2_with fail
            refine HIA.out.mono ?_
            rintro e w6 ⟨rfl, rfl⟩
            go_wp2_with fail
            refine HIB.out.mono ?_
            rintro e w6 ⟨rfl, rfl⟩
            go_wp2
            exact ⟨⟨k + 1, by omega, by go_num, HBB.out.trans (HBT.out.mono HBB.out.size)⟩, by simp [intOf]; omega⟩
    · obtain rfl : k = Rn := by omega
      have HX := fun y2 y7 y8 y9 y11 y50 y51 y52 y53 y54 y55 y56 y57 y58 y59 y60 y61 y62 y63 y64 y65 y66 y67 y68 y69 y70 y71 y72 y73 y74 y75 y76 y77 y78 y79 y80 y81 y82 y83 y84 y85 y86 y87 y88 y89 y90 y91 y92 y93 y94 y95 y96 y97 y98 y99 y100 y101 y102 y103 y104 y105 y106 => Lib.hid (HE.out y2 y7 y8 y9 y11 y50 y51 y52 y53 y54 y55 y56 y57 y58 y59 y60 y61 y62 y63 y64 y65 y66 y67 y68 y69 y70 y71 y72 y73 y74 y75 y76 y77 y78 y79 y80 y81 y82 y83 y84 y85 y86 y87 y88 y89 y90 y91 y92 y93 y94 y95 y96 y97 y98 y99 y100 y101 y102 y103 y104 y105 y106 wr hb)
      clear hb HE
      go_wp2
      exact (HX _ _ _ _ _ _ _ _ _ _ _ _ _ _ _ _ _ _ _ _ _ _ _ _ _ _ _ _ _ _ _ _ _ _ _ _ _ _ _ _ _ _ _ _ _ _ _ _ _ _ _ _ _ _ _ _ _ _ _ _ _ _).out
end Go.Proofs.Ytaofdbboalcceaa
