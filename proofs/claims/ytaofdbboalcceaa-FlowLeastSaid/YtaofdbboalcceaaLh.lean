import Derived.Test.YtaofdbboalcceaaLk
import Derived.Test.YtaofdbboalcceaaLb
import Derived.Deep.CutRange
/- FlowHolds: its loops, each by itself. -/
namespace Go.Proofs.Ytaofdbboalcceaa
open Go.RowKit Go.BigFrame

noncomputable def hloop2 : Code := ((((Try.f5.body).map loopsOf).getD [])[1]?).getD .skip
noncomputable def hloop3 : Code := ((loopsOf (inLoop hloop2))[0]?).getD .skip
noncomputable def hloop4 : Code := ((loopsOf (inLoop hloop2))[1]?).getD .skip
noncomputable def hloop5 : Code := ((loopsOf (inLoop hloop4))[0]?).getD .skip
/-- the law's 'within' -/
theorem within_any (a b : Vl) (h : join a b = b) (w : World) : Calls Try.prog 24 #[a.agg, b.agg] w fun e w' => e = .returned (.bool true) ∧ Below w.heap.size w w' := by
  obtain ⟨k0, k1, hB0⟩ := two_boxes w a.obj b.obj
  have hj := fun W => join_any a b W
  rw [h] at hj
  have he := fun W => eql_val b b W
  obtain ⟨ak, an⟩ := a
  obtain ⟨bk, bn⟩ := b
  simp only [Vl.agg, Vl.obj, decide_true] at hj he k0 k1 hB0 ⊢
  have a0 := cell_of_heap k0 0 (.int .i64 ak) rfl
  have a1 := cell_of_heap k0 1 (.int .i64 an) rfl
  have b0 := cell_of_heap k1 0 (.int .i64 bk) rfl
  have b1 := cell_of_heap k1 1 (.int .i64 bn) rfl
  clear k0 k1 h
  obtain ⟨W, hW⟩ : ∃ W, (w.alloc (.cells #[.int .i64 ak, .int .i64 an] 28)).alloc (.cells #[.int .i64 bk, .int .i64 bn] 28) = W := ⟨_, rfl⟩
  rw [hW] at hB0 a0 a1 b0 b1
  go_enter Try.func24, Try.ntmps24
  go_wp2
  clear hW
  have la0 := fun s : Later W => Later.cell a0 s
  have la1 := fun s : Later W => Later.cell a1 s
  have lb0 := fun s : Later W => Later.cell b0 s
  have lb1 := fun s : Later W => Later.cell b1 s
  refine wp_region_later (by kernel_rfl) (by kernel_rfl) ?_
  repeat (go_big_quiet_step ((go_at_call 20; exact Calls.later (hj _))))
  refine wpQuiet_nil ?_
  rintro w3 ⟨s', rfl⟩
  go_wp2
  go_returns
  exact ⟨rfl, hB0.trans (s'.h.mono hB0.size)⟩
set_option maxRecDepth 1000000 in
set_option maxHeartbeats 4000000 in
theorem hold5_any (u v : List Vl) (L Rn ob vb vc n pn : Nat) (hR40 : Rn ≤ 40) (hn : n < L) (hu : u.length = Rn) (hv : v.length = Rn) (hw : ∀ r, join (at_ u r) (at_ v r) = at_ v r) (W0 : World)
    (hd : W0.cell? ⟨ob, n, none⟩ = some (.slice (some ⟨pn, 0, none⟩) Rn Rn)) (hpu : PreV W0 vb u) (hpv : PreV W0 pn v)
    (x0 x1 x2 x5 x6 x7 x8 x10 x11 x12 x13 x14 x15 x16 x18 x19 x20 x21 x22 x23 x24 x25 x26 x27 x28 x29 x30 x31 x32 x33 x34 x35 x36 x37 x38 x39 x40 x41 x42 x43 x44 x45 x46 x47 x48 x49 x50 x51 x52 x53 x54 x55 x56 x57 x58 x59 x60 x61 x62 x63 x64 x65 x66 x67 x68 x69 x70 x71 x72 x73 x74 x75 x76 x77 x78 x79 x80 x81 x82 x83 x84 x85 x86 x87 x88 x89 x90 x91 x92 x93 x94 x95 x96 x97 x98 x99 x100 x101 x102 x103 x104 x105 x106 x107 x108 x109 x110 x111 x112 x113 x114 x115 x116 x117 x118 x119 x120 x121 x122 x123 x124 x125 x126 x127 x128 x129 x130 x131 x132 x133 x134 x135 x136 x137 x138 x139 x140 x141 x142 x143 x144 x145 x146 x149 x150 x151 x152 x153 x154 x155 x156 x157 x158 x159 x160 x161 x162 x163 x164 x165 x166 x167 x168 : Value) (Q : Exit → Act → World → Prop)
    (hexit : ∀ (y2 y18 y149 y150 y151 y152 y153 y154 y155 y156 y157 y158 y159 y160 y161 y162 y163 y164 y165 : Value) (w' : World), Below W0.heap.size W0 w' → Q (.exit 8) ⟨(x0 :: x1 :: y2 :: .slice (some ⟨ob, 0, none⟩) L L :: .func (.func 24) #[] #[] :: x5 :: x6 :: x7 :: x8 :: .slice (some ⟨vb, 0, none⟩) Rn vc :: x10 :: x11 :: x12 :: x13 :: x14 :: x15 :: x16 :: .int .i64 (n : Int) :: y18 :: x19 :: x20 :: x21 :: x22 :: x23 :: x24 :: x25 :: x26 :: x27 :: x28 :: x29 :: x30 :: x31 :: x32 :: x33 :: x34 :: x35 :: x36 :: x37 :: x38 :: x39 :: x40 :: x41 :: x42 :: x43 :: x44 :: x45 :: x46 :: x47 :: x48 :: x49 :: x50 :: x51 :: x52 :: x53 :: x54 :: x55 :: x56 :: x57 :: x58 :: x59 :: x60 :: x61 :: x62 :: x63 :: x64 :: x65 :: x66 :: x67 :: x68 :: x69 :: x70 :: x71 :: x72 :: x73 :: x74 :: x75 :: x76 :: x77 :: x78 :: x79 :: x80 :: x81 :: x82 :: x83 :: x84 :: x85 :: x86 :: x87 :: x88 :: x89 :: x90 :: x91 :: x92 :: x93 :: x94 :: x95 :: x96 :: x97 :: x98 :: x99 :: x100 :: x101 :: x102 :: x103 :: x104 :: x105 :: x106 :: x107 :: x108 :: x109 :: x110 :: x111 :: x112 :: x113 :: x114 :: x115 :: x116 :: x117 :: x118 :: x119 :: x120 :: x121 :: x122 :: x123 :: x124 :: x125 :: x126 :: x127 :: x128 :: x129 :: x130 :: x131 :: x132 :: x133 :: x134 :: x135 :: x136 :: x137 :: x138 :: x139 :: x140 :: x141 :: x142 :: x143 :: x144 :: x145 :: x146 :: .int .i64 (Rn : Int) :: .int .i64 (Rn : Int) :: y149 :: y150 :: y151 :: y152 :: y153 :: y154 :: y155 :: y156 :: y157 :: y158 :: y159 :: y160 :: y161 :: y162 :: y163 :: y164 :: y165 :: x166 :: x167 :: x168 :: []).toArray, []⟩ w') :
    Code.wp Try.prog hloop5 Q ⟨(x0 :: x1 :: x2 :: .slice (some ⟨ob, 0, none⟩) L L :: .func (.func 24) #[] #[] :: x5 :: x6 :: x7 :: x8 :: .slice (some ⟨vb, 0, none⟩) Rn vc :: x10 :: x11 :: x12 :: x13 :: x14 :: x15 :: x16 :: .int .i64 (n : Int) :: x18 :: x19 :: x20 :: x21 :: x22 :: x23 :: x24 :: x25 :: x26 :: x27 :: x28 :: x29 :: x30 :: x31 :: x32 :: x33 :: x34 :: x35 :: x36 :: x37 :: x38 :: x39 :: x40 :: x41 :: x42 :: x43 :: x44 :: x45 :: x46 :: x47 :: x48 :: x49 :: x50 :: x51 :: x52 :: x53 :: x54 :: x55 :: x56 :: x57 :: x58 :: x59 :: x60 :: x61 :: x62 :: x63 :: x64 :: x65 :: x66 :: x67 :: x68 :: x69 :: x70 :: x71 :: x72 :: x73 :: x74 :: x75 :: x76 :: x77 :: x78 :: x79 :: x80 :: x81 :: x82 :: x83 :: x84 :: x85 :: x86 :: x87 :: x88 :: x89 :: x90 :: x91 :: x92 :: x93 :: x94 :: x95 :: x96 :: x97 :: x98 :: x99 :: x100 :: x101 :: x102 :: x103 :: x104 :: x105 :: x106 :: x107 :: x108 :: x109 :: x110 :: x111 :: x112 :: x113 :: x114 :: x115 :: x116 :: x117 :: x118 :: x119 :: x120 :: x121 :: x122 :: x123 :: x124 :: x125 :: x126 :: x127 :: x128 :: x129 :: x130 :: x131 :: x132 :: x133 :: x134 :: x135 :: x136 :: x137 :: x138 :: x139 :: x140 :: x141 :: x142 :: x143 :: x144 :: x145 :: x146 :: .int .i64 (Rn : Int) :: .int .i64 0 :: x149 :: x150 :: x151 :: x152 :: x153 :: x154 :: x155 :: x156 :: x157 :: x158 :: x159 :: x160 :: x161 :: x162 :: x163 :: x164 :: x165 :: x166 :: x167 :: x168 :: []).toArray, []⟩ W0 := by
  conv => arg 2; whnf
  have HU := Lib.hid hu
  have HV := Lib.hid hv
  have HW := Lib.hid hw
  have HE := Lib.hid hexit
  clear hu hv hw hexit
  go_loopw [148] (fun ix wr => ∃ k : Nat, k ≤ Rn ∧ ix = .int .i64 k ∧ Below W0.heap.size W0 wr) (fun ix _ => Rn - (intOf ix).toNat)
  case atStart => exact ⟨0, by omega, rfl, Below.refl _ _⟩
  case round =>
    obtain ⟨k, hk, rfl, hbw⟩ := hrel
    by_cases hlt : k < Rn
    · have hx : u[k]? = some (at_ u k) := by rw [at_in (by rw [HU.out]; exact hlt)]; simp
      have hy : v[k]? = some (at_ v k) := by rw [at_in (by rw [HV.out]; exact hlt)]; simp
      obtain ⟨c0, c1⟩ := PreV.cells (Pre.later hpu hbw) hx
      obtain ⟨f0, f1⟩ := PreV.cells (Pre.later hpv hbw) hy
      have hd := (hbw.cell (p := ⟨ob, n, none⟩) (World.block_lt_of_cell? W0 _ hd)).trans hd
      have hwi := fun W => within_any (at_ u k) (at_ v k) (HW.out k) W
      clear hx hy
      generalize at_ u k = x at *
      generalize at_ v k = y at *
      obtain ⟨xk, xn⟩ := x
      obtain ⟨yk, yn⟩ := y
      simp only [Vl.agg] at c0 c1 f0 f1 hwi
      go_wp2
      have lc0 := fun s : Later wr => Later.cell c0 s
      have lc1 := fun s : Later wr => Later.cell c1 s
      have lf0 := fun s : Later wr => Later.cell f0 s
      have lf1 := fun s : Later wr => Later.cell f1 s
      have ld := fun s : Later wr => Later.cell hd s
      refine wp_region_later (by kernel_rfl) (by kernel_rfl) ?_
      repeat (go_big_quiet_step ((go_at_call 24; exact Calls.later (hwi _))))
      refine wpQuiet_nil ?_
      rintro w3 ⟨s', rfl⟩
      have hb3 := hbw.trans (s'.h.mono hbw.size)
      clear lc0 lc1 lf0 lf1 ld c0 c1 f0 f1 hd hwi
      generalize s'.w = w3 at *
      go_wp2
      exact ⟨⟨k + 1, by omega, by go_num, hb3⟩, by simp [intOf]; omega⟩
    · obtain rfl : k = Rn := by omega
      go_wp2
      exact HE.out _ _ _ _ _ _ _ _ _ _ _ _ _ _ _ _ _ _ _ wr hbw
set_option maxRecDepth 1000000 in
set_option maxHeartbeats 8000000 in
theorem hold4_any (f : Fn7) (M : List (List Vl)) (i : Ins) (u : List Vl) (l : List Int) (L Rn ob vb vc ib lc : Nat) (A : Option Addr) (pb : Nat → Nat) (hR40 : Rn ≤ 40) (hll : l.length ≤ 2) (hu : u.length = Rn) (hok : Ok i (Rn : Int) f.Fr L) (W0 : World)
    (hrows : ∀ n : Nat, n < L → W0.cell? ⟨ob, n, none⟩ = some (.slice (some ⟨pb n, 0, none⟩) Rn Rn) ∧ PreV W0 (pb n) (row M n) ∧ (row M n).length = Rn)
    (hgo : ∀ (k : Nat) n, l[k]? = some n → 0 ≤ n ∧ n < L ∧ (skip i u k = false → ∀ r, join (at_ u r) (at_ (row M n.toNat) r) = at_ (row M n.toNat) r))
    (hib : W0.heap[ib]? = some i.obj) (hpu : PreV W0 vb u) (hA : RdN W0 A l)
    (x0 x1 x2 x5 x6 x7 x10 x11 x12 x13 x14 x15 x16 x17 x18 x19 x20 x21 x22 x23 x24 x25 x26 x27 x28 x29 x30 x31 x32 x33 x34 x35 x36 x37 x38 x39 x40 x41 x42 x43 x44 x45 x46 x47 x48 x49 x50 x51 x52 x53 x54 x55 x56 x57 x58 x59 x60 x61 x62 x63 x64 x65 x66 x67 x68 x69 x70 x71 x72 x73 x74 x75 x76 x77 x78 x79 x80 x81 x82 x83 x84 x85 x86 x87 x88 x89 x90 x91 x92 x93 x94 x95 x96 x97 x98 x99 x100 x101 x102 x103 x104 x105 x106 x107 x108 x109 x110 x111 x112 x113 x114 x118 x119 x120 x121 x122 x123 x124 x125 x126 x127 x128 x129 x130 x131 x132 x133 x134 x135 x136 x137 x138 x139 x140 x141 x142 x143 x144 x145 x146 x147 x148 x149 x150 x151 x152 x153 x154 x155 x156 x157 x158 x159 x160 x161 x162 x163 x164 x165 x166 x167 x168 : Value) (Q : Exit → Act → World → Prop)
    (hexit : ∀ (y2 y16 y17 y18 y118 y119 y120 y121 y122 y123 y124 y125 y126 y127 y128 y129 y130 y131 y132 y133 y134 y135 y136 y137 y138 y139 y140 y141 y142 y143 y144 y145 y146 y147 y148 y149 y150 y151 y152 y153 y154 y155 y156 y157 y158 y159 y160 y161 y162 y163 y164 y165 y166 : Value) (w' : World), Below W0.heap.size W0 w' → Q (.exit 6) ⟨(x0 :: x1 :: y2 :: .slice (some ⟨ob, 0, none⟩) L L :: .func (.func 24) #[] #[] :: x5 :: x6 :: x7 :: .pointer (some ⟨ib, 0, none⟩) :: .slice (some ⟨vb, 0, none⟩) Rn vc :: x10 :: x11 :: x12 :: x13 :: x14 :: x15 :: y16 :: y17 :: y18 :: x19 :: x20 :: x21 :: x22 :: x23 :: x24 :: x25 :: x26 :: x27 :: x28 :: x29 :: x30 :: x31 :: x32 :: x33 :: x34 :: x35 :: x36 :: x37 :: x38 :: x39 :: x40 :: x41 :: x42 :: x43 :: x44 :: x45 :: x46 :: x47 :: x48 :: x49 :: x50 :: x51 :: x52 :: x53 :: x54 :: x55 :: x56 :: x57 :: x58 :: x59 :: x60 :: x61 :: x62 :: x63 :: x64 :: x65 :: x66 :: x67 :: x68 :: x69 :: x70 :: x71 :: x72 :: x73 :: x74 :: x75 :: x76 :: x77 :: x78 :: x79 :: x80 :: x81 :: x82 :: x83 :: x84 :: x85 :: x86 :: x87 :: x88 :: x89 :: x90 :: x91 :: x92 :: x93 :: x94 :: x95 :: x96 :: x97 :: x98 :: x99 :: x100 :: x101 :: x102 :: x103 :: x104 :: x105 :: x106 :: x107 :: x108 :: x109 :: x110 :: x111 :: x112 :: x113 :: x114 :: .slice A l.length lc :: .int .i64 (l.length : Int) :: .int .i64 (l.length : Int) :: y118 :: y119 :: y120 :: y121 :: y122 :: y123 :: y124 :: y125 :: y126 :: y127 :: y128 :: y129 :: y130 :: y131 :: y132 :: y133 :: y134 :: y135 :: y136 :: y137 :: y138 :: y139 :: y140 :: y141 :: y142 :: y143 :: y144 :: y145 :: y146 :: y147 :: y148 :: y149 :: y150 :: y151 :: y152 :: y153 :: y154 :: y155 :: y156 :: y157 :: y158 :: y159 :: y160 :: y161 :: y162 :: y163 :: y164 :: y165 :: y166 :: x167 :: x168 :: []).toArray, []⟩ w') :
    Code.wp Try.prog hloop4 Q ⟨(x0 :: x1 :: x2 :: .slice (some ⟨ob, 0, none⟩) L L :: .func (.func 24) #[] #[] :: x5 :: x6 :: x7 :: .pointer (some ⟨ib, 0, none⟩) :: .slice (some ⟨vb, 0, none⟩) Rn vc :: x10 :: x11 :: x12 :: x13 :: x14 :: x15 :: x16 :: x17 :: x18 :: x19 :: x20 :: x21 :: x22 :: x23 :: x24 :: x25 :: x26 :: x27 :: x28 :: x29 :: x30 :: x31 :: x32 :: x33 :: x34 :: x35 :: x36 :: x37 :: x38 :: x39 :: x40 :: x41 :: x42 :: x43 :: x44 :: x45 :: x46 :: x47 :: x48 :: x49 :: x50 :: x51 :: x52 :: x53 :: x54 :: x55 :: x56 :: x57 :: x58 :: x59 :: x60 :: x61 :: x62 :: x63 :: x64 :: x65 :: x66 :: x67 :: x68 :: x69 :: x70 :: x71 :: x72 :: x73 :: x74 :: x75 :: x76 :: x77 :: x78 :: x79 :: x80 :: x81 :: x82 :: x83 :: x84 :: x85 :: x86 :: x87 :: x88 :: x89 :: x90 :: x91 :: x92 :: x93 :: x94 :: x95 :: x96 :: x97 :: x98 :: x99 :: x100 :: x101 :: x102 :: x103 :: x104 :: x105 :: x106 :: x107 :: x108 :: x109 :: x110 :: x111 :: x112 :: x113 :: x114 :: .slice A l.length lc :: .int .i64 (l.length : Int) :: .int .i64 0 :: x118 :: x119 :: x120 :: x121 :: x122 :: x123 :: x124 :: x125 :: x126 :: x127 :: x128 :: x129 :: x130 :: x131 :: x132 :: x133 :: x134 :: x135 :: x136 :: x137 :: x138 :: x139 :: x140 :: x141 :: x142 :: x143 :: x144 :: x145 :: x146 :: x147 :: x148 :: x149 :: x150 :: x151 :: x152 :: x153 :: x154 :: x155 :: x156 :: x157 :: x158 :: x159 :: x160 :: x161 :: x162 :: x163 :: x164 :: x165 :: x166 :: x167 :: x168 :: []).toArray, []⟩ W0 := by
  conv => arg 2; whnf
  obtain ⟨ll, hlen⟩ : ∃ ll, l.length = ll := ⟨_, rfl⟩
  rw [hlen] at hll hexit ⊢
  have HLL := Lib.hid hlen
  have HU := Lib.hid hu
  have HR := Lib.hid hrows
  have HG := Lib.hid hgo
  have HE := Lib.hid hexit
  have HOK := Lib.hid hok
  have hilt := (Array.getElem?_eq_some_iff.1 hib).1
  clear hu hrows hgo hexit hlen hok
  go_loopw [117] (fun ix wr => ∃ k : Nat, k ≤ ll ∧ ix = .int .i64 k ∧ Below W0.heap.size W0 wr) (fun ix _ => ll - (intOf ix).toNat)
  case atStart => exact ⟨0, by omega, rfl, Below.refl _ _⟩
  case round =>
    obtain ⟨k, hk, rfl, hbw⟩ := hrel
    by_cases hlt : k < ll
    · obtain ⟨n0, hn0⟩ : ∃ n, l[k]? = some n := ⟨_, List.getElem?_eq_getElem (by rw [HLL.out]; exact hlt)⟩
      obtain ⟨b, o, rfl, hbl, hc⟩ := (hA.below hbw) k n0 hn0
      obtain ⟨h0, h1, h2⟩ := HG.out k n0 hn0
      obtain ⟨n, rfl⟩ : ∃ n : Nat, n0 = n := ⟨n0.toNat, by omega⟩
      rw [Int.toNat_natCast] at h2
      have hnL : n < L := by omega
      obtain ⟨r1, r2, r3⟩ := HR.out n hnL
      have H2 := Lib.hid h2
      have R1 := Lib.hid ((hbw.cell (p := ⟨ob, n, none⟩) (World.block_lt_of_cell? W0 _ r1)).trans r1)
      have R2 := Lib.hid (Pre.later r2 hbw)
      have R3 := Lib.hid r3
      have HPU := Lib.hid (Pre.later hpu hbw)
      have ⟨d0, d1, d2, d3, d4, d5, d6, d7, d8, d9, d10, d11, d12, d13, d14⟩ := Ins.cells (i := i) ((hbw.block _ hilt).trans hib)
      have hltr := Nat.lt_of_lt_of_le hilt hbw.size
      clear r1 r2 r3 h0 h1 h2 hn0 d1 d2 d4 d5 d6 d7 d8 d9 d10 d11 d12 d13 d14
      have ha := HOK.out.a_in
      by_cases h12 : i.kind = 12
      · obtain ⟨ha0, ha1⟩ := ha (by rw [h12]; rfl)
        obtain ⟨m, hm⟩ : ∃ m : Nat, i.a = m := ⟨i.a.toNat, by omega⟩
        rw [hm] at d3 ha1
        have hmR : m < Rn := by omega
        have hx : u[m]? = some (at_ u m) := by rw [at_in (by rw [HU.out]; exact hmR)]; simp
        obtain ⟨c0, c1⟩ := PreV.cells HPU.out hx
        have hvl := Pre.lt HPU.out
        have HS : Hid (skip i u k = (decide ((at_ u m).k = 1) && (decide ((at_ u m).n ≠ 0) != decide (k = 0)))) := Lib.hid (by unfold skip; rw [decide_eq_true h12, hm]; rfl)
        rw [h12] at d0
        generalize at_ u m = x at *
        obtain ⟨xk, xn⟩ := x
        simp only at c0 c1
        clear ha ha0 ha1 h12 hm hx
        by_cases hk1 : xk = 1
        · have q1 : (xk == 1) = true := by simpa using hk1
          by_cases hn0 : xn = 0
          · have q2 : (xn != 0) = false := by simpa using hn0
            have q3 : (xn == 0) = true := by simpa using hn0
            by_cases hk0 : k = 0
            · have q4 : ((k : Int) == 0) = true := by simp; omega
              have q5 : (k == 0) = true := by simp; omega
              clear hk1 hn0 hk0
              go_wp2
              exact ⟨⟨k + 1, by omega, by go_num, hbw⟩, by simp [intOf]; omega⟩
            · have HJ := Lib.hid (H2.out (by rw [HS.out]; simp [hk1, hn0, hk0]))
              have q4 : ((k : Int) == 0) = false := by simp; omega
              have q5 : (k == 0) = false := by simp; omega
              clear hk1 hn0 hk0
              go_wp2
              refine hold5_any u (row M n) L Rn ob vb vc n (pb n) hR40 hnL HU.out R3.out HJ.out wr R1.out HPU.out R2.out _ _ _ _ _ _ _ _ _ _ _ _ _ _ _ _ _ _ _ _ _ _ _ _ _ _ _ _ _ _ _ _ _ _ _ _ _ _ _ _ _ _ _ _ _ _ _ _ _ _ _ _ _ _ _ _ _ _ _ _ _ _ _ _ _ _ _ _ _ _ _ _ _ _ _ _ _ _ _ _ _ _ _ _ _ _ _ _ _ _ _ _ _ _ _ _ _ _ _ _ _ _ _ _ _ _ _ _ _ _ _ _ _ _ _ _ _ _ _ _ _ _ _ _ _ _ _ _ _ _ _ _ _ _ _ _ _ _ _ _ _ _ _ _ _ _ _ _ _ _ _ _ _ _ _ _ _ _ _ _ _ _ _ _ ?_
              intro y2 y18 y149 y150 y151 y152 y153 y154 y155 y156 y157 y158 y159 y160 y161 y162 y163 y164 y165 w5 hb5
              go_wp2
              exact ⟨⟨k + 1, by omega, by go_num, hbw.trans (hb5.mono hbw.size)⟩, by simp [intOf]; omega⟩
          · have q2 : (xn != 0) = true := by simpa using hn0
            have q3 : (xn == 0) = false := by simpa using hn0
            by_cases hk0 : k = 0
            · have HJ := Lib.hid (H2.out (by rw [HS.out]; simp [hk1, hn0, hk0]))
              have q4 : ((k : Int) == 0) = true := by simp; omega
              have q5 : (k == 0) = true := by simp; omega
              clear hk1 hn0 hk0
              go_wp2
              refine hold5_any u (row M n) L Rn ob vb vc n (pb n) hR40 hnL HU.out R3.out HJ.out wr R1.out HPU.out R2.out _ _ _ _ _ _ _ _ _ _ _ _ _ _ _ _ _ _ _ _ _ _ _ _ _ _ _ _ _ _ _ _ _ _ _ _ _ _ _ _ _ _ _ _ _ _ _ _ _ _ _ _ _ _ _ _ _ _ _ _ _ _ _ _ _ _ _ _ _ _ _ _ _ _ _ _ _ _ _ _ _ _ _ _ _ _ _ _ _ _ _ _ _ _ _ _ _ _ _ _ _ _ _ _ _ _ _ _ _ _ _ _ _ _ _ _ _ _ _ _ _ _ _ _ _ _ _ _ _ _ _ _ _ _ _ _ _ _ _ _ _ _ _ _ _ _ _ _ _ _ _ _ _ _ _ _ _ _ _ _ _ _ _ _ ?_
              intro y2 y18 y149 y150 y151 y152 y153 y154 y155 y156 y157 y158 y159 y160 y161 y162 y163 y164 y165 w5 hb5
              go_wp2
              exact ⟨⟨k + 1, by omega, by go_num, hbw.trans (hb5.mono hbw.size)⟩, by simp [intOf]; omega⟩
            · have q4 : ((k : Int) == 0) = false := by simp; omega
              have q5 : (k == 0) = false := by simp; omega
              clear hk1 hn0 hk0
              go_wp2
              exact ⟨⟨k + 1, by omega, by go_num, hbw⟩, by simp [intOf]; omega⟩
        · have q1 : (xk == 1) = false := by simpa using hk1
          have HJ := Lib.hid (H2.out (by rw [HS.out]; simp [hk1]))
          clear hk1
          go_wp2
          refine hold5_any u (row M n) L Rn ob vb vc n (pb n) hR40 hnL HU.out R3.out HJ.out wr R1.out HPU.out R2.out _ _ _ _ _ _ _ _ _ _ _ _ _ _ _ _ _ _ _ _ _ _ _ _ _ _ _ _ _ _ _ _ _ _ _ _ _ _ _ _ _ _ _ _ _ _ _ _ _ _ _ _ _ _ _ _ _ _ _ _ _ _ _ _ _ _ _ _ _ _ _ _ _ _ _ _ _ _ _ _ _ _ _ _ _ _ _ _ _ _ _ _ _ _ _ _ _ _ _ _ _ _ _ _ _ _ _ _ _ _ _ _ _ _ _ _ _ _ _ _ _ _ _ _ _ _ _ _ _ _ _ _ _ _ _ _ _ _ _ _ _ _ _ _ _ _ _ _ _ _ _ _ _ _ _ _ _ _ _ _ _ _ _ _ ?_
          intro y2 y18 y149 y150 y151 y152 y153 y154 y155 y156 y157 y158 y159 y160 y161 y162 y163 y164 y165 w5 hb5
          go_wp2
          exact ⟨⟨k + 1, by omega, by go_num, hbw.trans (hb5.mono hbw.size)⟩, by simp [intOf]; omega⟩
      · have q0 : (i.kind == 12) = false := by simpa using h12
        have HJ := Lib.hid (H2.out (by unfold skip; simp [h12]))
        clear h12 ha
        go_wp2
        refine hold5_any u (row M n) L Rn ob vb vc n (pb n) hR40 hnL HU.out R3.out HJ.out wr R1.out HPU.out R2.out _ _ _ _ _ _ _ _ _ _ _ _ _ _ _ _ _ _ _ _ _ _ _ _ _ _ _ _ _ _ _ _ _ _ _ _ _ _ _ _ _ _ _ _ _ _ _ _ _ _ _ _ _ _ _ _ _ _ _ _ _ _ _ _ _ _ _ _ _ _ _ _ _ _ _ _ _ _ _ _ _ _ _ _ _ _ _ _ _ _ _ _ _ _ _ _ _ _ _ _ _ _ _ _ _ _ _ _ _ _ _ _ _ _ _ _ _ _ _ _ _ _ _ _ _ _ _ _ _ _ _ _ _ _ _ _ _ _ _ _ _ _ _ _ _ _ _ _ _ _ _ _ _ _ _ _ _ _ _ _ _ _ _ _ ?_
        intro y2 y18 y149 y150 y151 y152 y153 y154 y155 y156 y157 y158 y159 y160 y161 y162 y163 y164 y165 w5 hb5
        go_wp2
        exact ⟨⟨k + 1, by omega, by go_num, hbw.trans (hb5.mono hbw.size)⟩, by simp [intOf]; omega⟩
    · obtain rfl : k = ll := by omega
      go_wp2
      exact HE.out _ _ _ _ _ _ _ _ _ _ _ _ _ _ _ _ _ _ _ _ _ _ _ _ _ _ _ _ _ _ _ _ _ _ _ _ _ _ _ _ _ _ _ _ _ _ _ _ _ _ _ _ _ wr hbw
theorem any_take {v : List Vl} {k : Nat} {x : Vl} (h : v[k]? = some x) : (v.take (k + 1)).any (fun x => x.k == 0) = ((v.take k).any (fun x => x.k == 0) || (x.k == 0)) := by
  rw [List.take_add_one, h]
  simp
set_option maxRecDepth 1000000 in
set_option maxHeartbeats 4000000 in
theorem hold3_any (v : List Vl) (Rn vb vc : Nat) (hR40 : Rn ≤ 40) (hv : v.length = Rn) (W0 : World) (hpv : PreV W0 vb v)
    (x0 x1 x2 x3 x4 x5 x6 x7 x8 x9 x11 x12 x13 x14 x15 x16 x17 x18 x19 x20 x21 x22 x23 x24 x25 x26 x27 x28 x29 x30 x31 x32 x33 x34 x35 x36 x37 x38 x39 x40 x41 x42 x43 x44 x45 x46 x47 x48 x49 x50 x51 x52 x53 x54 x55 x56 x57 x58 x59 x60 x61 x62 x63 x64 x65 x66 x67 x68 x69 x70 x71 x72 x73 x74 x75 x76 x77 x78 x79 x80 x84 x85 x86 x87 x88 x89 x90 x91 x92 x93 x94 x95 x96 x97 x98 x99 x100 x101 x102 x103 x104 x105 x106 x107 x108 x109 x110 x111 x112 x113 x114 x115 x116 x117 x118 x119 x120 x121 x122 x123 x124 x125 x126 x127 x128 x129 x130 x131 x132 x133 x134 x135 x136 x137 x138 x139 x140 x141 x142 x143 x144 x145 x146 x147 x148 x149 x150 x151 x152 x153 x154 x155 x156 x157 x158 x159 x160 x161 x162 x163 x164 x165 x166 x167 x168 : Value) (Q : Exit → Act → World → Prop)
    (hexit : ∀ (y12 y84 y85 y86 y87 y88 y89 y90 y91 y92 y93 : Value) (w' : World), Below W0.heap.size W0 w' → Q (.exit 4) ⟨(x0 :: x1 :: x2 :: x3 :: x4 :: x5 :: x6 :: x7 :: x8 :: x9 :: .bool (v.any (fun x => x.k == 0)) :: x11 :: y12 :: x13 :: x14 :: x15 :: x16 :: x17 :: x18 :: x19 :: x20 :: x21 :: x22 :: x23 :: x24 :: x25 :: x26 :: x27 :: x28 :: x29 :: x30 :: x31 :: x32 :: x33 :: x34 :: x35 :: x36 :: x37 :: x38 :: x39 :: x40 :: x41 :: x42 :: x43 :: x44 :: x45 :: x46 :: x47 :: x48 :: x49 :: x50 :: x51 :: x52 :: x53 :: x54 :: x55 :: x56 :: x57 :: x58 :: x59 :: x60 :: x61 :: x62 :: x63 :: x64 :: x65 :: x66 :: x67 :: x68 :: x69 :: x70 :: x71 :: x72 :: x73 :: x74 :: x75 :: x76 :: x77 :: x78 :: x79 :: x80 :: .slice (some ⟨vb, 0, none⟩) Rn vc :: .int .i64 (Rn : Int) :: .int .i64 (Rn : Int) :: y84 :: y85 :: y86 :: y87 :: y88 :: y89 :: y90 :: y91 :: y92 :: y93 :: x94 :: x95 :: x96 :: x97 :: x98 :: x99 :: x100 :: x101 :: x102 :: x103 :: x104 :: x105 :: x106 :: x107 :: x108 :: x109 :: x110 :: x111 :: x112 :: x113 :: x114 :: x115 :: x116 :: x117 :: x118 :: x119 :: x120 :: x121 :: x122 :: x123 :: x124 :: x125 :: x126 :: x127 :: x128 :: x129 :: x130 :: x131 :: x132 :: x133 :: x134 :: x135 :: x136 :: x137 :: x138 :: x139 :: x140 :: x141 :: x142 :: x143 :: x144 :: x145 :: x146 :: x147 :: x148 :: x149 :: x150 :: x151 :: x152 :: x153 :: x154 :: x155 :: x156 :: x157 :: x158 :: x159 :: x160 :: x161 :: x162 :: x163 :: x164 :: x165 :: x166 :: x167 :: x168 :: []).toArray, []⟩ w') :
    Code.wp Try.prog hloop3 Q ⟨(x0 :: x1 :: x2 :: x3 :: x4 :: x5 :: x6 :: x7 :: x8 :: x9 :: .bool false :: x11 :: x12 :: x13 :: x14 :: x15 :: x16 :: x17 :: x18 :: x19 :: x20 :: x21 :: x22 :: x23 :: x24 :: x25 :: x26 :: x27 :: x28 :: x29 :: x30 :: x31 :: x32 :: x33 :: x34 :: x35 :: x36 :: x37 :: x38 :: x39 :: x40 :: x41 :: x42 :: x43 :: x44 :: x45 :: x46 :: x47 :: x48 :: x49 :: x50 :: x51 :: x52 :: x53 :: x54 :: x55 :: x56 :: x57 :: x58 :: x59 :: x60 :: x61 :: x62 :: x63 :: x64 :: x65 :: x66 :: x67 :: x68 :: x69 :: x70 :: x71 :: x72 :: x73 :: x74 :: x75 :: x76 :: x77 :: x78 :: x79 :: x80 :: .slice (some ⟨vb, 0, none⟩) Rn vc :: .int .i64 (Rn : Int) :: .int .i64 0 :: x84 :: x85 :: x86 :: x87 :: x88 :: x89 :: x90 :: x91 :: x92 :: x93 :: x94 :: x95 :: x96 :: x97 :: x98 :: x99 :: x100 :: x101 :: x102 :: x103 :: x104 :: x105 :: x106 :: x107 :: x108 :: x109 :: x110 :: x111 :: x112 :: x113 :: x114 :: x115 :: x116 :: x117 :: x118 :: x119 :: x120 :: x121 :: x122 :: x123 :: x124 :: x125 :: x126 :: x127 :: x128 :: x129 :: x130 :: x131 :: x132 :: x133 :: x134 :: x135 :: x136 :: x137 :: x138 :: x139 :: x140 :: x141 :: x142 :: x143 :: x144 :: x145 :: x146 :: x147 :: x148 :: x149 :: x150 :: x151 :: x152 :: x153 :: x154 :: x155 :: x156 :: x157 :: x158 :: x159 :: x160 :: x161 :: x162 :: x163 :: x164 :: x165 :: x166 :: x167 :: x168 :: []).toArray, []⟩ W0 := by
  conv => arg 2; whnf
  have HV := Lib.hid hv
  have HE := Lib.hid hexit
  clear hv hexit
  go_loopw [10, 83] (fun c ix wr => ∃ k : Nat, k ≤ Rn ∧ ix = .int .i64 k ∧ c = .bool ((v.take k).any (fun x => x.k == 0)) ∧ Below W0.heap.size W0 wr) (fun _ ix _ => Rn - (intOf ix).toNat)
  case atStart => exact ⟨0, by omega, rfl, rfl, Below.refl _ _⟩
  case round =>
    obtain ⟨k, hk, rfl, rfl, hbw⟩ := hrel
    by_cases hlt : k < Rn
    · have hx : v[k]? = some (at_ v k) := by rw [at_in (by rw [HV.out]; exact hlt)]; simp
      obtain ⟨c0, c1⟩ := PreV.cells (Pre.later hpv hbw) hx
      have hvl := Pre.lt (Pre.later hpv hbw)
      have HT := Lib.hid (any_take hx)
      clear hx
      generalize at_ v k = x at *
      obtain ⟨xk, xn⟩ := x
      simp only at c0 c1
      generalize (v.take k).any (fun x => x.k == 0) = bb at *
      cases bb
      · cases hq : (xk == 0)
        all_goals
          go_wp2
          exact ⟨⟨k + 1, by omega, by go_num, by rw [HT.out]; simp [hq], hbw.alloc hbw.size _⟩, by simp [intOf]; omega⟩
      · go_wp2
        exact ⟨⟨k + 1, by omega, by go_num, by rw [HT.out]; rfl, hbw.alloc hbw.size _⟩, by simp [intOf]; omega⟩
    · obtain rfl : k = Rn := by omega
      rw [List.take_of_length_le (by rw [HV.out]; omega)]
      go_wp2
      exact HE.out _ _ _ _ _ _ _ _ _ _ _ wr hbw
end Go.Proofs.Ytaofdbboalcceaa
