import Derived.Test.YtaofdbboalcceaaLr
/- FlowLeast. -/
namespace Go.Proofs.Ytaofdbboalcceaa
open Go.RowKit Go.BigFrame

theorem fst_next0 {W : World} {fo R k : Nat} {ps : Int} (h : PreV W fo (fst R ps k)) (hk : k < R) (hp : ¬ (k : Int) < ps) : PreV ((W.setCell ⟨fo, k * 2, none⟩ (.int .i64 1)).setCell ⟨fo, k * 2 + 1, none⟩ (.int .i64 0)) fo (fst R ps (k + 1)) := by
  have h1 := PreV.set h (fst_get hk) (if (k : Int) < ps then av else ⟨1, 0⟩)
  rw [fst_set hk, if_neg hp] at h1
  exact h1
theorem fst_next1 {W : World} {fo R k : Nat} {ps : Int} (h : PreV W fo (fst R ps k)) (hk : k < R) (hp : (k : Int) < ps) : PreV (((W.setCell ⟨fo, k * 2, none⟩ (.int .i64 1)).setCell ⟨fo, k * 2 + 1, none⟩ (.int .i64 0)).setCell ⟨fo, k * 2, none⟩ (.int .i64 2)) fo (fst R ps (k + 1)) := by
  have h1 := PreV.set h (fst_get hk) ⟨1, 0⟩
  have hl : k < (fst R ps k).length := by simp [fst, hk]
  have h2 := Pre.store (y := av) h1 (List.getElem?_set_self hl) (k := 0) (v := .int .i64 2) (by omega) rfl rfl (fun k' hk' => by
    match k' with
    | 0 => exact absurd rfl hk'
    | 1 => rfl
    | k' + 2 => rfl)
  rw [List.set_set] at h2
  have h3 := fst_set (ps := ps) hk
  rw [if_pos hp] at h3
  rw [h3, Nat.add_zero] at h2
  exact h2
theorem MemC.of_lp1 {W1 W : World} {cb L R : Nat} (h : Lp1 W1 W cb L R L) : MemC W cb L R (List.replicate L (List.replicate R nv)) :=
  ⟨h.h, fun p v hv => by
    have hp : p < L := by simpa using (List.getElem?_eq_some_iff.1 hv).1
    rw [List.getElem?_replicate, if_pos hp] at hv
    injection hv with hv
    rw [← hv]
    exact h.r p hp, by have := h.s; omega, by simp⟩
set_option maxRecDepth 1000000 in
set_option maxHeartbeats 8000000 in
theorem least8_any (v : List Vl) (L Rn ob cb p pn : Nat) (hR40 : Rn ≤ 40) (hp : p < L) (hv : v.length = Rn) (W0 : World)
    (hd1 : W0.cell? ⟨ob, p, none⟩ = some (.slice (some ⟨pn, 0, none⟩) Rn Rn)) (hp1 : PreV W0 pn v) (hd2 : W0.cell? ⟨cb, p, none⟩ = some (.slice (some ⟨cb + 1 + p, 0, none⟩) Rn Rn)) (hp2 : PreV W0 (cb + 1 + p) v)
    (x0 x1 x2 x5 x6 x7 x8 x9 x10 x11 x12 x13 x14 x15 x16 x17 x18 x20 x21 x22 x23 x24 x25 x26 x27 x28 x29 x30 x31 x32 x33 x34 x35 x36 x37 x38 x39 x40 x41 x42 x43 x44 x45 x46 x47 x48 x49 x50 x51 x52 x53 x54 x55 x56 x57 x58 x59 x60 x61 x62 x63 x64 x65 x66 x67 x68 x69 x70 x71 x72 x73 x74 x75 x76 x77 x78 x79 x80 x81 x82 x83 x84 x85 x86 x87 x88 x89 x90 x91 x92 x93 x94 x95 x96 x97 x98 x99 x100 x101 x102 x103 x104 x105 x106 x107 x108 x109 x110 x111 x112 x113 x114 x115 x116 x117 x118 x119 x120 x121 x122 x123 x124 x125 x126 x127 x128 x129 x130 x131 x132 x133 x134 x135 x136 x137 x138 x139 x140 x141 x142 x143 x144 x145 x146 x147 x148 x149 x150 x151 x152 x153 x154 x155 x156 x157 x158 x159 x160 x161 x162 x163 x164 x165 x166 x167 x168 x169 x170 x171 x172 x173 x174 x175 x176 x177 x178 x179 x180 x181 x182 x183 x184 x185 x186 x187 x188 x189 x190 x191 x192 x193 x194 x195 x196 x197 x198 x199 x200 x201 x202 x205 x206 x207 x208 x209 x210 x211 x212 x213 x214 x215 x216 x217 x218 x219 x220 x221 x222 x223 x224 : Value) (Q : Exit → Act → World → Prop)
    (hexit : ∀ (y2 y20 y205 y206 y207 y208 y209 y210 y211 y212 y213 y214 y215 y216 y217 y218 y219 y220 y221 y222 : Value) (w' : World), Below W0.heap.size W0 w' → Q (.exit 14) ⟨(x0 :: x1 :: y2 :: .slice (some ⟨ob, 0, none⟩) L L :: .slice (some ⟨cb, 0, none⟩) L L :: x5 :: x6 :: x7 :: x8 :: x9 :: x10 :: x11 :: x12 :: x13 :: x14 :: x15 :: x16 :: x17 :: x18 :: .int .i64 (p : Int) :: y20 :: x21 :: x22 :: x23 :: x24 :: x25 :: x26 :: x27 :: x28 :: x29 :: x30 :: x31 :: x32 :: x33 :: x34 :: x35 :: x36 :: x37 :: x38 :: x39 :: x40 :: x41 :: x42 :: x43 :: x44 :: x45 :: x46 :: x47 :: x48 :: x49 :: x50 :: x51 :: x52 :: x53 :: x54 :: x55 :: x56 :: x57 :: x58 :: x59 :: x60 :: x61 :: x62 :: x63 :: x64 :: x65 :: x66 :: x67 :: x68 :: x69 :: x70 :: x71 :: x72 :: x73 :: x74 :: x75 :: x76 :: x77 :: x78 :: x79 :: x80 :: x81 :: x82 :: x83 :: x84 :: x85 :: x86 :: x87 :: x88 :: x89 :: x90 :: x91 :: x92 :: x93 :: x94 :: x95 :: x96 :: x97 :: x98 :: x99 :: x100 :: x101 :: x102 :: x103 :: x104 :: x105 :: x106 :: x107 :: x108 :: x109 :: x110 :: x111 :: x112 :: x113 :: x114 :: x115 :: x116 :: x117 :: x118 :: x119 :: x120 :: x121 :: x122 :: x123 :: x124 :: x125 :: x126 :: x127 :: x128 :: x129 :: x130 :: x131 :: x132 :: x133 :: x134 :: x135 :: x136 :: x137 :: x138 :: x139 :: x140 :: x141 :: x142 :: x143 :: x144 :: x145 :: x146 :: x147 :: x148 :: x149 :: x150 :: x151 :: x152 :: x153 :: x154 :: x155 :: x156 :: x157 :: x158 :: x159 :: x160 :: x161 :: x162 :: x163 :: x164 :: x165 :: x166 :: x167 :: x168 :: x169 :: x170 :: x171 :: x172 :: x173 :: x174 :: x175 :: x176 :: x177 :: x178 :: x179 :: x180 :: x181 :: x182 :: x183 :: x184 :: x185 :: x186 :: x187 :: x188 :: x189 :: x190 :: x191 :: x192 :: x193 :: x194 :: x195 :: x196 :: x197 :: x198 :: x199 :: x200 :: x201 :: x202 :: .int .i64 (Rn : Int) :: .int .i64 (Rn : Int) :: y205 :: y206 :: y207 :: y208 :: y209 :: y210 :: y211 :: y212 :: y213 :: y214 :: y215 :: y216 :: y217 :: y218 :: y219 :: y220 :: y221 :: y222 :: x223 :: x224 :: []).toArray, []⟩ w') :
    Code.wp Try.prog lloop8 Q ⟨(x0 :: x1 :: x2 :: .slice (some ⟨ob, 0, none⟩) L L :: .slice (some ⟨cb, 0, none⟩) L L :: x5 :: x6 :: x7 :: x8 :: x9 :: x10 :: x11 :: x12 :: x13 :: x14 :: x15 :: x16 :: x17 :: x18 :: .int .i64 (p : Int) :: x20 :: x21 :: x22 :: x23 :: x24 :: x25 :: x26 :: x27 :: x28 :: x29 :: x30 :: x31 :: x32 :: x33 :: x34 :: x35 :: x36 :: x37 :: x38 :: x39 :: x40 :: x41 :: x42 :: x43 :: x44 :: x45 :: x46 :: x47 :: x48 :: x49 :: x50 :: x51 :: x52 :: x53 :: x54 :: x55 :: x56 :: x57 :: x58 :: x59 :: x60 :: x61 :: x62 :: x63 :: x64 :: x65 :: x66 :: x67 :: x68 :: x69 :: x70 :: x71 :: x72 :: x73 :: x74 :: x75 :: x76 :: x77 :: x78 :: x79 :: x80 :: x81 :: x82 :: x83 :: x84 :: x85 :: x86 :: x87 :: x88 :: x89 :: x90 :: x91 :: x92 :: x93 :: x94 :: x95 :: x96 :: x97 :: x98 :: x99 :: x100 :: x101 :: x102 :: x103 :: x104 :: x105 :: x106 :: x107 :: x108 :: x109 :: x110 :: x111 :: x112 :: x113 :: x114 :: x115 :: x116 :: x117 :: x118 :: x119 :: x120 :: x121 :: x122 :: x123 :: x124 :: x125 :: x126 :: x127 :: x128 :: x129 :: x130 :: x131 :: x132 :: x133 :: x134 :: x135 :: x136 :: x137 :: x138 :: x139 :: x140 :: x141 :: x142 :: x143 :: x144 :: x145 :: x146 :: x147 :: x148 :: x149 :: x150 :: x151 :: x152 :: x153 :: x154 :: x155 :: x156 :: x157 :: x158 :: x159 :: x160 :: x161 :: x162 :: x163 :: x164 :: x165 :: x166 :: x167 :: x168 :: x169 :: x170 :: x171 :: x172 :: x173 :: x174 :: x175 :: x176 :: x177 :: x178 :: x179 :: x180 :: x181 :: x182 :: x183 :: x184 :: x185 :: x186 :: x187 :: x188 :: x189 :: x190 :: x191 :: x192 :: x193 :: x194 :: x195 :: x196 :: x197 :: x198 :: x199 :: x200 :: x201 :: x202 :: .int .i64 (Rn : Int) :: .int .i64 0 :: x205 :: x206 :: x207 :: x208 :: x209 :: x210 :: x211 :: x212 :: x213 :: x214 :: x215 :: x216 :: x217 :: x218 :: x219 :: x220 :: x221 :: x222 :: x223 :: x224 :: []).toArray, []⟩ W0 := by
  conv => arg 2; whnf
  have HV := Lib.hid hv
  have HE := Lib.hid hexit
  clear hv hexit
  go_loopw [204] (fun ix wr => ∃ k : Nat, k ≤ Rn ∧ ix = .int .i64 k ∧ Below W0.heap.size W0 wr) (fun ix _ => Rn - (intOf ix).toNat)
  case atStart => exact ⟨0, by omega, rfl, Below.refl _ _⟩
  case round =>
    obtain ⟨k, hk, rfl, hbw⟩ := hrel
    by_cases hlt : k < Rn
    · have hx : v[k]? = some (at_ v k) := by rw [at_in (by rw [HV.out]; exact hlt)]; simp
      obtain ⟨c0, c1⟩ := PreV.cells (Pre.later hp1 hbw) hx
      obtain ⟨g0, g1⟩ := PreV.cells (Pre.later hp2 hbw) hx
      have hd1 := (hbw.cell (p := ⟨ob, p, none⟩) (World.block_lt_of_cell? W0 _ hd1)).trans hd1
      have hd2 := (hbw.cell (p := ⟨cb, p, none⟩) (World.block_lt_of_cell? W0 _ hd2)).trans hd2
      have hne := fun W => neq_val (at_ v k) (at_ v k) W
      clear hx
      generalize at_ v k = x at *
      obtain ⟨xk, xn⟩ := x
      simp only [Vl.agg, decide_true, Bool.not_true] at c0 c1 g0 g1 hne
      go_wp2
      go_quiet (fail)
      go_wp2
      exact ⟨⟨k + 1, by omega, by go_num, below_drewN hbw _⟩, by simp [intOf]; omega⟩
    · obtain rfl : k = Rn := by omega
      go_wp2
      exact HE.out _ _ _ _ _ _ _ _ _ _ _ _ _ _ _ _ _ _ _ _ wr hbw
set_option maxRecDepth 1000000 in
set_option maxHeartbeats 8000000 in
theorem least7_any (M : List (List Vl)) (L Rn ob cb : Nat) (hL25 : L ≤ 25) (hR40 : Rn ≤ 40) (pb : Nat → Nat) (W0 : World)
    (hrows : ∀ n : Nat, n < L → W0.cell? ⟨ob, n, none⟩ = some (.slice (some ⟨pb n, 0, none⟩) Rn Rn) ∧ PreV W0 (pb n) (row M n) ∧ (row M n).length = Rn) (hM : MemC W0 cb L Rn M)
    (x0 x1 x2 x5 x6 x7 x8 x9 x10 x11 x12 x13 x14 x15 x16 x17 x18 x19 x20 x21 x22 x23 x24 x25 x26 x27 x28 x29 x30 x31 x32 x33 x34 x35 x36 x37 x38 x39 x40 x41 x42 x43 x44 x45 x46 x47 x48 x49 x50 x51 x52 x53 x54 x55 x56 x57 x58 x59 x60 x61 x62 x63 x64 x65 x66 x67 x68 x69 x70 x71 x72 x73 x74 x75 x76 x77 x78 x79 x80 x81 x82 x83 x84 x85 x86 x87 x88 x89 x90 x91 x92 x93 x94 x95 x96 x97 x98 x99 x100 x101 x102 x103 x104 x105 x106 x107 x108 x109 x110 x111 x112 x113 x114 x115 x116 x117 x118 x119 x120 x121 x122 x123 x124 x125 x126 x127 x128 x129 x130 x131 x132 x133 x134 x135 x136 x137 x138 x139 x140 x141 x142 x143 x144 x145 x146 x147 x148 x149 x150 x151 x152 x153 x154 x155 x156 x157 x158 x159 x160 x161 x162 x163 x164 x165 x166 x167 x168 x169 x170 x171 x172 x173 x174 x175 x176 x177 x178 x179 x180 x181 x182 x183 x184 x185 x186 x187 x188 x189 x190 x191 x192 x193 x194 x197 x198 x199 x200 x201 x202 x203 x204 x205 x206 x207 x208 x209 x210 x211 x212 x213 x214 x215 x216 x217 x218 x219 x220 x221 x222 x223 x224 : Value) (Q : Exit → Act → World → Prop)
    (hexit : ∀ (y2 y19 y20 y197 y198 y199 y200 y201 y202 y203 y204 y205 y206 y207 y208 y209 y210 y211 y212 y213 y214 y215 y216 y217 y218 y219 y220 y221 y222 y223 : Value) (w' : World), Below W0.heap.size W0 w' → Q (.exit 12) ⟨(x0 :: x1 :: y2 :: .slice (some ⟨ob, 0, none⟩) L L :: .slice (some ⟨cb, 0, none⟩) L L :: x5 :: x6 :: x7 :: x8 :: x9 :: x10 :: x11 :: x12 :: x13 :: x14 :: x15 :: x16 :: x17 :: x18 :: y19 :: y20 :: x21 :: x22 :: x23 :: x24 :: x25 :: x26 :: x27 :: x28 :: x29 :: x30 :: x31 :: x32 :: x33 :: x34 :: x35 :: x36 :: x37 :: x38 :: x39 :: x40 :: x41 :: x42 :: x43 :: x44 :: x45 :: x46 :: x47 :: x48 :: x49 :: x50 :: x51 :: x52 :: x53 :: x54 :: x55 :: x56 :: x57 :: x58 :: x59 :: x60 :: x61 :: x62 :: x63 :: x64 :: x65 :: x66 :: x67 :: x68 :: x69 :: x70 :: x71 :: x72 :: x73 :: x74 :: x75 :: x76 :: x77 :: x78 :: x79 :: x80 :: x81 :: x82 :: x83 :: x84 :: x85 :: x86 :: x87 :: x88 :: x89 :: x90 :: x91 :: x92 :: x93 :: x94 :: x95 :: x96 :: x97 :: x98 :: x99 :: x100 :: x101 :: x102 :: x103 :: x104 :: x105 :: x106 :: x107 :: x108 :: x109 :: x110 :: x111 :: x112 :: x113 :: x114 :: x115 :: x116 :: x117 :: x118 :: x119 :: x120 :: x121 :: x122 :: x123 :: x124 :: x125 :: x126 :: x127 :: x128 :: x129 :: x130 :: x131 :: x132 :: x133 :: x134 :: x135 :: x136 :: x137 :: x138 :: x139 :: x140 :: x141 :: x142 :: x143 :: x144 :: x145 :: x146 :: x147 :: x148 :: x149 :: x150 :: x151 :: x152 :: x153 :: x154 :: x155 :: x156 :: x157 :: x158 :: x159 :: x160 :: x161 :: x162 :: x163 :: x164 :: x165 :: x166 :: x167 :: x168 :: x169 :: x170 :: x171 :: x172 :: x173 :: x174 :: x175 :: x176 :: x177 :: x178 :: x179 :: x180 :: x181 :: x182 :: x183 :: x184 :: x185 :: x186 :: x187 :: x188 :: x189 :: x190 :: x191 :: x192 :: x193 :: x194 :: .int .i64 (L : Int) :: .int .i64 (L : Int) :: y197 :: y198 :: y199 :: y200 :: y201 :: y202 :: y203 :: y204 :: y205 :: y206 :: y207 :: y208 :: y209 :: y210 :: y211 :: y212 :: y213 :: y214 :: y215 :: y216 :: y217 :: y218 :: y219 :: y220 :: y221 :: y222 :: y223 :: x224 :: []).toArray, []⟩ w') :
    Code.wp Try.prog lloop7 Q ⟨(x0 :: x1 :: x2 :: .slice (some ⟨ob, 0, none⟩) L L :: .slice (some ⟨cb, 0, none⟩) L L :: x5 :: x6 :: x7 :: x8 :: x9 :: x10 :: x11 :: x12 :: x13 :: x14 :: x15 :: x16 :: x17 :: x18 :: x19 :: x20 :: x21 :: x22 :: x23 :: x24 :: x25 :: x26 :: x27 :: x28 :: x29 :: x30 :: x31 :: x32 :: x33 :: x34 :: x35 :: x36 :: x37 :: x38 :: x39 :: x40 :: x41 :: x42 :: x43 :: x44 :: x45 :: x46 :: x47 :: x48 :: x49 :: x50 :: x51 :: x52 :: x53 :: x54 :: x55 :: x56 :: x57 :: x58 :: x59 :: x60 :: x61 :: x62 :: x63 :: x64 :: x65 :: x66 :: x67 :: x68 :: x69 :: x70 :: x71 :: x72 :: x73 :: x74 :: x75 :: x76 :: x77 :: x78 :: x79 :: x80 :: x81 :: x82 :: x83 :: x84 :: x85 :: x86 :: x87 :: x88 :: x89 :: x90 :: x91 :: x92 :: x93 :: x94 :: x95 :: x96 :: x97 :: x98 :: x99 :: x100 :: x101 :: x102 :: x103 :: x104 :: x105 :: x106 :: x107 :: x108 :: x109 :: x110 :: x111 :: x112 :: x113 :: x114 :: x115 :: x116 :: x117 :: x118 :: x119 :: x120 :: x121 :: x122 :: x123 :: x124 :: x125 :: x126 :: x127 :: x128 :: x129 :: x130 :: x131 :: x132 :: x133 :: x134 :: x135 :: x136 :: x137 :: x138 :: x139 :: x140 :: x141 :: x142 :: x143 :: x144 :: x145 :: x146 :: x147 :: x148 :: x149 :: x150 :: x151 :: x152 :: x153 :: x154 :: x155 :: x156 :: x157 :: x158 :: x159 :: x160 :: x161 :: x162 :: x163 :: x164 :: x165 :: x166 :: x167 :: x168 :: x169 :: x170 :: x171 :: x172 :: x173 :: x174 :: x175 :: x176 :: x177 :: x178 :: x179 :: x180 :: x181 :: x182 :: x183 :: x184 :: x185 :: x186 :: x187 :: x188 :: x189 :: x190 :: x191 :: x192 :: x193 :: x194 :: .int .i64 (L : Int) :: .int .i64 0 :: x197 :: x198 :: x199 :: x200 :: x201 :: x202 :: x203 :: x204 :: x205 :: x206 :: x207 :: x208 :: x209 :: x210 :: x211 :: x212 :: x213 :: x214 :: x215 :: x216 :: x217 :: x218 :: x219 :: x220 :: x221 :: x222 :: x223 :: x224 :: []).toArray, []⟩ W0 := by
  conv => arg 2; whnf
  have HR := Lib.hid hrows
  have HM := Lib.hid hM
  have HE := Lib.hid hexit
  clear hrows hexit hM
  go_loopw [196] (fun ix wr => ∃ k : Nat, k ≤ L ∧ ix = .int .i64 k ∧ Below W0.heap.size W0 wr) (fun ix _ => L - (intOf ix).toNat)
  case atStart => exact ⟨0, by omega, rfl, Below.refl _ _⟩
  case round =>
    obtain ⟨p, hp, rfl, hbw⟩ := hrel
    by_cases hlt : p < L
    · obtain ⟨r1, r2, r3⟩ := HR.out p hlt
      have r1 := (hbw.cell (p := ⟨ob, p, none⟩) (World.block_lt_of_cell? W0 _ r1)).trans r1
      have R2 := Lib.hid (Pre.later r2 hbw)
      have R3 := Lib.hid r3
      have HM2 := Lib.hid (HM.out.later hbw)
      clear r2 r3
      go_wp2_with fail
      refine least8_any (row M p) L Rn ob cb p (pb p) hR40 hlt R3.out wr r1 R2.out (HM2.out.head hlt) (HM2.out.row hlt) _ _ _ _ _ _ _ _ _ _ _ _ _ _ _ _ _ _ _ _ _ _ _ _ _ _ _ _ _ _ _ _ _ _ _ _ _ _ _ _ _ _ _ _ _ _ _ _ _ _ _ _ _ _ _ _ _ _ _ _ _ _ _ _ _ _ _ _ _ _ _ _ _ _ _ _ _ _ _ _ _ _ _ _ _ _ _ _ _ _ _ _ _ _ _ _ _ _ _ _ _ _ _ _ _ _ _ _ _ _ _ _ _ _ _ _ _ _ _ _ _ _ _ _ _ _ _ _ _ _ _ _ _ _ _ _ _ _ _ _ _ _ _ _ _ _ _ _ _ _ _ _ _ _ _ _ _ _ _ _ _ _ _ _ _ _ _ _ _ _ _ _ _ _ _ _ _ _ _ _ _ _ _ _ _ _ _ _ _ _ _ _ _ _ _ _ _ _ _ _ _ _ _ _ _ _ _ _ _ _ _ _ _ _ _ _ _ _ _ _ _ ?_
      intro y2 y20 y205 y206 y207 y208 y209 y210 y211 y212 y213 y214 y215 y216 y217 y218 y219 y220 y221 y222 w5 hb5
      have hB5 := hbw.trans (hb5.mono hbw.size)
      go_wp2
      exact ⟨⟨p + 1, by omega, by go_num, hB5⟩, by simp [intOf]; omega⟩
    · obtain rfl : p = L := by omega
      go_wp2
      exact HE.out _ _ _ _ _ _ _ _ _ _ _ _ _ _ _ _ _ _ _ _ _ _ _ _ _ _ _ _ _ _ wr hbw
set_option maxRecDepth 1000000 in
set_option maxHeartbeats 16000000 in
theorem leasts_any (f : Fn7) (C : Option Addr) (cap : Nat) (hl9 : f.code.length ≤ 9223372036854775807) (w : World) (hC : RdI w C f.code) :
    Calls Try.prog 6 #[funcAgg f.nm f.ps f.R f.Fr C f.code.length cap] w fun e w' => e = .returned (.bool true) ∧ Below w.heap.size w w' := by
  have hB0 := Below.one w (funcObj f.nm f.ps f.R f.Fr C f.code.length cap)
  have bx := heap_alloc_new w (funcObj f.nm f.ps f.R f.Fr C f.code.length cap)
  have hfw := few11_any f C cap hl9 _ (hC.below hB0)
  have hrf := fun W h => refRightFunc_any f C cap W h
  have HAW := Lib.hid awake11_any
  have HC1 := Lib.hid (hC.below hB0)
  obtain ⟨W0, hW0⟩ : ∃ W0, w.alloc (funcObj f.nm f.ps f.R f.Fr C f.code.length cap) = W0 := ⟨_, rfl⟩
  rw [hW0] at hB0 bx hfw HC1
  have hlt0 := (Array.getElem?_eq_some_iff.1 bx).1
  clear hC
  by_cases hfew : Few f
  case neg =>
    have hfw := hfw.mono fun e w' h => (⟨h.1.is_false hfew, h.2⟩ : e = .returned (.bool false) ∧ _)
    simp only [funcObj, funcAgg] at hB0 bx hfw hW0 ⊢
    clear hrf hfew
    have y0 := cell_of_heap bx 0 (.string f.nm) rfl
    have y1 := cell_of_heap bx 1 (.int .i64 f.ps) rfl
    have y2 := cell_of_heap bx 2 (.int .i64 f.R) rfl
    have y3 := cell_of_heap bx 3 (.int .i64 f.Fr) rfl
    have y4 := cell_of_heap bx 4 (.slice C f.code.length cap) rfl
    go_enter Try.func6, Try.ntmps6
    go_wp2_with (first
      | (go_at_call 21; refine hfw.mono ?_; rintro e w1 ⟨rfl, hb1⟩)
      | (go_at_call 19; refine (HAW.out _).mono ?_; rintro e w2 ⟨rfl, hb2⟩))
    go_returns
    exact ⟨rfl, (hB0.trans (hb1.mono hB0.size)).trans (hb2.mono (Nat.le_trans hB0.size hb1.size))⟩
  have hfw := hfw.mono fun e w' h => (⟨h.1.is_true hfew, h.2⟩ : e = .returned (.bool true) ∧ _)
  by_cases hok : OkF f
  case neg =>
    have hrf := fun W h => (hrf W h).mono fun e w' h => (⟨h.1.is_false hok, h.2⟩ : e = .returned (.bool false) ∧ _)
    simp only [funcObj, funcAgg] at hB0 bx hfw hrf hW0 ⊢
    have HRF := Lib.hid hrf
    clear hrf hfew hok
    have y0 := cell_of_heap bx 0 (.string f.nm) rfl
    have y1 := cell_of_heap bx 1 (.int .i64 f.ps) rfl
    have y2 := cell_of_heap bx 2 (.int .i64 f.R) rfl
    have y3 := cell_of_heap bx 3 (.int .i64 f.Fr) rfl
    have y4 := cell_of_heap bx 4 (.slice C f.code.length cap) rfl
    go_enter Try.func6, Try.ntmps6
    go_wp2_with (first
      | (go_at_call 21; refine hfw.mono ?_; rintro e w1 ⟨rfl, hb1⟩; have y0 := (hb1.cell (p := ⟨w.heap.size, 0, none⟩) hlt0).trans y0; have y1 := (hb1.cell (p := ⟨w.heap.size, 1, none⟩) hlt0).trans y1; have y2 := (hb1.cell (p := ⟨w.heap.size, 2, none⟩) hlt0).trans y2; have y3 := (hb1.cell (p := ⟨w.heap.size, 3, none⟩) hlt0).trans y3; have y4 := (hb1.cell (p := ⟨w.heap.size, 4, none⟩) hlt0).trans y4)
      | (go_at_call 23; refine (HRF.out _ (HC1.out.below hb1)).mono ?_; rintro e w3 ⟨rfl, hb3⟩)
      | (go_at_call 19; refine (HAW.out _).mono ?_; rintro e w2 ⟨rfl, hb2⟩))
    go_returns
    exact ⟨rfl, ((hB0.trans (hb1.mono hB0.size)).trans (hb3.mono (Nat.le_trans hB0.size hb1.size))).trans (hb2.mono (Nat.le_trans (Nat.le_trans hB0.size hb1.size) hb3.size))⟩
  have hrf := fun W h => (hrf W h).mono fun e w' h => (⟨h.1.is_true hok, h.2⟩ : e = .returned (.bool true) ∧ _)
  obtain ⟨hL25, hR40, hR0, hsz⟩ := hfew.small hok
  have hah := fun W h => ahead_yes f hok hsz C cap W h (fun W h => RightFunc_any f C cap W h)
  have hL1 := hok.len
  obtain ⟨L, hL⟩ : ∃ L, f.code.length = L := ⟨_, rfl⟩
  obtain ⟨Rn, hRn⟩ : ∃ Rn : Nat, f.R = Rn := ⟨f.R.toNat, by omega⟩
  have hRt : f.R.toNat = Rn := by omega
  unfold AheadT at hah
  rw [hRt] at hah
  rw [hRn] at hR40
  rw [hL] at hah hL1 hL25 bx hfw hrf hW0 ⊢
  rw [hRn] at hah bx hfw hrf hW0 ⊢
  have HOK := Lib.hid hok
  have HL := Lib.hid hL
  have HRT := Lib.hid hRt
  simp only [funcObj, funcAgg] at hB0 bx hfw hrf hah hW0 ⊢
  have HRF := Lib.hid hrf
  have HAH := Lib.hid hah
  have hRn2 := Lib.hid hRn
  clear hrf hfew hok hL hRn hRt hsz hah hR0
  have y0 := cell_of_heap bx 0 (.string f.nm) rfl
  have y1 := cell_of_heap bx 1 (.int .i64 f.ps) rfl
  have y2 := cell_of_heap bx 2 (.int .i64 Rn) rfl
  have y3 := cell_of_heap bx 3 (.int .i64 f.Fr) rfl
  have y4 := cell_of_heap bx 4 (.slice C L cap) rfl
  go_enter Try.func6, Try.ntmps6
  go_upto_region 4 with (first
    | (go_at_call 21; refine hfw.mono ?_; rintro e w1 ⟨rfl, hb1⟩; have y0 := (hb1.cell (p := ⟨w.heap.size, 0, none⟩) hlt0).trans y0; have y1 := (hb1.cell (p := ⟨w.heap.size, 1, none⟩) hlt0).trans y1; have y2 := (hb1.cell (p := ⟨w.heap.size, 2, none⟩) hlt0).trans y2; have y3 := (hb1.cell (p := ⟨w.heap.size, 3, none⟩) hlt0).trans y3; have y4 := (hb1.cell (p := ⟨w.heap.size, 4, none⟩) hlt0).trans y4; have hlt1 := Nat.lt_of_lt_of_le hlt0 hb1.size; have hrf1 := HRF.out _ (HC1.out.below hb1))
    | (go_at_call 23; refine hrf1.mono ?_; rintro e w3 ⟨rfl, hb3⟩; have y0 := (hb3.cell (p := ⟨w.heap.size, 0, none⟩) hlt1).trans y0; have y1 := (hb3.cell (p := ⟨w.heap.size, 1, none⟩) hlt1).trans y1; have y2 := (hb3.cell (p := ⟨w.heap.size, 2, none⟩) hlt1).trans y2; have y3 := (hb3.cell (p := ⟨w.heap.size, 3, none⟩) hlt1).trans y3; have y4 := (hb3.cell (p := ⟨w.heap.size, 4, none⟩) hlt1).trans y4; have hlt3 := Nat.lt_of_lt_of_le hlt1 hb3.size; have hah3 := HAH.out _ ((HC1.out.below hb1).below hb3); have hB3 := (hB0.trans (hb1.mono hB0.size)).trans (hb3.mono (Nat.le_trans hB0.size hb1.size)); clear hrf1)
    | (go_at_call 22; refine hah3.mono ?_; rintro e w4 ⟨⟨ob, M, rfl, hM, hRM, hob⟩, hb4⟩; have HM := Lib.hid hM; have HRM := Lib.hid hRM; clear hM hRM hah3; have z1 := (hb4.cell (p := ⟨w.heap.size, 1, none⟩) hlt3).trans y1; have z2 := (hb4.cell (p := ⟨w.heap.size, 2, none⟩) hlt3).trans y2; have z4 := (hb4.cell (p := ⟨w.heap.size, 4, none⟩) hlt3).trans y4))
  have hB4 := hB3.trans (hb4.mono hB3.size)
  have hlt4 := Nat.lt_of_lt_of_le hlt3 hb4.size
  obtain ⟨pb, hpb⟩ := HRM.out
  have HRN := hRn2
  have HC4 := Lib.hid (((HC1.out.below hb1).below hb3).below hb4)
  have HROWS : Hid (∀ n : Nat, n < L → w4.cell? ⟨ob, n, none⟩ = some (.slice (some ⟨pb n, 0, none⟩) Rn Rn) ∧ PreV w4 (pb n) (row M n) ∧ (row M n).length = Rn) := Lib.hid fun n hn => by
    obtain ⟨h1, h2⟩ := hpb n (row M n) (row_in (by rw [HM.out.holds.shp.len, HL.out]; exact hn))
    exact ⟨h1, h2, by have := (HM.out.holds.shp.at_ (p := n) (by rw [HL.out]; exact hn)).1; rw [HRT.out] at this; exact this⟩
  have hmk1 := fun W => make_rows L (by omega) W
  have hmk2 := fun W => make_vals Rn (by omega) W
  have HS := Lp1.start (W1 := w4) (L := L) (R := Rn)
  clear y0 y1 y2 y3 y4 hb1 hb3 hb4 hB3 hlt0 hlt1 hlt3 hpb HRM hfw hW0 bx hB0 HC1 HAH HRF
  go_wp2_with fail
  generalize hcb : w4.heap.size = cb at *
  have HCB := Lib.hid hcb
  clear hcb
  go_loopw [43] (fun ix wr => ∃ k : Nat, k ≤ L ∧ ix = .int .i64 k ∧ Lp1 w4 wr cb L Rn k) (fun ix _ => L - (intOf ix).toNat)
  case atStart => exact ⟨0, by omega, rfl, HS⟩
  case round =>
    obtain ⟨k, hk, rfl, hr⟩ := hrel
    clear HS
    by_cases hlt : k < L
    · have c0 := hr.cell hlt
      have c1 := Pre.free hr.h k
      have c2 := Pre.lt hr.h
      have r1 := (hr.b.cell (p := ⟨ob, k, none⟩) hob).trans (HROWS.out k hlt).1
      have HN := Lib.hid (hr.next hlt)
      go_wp2
      exact ⟨⟨k + 1, by omega, by go_num, HN.out⟩, by simp [intOf]; omega⟩
    · obtain rfl : L = k := by omega
      clear hk hlt
      have HMC := Lib.hid (MemC.of_lp1 hr)
      have HB5 := Lib.hid hr.b
      have hd0 := HMC.out.head (p := 0) (by omega)
      have hr0 := HMC.out.r 0 (List.replicate Rn nv) (by rw [List.getElem?_replicate, if_pos (by omega)])
      rw [← fst_zero Rn f.ps] at hr0
      have HR0 := Lib.hid hr0
      have HD0 := Lib.hid hd0
      clear hr hr0 hmk1 hmk2
      obtain ⟨w5, hw5⟩ : ∃ w5, w5 = wr := ⟨_, rfl⟩
      subst hw5
      go_wp2_with fail
      clear hd0
      go_loopw [60] (fun ix wr => ∃ r : Nat, r ≤ Rn ∧ ix = .int .i64 r ∧ But (cb + 1 + 0) w5 wr ∧ PreV wr (cb + 1 + 0) (fst Rn f.ps r)) (fun ix _ => Rn - (intOf ix).toNat)
      case atStart => exact ⟨0, by omega, rfl, But.refl _ _, HR0.out⟩
      case round =>
        obtain ⟨r, hrR, rfl, hB, hP⟩ := hrel
        have hd0 := hB.cell HD0.out (by simp only; omega)
        have hc5 := (HB5.out.cell (p := ⟨w.heap.size, 1, none⟩) hlt4).trans z1
        have hc1 := hB.cell hc5 (by simp only; omega)
        have hcw : cb < wr.heap.size := World.block_lt_of_cell? wr _ hd0
        by_cases hlt : r < Rn
        · obtain ⟨c0, c1⟩ := PreV.cells hP (fst_get hlt)
          rw [if_neg (Nat.lt_irrefl r)] at c0 c1
          have g0 := Pre.free hP (r * 2)
          have g1 := Pre.free hP (r * 2 + 1)
          have hpl := Pre.lt hP
          simp only at c0 c1
          by_cases hps : (r : Int) < f.ps
          · have q1 : decide ((r : Int) < f.ps) = true := by simpa using hps
            have HN := Lib.hid (fst_next1 hP hlt hps)
            have HB := Lib.hid (((hB.set (r * 2) (.int .i64 1)).set (r * 2 + 1) (.int .i64 0)).set (r * 2) (.int .i64 2))
            clear hps hP hB
            go_wp2
            exact ⟨⟨r + 1, by omega, by go_num, HB.out, HN.out⟩, by simp [intOf]; omega⟩
          · have q1 : decide ((r : Int) < f.ps) = false := by simpa using hps
            have HN := Lib.hid (fst_next0 hP hlt hps)
            have HB := Lib.hid ((hB.set (r * 2) (.int .i64 1)).set (r * 2 + 1) (.int .i64 0))
            clear hps hP hB
            go_wp2
            exact ⟨⟨r + 1, by omega, by go_num, HB.out, HN.out⟩, by simp [intOf]; omega⟩
        · obtain rfl : r = Rn := by omega
          have HM6 : Hid (MemC wr cb L r (cinit f)) := Lib.hid (by
            have h := HMC.out.setR (n := 0) (by omega) hP hB
            have e : fst r f.ps r = ini f := by rw [← fst_ini f, HRT.out]
            rw [e] at h
            unfold cinit
            rw [HL.out, HRT.out]
            exact h)
          have HB6 := Lib.hid (HB5.out.trans (hB.below.mono (by omega)))
          have hc5' := (HB5.out.cell (p := ⟨w.heap.size, 4, none⟩) hlt4).trans z4
          have hc4 := hB.cell hc5' (by simp only; omega)
          clear hrR hlt hB hP hd0 hc1 hc5 hc5'
          go_wp2_with fail
          clear hc4
          refine least3_any f M HM.out HOK.out L r ob w.heap.size cap cb C HL.out HRT.out HRN.out hL25 (by omega) pb w4 wr HCB.out HB6.out z2 HC4.out HROWS.out HM6.out _ _ _ _ _ _ _ _ _ _ _ _ _ _ _ _ _ _ _ _ _ _ _ _ _ _ _ _ _ _ _ _ _ _ _ _ _ _ _ _ _ _ _ _ _ _ _ _ _ _ _ _ _ _ _ _ _ _ _ _ _ _ _ _ _ _ _ _ _ _ _ _ _ _ _ _ _ _ _ _ _ _ _ _ _ _ _ _ _ _ _ _ _ _ _ _ _ _ _ _ _ _ _ _ _ _ _ _ _ _ _ _ _ _ _ _ _ _ _ _ _ _ _ _ _ _ _ _ _ _ _ _ _ _ _ _ _ _ _ _ _ _ _ _ _ _ _ _ _ _ _ _ _ _ _ _ _ _ _ _ _ _ _ _ _ _ _ _ _ _ _ _ _ _ _ _ _ _ _ _ _ _ _ _ _ _ _ _ _ _ _ _ _ _ _ _ _ _ _ _ _ _ _ _ _ _ _ _ _ _ _ _ _ _ _ _ _ _ _ _ ?_
          intro y7 y8 y9 y10 y12 y13 y14 y15 y16 y17 y18 y84 y85 y86 y87 y88 y89 y90 y91 y92 y93 y94 y95 y96 y97 y98 y99 y100 y101 y102 y103 y104 y105 y106 y107 y108 y109 y110 y111 y112 y113 y114 y115 y116 y117 y118 y119 y120 y121 y122 y123 y124 y125 y126 y127 y128 y129 y130 y131 y132 y133 y134 y135 y136 y137 y138 y139 y140 y141 y142 y143 y144 y145 y146 y147 y148 y149 y150 y151 y152 y153 y154 y155 y156 y157 y158 y159 y160 y161 y162 y163 y164 y165 y166 y167 y168 y169 y170 y171 y172 y173 y174 y175 y176 y177 y178 y179 y180 y181 y182 y183 y184 y185 y186 y187 y188 y189 y190 y191 y192 y193 w7 hb7 hM7
          have hb7' : Below w4.heap.size w4 w7 := by rw [HCB.out]; exact hb7
          have HROWS7 : Hid (∀ n : Nat, n < L → w7.cell? ⟨ob, n, none⟩ = some (.slice (some ⟨pb n, 0, none⟩) r r) ∧ PreV w7 (pb n) (row M n) ∧ (row M n).length = r) := Lib.hid fun n hn => by
            obtain ⟨h1, h2, h3⟩ := HROWS.out n hn
            exact ⟨(hb7'.cell (p := ⟨ob, n, none⟩) (World.block_lt_of_cell? w4 _ h1)).trans h1, Pre.later h2 hb7', h3⟩
          have hB7 := hB4.trans (hb7.mono (by omega))
          have HM7 := Lib.hid hM7
          clear hM7 hb7 hb7'
          go_wp2_with fail
          refine least7_any M L r ob cb hL25 (by omega) pb w7 HROWS7.out HM7.out _ _ _ _ _ _ _ _ _ _ _ _ _ _ _ _ _ _ _ _ _ _ _ _ _ _ _ _ _ _ _ _ _ _ _ _ _ _ _ _ _ _ _ _ _ _ _ _ _ _ _ _ _ _ _ _ _ _ _ _ _ _ _ _ _ _ _ _ _ _ _ _ _ _ _ _ _ _ _ _ _ _ _ _ _ _ _ _ _ _ _ _ _ _ _ _ _ _ _ _ _ _ _ _ _ _ _ _ _ _ _ _ _ _ _ _ _ _ _ _ _ _ _ _ _ _ _ _ _ _ _ _ _ _ _ _ _ _ _ _ _ _ _ _ _ _ _ _ _ _ _ _ _ _ _ _ _ _ _ _ _ _ _ _ _ _ _ _ _ _ _ _ _ _ _ _ _ _ _ _ _ _ _ _ _ _ _ _ _ _ _ _ _ _ _ _ _ _ _ _ _ _ _ _ _ _ _ _ _ _ _ _ _ _ _ _ _ _ _ _ _ _ ?_
          intro y2 y19 y20 y197 y198 y199 y200 y201 y202 y203 y204 y205 y206 y207 y208 y209 y210 y211 y212 y213 y214 y215 y216 y217 y218 y219 y220 y221 y222 y223 w8 hb8
          have hB8 := hB7.trans (hb8.mono hB7.size)
          clear hb8
          go_wp2_with fail
          refine (HAW.out _).mono ?_
          rintro e w9 ⟨rfl, hb9⟩
          go_wp2_with fail
          go_returns
          exact ⟨rfl, hB8.trans (hb9.mono hB8.size)⟩
end Go.Proofs.Ytaofdbboalcceaa
