import Derived.Test.YtaofdbboalcceaaLm
/- FlowLeast: loops. -/
namespace Go.Proofs.Ytaofdbboalcceaa
open Go.RowKit Go.BigFrame

set_option maxRecDepth 1000000 in
set_option maxHeartbeats 4000000 in
theorem refNext_fr (i : Ins) (p : Int) (hp : 0 ≤ p ∧ p ≤ 100000) (w : World) : Calls Try.prog 27 #[i.agg, .int .i64 p] w fun e w' => SlF w.heap.size (i.next p) e w' ∧ Below w.heap.size w w' := by
  obtain ⟨k, op, dst, a, b, n, text, r0, r1, r2, r3, r4, r5, to_, els⟩ := i
  have hb0 := Below.one w (Ins.obj ⟨k, op, dst, a, b, n, text, r0, r1, r2, r3, r4, r5, to_, els⟩)
  have bx := heap_alloc_new w (Ins.obj ⟨k, op, dst, a, b, n, text, r0, r1, r2, r3, r4, r5, to_, els⟩)
  simp only [Ins.obj, Ins.agg, Ins.next] at hb0 bx ⊢
  have hwr : wrap64 (p + 1) = p + 1 := by unfold wrap64; omega
  have hone : ∀ (W : World) (x : Int), RdN (W.alloc (.cells #[.int .i64 x] 3)) (some ⟨W.heap.size, 0, none⟩) [x] := fun W x j y hj => by
    cases j with
    | succ j => simp at hj
    | zero =>
      simp at hj
      subst hj
      exact ⟨W.heap.size, 0, rfl, by simp, cell_of_heap (heap_alloc_new W (.cells #[.int .i64 x] 3)) 0 _ rfl⟩
  have htwo : ∀ (W : World) (x y : Int), RdN (W.alloc (.cells #[.int .i64 x, .int .i64 y] 3)) (some ⟨W.heap.size, 0, none⟩) [x, y] := fun W x y j z hj => by
    have hn := heap_alloc_new W (.cells #[.int .i64 x, .int .i64 y] 3)
    match j with
    | 0 => simp at hj; subst hj; exact ⟨W.heap.size, 0, rfl, by simp, cell_of_heap hn 0 _ rfl⟩
    | 1 => simp at hj; subst hj; exact ⟨W.heap.size, 0, rfl, by simp, cell_of_heap hn 1 _ rfl⟩
    | j + 2 => simp at hj
  have h1 := hone (w.alloc (Ins.obj ⟨k, op, dst, a, b, n, text, r0, r1, r2, r3, r4, r5, to_, els⟩))
  have h2 := htwo (w.alloc (Ins.obj ⟨k, op, dst, a, b, n, text, r0, r1, r2, r3, r4, r5, to_, els⟩))
  simp only [Ins.obj] at h1 h2
  rw [show (w.alloc (Ins.obj ⟨k, op, dst, a, b, n, text, r0, r1, r2, r3, r4, r5, to_, els⟩)).heap.size = w.heap.size + 1 by simp] at h1 h2
  by_cases e11 : k = 11
  · subst e11
    go_enter Try.func27, Try.ntmps27
    go_wp2
    go_returns
    exact ⟨⟨_, 1, rfl, h1 _, fun b o h => by injection h with h; injection h with h; omega⟩, hb0.alloc hb0.size _⟩
  · rw [if_neg e11]
    have q1 : (k == 11) = false := by simpa using e11
    by_cases e12 : k = 12
    · subst e12
      go_enter Try.func27, Try.ntmps27
      go_wp2
      go_returns
      exact ⟨⟨_, 2, rfl, h2 _ _, fun b o h => by injection h with h; injection h with h; omega⟩, hb0.alloc hb0.size _⟩
    · rw [if_neg e12]
      have q2 : (k == 12) = false := by simpa using e12
      by_cases e13 : k = 13
      · subst e13
        go_enter Try.func27, Try.ntmps27
        go_wp2
        go_returns
        exact ⟨⟨none, 0, rfl, fun j y hj => by simp at hj, fun b o h => by cases h⟩, hb0⟩
      · rw [if_neg e13]
        have q3 : (k == 13) = false := by simpa using e13
        clear e11 e12 e13
        go_enter Try.func27, Try.ntmps27
        go_wp2
        go_returns
        exact ⟨⟨_, 1, rfl, h1 _, fun b o h => by injection h with h; injection h with h; omega⟩, hb0.alloc hb0.size _⟩
set_option maxRecDepth 1000000 in
set_option maxHeartbeats 4000000 in
theorem least4_any (v : List Vl) (Rn vb vc : Nat) (hR40 : Rn ≤ 40) (hv : v.length = Rn) (W0 : World) (hpv : PreV W0 vb v)
    (x0 x1 x2 x3 x4 x5 x6 x7 x8 x9 x11 x12 x13 x14 x15 x16 x17 x18 x19 x20 x21 x22 x23 x24 x25 x26 x27 x28 x29 x30 x31 x32 x33 x34 x35 x36 x37 x38 x39 x40 x41 x42 x43 x44 x45 x46 x47 x48 x49 x50 x51 x52 x53 x54 x55 x56 x57 x58 x59 x60 x61 x62 x63 x64 x65 x66 x67 x68 x69 x70 x71 x72 x73 x74 x75 x76 x77 x78 x79 x80 x81 x82 x83 x84 x85 x86 x87 x88 x89 x90 x91 x92 x93 x94 x95 x96 x97 x98 x102 x103 x104 x105 x106 x107 x108 x109 x110 x111 x112 x113 x114 x115 x116 x117 x118 x119 x120 x121 x122 x123 x124 x125 x126 x127 x128 x129 x130 x131 x132 x133 x134 x135 x136 x137 x138 x139 x140 x141 x142 x143 x144 x145 x146 x147 x148 x149 x150 x151 x152 x153 x154 x155 x156 x157 x158 x159 x160 x161 x162 x163 x164 x165 x166 x167 x168 x169 x170 x171 x172 x173 x174 x175 x176 x177 x178 x179 x180 x181 x182 x183 x184 x185 x186 x187 x188 x189 x190 x191 x192 x193 x194 x195 x196 x197 x198 x199 x200 x201 x202 x203 x204 x205 x206 x207 x208 x209 x210 x211 x212 x213 x214 x215 x216 x217 x218 x219 x220 x221 x222 x223 x224 : Value) (Q : Exit → Act → World → Prop)
    (hexit : ∀ (y12 y102 y103 y104 y105 y106 y107 y108 y109 y110 y111 : Value) (w' : World), Below W0.heap.size W0 w' → Q (.exit 6) ⟨(x0 :: x1 :: x2 :: x3 :: x4 :: x5 :: x6 :: x7 :: x8 :: x9 :: .bool (v.any (fun x => x.k == 0)) :: x11 :: y12 :: x13 :: x14 :: x15 :: x16 :: x17 :: x18 :: x19 :: x20 :: x21 :: x22 :: x23 :: x24 :: x25 :: x26 :: x27 :: x28 :: x29 :: x30 :: x31 :: x32 :: x33 :: x34 :: x35 :: x36 :: x37 :: x38 :: x39 :: x40 :: x41 :: x42 :: x43 :: x44 :: x45 :: x46 :: x47 :: x48 :: x49 :: x50 :: x51 :: x52 :: x53 :: x54 :: x55 :: x56 :: x57 :: x58 :: x59 :: x60 :: x61 :: x62 :: x63 :: x64 :: x65 :: x66 :: x67 :: x68 :: x69 :: x70 :: x71 :: x72 :: x73 :: x74 :: x75 :: x76 :: x77 :: x78 :: x79 :: x80 :: x81 :: x82 :: x83 :: x84 :: x85 :: x86 :: x87 :: x88 :: x89 :: x90 :: x91 :: x92 :: x93 :: x94 :: x95 :: x96 :: x97 :: x98 :: .slice (some ⟨vb, 0, none⟩) Rn vc :: .int .i64 (Rn : Int) :: .int .i64 (Rn : Int) :: y102 :: y103 :: y104 :: y105 :: y106 :: y107 :: y108 :: y109 :: y110 :: y111 :: x112 :: x113 :: x114 :: x115 :: x116 :: x117 :: x118 :: x119 :: x120 :: x121 :: x122 :: x123 :: x124 :: x125 :: x126 :: x127 :: x128 :: x129 :: x130 :: x131 :: x132 :: x133 :: x134 :: x135 :: x136 :: x137 :: x138 :: x139 :: x140 :: x141 :: x142 :: x143 :: x144 :: x145 :: x146 :: x147 :: x148 :: x149 :: x150 :: x151 :: x152 :: x153 :: x154 :: x155 :: x156 :: x157 :: x158 :: x159 :: x160 :: x161 :: x162 :: x163 :: x164 :: x165 :: x166 :: x167 :: x168 :: x169 :: x170 :: x171 :: x172 :: x173 :: x174 :: x175 :: x176 :: x177 :: x178 :: x179 :: x180 :: x181 :: x182 :: x183 :: x184 :: x185 :: x186 :: x187 :: x188 :: x189 :: x190 :: x191 :: x192 :: x193 :: x194 :: x195 :: x196 :: x197 :: x198 :: x199 :: x200 :: x201 :: x202 :: x203 :: x204 :: x205 :: x206 :: x207 :: x208 :: x209 :: x210 :: x211 :: x212 :: x213 :: x214 :: x215 :: x216 :: x217 :: x218 :: x219 :: x220 :: x221 :: x222 :: x223 :: x224 :: []).toArray, []⟩ w') :
    Code.wp Try.prog lloop4 Q ⟨(x0 :: x1 :: x2 :: x3 :: x4 :: x5 :: x6 :: x7 :: x8 :: x9 :: .bool false :: x11 :: x12 :: x13 :: x14 :: x15 :: x16 :: x17 :: x18 :: x19 :: x20 :: x21 :: x22 :: x23 :: x24 :: x25 :: x26 :: x27 :: x28 :: x29 :: x30 :: x31 :: x32 :: x33 :: x34 :: x35 :: x36 :: x37 :: x38 :: x39 :: x40 :: x41 :: x42 :: x43 :: x44 :: x45 :: x46 :: x47 :: x48 :: x49 :: x50 :: x51 :: x52 :: x53 :: x54 :: x55 :: x56 :: x57 :: x58 :: x59 :: x60 :: x61 :: x62 :: x63 :: x64 :: x65 :: x66 :: x67 :: x68 :: x69 :: x70 :: x71 :: x72 :: x73 :: x74 :: x75 :: x76 :: x77 :: x78 :: x79 :: x80 :: x81 :: x82 :: x83 :: x84 :: x85 :: x86 :: x87 :: x88 :: x89 :: x90 :: x91 :: x92 :: x93 :: x94 :: x95 :: x96 :: x97 :: x98 :: .slice (some ⟨vb, 0, none⟩) Rn vc :: .int .i64 (Rn : Int) :: .int .i64 0 :: x102 :: x103 :: x104 :: x105 :: x106 :: x107 :: x108 :: x109 :: x110 :: x111 :: x112 :: x113 :: x114 :: x115 :: x116 :: x117 :: x118 :: x119 :: x120 :: x121 :: x122 :: x123 :: x124 :: x125 :: x126 :: x127 :: x128 :: x129 :: x130 :: x131 :: x132 :: x133 :: x134 :: x135 :: x136 :: x137 :: x138 :: x139 :: x140 :: x141 :: x142 :: x143 :: x144 :: x145 :: x146 :: x147 :: x148 :: x149 :: x150 :: x151 :: x152 :: x153 :: x154 :: x155 :: x156 :: x157 :: x158 :: x159 :: x160 :: x161 :: x162 :: x163 :: x164 :: x165 :: x166 :: x167 :: x168 :: x169 :: x170 :: x171 :: x172 :: x173 :: x174 :: x175 :: x176 :: x177 :: x178 :: x179 :: x180 :: x181 :: x182 :: x183 :: x184 :: x185 :: x186 :: x187 :: x188 :: x189 :: x190 :: x191 :: x192 :: x193 :: x194 :: x195 :: x196 :: x197 :: x198 :: x199 :: x200 :: x201 :: x202 :: x203 :: x204 :: x205 :: x206 :: x207 :: x208 :: x209 :: x210 :: x211 :: x212 :: x213 :: x214 :: x215 :: x216 :: x217 :: x218 :: x219 :: x220 :: x221 :: x222 :: x223 :: x224 :: []).toArray, []⟩ W0 := by
  conv => arg 2; whnf
  have HV := Lib.hid hv
  have HE := Lib.hid hexit
  clear hv hexit
  go_loopw [10, 101] (fun c ix wr => ∃ k : Nat, k ≤ Rn ∧ ix = .int .i64 k ∧ c = .bool ((v.take k).any (fun x => x.k == 0)) ∧ Below W0.heap.size W0 wr) (fun _ ix _ => Rn - (intOf ix).toNat)
  case atStart => exact ⟨0, by omega, rfl, rfl, Below.refl _ _⟩
  case round =>
    obtain ⟨k, hk, rfl, rfl, hbw⟩ := hrel
    by_cases hlt : k < Rn
    · have hx : v[k]? = some (at_ v k) := by rw [at_in (by rw [HV.out]; exact hlt)]; simp
      obtain ⟨c0, c1⟩ := PreV.cells (Pre.later hpv hbw) hx
      have hvl := Pre.lt (Pre.later hpv hbw)
      have HT := Lib.hid (any_take hx)
      clear hx
      generalize at_ v k = x at *
      obtain ⟨xk, xn⟩ := x
      simp only at c0 c1
      generalize (v.take k).any (fun x => x.k == 0) = bb at *
      cases bb
      · cases hq : (xk == 0)
        all_goals
          go_wp2
          exact ⟨⟨k + 1, by omega, by go_num, by rw [HT.out]; simp [hq], hbw.alloc hbw.size _⟩, by simp [intOf]; omega⟩
      · go_wp2
        exact ⟨⟨k + 1, by omega, by go_num, by rw [HT.out]; rfl, hbw.alloc hbw.size _⟩, by simp [intOf]; omega⟩
    · obtain rfl : k = Rn := by omega
      rw [List.take_of_length_le (by rw [HV.out]; omega)]
      go_wp2
      exact HE.out _ _ _ _ _ _ _ _ _ _ _ wr hbw
theorem cedges_shp {R : Nat} {L : Nat} {i : Ins} {p : Nat} {u : List Vl} {C : List (List Vl)} (hu : u.length = R) (h : ∀ n, n < L → (row C n).length = R) : ∀ k, ∀ n, n < L → (row (cedges i p u C k) n).length = R
  | 0 => h
  | k + 1 => fun n hn => by
    have ih := cedges_shp (i := i) (p := p) hu h k
    show (row (cedge i p u (cedges i p u C k) k) n).length = R
    unfold cedge
    split
    · split
      · exact ih n hn
      · rw [row_set]
        split
        · rename_i e
          exact jrow_len (by rw [e.1]; exact ih n hn) hu
        · exact ih n hn
    · exact ih n hn
theorem cedge_skip {i : Ins} {p : Nat} {u : List Vl} {C : List (List Vl)} {k : Nat} (hs : skip i u k = true) : cedge i p u C k = C := by
  unfold cedge
  split
  · rw [if_pos hs]
  · rfl
theorem cedge_go {i : Ins} {p : Nat} {u : List Vl} {C : List (List Vl)} {k n : Nat} (hn : (i.next (p : Int))[k]? = some (n : Int)) (hs : skip i u k = false) : cedge i p u C k = C.set n (jrow (row C n) u) := by
  unfold cedge
  rw [hn]
  simp only [hs, Int.toNat_natCast]
  rfl
set_option maxRecDepth 1000000 in
set_option maxHeartbeats 8000000 in
theorem least5_any (f : Fn7) (i : Ins) (p : Nat) (u : List Vl) (C0 : List (List Vl)) (L Rn cb vb vc ib lc : Nat) (A : Option Addr) (hR40 : Rn ≤ 40) (hll : (i.next (p : Int)).length ≤ 2) (hu : u.length = Rn) (hok : Ok i (Rn : Int) f.Fr L) (W0 : World)
    (hM : MemC W0 cb L Rn C0) (hshp : ∀ n, n < L → (row C0 n).length = Rn)
    (hgo : ∀ (k : Nat) n, (i.next (p : Int))[k]? = some n → 0 ≤ n ∧ n < L)
    (hib : W0.heap[ib]? = some i.obj) (hibc : cb + L < ib) (hpu : PreV W0 vb u) (hvbc : cb + L < vb) (hA : RdN W0 A (i.next (p : Int))) (hAc : ∀ b o, A = some ⟨b, o, none⟩ → cb + L < b)
    (x0 x1 x2 x3 x5 x6 x7 x10 x11 x12 x13 x14 x15 x16 x17 x18 x19 x20 x21 x22 x23 x24 x25 x26 x27 x28 x29 x30 x31 x32 x33 x34 x35 x36 x37 x38 x39 x40 x41 x42 x43 x44 x45 x46 x47 x48 x49 x50 x51 x52 x53 x54 x55 x56 x57 x58 x59 x60 x61 x62 x63 x64 x65 x66 x67 x68 x69 x70 x71 x72 x73 x74 x75 x76 x77 x78 x79 x80 x81 x82 x83 x84 x85 x86 x87 x88 x89 x90 x91 x92 x93 x94 x95 x96 x97 x98 x99 x100 x101 x102 x103 x104 x105 x106 x107 x108 x109 x110 x111 x112 x113 x114 x115 x116 x117 x118 x119 x120 x121 x122 x123 x124 x125 x126 x127 x128 x129 x130 x134 x135 x136 x137 x138 x139 x140 x141 x142 x143 x144 x145 x146 x147 x148 x149 x150 x151 x152 x153 x154 x155 x156 x157 x158 x159 x160 x161 x162 x163 x164 x165 x166 x167 x168 x169 x170 x171 x172 x173 x174 x175 x176 x177 x178 x179 x180 x181 x182 x183 x184 x185 x186 x187 x188 x189 x190 x191 x192 x193 x194 x195 x196 x197 x198 x199 x200 x201 x202 x203 x204 x205 x206 x207 x208 x209 x210 x211 x212 x213 x214 x215 x216 x217 x218 x219 x220 x221 x222 x223 x224 : Value) (Q : Exit → Act → World → Prop)
    (hexit : ∀ (y16 y17 y18 y134 y135 y136 y137 y138 y139 y140 y141 y142 y143 y144 y145 y146 y147 y148 y149 y150 y151 y152 y153 y154 y155 y156 y157 y158 y159 y160 y161 y162 y163 y164 y165 y166 y167 y168 y169 y170 y171 y172 y173 y174 y175 y176 y177 y178 y179 y180 y181 y182 y183 y184 y185 y186 y187 y188 y189 y190 y191 y192 : Value) (w' : World), Mid2 cb L W0 w' → MemC w' cb L Rn (cedges i p u C0 (i.next (p : Int)).length) → Q (.exit 8) ⟨(x0 :: x1 :: x2 :: x3 :: .slice (some ⟨cb, 0, none⟩) L L :: x5 :: x6 :: x7 :: .pointer (some ⟨ib, 0, none⟩) :: .slice (some ⟨vb, 0, none⟩) Rn vc :: x10 :: x11 :: x12 :: x13 :: x14 :: x15 :: y16 :: y17 :: y18 :: x19 :: x20 :: x21 :: x22 :: x23 :: x24 :: x25 :: x26 :: x27 :: x28 :: x29 :: x30 :: x31 :: x32 :: x33 :: x34 :: x35 :: x36 :: x37 :: x38 :: x39 :: x40 :: x41 :: x42 :: x43 :: x44 :: x45 :: x46 :: x47 :: x48 :: x49 :: x50 :: x51 :: x52 :: x53 :: x54 :: x55 :: x56 :: x57 :: x58 :: x59 :: x60 :: x61 :: x62 :: x63 :: x64 :: x65 :: x66 :: x67 :: x68 :: x69 :: x70 :: x71 :: x72 :: x73 :: x74 :: x75 :: x76 :: x77 :: x78 :: x79 :: x80 :: x81 :: x82 :: x83 :: x84 :: x85 :: x86 :: x87 :: x88 :: x89 :: x90 :: x91 :: x92 :: x93 :: x94 :: x95 :: x96 :: x97 :: x98 :: x99 :: x100 :: x101 :: x102 :: x103 :: x104 :: x105 :: x106 :: x107 :: x108 :: x109 :: x110 :: x111 :: x112 :: x113 :: x114 :: x115 :: x116 :: x117 :: x118 :: x119 :: x120 :: x121 :: x122 :: x123 :: x124 :: x125 :: x126 :: x127 :: x128 :: x129 :: x130 :: .slice A (i.next (p : Int)).length lc :: .int .i64 ((i.next (p : Int)).length : Int) :: .int .i64 ((i.next (p : Int)).length : Int) :: y134 :: y135 :: y136 :: y137 :: y138 :: y139 :: y140 :: y141 :: y142 :: y143 :: y144 :: y145 :: y146 :: y147 :: y148 :: y149 :: y150 :: y151 :: y152 :: y153 :: y154 :: y155 :: y156 :: y157 :: y158 :: y159 :: y160 :: y161 :: y162 :: y163 :: y164 :: y165 :: y166 :: y167 :: y168 :: y169 :: y170 :: y171 :: y172 :: y173 :: y174 :: y175 :: y176 :: y177 :: y178 :: y179 :: y180 :: y181 :: y182 :: y183 :: y184 :: y185 :: y186 :: y187 :: y188 :: y189 :: y190 :: y191 :: y192 :: x193 :: x194 :: x195 :: x196 :: x197 :: x198 :: x199 :: x200 :: x201 :: x202 :: x203 :: x204 :: x205 :: x206 :: x207 :: x208 :: x209 :: x210 :: x211 :: x212 :: x213 :: x214 :: x215 :: x216 :: x217 :: x218 :: x219 :: x220 :: x221 :: x222 :: x223 :: x224 :: []).toArray, []⟩ w') :
    Code.wp Try.prog lloop5 Q ⟨(x0 :: x1 :: x2 :: x3 :: .slice (some ⟨cb, 0, none⟩) L L :: x5 :: x6 :: x7 :: .pointer (some ⟨ib, 0, none⟩) :: .slice (some ⟨vb, 0, none⟩) Rn vc :: x10 :: x11 :: x12 :: x13 :: x14 :: x15 :: x16 :: x17 :: x18 :: x19 :: x20 :: x21 :: x22 :: x23 :: x24 :: x25 :: x26 :: x27 :: x28 :: x29 :: x30 :: x31 :: x32 :: x33 :: x34 :: x35 :: x36 :: x37 :: x38 :: x39 :: x40 :: x41 :: x42 :: x43 :: x44 :: x45 :: x46 :: x47 :: x48 :: x49 :: x50 :: x51 :: x52 :: x53 :: x54 :: x55 :: x56 :: x57 :: x58 :: x59 :: x60 :: x61 :: x62 :: x63 :: x64 :: x65 :: x66 :: x67 :: x68 :: x69 :: x70 :: x71 :: x72 :: x73 :: x74 :: x75 :: x76 :: x77 :: x78 :: x79 :: x80 :: x81 :: x82 :: x83 :: x84 :: x85 :: x86 :: x87 :: x88 :: x89 :: x90 :: x91 :: x92 :: x93 :: x94 :: x95 :: x96 :: x97 :: x98 :: x99 :: x100 :: x101 :: x102 :: x103 :: x104 :: x105 :: x106 :: x107 :: x108 :: x109 :: x110 :: x111 :: x112 :: x113 :: x114 :: x115 :: x116 :: x117 :: x118 :: x119 :: x120 :: x121 :: x122 :: x123 :: x124 :: x125 :: x126 :: x127 :: x128 :: x129 :: x130 :: .slice A (i.next (p : Int)).length lc :: .int .i64 ((i.next (p : Int)).length : Int) :: .int .i64 0 :: x134 :: x135 :: x136 :: x137 :: x138 :: x139 :: x140 :: x141 :: x142 :: x143 :: x144 :: x145 :: x146 :: x147 :: x148 :: x149 :: x150 :: x151 :: x152 :: x153 :: x154 :: x155 :: x156 :: x157 :: x158 :: x159 :: x160 :: x161 :: x162 :: x163 :: x164 :: x165 :: x166 :: x167 :: x168 :: x169 :: x170 :: x171 :: x172 :: x173 :: x174 :: x175 :: x176 :: x177 :: x178 :: x179 :: x180 :: x181 :: x182 :: x183 :: x184 :: x185 :: x186 :: x187 :: x188 :: x189 :: x190 :: x191 :: x192 :: x193 :: x194 :: x195 :: x196 :: x197 :: x198 :: x199 :: x200 :: x201 :: x202 :: x203 :: x204 :: x205 :: x206 :: x207 :: x208 :: x209 :: x210 :: x211 :: x212 :: x213 :: x214 :: x215 :: x216 :: x217 :: x218 :: x219 :: x220 :: x221 :: x222 :: x223 :: x224 :: []).toArray, []⟩ W0 := by
  conv => arg 2; whnf
  obtain ⟨l, hl⟩ : ∃ l, i.next (p : Int) = l := ⟨_, rfl⟩
  have HCG := Lib.hid (fun (C : List (List Vl)) (k n : Nat) (h : l[k]? = some (n : Int)) hs => cedge_go (i := i) (p := p) (u := u) (C := C) (k := k) (n := n) (by rw [hl]; exact h) hs)
  rw [hl] at hll hgo hA hexit ⊢
  clear hl
  obtain ⟨ll, hlen⟩ : ∃ ll, l.length = ll := ⟨_, rfl⟩
  rw [hlen] at hll hexit ⊢
  have HLL := Lib.hid hlen
  have HU := Lib.hid hu
  have HG := Lib.hid hgo
  have HE := Lib.hid hexit
  have HOK := Lib.hid hok
  have HSH := Lib.hid (cedges_shp (i := i) (p := p) hu hshp)
  have HAC := Lib.hid hAc
  have hilt := (Array.getElem?_eq_some_iff.1 hib).1
  have hvlt := Pre.lt hpu
  clear hu hgo hexit hlen hok hshp hAc
  go_loopw [133] (fun ix wr => ∃ k : Nat, k ≤ ll ∧ ix = .int .i64 k ∧ Mid2 cb L W0 wr ∧ MemC wr cb L Rn (cedges i p u C0 k)) (fun ix _ => ll - (intOf ix).toNat)
  case atStart => exact ⟨0, by omega, rfl, Mid2.refl _ _ _, hM⟩
  case round =>
    obtain ⟨k, hk, rfl, hbw, hMk⟩ := hrel
    by_cases hlt : k < ll
    · obtain ⟨n0, hn0⟩ : ∃ n, l[k]? = some n := ⟨_, List.getElem?_eq_getElem (by rw [HLL.out]; exact hlt)⟩
      obtain ⟨b, o, rfl, hbl, hc⟩ := hA k n0 hn0
      have hbc := HAC.out b o rfl
      have hc := (World.cell?_of_block (w := W0) (a := ⟨b, o + k, none⟩) (hbw.same b hbl (Or.inr hbc))).trans hc
      have hbl := Nat.lt_of_lt_of_le hbl hbw.below.size
      obtain ⟨h0, h1⟩ := HG.out k n0 hn0
      obtain ⟨n, rfl⟩ : ∃ n : Nat, n0 = n := ⟨n0.toNat, by omega⟩
      have hnL : n < L := by omega
      have HCG2 := Lib.hid (HCG.out (cedges i p u C0 k) k n hn0)
      have hhd := hMk.head hnL
      have hcw : cb < wr.heap.size := World.block_lt_of_cell? wr _ hhd
      have HROW := Lib.hid (hMk.row hnL)
      have HRL := Lib.hid (HSH.out k n hnL)
      have HMK := Lib.hid hMk
      have HPU := Lib.hid (Pre.of_heap hpu (hbw.same vb hvlt (Or.inr hvbc)))
      have ⟨d0, d1, d2, d3, d4, d5, d6, d7, d8, d9, d10, d11, d12, d13, d14⟩ := Ins.cells (i := i) ((hbw.same ib hilt (Or.inr hibc)).trans hib)
      have hltr := Nat.lt_of_lt_of_le hilt hbw.below.size
      have HBW := Lib.hid hbw
      clear h0 h1 hn0 d1 d2 d4 d5 d6 d7 d8 d9 d10 d11 d12 d13 d14 hMk hbw
      have ha := HOK.out.a_in
      have HST : Hid (cedges i p u C0 (k + 1) = cedge i p u (cedges i p u C0 k) k) := Lib.hid rfl
      by_cases h12 : i.kind = 12
      · obtain ⟨ha0, ha1⟩ := ha (by rw [h12]; rfl)
        obtain ⟨m, hm⟩ : ∃ m : Nat, i.a = m := ⟨i.a.toNat, by omega⟩
        rw [hm] at d3 ha1
        have hmR : m < Rn := by omega
        have hx : u[m]? = some (at_ u m) := by rw [at_in (by rw [HU.out]; exact hmR)]; simp
        obtain ⟨c0, c1⟩ := PreV.cells HPU.out hx
        have hvl := Pre.lt HPU.out
        have HS : Hid (skip i u k = (decide ((at_ u m).k = 1) && (decide ((at_ u m).n ≠ 0) != decide (k = 0)))) := Lib.hid (by unfold skip; rw [decide_eq_true h12, hm]; rfl)
        rw [h12] at d0
        generalize at_ u m = x at *
        obtain ⟨xk, xn⟩ := x
        simp only at c0 c1
        clear ha ha0 ha1 h12 hm hx
        by_cases hk1 : xk = 1
        · have q1 : (xk == 1) = true := by simpa using hk1
          by_cases hn0 : xn = 0
          · have q2 : (xn != 0) = false := by simpa using hn0
            have q3 : (xn == 0) = true := by simpa using hn0
            by_cases hk0 : k = 0
            · have HJ := Lib.hid (cedge_skip (p := p) (C := cedges i p u C0 k) (show skip i u k = true by rw [HS.out]; simp [hk1, hn0, hk0]))
              have q4 : ((k : Int) == 0) = true := by simp; omega
              have q5 : (k == 0) = true := by simp; omega
              clear hk1 hn0 hk0
              go_wp2
              exact ⟨⟨k + 1, by omega, by go_num, HBW.out, by rw [HST.out, HJ.out]; exact HMK.out⟩, by simp [intOf]; omega⟩
            · have HJ := Lib.hid (HCG2.out (by rw [HS.out]; simp [hk1, hn0, hk0]))
              have q4 : ((k : Int) == 0) = false := by simp; omega
              have q5 : (k == 0) = false := by simp; omega
              clear hk1 hn0 hk0
              go_wp2_with fail
              refine least6_any (row (cedges i p u C0 k) n) u L Rn cb vb vc n hR40 hnL HRL.out HU.out wr hhd HPU.out HROW.out (by omega) _ _ _ _ _ _ _ _ _ _ _ _ _ _ _ _ _ _ _ _ _ _ _ _ _ _ _ _ _ _ _ _ _ _ _ _ _ _ _ _ _ _ _ _ _ _ _ _ _ _ _ _ _ _ _ _ _ _ _ _ _ _ _ _ _ _ _ _ _ _ _ _ _ _ _ _ _ _ _ _ _ _ _ _ _ _ _ _ _ _ _ _ _ _ _ _ _ _ _ _ _ _ _ _ _ _ _ _ _ _ _ _ _ _ _ _ _ _ _ _ _ _ _ _ _ _ _ _ _ _ _ _ _ _ _ _ _ _ _ _ _ _ _ _ _ _ _ _ _ _ _ _ _ _ _ _ _ _ _ _ _ _ _ _ _ _ _ _ _ _ _ _ _ _ _ _ _ _ _ _ _ _ _ _ _ _ _ _ _ _ _ _ _ _ _ _ _ _ _ _ _ _ _ _ _ _ _ _ _ _ _ _ _ _ _ _ _ _ _ _ _ ?_
              intro y18 y171 y172 y173 y174 y175 y176 y177 y178 y179 y180 y181 y182 y183 y184 y185 y186 y187 y188 y189 y190 y191 w5 hb5 hp5
              have HM5 := Lib.hid (HMK.out.setR hnL hp5 hb5)
              have HB5 := Lib.hid (HBW.out.trans (Mid2.of_but hb5 hnL))
              clear hb5 hp5
              go_wp2
              exact ⟨⟨k + 1, by omega, by go_num, HB5.out, by rw [HST.out, HJ.out]; exact HM5.out⟩, by simp [intOf]; omega⟩
          · have q2 : (xn != 0) = true := by simpa using hn0
            have q3 : (xn == 0) = false := by simpa using hn0
            by_cases hk0 : k = 0
            · have HJ := Lib.hid (HCG2.out (by rw [HS.out]; simp [hk1, hn0, hk0]))
              have q4 : ((k : Int) == 0) = true := by simp; omega
              have q5 : (k == 0) = true := by simp; omega
              clear hk1 hn0 hk0
              go_wp2_with fail
              refine least6_any (row (cedges i p u C0 k) n) u L Rn cb vb vc n hR40 hnL HRL.out HU.out wr hhd HPU.out HROW.out (by omega) _ _ _ _ _ _ _ _ _ _ _ _ _ _ _ _ _ _ _ _ _ _ _ _ _ _ _ _ _ _ _ _ _ _ _ _ _ _ _ _ _ _ _ _ _ _ _ _ _ _ _ _ _ _ _ _ _ _ _ _ _ _ _ _ _ _ _ _ _ _ _ _ _ _ _ _ _ _ _ _ _ _ _ _ _ _ _ _ _ _ _ _ _ _ _ _ _ _ _ _ _ _ _ _ _ _ _ _ _ _ _ _ _ _ _ _ _ _ _ _ _ _ _ _ _ _ _ _ _ _ _ _ _ _ _ _ _ _ _ _ _ _ _ _ _ _ _ _ _ _ _ _ _ _ _ _ _ _ _ _ _ _ _ _ _ _ _ _ _ _ _ _ _ _ _ _ _ _ _ _ _ _ _ _ _ _ _ _ _ _ _ _ _ _ _ _ _ _ _ _ _ _ _ _ _ _ _ _ _ _ _ _ _ _ _ _ _ _ _ _ _ ?_
              intro y18 y171 y172 y173 y174 y175 y176 y177 y178 y179 y180 y181 y182 y183 y184 y185 y186 y187 y188 y189 y190 y191 w5 hb5 hp5
              have HM5 := Lib.hid (HMK.out.setR hnL hp5 hb5)
              have HB5 := Lib.hid (HBW.out.trans (Mid2.of_but hb5 hnL))
              clear hb5 hp5
              go_wp2
              exact ⟨⟨k + 1, by omega, by go_num, HB5.out, by rw [HST.out, HJ.out]; exact HM5.out⟩, by simp [intOf]; omega⟩
            · have HJ := Lib.hid (cedge_skip (p := p) (C := cedges i p u C0 k) (show skip i u k = true by rw [HS.out]; simp [hk1, hn0, hk0]))
              have q4 : ((k : Int) == 0) = false := by simp; omega
              have q5 : (k == 0) = false := by simp; omega
              clear hk1 hn0 hk0
              go_wp2
              exact ⟨⟨k + 1, by omega, by go_num, HBW.out, by rw [HST.out, HJ.out]; exact HMK.out⟩, by simp [intOf]; omega⟩
        · have q1 : (xk == 1) = false := by simpa using hk1
          have HJ := Lib.hid (HCG2.out (by rw [HS.out]; simp [hk1]))
          clear hk1
          go_wp2_with fail
          refine least6_any (row (cedges i p u C0 k) n) u L Rn cb vb vc n hR40 hnL HRL.out HU.out wr hhd HPU.out HROW.out (by omega) _ _ _ _ _ _ _ _ _ _ _ _ _ _ _ _ _ _ _ _ _ _ _ _ _ _ _ _ _ _ _ _ _ _ _ _ _ _ _ _ _ _ _ _ _ _ _ _ _ _ _ _ _ _ _ _ _ _ _ _ _ _ _ _ _ _ _ _ _ _ _ _ _ _ _ _ _ _ _ _ _ _ _ _ _ _ _ _ _ _ _ _ _ _ _ _ _ _ _ _ _ _ _ _ _ _ _ _ _ _ _ _ _ _ _ _ _ _ _ _ _ _ _ _ _ _ _ _ _ _ _ _ _ _ _ _ _ _ _ _ _ _ _ _ _ _ _ _ _ _ _ _ _ _ _ _ _ _ _ _ _ _ _ _ _ _ _ _ _ _ _ _ _ _ _ _ _ _ _ _ _ _ _ _ _ _ _ _ _ _ _ _ _ _ _ _ _ _ _ _ _ _ _ _ _ _ _ _ _ _ _ _ _ _ _ _ _ _ _ _ _ ?_
          intro y18 y171 y172 y173 y174 y175 y176 y177 y178 y179 y180 y181 y182 y183 y184 y185 y186 y187 y188 y189 y190 y191 w5 hb5 hp5
          have HM5 := Lib.hid (HMK.out.setR hnL hp5 hb5)
          have HB5 := Lib.hid (HBW.out.trans (Mid2.of_but hb5 hnL))
          clear hb5 hp5
          go_wp2
          exact ⟨⟨k + 1, by omega, by go_num, HB5.out, by rw [HST.out, HJ.out]; exact HM5.out⟩, by simp [intOf]; omega⟩
      · have q0 : (i.kind == 12) = false := by simpa using h12
        have HJ := Lib.hid (HCG2.out (by unfold skip; simp [h12]))
        clear h12 ha
        go_wp2_with fail
        refine least6_any (row (cedges i p u C0 k) n) u L Rn cb vb vc n hR40 hnL HRL.out HU.out wr hhd HPU.out HROW.out (by omega) _ _ _ _ _ _ _ _ _ _ _ _ _ _ _ _ _ _ _ _ _ _ _ _ _ _ _ _ _ _ _ _ _ _ _ _ _ _ _ _ _ _ _ _ _ _ _ _ _ _ _ _ _ _ _ _ _ _ _ _ _ _ _ _ _ _ _ _ _ _ _ _ _ _ _ _ _ _ _ _ _ _ _ _ _ _ _ _ _ _ _ _ _ _ _ _ _ _ _ _ _ _ _ _ _ _ _ _ _ _ _ _ _ _ _ _ _ _ _ _ _ _ _ _ _ _ _ _ _ _ _ _ _ _ _ _ _ _ _ _ _ _ _ _ _ _ _ _ _ _ _ _ _ _ _ _ _ _ _ _ _ _ _ _ _ _ _ _ _ _ _ _ _ _ _ _ _ _ _ _ _ _ _ _ _ _ _ _ _ _ _ _ _ _ _ _ _ _ _ _ _ _ _ _ _ _ _ _ _ _ _ _ _ _ _ _ _ _ _ _ _ ?_
        intro y18 y171 y172 y173 y174 y175 y176 y177 y178 y179 y180 y181 y182 y183 y184 y185 y186 y187 y188 y189 y190 y191 w5 hb5 hp5
        have HM5 := Lib.hid (HMK.out.setR hnL hp5 hb5)
        have HB5 := Lib.hid (HBW.out.trans (Mid2.of_but hb5 hnL))
        clear hb5 hp5
        go_wp2
        exact ⟨⟨k + 1, by omega, by go_num, HB5.out, by rw [HST.out, HJ.out]; exact HM5.out⟩, by simp [intOf]; omega⟩
    · obtain rfl : k = ll := by omega
      go_wp2
      exact HE.out _ _ _ _ _ _ _ _ _ _ _ _ _ _ _ _ _ _ _ _ _ _ _ _ _ _ _ _ _ _ _ _ _ _ _ _ _ _ _ _ _ _ _ _ _ _ _ _ _ _ _ _ _ _ _ _ _ _ _ _ _ _ wr hbw hMk
end Go.Proofs.Ytaofdbboalcceaa
