import Derived.Test.YtaofdbboalcceaaLi
import Derived.Deep.CutRange
import Derived.Deep.RegionWith
import Derived.Deep.RegionHeld3
import Derived.Deep.CutBlock
/- FlowLeast: its loops, each by itself. -/
namespace Go.Proofs.Ytaofdbboalcceaa
open Go.RowKit Go.BigFrame

noncomputable def lloop3 : Code := ((((Try.f6.body).map loopsOf).getD [])[2]?).getD .skip
noncomputable def lloop7 : Code := ((((Try.f6.body).map loopsOf).getD [])[3]?).getD .skip
noncomputable def lloop4 : Code := ((loopsOf (inLoop lloop3))[0]?).getD .skip
noncomputable def lloop5 : Code := ((loopsOf (inLoop lloop3))[1]?).getD .skip
noncomputable def lloop6 : Code := ((loopsOf (inLoop lloop5))[0]?).getD .skip
noncomputable def lloop8 : Code := ((loopsOf (inLoop lloop7))[0]?).getD .skip
/-- the table 'come', its rows in the blocks behind it -/
structure MemC (W : World) (cb L R : Nat) (C : List (List Vl)) : Prop where
  h : Pre g1 1 29 W cb (hdr L R cb L)
  r : ∀ p v, C[p]? = some v → PreV W (cb + 1 + p) v
  s : cb + 1 + L ≤ W.heap.size
  l : C.length = L
/-- only the rows may have changed -/
structure Mid2 (cb L : Nat) (W W' : World) : Prop where
  below : Below cb W W'
  same : ∀ b, b < W.heap.size → (b ≤ cb ∨ cb + L < b) → W'.heap[b]? = W.heap[b]?
theorem Mid2.refl (cb L : Nat) (W : World) : Mid2 cb L W W := ⟨Below.refl _ _, fun _ _ _ => rfl⟩
theorem Mid2.trans {cb L : Nat} {W W1 W2 : World} (h : Mid2 cb L W W1) (k : Mid2 cb L W1 W2) : Mid2 cb L W W2 :=
  ⟨h.below.trans k.below, fun b h1 h2 => (k.same b (Nat.lt_of_lt_of_le h1 h.below.size) h2).trans (h.same b h1 h2)⟩
theorem Mid2.of_below {cb L : Nat} {W W' : World} (h : Below W.heap.size W W') (hc : cb ≤ W.heap.size) : Mid2 cb L W W' := ⟨h.mono hc, fun b h1 _ => h.block b h1⟩
theorem Mid2.of_but {cb L n : Nat} {W W' : World} (h : But (cb + 1 + n) W W') (hn : n < L) : Mid2 cb L W W' := ⟨h.below.mono (by omega), fun b h1 h2 => h.same b h1 (by omega)⟩
theorem MemC.later {W W' : World} {cb L R : Nat} {C : List (List Vl)} (h : MemC W cb L R C) (hb : Below W.heap.size W W') : MemC W' cb L R C :=
  ⟨Pre.later h.h hb, fun p v hv => Pre.later (h.r p v hv) hb, Nat.le_trans h.s hb.size, h.l⟩
theorem MemC.head {W : World} {cb L R : Nat} {C : List (List Vl)} (h : MemC W cb L R C) {p : Nat} (hp : p < L) : W.cell? ⟨cb, p, none⟩ = some (.slice (some ⟨cb + 1 + p, 0, none⟩) R R) := by
  have := Pre1.cell h.h (hdr_get hp)
  rwa [if_pos hp] at this
theorem MemC.setR {W W' : World} {cb L R : Nat} {C : List (List Vl)} (h : MemC W cb L R C) {n : Nat} (hn : n < L) {u : List Vl} (hu : PreV W' (cb + 1 + n) u) (hb : But (cb + 1 + n) W W') : MemC W' cb L R (C.set n u) :=
  ⟨Pre.of_heap h.h (hb.same _ (by have := h.s; omega) (by omega)), fun p v hv => by
    by_cases e : n = p
    · subst e
      rw [List.getElem?_set_self (by rw [h.l]; exact hn)] at hv
      injection hv with hv
      rw [← hv]; exact hu
    · rw [List.getElem?_set_ne e] at hv
      have hp : p < L := by rw [← h.l]; exact (List.getElem?_eq_some_iff.1 hv).1
      exact Pre.of_heap (h.r p v hv) (hb.same _ (by have := h.s; omega) (by omega)), Nat.le_trans h.s hb.below.size, by simp [h.l]⟩
theorem MemC.row {W : World} {cb L R : Nat} {C : List (List Vl)} (h : MemC W cb L R C) {n : Nat} (hn : n < L) : PreV W (cb + 1 + n) (row C n) := h.r n _ (row_in (by rw [h.l]; exact hn))
/-- behind the store of what is joined -/
def CutL (W Wx : World) (q r : Nat) (y : Vl) : Prop := ∃ w6, Below W.heap.size W w6 ∧ Wx = (w6.setCell ⟨q, r * 2, none⟩ (.int .i64 y.k)).setCell ⟨q, r * 2 + 1, none⟩ (.int .i64 y.n)
set_option maxRecDepth 1000000 in
set_option maxHeartbeats 8000000 in
theorem least6_any (old u : List Vl) (L Rn cb vb vc n : Nat) (hR40 : Rn ≤ 40) (hn : n < L) (h1 : old.length = Rn) (h2 : u.length = Rn) (W0 : World)
    (hd : W0.cell? ⟨cb, n, none⟩ = some (.slice (some ⟨cb + 1 + n, 0, none⟩) Rn Rn)) (hpu : PreV W0 vb u) (hrow : PreV W0 (cb + 1 + n) old) (hne : vb ≠ cb + 1 + n)
    (x0 x1 x2 x3 x5 x6 x7 x8 x10 x11 x12 x13 x14 x15 x16 x18 x19 x20 x21 x22 x23 x24 x25 x26 x27 x28 x29 x30 x31 x32 x33 x34 x35 x36 x37 x38 x39 x40 x41 x42 x43 x44 x45 x46 x47 x48 x49 x50 x51 x52 x53 x54 x55 x56 x57 x58 x59 x60 x61 x62 x63 x64 x65 x66 x67 x68 x69 x70 x71 x72 x73 x74 x75 x76 x77 x78 x79 x80 x81 x82 x83 x84 x85 x86 x87 x88 x89 x90 x91 x92 x93 x94 x95 x96 x97 x98 x99 x100 x101 x102 x103 x104 x105 x106 x107 x108 x109 x110 x111 x112 x113 x114 x115 x116 x117 x118 x119 x120 x121 x122 x123 x124 x125 x126 x127 x128 x129 x130 x131 x132 x133 x134 x135 x136 x137 x138 x139 x140 x141 x142 x143 x144 x145 x146 x147 x148 x149 x150 x151 x152 x153 x154 x155 x156 x157 x158 x159 x160 x161 x162 x163 x164 x165 x166 x167 x168 x171 x172 x173 x174 x175 x176 x177 x178 x179 x180 x181 x182 x183 x184 x185 x186 x187 x188 x189 x190 x191 x192 x193 x194 x195 x196 x197 x198 x199 x200 x201 x202 x203 x204 x205 x206 x207 x208 x209 x210 x211 x212 x213 x214 x215 x216 x217 x218 x219 x220 x221 x222 x223 x224 : Value) (Q : Exit → Act → World → Prop)
    (hexit : ∀ (y18 y171 y172 y173 y174 y175 y176 y177 y178 y179 y180 y181 y182 y183 y184 y185 y186 y187 y188 y189 y190 y191 : Value) (w' : World), But (cb + 1 + n) W0 w' → PreV w' (cb + 1 + n) (jrow old u) → Q (.exit 10) ⟨(x0 :: x1 :: x2 :: x3 :: .slice (some ⟨cb, 0, none⟩) L L :: x5 :: x6 :: x7 :: x8 :: .slice (some ⟨vb, 0, none⟩) Rn vc :: x10 :: x11 :: x12 :: x13 :: x14 :: x15 :: x16 :: .int .i64 (n : Int) :: y18 :: x19 :: x20 :: x21 :: x22 :: x23 :: x24 :: x25 :: x26 :: x27 :: x28 :: x29 :: x30 :: x31 :: x32 :: x33 :: x34 :: x35 :: x36 :: x37 :: x38 :: x39 :: x40 :: x41 :: x42 :: x43 :: x44 :: x45 :: x46 :: x47 :: x48 :: x49 :: x50 :: x51 :: x52 :: x53 :: x54 :: x55 :: x56 :: x57 :: x58 :: x59 :: x60 :: x61 :: x62 :: x63 :: x64 :: x65 :: x66 :: x67 :: x68 :: x69 :: x70 :: x71 :: x72 :: x73 :: x74 :: x75 :: x76 :: x77 :: x78 :: x79 :: x80 :: x81 :: x82 :: x83 :: x84 :: x85 :: x86 :: x87 :: x88 :: x89 :: x90 :: x91 :: x92 :: x93 :: x94 :: x95 :: x96 :: x97 :: x98 :: x99 :: x100 :: x101 :: x102 :: x103 :: x104 :: x105 :: x106 :: x107 :: x108 :: x109 :: x110 :: x111 :: x112 :: x113 :: x114 :: x115 :: x116 :: x117 :: x118 :: x119 :: x120 :: x121 :: x122 :: x123 :: x124 :: x125 :: x126 :: x127 :: x128 :: x129 :: x130 :: x131 :: x132 :: x133 :: x134 :: x135 :: x136 :: x137 :: x138 :: x139 :: x140 :: x141 :: x142 :: x143 :: x144 :: x145 :: x146 :: x147 :: x148 :: x149 :: x150 :: x151 :: x152 :: x153 :: x154 :: x155 :: x156 :: x157 :: x158 :: x159 :: x160 :: x161 :: x162 :: x163 :: x164 :: x165 :: x166 :: x167 :: x168 :: .int .i64 (Rn : Int) :: .int .i64 (Rn : Int) :: y171 :: y172 :: y173 :: y174 :: y175 :: y176 :: y177 :: y178 :: y179 :: y180 :: y181 :: y182 :: y183 :: y184 :: y185 :: y186 :: y187 :: y188 :: y189 :: y190 :: y191 :: x192 :: x193 :: x194 :: x195 :: x196 :: x197 :: x198 :: x199 :: x200 :: x201 :: x202 :: x203 :: x204 :: x205 :: x206 :: x207 :: x208 :: x209 :: x210 :: x211 :: x212 :: x213 :: x214 :: x215 :: x216 :: x217 :: x218 :: x219 :: x220 :: x221 :: x222 :: x223 :: x224 :: []).toArray, []⟩ w') :
    Code.wp Try.prog lloop6 Q ⟨(x0 :: x1 :: x2 :: x3 :: .slice (some ⟨cb, 0, none⟩) L L :: x5 :: x6 :: x7 :: x8 :: .slice (some ⟨vb, 0, none⟩) Rn vc :: x10 :: x11 :: x12 :: x13 :: x14 :: x15 :: x16 :: .int .i64 (n : Int) :: x18 :: x19 :: x20 :: x21 :: x22 :: x23 :: x24 :: x25 :: x26 :: x27 :: x28 :: x29 :: x30 :: x31 :: x32 :: x33 :: x34 :: x35 :: x36 :: x37 :: x38 :: x39 :: x40 :: x41 :: x42 :: x43 :: x44 :: x45 :: x46 :: x47 :: x48 :: x49 :: x50 :: x51 :: x52 :: x53 :: x54 :: x55 :: x56 :: x57 :: x58 :: x59 :: x60 :: x61 :: x62 :: x63 :: x64 :: x65 :: x66 :: x67 :: x68 :: x69 :: x70 :: x71 :: x72 :: x73 :: x74 :: x75 :: x76 :: x77 :: x78 :: x79 :: x80 :: x81 :: x82 :: x83 :: x84 :: x85 :: x86 :: x87 :: x88 :: x89 :: x90 :: x91 :: x92 :: x93 :: x94 :: x95 :: x96 :: x97 :: x98 :: x99 :: x100 :: x101 :: x102 :: x103 :: x104 :: x105 :: x106 :: x107 :: x108 :: x109 :: x110 :: x111 :: x112 :: x113 :: x114 :: x115 :: x116 :: x117 :: x118 :: x119 :: x120 :: x121 :: x122 :: x123 :: x124 :: x125 :: x126 :: x127 :: x128 :: x129 :: x130 :: x131 :: x132 :: x133 :: x134 :: x135 :: x136 :: x137 :: x138 :: x139 :: x140 :: x141 :: x142 :: x143 :: x144 :: x145 :: x146 :: x147 :: x148 :: x149 :: x150 :: x151 :: x152 :: x153 :: x154 :: x155 :: x156 :: x157 :: x158 :: x159 :: x160 :: x161 :: x162 :: x163 :: x164 :: x165 :: x166 :: x167 :: x168 :: .int .i64 (Rn : Int) :: .int .i64 0 :: x171 :: x172 :: x173 :: x174 :: x175 :: x176 :: x177 :: x178 :: x179 :: x180 :: x181 :: x182 :: x183 :: x184 :: x185 :: x186 :: x187 :: x188 :: x189 :: x190 :: x191 :: x192 :: x193 :: x194 :: x195 :: x196 :: x197 :: x198 :: x199 :: x200 :: x201 :: x202 :: x203 :: x204 :: x205 :: x206 :: x207 :: x208 :: x209 :: x210 :: x211 :: x212 :: x213 :: x214 :: x215 :: x216 :: x217 :: x218 :: x219 :: x220 :: x221 :: x222 :: x223 :: x224 :: []).toArray, []⟩ W0 := by
  conv => arg 2; whnf
  have H1 := Lib.hid h1
  have H2 := Lib.hid h2
  have HE := Lib.hid hexit
  clear h1 h2 hexit
  go_loopw [170] (fun ix wr => ∃ r : Nat, r ≤ Rn ∧ ix = .int .i64 r ∧ But (cb + 1 + n) W0 wr ∧ PreV wr (cb + 1 + n) (part old u r)) (fun ix _ => Rn - (intOf ix).toNat)
  case atStart => exact ⟨0, by omega, rfl, But.refl _ _, by rw [part_zero]; exact hrow⟩
  case round =>
    obtain ⟨r, hr, rfl, hB, hP⟩ := hrel
    by_cases hlt : r < Rn
    · obtain ⟨c0, c1⟩ := PreV.cells hP (part_get H1.out H2.out hlt)
      obtain ⟨v0, v1⟩ := PreV.cells (Pre.of_heap hpu (hB.same vb hpu.lt hne)) (old_get H2.out hlt)
      have hd1 := hB.cell hd (by simp only; omega)
      have hfr := Pre.free hP
      have hqw := Pre.lt hP
      have hobw := World.block_lt_of_cell? wr ⟨cb, n, none⟩ hd1
      have hnbw := World.block_lt_of_cell? wr ⟨vb, _, none⟩ v0
      have HPS := Lib.hid (part_set H1.out H2.out hlt)
      have HPG := Lib.hid (part_get H1.out H2.out hlt)
      have HP := Lib.hid hP
      have HB := Lib.hid hB
      have hjo := fun W => join_any (at_ old r) (at_ u r) W
      generalize at_ old r = x at *
      generalize at_ u r = z at *
      generalize hj : join x z = y at *
      clear hj
      obtain ⟨xk, xn⟩ := x
      obtain ⟨yk, yn⟩ := y
      obtain ⟨zk, zn⟩ := z
      simp only [Vl.agg] at c0 c1 v0 v1 hjo
      clear hP hB
      go_upto_block 11 with fail
      go_cut [18] from 171 to 190 (fun _ wx => CutL wr wx (cb + 1 + n) r ⟨yk, yn⟩)
      case first =>
        go_wp2
        refine wp_region_noPanic ?_
        go_region_with ((go_at_call 20; refine (hjo wr.drew).mono ?_; rintro e w6 ⟨rfl, hb6⟩; have hb7 : Below wr.heap.size wr w6 := ((Below.refl wr.heap.size wr).drew).trans hb6; have hf7 := fun j => (hb7.frozen (p := ⟨cb + 1 + n, j, none⟩) hqw).trans (hfr j); have hd1 := (hb7.cell (p := ⟨cb, n, none⟩) hobw).trans hd1; have c0 := (hb7.cell (p := ⟨cb + 1 + n, r * 2, none⟩) hqw).trans c0; have c1 := (hb7.cell (p := ⟨cb + 1 + n, r * 2 + 1, none⟩) hqw).trans c1))
        all_goals
          refine NoPanic.normal ?_
          go_wp2_with fail
          go_meet
          exact ⟨w6, hb7, rfl⟩
      case rest =>
        obtain ⟨w6, hb7, rfl⟩ := hcut
        have hB7 := HB.out.later (Nat.le_of_lt hqw) hb7
        have hB8 := (hB7.set (r * 2) (.int .i64 yk)).set (r * 2 + 1) (.int .i64 yn)
        have hP8 := PreV.set (Pre.later HP.out hb7) HPG.out ⟨yk, yn⟩
        rw [HPS.out] at hP8
        simp only at hB8 hP8
        clear hb7 hB7 c0 c1 v0 v1 hd1 hfr hjo
        generalize (w6.setCell ⟨cb + 1 + n, r * 2, none⟩ (.int .i64 yk)).setCell ⟨cb + 1 + n, r * 2 + 1, none⟩ (.int .i64 yn) = w8 at *
        go_wp2
        exact ⟨⟨r + 1, by omega, by go_num, hB8, hP8⟩, by simp [intOf]; omega⟩
    · obtain rfl : r = Rn := by omega
      rw [part_all H1.out H2.out] at hP
      go_wp2
      exact HE.out _ _ _ _ _ _ _ _ _ _ _ _ _ _ _ _ _ _ _ _ _ _ wr hB hP
end Go.Proofs.Ytaofdbboalcceaa
