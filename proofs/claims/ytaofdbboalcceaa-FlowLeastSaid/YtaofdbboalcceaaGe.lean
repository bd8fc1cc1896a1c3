import Derived.Test.YtaofdbboalcceaaGc
/- flow.Ahead: the loop over the list of what is to do, by itself. -/
namespace Go.Proofs.Ytaofdbboalcceaa
open Go.RowKit Go.BigFrame

theorem Que.lt {W : World} {base : Nat} {V : Value} {T : List Nat} (h : Que W base V T) {b : Nat} (hb : V.ownBlock = some b) : b < W.heap.size := by
  obtain ⟨b', o, cap, cs, rfl, e2, e3, e4, e5, e6, e7⟩ := h
  simp only [Value.ownBlock, Option.some.injEq] at hb
  subst hb
  exact (Array.getElem?_eq_some_iff.1 e5).1
set_option maxRecDepth 1000000 in
set_option maxHeartbeats 8000000 in
theorem loop3_any (f : Fn7) (hf : OkF f) (L Rn ob B0 : Nat) (hL : f.code.length = L) (hRt : f.R.toNat = Rn) (hRn : f.R = Rn) (hR4 : Rn ≤ 4096) (hL8 : L ≤ 8192) (W1 w3 : World) (hob : W1.heap.size = ob) (C : Option Addr) (cap : Nat) (hB0 : B0 < ob) (hx4 : W1.cell? ⟨B0, 4, none⟩ = some (.slice C L cap)) (hC1 : RdI W1 C f.code)
    (g0 : Nat) (V : Value) (M : List (List Vl)) (Cm : List Bool) (T : List Nat) (h3 : Third f W1 w3 ob L Rn g0 V M Cm T)
    (x0 x2 x4 x6 x7 x9 x10 x11 x12 x13 x14 x15 x16 x17 x18 x19 x20 x21 x22 x23 x24 x25 x26 x27 x28 x29 x30 x31 x32 x33 x34 x35 x36 x37 x38 x39 x40 x41 x42 x43 x44 x45 x46 x47 x48 x49 x50 x51 x52 x53 x54 x55 x56 x57 x58 x59 x60 x61 x62 x63 x64 x65 x66 x67 x68 x69 x70 x71 x72 x73 x74 x75 x76 x77 x78 x79 x80 x81 x82 x83 x84 x85 x86 x87 x88 x89 x90 x91 x92 x93 x94 x95 x96 x97 x98 x99 x100 x101 x102 x103 x104 x105 x106 x107 x108 x109 x110 x111 x112 x113 x114 x115 x116 x117 x118 x119 x120 x121 x122 x123 x124 x125 x126 x127 x128 x129 x130 x131 x132 x133 x134 x135 x136 x137 x138 x139 x140 x141 x142 x143 x144 x145 x146 x147 x148 x149 x150 x151 x152 x153 x154 x155 x156 x157 x158 x159 x160 x161 x162 x163 x164 x165 x166 x167 x168 x169 x170 x171 x172 x173 x174 x175 x176 : Value) (Q : Exit → Act → World → Prop)
    (hexit : ∀ (V' y9 y10 y11 y12 y13 y14 y16 y17 y18 y19 y82 y83 y84 y85 y86 y87 y88 y89 y90 y91 y92 y93 y94 y95 y96 y97 y98 y99 y100 y101 y102 y103 y104 y105 y106 y107 y108 y109 y110 y111 y112 y113 y114 y115 y116 y117 y118 y119 y120 y121 y122 y123 y124 y125 y126 y127 y128 y129 y130 y131 y132 y133 y134 y135 y136 y137 y138 y139 y140 y141 y142 y143 y144 y145 y146 y147 y148 y149 y150 y151 y152 y153 y154 y155 y156 y157 y158 y159 y160 y161 y162 y163 y164 y165 y166 y167 y168 y169 y170 y171 y172 y173 y174 y175 : Value) (M' : List (List Vl)) (w' : World), Ans f M' → RdM w' ob Rn M' → Below ob W1 w' → ob < w'.heap.size → Q (.exit 4) ⟨(x0 :: .pointer (some ⟨B0, 0, none⟩) :: x2 :: .slice (some ⟨ob, 0, none⟩) L L :: x4 :: .slice (some ⟨ob + 1 + L, 0, none⟩) L L :: x6 :: x7 :: V' :: y9 :: y10 :: y11 :: y12 :: y13 :: y14 :: x15 :: y16 :: y17 :: y18 :: y19 :: x20 :: x21 :: x22 :: x23 :: x24 :: x25 :: x26 :: x27 :: x28 :: x29 :: x30 :: x31 :: x32 :: x33 :: x34 :: x35 :: x36 :: x37 :: x38 :: x39 :: x40 :: x41 :: x42 :: x43 :: x44 :: x45 :: x46 :: x47 :: x48 :: x49 :: x50 :: x51 :: x52 :: x53 :: x54 :: x55 :: x56 :: x57 :: x58 :: x59 :: x60 :: x61 :: x62 :: x63 :: x64 :: x65 :: x66 :: x67 :: x68 :: x69 :: x70 :: x71 :: x72 :: x73 :: x74 :: x75 :: x76 :: x77 :: x78 :: x79 :: x80 :: x81 :: y82 :: y83 :: y84 :: y85 :: y86 :: y87 :: y88 :: y89 :: y90 :: y91 :: y92 :: y93 :: y94 :: y95 :: y96 :: y97 :: y98 :: y99 :: y100 :: y101 :: y102 :: y103 :: y104 :: y105 :: y106 :: y107 :: y108 :: y109 :: y110 :: y111 :: y112 :: y113 :: y114 :: y115 :: y116 :: y117 :: y118 :: y119 :: y120 :: y121 :: y122 :: y123 :: y124 :: y125 :: y126 :: y127 :: y128 :: y129 :: y130 :: y131 :: y132 :: y133 :: y134 :: y135 :: y136 :: y137 :: y138 :: y139 :: y140 :: y141 :: y142 :: y143 :: y144 :: y145 :: y146 :: y147 :: y148 :: y149 :: y150 :: y151 :: y152 :: y153 :: y154 :: y155 :: y156 :: y157 :: y158 :: y159 :: y160 :: y161 :: y162 :: y163 :: y164 :: y165 :: y166 :: y167 :: y168 :: y169 :: y170 :: y171 :: y172 :: y173 :: y174 :: y175 :: x176 :: []).toArray, []⟩ w') :
    Code.wp Try.prog loop3 Q ⟨(x0 :: .pointer (some ⟨B0, 0, none⟩) :: x2 :: .slice (some ⟨ob, 0, none⟩) L L :: x4 :: .slice (some ⟨ob + 1 + L, 0, none⟩) L L :: x6 :: x7 :: V :: x9 :: x10 :: x11 :: x12 :: x13 :: x14 :: x15 :: x16 :: x17 :: x18 :: x19 :: x20 :: x21 :: x22 :: x23 :: x24 :: x25 :: x26 :: x27 :: x28 :: x29 :: x30 :: x31 :: x32 :: x33 :: x34 :: x35 :: x36 :: x37 :: x38 :: x39 :: x40 :: x41 :: x42 :: x43 :: x44 :: x45 :: x46 :: x47 :: x48 :: x49 :: x50 :: x51 :: x52 :: x53 :: x54 :: x55 :: x56 :: x57 :: x58 :: x59 :: x60 :: x61 :: x62 :: x63 :: x64 :: x65 :: x66 :: x67 :: x68 :: x69 :: x70 :: x71 :: x72 :: x73 :: x74 :: x75 :: x76 :: x77 :: x78 :: x79 :: x80 :: x81 :: x82 :: x83 :: x84 :: x85 :: x86 :: x87 :: x88 :: x89 :: x90 :: x91 :: x92 :: x93 :: x94 :: x95 :: x96 :: x97 :: x98 :: x99 :: x100 :: x101 :: x102 :: x103 :: x104 :: x105 :: x106 :: x107 :: x108 :: x109 :: x110 :: x111 :: x112 :: x113 :: x114 :: x115 :: x116 :: x117 :: x118 :: x119 :: x120 :: x121 :: x122 :: x123 :: x124 :: x125 :: x126 :: x127 :: x128 :: x129 :: x130 :: x131 :: x132 :: x133 :: x134 :: x135 :: x136 :: x137 :: x138 :: x139 :: x140 :: x141 :: x142 :: x143 :: x144 :: x145 :: x146 :: x147 :: x148 :: x149 :: x150 :: x151 :: x152 :: x153 :: x154 :: x155 :: x156 :: x157 :: x158 :: x159 :: x160 :: x161 :: x162 :: x163 :: x164 :: x165 :: x166 :: x167 :: x168 :: x169 :: x170 :: x171 :: x172 :: x173 :: x174 :: x175 :: x176 :: []).toArray, []⟩ w3 := by
  conv => arg 2; whnf
  have HL := Lib.hid hL
  have HRT := Lib.hid hRt
  have HRN := Lib.hid hRn
  have HF := Lib.hid hf
  have HOB := Lib.hid hob
  clear hL hRt hRn hf hob
  go_loopg [8] g0 (fun g V wr => ∃ M Cm T, Third f W1 wr ob L Rn g V M Cm T)
  case atStart => exact ⟨_, _, _, h3⟩
  case round =>
    clear h3
    obtain ⟨M, Cm, T, hT⟩ := hrel
    cases T with
    | nil =>
      obtain ⟨b, o, qc, cs, rfl, hq⟩ := hT.que
      have HE := fun y9 y10 y11 y12 y13 y14 y16 y17 y18 y19 y82 y83 y84 y85 y86 y87 y88 y89 y90 y91 y92 y93 y94 y95 y96 y97 y98 y99 y100 y101 y102 y103 y104 y105 y106 y107 y108 y109 y110 y111 y112 y113 y114 y115 y116 y117 y118 y119 y120 y121 y122 y123 y124 y125 y126 y127 y128 y129 y130 y131 y132 y133 y134 y135 y136 y137 y138 y139 y140 y141 y142 y143 y144 y145 y146 y147 y148 y149 y150 y151 y152 y153 y154 y155 y156 y157 y158 y159 y160 y161 y162 y163 y164 y165 y166 y167 y168 y169 y170 y171 y172 y173 y174 y175 => Lib.hid (hexit (.slice (some ⟨b, o, none⟩) 0 qc) y9 y10 y11 y12 y13 y14 y16 y17 y18 y19 y82 y83 y84 y85 y86 y87 y88 y89 y90 y91 y92 y93 y94 y95 y96 y97 y98 y99 y100 y101 y102 y103 y104 y105 y106 y107 y108 y109 y110 y111 y112 y113 y114 y115 y116 y117 y118 y119 y120 y121 y122 y123 y124 y125 y126 y127 y128 y129 y130 y131 y132 y133 y134 y135 y136 y137 y138 y139 y140 y141 y142 y143 y144 y145 y146 y147 y148 y149 y150 y151 y152 y153 y154 y155 y156 y157 y158 y159 y160 y161 y162 y163 y164 y165 y166 y167 y168 y169 y170 y171 y172 y173 y174 y175 M wr hT.head.ans hT.mem.told hT.mem.b hT.mem.h.lt)
      simp only [List.length_nil]
      clear hT hq hexit hC1 hx4
      go_wp2
      exact (HE _ _ _ _ _ _ _ _ _ _ _ _ _ _ _ _ _ _ _ _ _ _ _ _ _ _ _ _ _ _ _ _ _ _ _ _ _ _ _ _ _ _ _ _ _ _ _ _ _ _ _ _ _ _ _ _ _ _ _ _ _ _ _ _ _ _ _ _ _ _ _ _ _ _ _ _ _ _ _ _ _ _ _ _ _ _ _ _ _ _ _ _ _ _ _ _ _ _ _ _ _ _ _ _).out
    | cons p T =>
      obtain ⟨b, o, qc, V', rfl, hqc, hq0, hQ, _, hsl⟩ := que_tail hT.que
      have hcp := hT.head.way.tin p (by simp)
      have hpl : p < L := by have h1 := cm_lt hcp; have h2 := hT.head.way.clen; rw [HL.out] at h2; omega
      have hi : f.code[p]? = some (f.code[p]'(by rw [HL.out]; exact hpl)) := by simp
      generalize f.code[p]'(by rw [HL.out]; exact hpl) = i at hi
      have hv : M[p]? = some (row M p) := row_in (by rw [hT.mem.l]; exact hpl)
      have hvl : (row M p).length = Rn := by have := (hT.head.way.shp.at_ (p := p) (by rw [HL.out]; exact hpl)).1; rw [HRT.out] at this; exact this
      have hrp := hT.mem.r p _ hv
      obtain ⟨cb, co, hCe, hcb, hcs⟩ := (hC1.below (HOB.out.symm ▸ hT.mem.b)) p i hi
      subst hCe
      obtain ⟨c0, c1, c2, c3, c4, c5, c6, c7, c8, c9, c10, c11, c12, c13, c14⟩ := RdI.load hcs
      have hd := hT.mem.head hpl
      have k4 := (hT.mem.b.cell (p := ⟨B0, 4, none⟩) hB0).trans hx4
      have l4 : B0 < wr.heap.size := by have := hT.mem.s; omega
      have lob := Pre.lt hT.mem.h
      have HTT := Lib.hid hT
      have HQ := Lib.hid hQ
      have HI := Lib.hid hi
      have HV := Lib.hid hvl
      have HCS := Lib.hid hcs
      clear hT hcp hi hv hvl hcs
      obtain ⟨k, op, dst, a, b', n, text, r0, r1, r2, r3, r4, r5, to_, els⟩ := i
      simp only at c0 c1 c2 c3 c4 c5 c6 c7 c8 c9 c10 c11 c12 c13 c14
      go_wp2
      go_cut [10, 11] from 82 to 175 (fun sa sb wx => Cut24 wr wx ⟨k, op, dst, a, b', n, text, r0, r1, r2, r3, r4, r5, to_, els⟩ (row M p) Rn sa sb)
      case first =>
        go_region_held3 (fun w' => ∀ (q o : Nat), q < wr.heap.size → w'.cell? ⟨q, o, none⟩ = wr.cell? ⟨q, o, none⟩)
          (first
          | with_reducible exact fun q o h => (below_put15 (i := ⟨k, op, dst, a, b', n, text, r0, r1, r2, r3, r4, r5, to_, els⟩) (by assumption : Below wr.heap.size wr _) (Nat.le_refl _)).cell (p := ⟨q, o, none⟩) h
          | with_reducible exact fun q o h => rfl
          | with_reducible exact fun q o h => (by assumption : Below wr.heap.size wr _).cell (p := ⟨q, o, none⟩) h
          | with_reducible exact fun q o h => (Below.alloc (by assumption : Below wr.heap.size wr _) (Below.size (by assumption : Below wr.heap.size wr _)) _).cell (p := ⟨q, o, none⟩) h
          | with_reducible exact fun q o h => (Below.one wr _).cell (p := ⟨q, o, none⟩) h
          | exact fun q o h => rfl
          | exact fun q o h => (Below.one wr _).cell (p := ⟨q, o, none⟩) h)
          ((first
          | (go_at_call 49; refine (clone_vals (row M p) Rn HV.out hR4 (ob + 1 + p) Rn wr.drew (Pre.of_heap (W := wr) hrp rfl)).mono ?_; rintro e w6 ⟨⟨nb, nc, rfl, hnb, hpv⟩, hb6⟩; have hb7 : Below wr.heap.size wr w6 := ((Below.refl wr.heap.size wr).drew).trans hb6)
          | (go_at_call 49; refine (clone_vals (row M p) Rn HV.out hR4 (ob + 1 + p) Rn (wr.alloc zeroI.obj).drew (Pre.of_heap (W := wr.alloc zeroI.obj) (Pre.later hrp (Below.one wr zeroI.obj)) rfl)).mono ?_; rintro e w6 ⟨⟨nb, nc, rfl, hnb, hpv⟩, hb6⟩; obtain ⟨hb7, hbz, ⟨z0, z1, z2, z3, z4, z5, z6, z7, z8, z9, z10, z11, z12, z13, z14⟩, zf⟩ := zero_kept hb6)))
        all_goals (go_wp2_with fail; go_meet)
        · exact Cut24.a (i := ⟨k, op, dst, a, b', n, text, r0, r1, r2, r3, r4, r5, to_, els⟩) hb7 hnb hpv
        · exact Cut24.b (i := ⟨k, op, dst, a, b', n, text, r0, r1, r2, r3, r4, r5, to_, els⟩) hb7 hbz hnb hpv
      case rest =>
        obtain ⟨ib, nb, nc, rfl, rfl, hbw, hib, hpv, hnb, hib2⟩ := hcut
        have hT := HTT.out
        have hM7 := hT.mem.later hbw
        have hQ7 := hQ.later hbw
        have hok : Ok ⟨k, op, dst, a, b', n, text, r0, r1, r2, r3, r4, r5, to_, els⟩ (Rn : Int) f.Fr L := by have h := HF.out.ok _ (List.mem_of_getElem? HI.out); rw [HL.out, HRN.out] at h; exact h
        have hapart := Cut24.apart hib hpv
        have hset := set_any ⟨k, op, dst, a, b', n, text, r0, r1, r2, r3, r4, r5, to_, els⟩ (row M p) hok HV.out (some ⟨nb, 0, none⟩) nc wc (PreV.read hpv)
        have hsets := fun W => Sets_any ⟨k, op, dst, a, b', n, text, r0, r1, r2, r3, r4, r5, to_, els⟩ W
        obtain ⟨xv, hxv⟩ : ∃ xv, setV ⟨k, op, dst, a, b', n, text, r0, r1, r2, r3, r4, r5, to_, els⟩ (row M p) = xv := ⟨_, rfl⟩
        unfold SetT at hset
        rw [hxv] at hset
        obtain ⟨⟨xk, xn⟩, on⟩ := xv
        obtain ⟨sr, hsr⟩ : ∃ sr, Ins.sets ⟨k, op, dst, a, b', n, text, r0, r1, r2, r3, r4, r5, to_, els⟩ = sr := ⟨_, rfl⟩
        simp only [hsr] at hsets
        simp only [Ins.agg, Vl.agg] at hset hsets
        have HXV := Lib.hid hxv
        have HSR := Lib.hid hsr
        have HOK := Lib.hid hok
        have HAP := Lib.hid hapart
        have HM7 := Lib.hid hM7
        have HQ7 := Lib.hid hQ7
        have ⟨b0, b1, b2, b3, b4, b5, b6, b7, b8, b9, b10, b11, b12, b13, b14⟩ := Ins.cells hib
        simp only at b0 b1 b2 b3 b4 b5 b6 b7 b8 b9 b10 b11 b12 b13 b14
        clear hxv hsr hok hapart hM7 hQ7 hT c0 c1 c2 c3 c4 c5 c6 c7 c8 c9 c10 c11 c12 c13 c14 k4 hd hrp hq0 hsl
        cases on
        · go_wp2_with (first
            | (go_at_call 50; refine hset.mono ?_; rintro e w7 ⟨rfl, hb8⟩))
          have hT := HTT.out
          have hms := hT.meas
          simp only [List.length_cons] at hms
          have hN : Third f W1 (w7.alloc (.cells #[.int .i64 xk, .int .i64 xn] 28)) ob L Rn (T.length + 2 * pot M Cm) V' M Cm T :=
            ⟨hT.head.skip HI.out (by rw [HXV.out]), (HM7.out.later hb8).later (Below.one _ _), (HQ7.out.later hb8).later (Below.one _ _), rfl, by have := hT.g3; omega⟩
          have HN := Lib.hid hN
          clear hT hN
          go_roundg (T.length + 2 * pot M Cm)
          case measure => omega
          case rel => exact ⟨M, Cm, T, HN.out⟩
        · go_upto_if 111 with (first
            | (go_at_call 50; refine hset.mono ?_; rintro e w7 ⟨rfl, hb8⟩; have hib7 := (hb8.block _ (Array.getElem?_eq_some_iff.1 hib).1).trans hib; have hib8 := alloc_keeps hib7 (.cells #[.int .i64 xk, .int .i64 xn] 28); have ⟨d0, d1, d2, d3, d4, d5, d6, d7, d8, d9, d10, d11, d12, d13, d14⟩ := Ins.cells hib8; simp only at d0 d1 d2 d3 d4 d5 d6 d7 d8 d9 d10 d11 d12 d13 d14; have hxb := heap_alloc_new w7 (.cells #[.int .i64 xk, .int .i64 xn] 28); have hsx := hsets (w7.alloc (.cells #[.int .i64 xk, .int .i64 xn] 28)); have hxl : w7.heap.size < (w7.alloc (.cells #[.int .i64 xk, .int .i64 xn] 28)).heap.size := by simp)
            | (go_at_call 51; refine hsx.mono ?_; rintro e w9 ⟨rfl, hb9⟩))
          have hxb9 := (hb9.block _ hxl).trans hxb
          have e0 := cell_of_heap hxb9 0 (.int .i64 xk) rfl
          have e1 := cell_of_heap hxb9 1 (.int .i64 xn) rfl
          have hpv9 := Pre.later (Pre.later (Pre.later hpv hb8) (Below.one _ (.cells #[.int .i64 xk, .int .i64 xn] 28))) hb9
          have hib9 := (hb9.block _ (Array.getElem?_eq_some_iff.1 hib8).1).trans hib8
          have hbw9 : Below wr.heap.size wr w9 := hbw.trans (((hb8.alloc hb8.size _).trans (hb9.mono (Nat.le_trans hb8.size (by simp)))).mono hbw.size)
          clear d0 d1 d2 d3 d4 d5 d6 d7 d8 d9 d10 d11 d12 d13 d14 hsx hb8 hb9 hib7 hib8 hxb hxb9 hxl hset hsets b0 b1 b2 b3 b4 b5 b6 b7 b8 b9 b10 b11 b12 b13 b14 hpv
          go_cut [] from 82 to 175 (fun wx => PreV wx nb (upd ⟨k, op, dst, a, b', n, text, r0, r1, r2, r3, r4, r5, to_, els⟩ (row M p)) ∧ wx.heap[ib]? = some (Ins.obj ⟨k, op, dst, a, b', n, text, r0, r1, r2, r3, r4, r5, to_, els⟩) ∧ Below wr.heap.size wr wx)
          case first =>
            by_cases hs0 : 0 ≤ sr
            · have hrn : sr < Rn := by
                have h1 := HSR.out
                have h2 := HOK.out.dst
                simp only [Ins.sets] at h1
                split at h1
                · rename_i hk
                  have h3 := h2 hk
                  simp only at h3
                  omega
                · omega
              obtain ⟨rn, rfl⟩ : ∃ rn : Nat, sr = rn := ⟨sr.toNat, by omega⟩
              have hrn' : rn < Rn := by omega
              have hat : (row M p)[rn]? = some (at_ (row M p) rn) := by rw [at_in (by rw [HV.out]; exact hrn')]; simp
              obtain ⟨g0, g1⟩ := PreV.cells hpv9 hat
              have g2 := Pre.free hpv9 (rn * 2)
              have g3 := Pre.free hpv9 (rn * 2 + 1)
              have HN := Lib.hid (PreV.set hpv9 hat ⟨xk, xn⟩)
              have HU : Hid (upd ⟨k, op, dst, a, b', n, text, r0, r1, r2, r3, r4, r5, to_, els⟩ (row M p) = (row M p).set rn ⟨xk, xn⟩) := Lib.hid (by unfold upd; rw [HSR.out, if_pos (by omega), HXV.out]; rfl)
              have HIB : Hid (∀ (j1 j2 : Nat) (v1 v2 : Value), ((w9.setCell ⟨nb, j1, none⟩ v1).setCell ⟨nb, j2, none⟩ v2).heap[ib]? = some (Ins.obj ⟨k, op, dst, a, b', n, text, r0, r1, r2, r3, r4, r5, to_, els⟩)) := Lib.hid fun j1 j2 v1 v2 => (heap_setCell_other _ _ _ _ (by have := HAP.out; exact this)).trans ((heap_setCell_other _ _ _ _ (by have := HAP.out; exact this)).trans hib9)
              have HBW : Hid (∀ (j1 j2 : Nat) (v1 v2 : Value), Below wr.heap.size wr ((w9.setCell ⟨nb, j1, none⟩ v1).setCell ⟨nb, j2, none⟩ v2)) := Lib.hid fun j1 j2 v1 v2 => (hbw9.setCell hnb _).setCell hnb _
              have q1 : decide (0 ≤ (rn : Int)) = true := by simp
              clear hat hib9 hbw9 hpv9 hs0 hrn
              go_wp2
              go_meet
              exact ⟨by rw [HU.out]; exact HN.out, HIB.out _ _ _ _, HBW.out _ _ _ _⟩
            · have HU : Hid (upd ⟨k, op, dst, a, b', n, text, r0, r1, r2, r3, r4, r5, to_, els⟩ (row M p) = row M p) := Lib.hid (by unfold upd; rw [HSR.out, if_neg hs0])
              have q1 : decide (0 ≤ sr) = false := by simpa using hs0
              have q2 : sr < 0 := by omega
              clear hs0
              go_wp2
              go_meet
              exact ⟨by rw [HU.out]; exact hpv9, hib9, hbw9⟩
          case rest =>
            obtain ⟨hpu, hibu, hbu⟩ := hcut
            obtain ⟨wz, hwz⟩ : ∃ wz, wz = wc := ⟨_, rfl⟩
            subst hwz
            have hT := HTT.out
            have hMz := hT.mem.later hbu
            have hQz := (HQ.out).later hbu
            have hp9 : p ≤ 100000 := by omega
            have hul : (upd ⟨k, op, dst, a, b', n, text, r0, r1, r2, r3, r4, r5, to_, els⟩ (row M p)).length = Rn := by rw [upd_len]; exact HV.out
            have hnx := next_any ⟨k, op, dst, a, b', n, text, r0, r1, r2, r3, r4, r5, to_, els⟩ (upd ⟨k, op, dst, a, b', n, text, r0, r1, r2, r3, r4, r5, to_, els⟩ (row M p)) HOK.out hul (some ⟨nb, 0, none⟩) nc p hp9 wz (PreV.read hpu)
            obtain ⟨nl, hnl⟩ : ∃ nl, nl = nextV ⟨k, op, dst, a, b', n, text, r0, r1, r2, r3, r4, r5, to_, els⟩ p (upd ⟨k, op, dst, a, b', n, text, r0, r1, r2, r3, r4, r5, to_, els⟩ (row M p)) := ⟨_, rfl⟩
            rw [← hnl] at hnx
            have HNL := Lib.hid hnl
            have ⟨b0, b1, b2, b3, b4, b5, b6, b7, b8, b9, b10, b11, b12, b13, b14⟩ := Ins.cells hibu
            simp only at b0 b1 b2 b3 b4 b5 b6 b7 b8 b9 b10 b11 b12 b13 b14
            simp only [Ins.agg] at hnx
            have hmid := Head.mid HF.out hT.head HI.out (by rw [HXV.out])
            have HMID := Lib.hid hmid
            have HMZ := Lib.hid hMz
            have HQZ := Lib.hid hQz
            have HPU := Lib.hid hpu
            have hnbw : ob + 2 + L ≤ nb := by have := hT.mem.s; omega
            have hms := hT.meas
            have hg3 := hT.g3
            simp only [List.length_cons] at hms
            clear hT hnl hmid hMz hQz hul
            go_wp2_with (first
              | (go_at_call 52; refine hnx.mono ?_; rintro e w10 ⟨⟨NA, ncap, rfl, hNR, hNF⟩, hbx⟩))
            have h4 : Four f W1 w10 ob L Rn nb p ⟨k, op, dst, a, b', n, text, r0, r1, r2, r3, r4, r5, to_, els⟩ (row M p) nl NA (T.length + 2 * pot M Cm) V' M Cm T 0 :=
              ⟨by rw [List.take_zero]; exact HMID.out, HMZ.out.later hbx, HQZ.out.later hbx, Nat.le_refl _, hNR, fun b o e => by
                have h1 := hNF b o e
                have h2 := HMZ.out.s
                refine ⟨by omega, fun e2 => ?_⟩
                have := HQZ.out.lt e2
                omega, Pre.later HPU.out hbx⟩
            refine loop4_any f HF.out L Rn ob nb nc ncap HL.out HRT.out hR4 W1 w10 p ⟨k, op, dst, a, b', n, text, r0, r1, r2, r3, r4, r5, to_, els⟩ (row M p) nl NA (T.length + 2 * pot M Cm) V' M Cm T HNL.out (by omega) hnbw h4 _ _ _ _ _ _ _ _ _ _ _ _ _ _ _ _ _ _ _ _ _ _ _ _ _ _ _ _ _ _ _ _ _ _ _ _ _ _ _ _ _ _ _ _ _ _ _ _ _ _ _ _ _ _ _ _ _ _ _ _ _ _ _ _ _ _ _ _ _ _ _ _ _ _ _ _ _ _ _ _ _ _ _ _ _ _ _ _ _ _ _ _ _ _ _ _ _ _ _ _ _ _ _ _ _ _ _ _ _ _ _ _ _ _ _ _ _ _ _ _ _ _ _ _ _ _ _ _ _ _ _ _ _ _ _ _ _ _ _ _ _ _ _ _ _ _ _ _ _ _ _ _ _ _ _ _ _ _ _ _ _ _ _ _ _ _ _ _ _ _ _ ?_
            clear h4
            intro V'' z16 z17 z18 z19 z122 z123 z124 z125 z126 z127 z128 z129 z130 z131 z132 z133 z134 z135 z136 z137 z138 z139 z140 z141 z142 z143 z144 z145 z146 z147 z148 z149 z150 z151 z152 z153 z154 z155 z156 z157 z158 z159 z160 z161 z162 z163 z164 z165 z166 z167 z168 z169 z170 z171 z172 z173 z174 z175 M' Cm' T' w' h4
            have HN : Hid (Third f W1 w' ob L Rn (T'.length + 2 * pot M' Cm') V'' M' Cm' T') := Lib.hid ⟨h4.mid.head (by rw [List.take_length]; exact HNL.out), h4.mem, h4.que, rfl, by have := h4.meas; omega⟩
            have hm4 := h4.meas
            clear h4
            go_wp2
            go_roundg (T'.length + 2 * pot M' Cm')
            case measure => omega
            case rel => exact ⟨_, _, _, HN.out⟩
end Go.Proofs.Ytaofdbboalcceaa
