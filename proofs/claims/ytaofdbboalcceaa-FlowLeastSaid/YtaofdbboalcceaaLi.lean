import Derived.Test.YtaofdbboalcceaaLh
/- FlowHolds: its outer loop. -/
namespace Go.Proofs.Ytaofdbboalcceaa
open Go.RowKit Go.BigFrame

theorem flatV_at (v : List Vl) (j k : Nat) (hk : k < 2) : (v.flatMap gV)[j * 2 + k]? = (v[j]?).bind fun x => (gV x)[k]? := flatV_get v j k hk
/-- append([]Value{}, row...) -/
theorem append_vals {W0 : World} (pn R : Nat) (u : List Vl) (hu : u.length = R) (hR : R ≤ 100000) (h : PreV W0 pn u) (ty : TypeId) :
    ∃ vb vc W', (Builtin.append_ #[29, 29] ty #[.slice (some ⟨W0.heap.size, 0, none⟩) 0 0, .slice (some ⟨pn, 0, none⟩) R R]).run Try.prog (W0.alloc (.cells #[] 28)) = .ok (.slice (some ⟨vb, 0, none⟩) R vc) W' ∧ PreV W' vb u ∧ W0.heap.size ≤ vb ∧ Below W0.heap.size W0 W' := by
  obtain ⟨i0, hi, hz0, hz1, hz2⟩ := info_parts info_v
  have hb0 := Below.one W0 (.cells #[] 28)
  have hown : (W0.alloc (.cells #[] 28)).ownsRow W0.heap.size 28 2 (.slice (some ⟨W0.heap.size, 0, none⟩) 0 0) 0 [] := ⟨rfl, Or.inr ⟨W0.heap.size, 0, #[], rfl, Nat.le_refl _, heap_alloc_new W0 _, Nat.le_refl _, by simp [maxLen], rfl, rfl⟩⟩
  obtain ⟨V', w', hr, h1, h2, h3, h4⟩ := run_append_own_at (P := Try.prog) _ W0.heap.size 29 ty 28 i0 nv.agg 2 16 (by kernel_rfl) hi hz0 hz1 hz2 rfl (by decide) _ 0 [] hown ⟨pn, 0, none⟩ R R (u.flatMap gV) (by rw [flatV_len, hu]) (flatV_src (Pre.later h hb0)) (flatV_one u) (by simp [maxLen]; omega) (by omega) (by simp)
  rw [Nat.zero_add] at h1
  obtain ⟨hl, hh⟩ := h1
  rcases hh with ⟨rfl, _⟩ | ⟨g, cap, cur, rfl, hB, hg, hnc, _, hsz, htake⟩
  · exact absurd (h3.1 rfl).1 (by simp)
  · refine ⟨g, cap, w', hr, ⟨cur, hg, fun j x hj k hk => ?_⟩, hB, Below.grown hb0 h2 (by simp) (fun k hk => by simp [Value.ownBlock] at hk; omega)⟩
    have hf := flatV_get u j k hk
    rw [hj] at hf
    simp only [Option.bind_some] at hf
    rw [← hf]
    have hjl := (List.getElem?_eq_some_iff.1 hj).1
    have : (cur.toList.take (R * 2))[j * 2 + k]? = ([] ++ u.flatMap gV)[j * 2 + k]? := by rw [htake]
    rw [List.getElem?_take, if_pos (by omega)] at this
    simpa using this
theorem ins_ne_vals {W : World} {ib vb : Nat} {i : Ins} {v : List Vl} (h1 : W.heap[ib]? = some i.obj) (h2 : PreV W vb v) : ib ≠ vb := by
  rintro rfl
  obtain ⟨cs, h, _⟩ := h2
  rw [h1] at h
  injection h with h
  injection h with _ h _
  exact absurd h (by decide)
theorem Ins.sets_bd {i : Ins} {R Fr : Int} {L : Nat} (h : Ok i R Fr L) (h0 : 0 ≤ i.sets) : i.sets < R := by
  unfold Ins.sets at h0 ⊢
  split at h0
  · rename_i hk
    rw [if_pos hk]
    rcases h.dst hk with e | e
    · exact e.2
    · exact e.2.2
  · omega
theorem next_len (i : Ins) (p : Int) : (i.next p).length ≤ 2 := by
  unfold Ins.next
  split
  · simp
  · split
    · simp
    · split
      · simp
      · simp
/-- what comes by an edge is within -/
theorem within_edge {f : Fn7} {M : List (List Vl)} (hok : OkF f) (hA : Ans f M) {p : Nat} {i : Ins} (hi : f.code[p]? = some i) (ho : rok (row M p)) (hs : (setV i (row M p)).2 = true) (k : Nat) (n : Int) (hn : (i.next p)[k]? = some n) :
    0 ≤ n ∧ n < f.code.length ∧ (skip i (upd i (row M p)) k = false → ∀ r, join (at_ (upd i (row M p)) r) (at_ (row M n.toNat) r) = at_ (row M n.toNat) r) := by
  have hb := nextL_in hok hi (List.mem_of_getElem? hn)
  refine ⟨hb.1, hb.2, fun hk r => ?_⟩
  have hp : p < f.code.length := (List.getElem?_eq_some_iff.1 hi).1
  have hE : Edge f M p n.toNat (upd i (row M p)) := ⟨i, row M p, hi, row_in (by rw [hA.holds.shp.len]; exact hp), ho, hs, by rw [show ((n.toNat : Nat) : Int) = n by omega]; exact skip_next hn hk, rfl⟩
  have hle := hA.holds.edge _ _ _ hE r
  have hpl := (hA.holds.shp.at_ hp).1
  have hw1 : (at_ (upd i (row M p)) r).wf := by
    by_cases hr : r < (upd i (row M p)).length
    · exact ((upd_ok (hok.at_ hi) ho hpl).at_ hr).wf
    · rw [at_out (by omega)]; exact Or.inl rfl
  exact (le.join hw1 ((hA.holds.shp.at_ (p := n.toNat) (by omega)).at_ r)).2 hle
set_option maxRecDepth 1000000 in
set_option maxHeartbeats 16000000 in
theorem hold2_any (f : Fn7) (M : List (List Vl)) (hA : Ans f M) (hok : OkF f) (L Rn ob B0 cap : Nat) (C : Option Addr) (hL : f.code.length = L) (hRt : f.R.toNat = Rn) (hRn : f.R = Rn) (hL25 : L ≤ 25) (hR40 : Rn ≤ 40) (pb : Nat → Nat) (W0 : World)
    (hbf : W0.cell? ⟨B0, 2, none⟩ = some (.int .i64 Rn)) (hC : RdI W0 C f.code)
    (hrows : ∀ n : Nat, n < L → W0.cell? ⟨ob, n, none⟩ = some (.slice (some ⟨pb n, 0, none⟩) Rn Rn) ∧ PreV W0 (pb n) (row M n) ∧ (row M n).length = Rn)
    (x0 x2 x5 x6 x7 x8 x9 x10 x11 x12 x13 x14 x15 x16 x17 x18 x19 x20 x21 x22 x23 x24 x25 x26 x27 x28 x29 x30 x31 x32 x33 x34 x35 x36 x37 x38 x39 x40 x41 x42 x43 x44 x45 x46 x47 x48 x49 x50 x51 x52 x53 x54 x55 x56 x57 x58 x59 x60 x61 x62 x66 x67 x68 x69 x70 x71 x72 x73 x74 x75 x76 x77 x78 x79 x80 x81 x82 x83 x84 x85 x86 x87 x88 x89 x90 x91 x92 x93 x94 x95 x96 x97 x98 x99 x100 x101 x102 x103 x104 x105 x106 x107 x108 x109 x110 x111 x112 x113 x114 x115 x116 x117 x118 x119 x120 x121 x122 x123 x124 x125 x126 x127 x128 x129 x130 x131 x132 x133 x134 x135 x136 x137 x138 x139 x140 x141 x142 x143 x144 x145 x146 x147 x148 x149 x150 x151 x152 x153 x154 x155 x156 x157 x158 x159 x160 x161 x162 x163 x164 x165 x166 x167 x168 : Value) (Q : Exit → Act → World → Prop)
    (hexit : ∀ (y2 y7 y8 y9 y10 y12 y13 y14 y15 y16 y17 y18 y66 y67 y68 y69 y70 y71 y72 y73 y74 y75 y76 y77 y78 y79 y80 y81 y82 y83 y84 y85 y86 y87 y88 y89 y90 y91 y92 y93 y94 y95 y96 y97 y98 y99 y100 y101 y102 y103 y104 y105 y106 y107 y108 y109 y110 y111 y112 y113 y114 y115 y116 y117 y118 y119 y120 y121 y122 y123 y124 y125 y126 y127 y128 y129 y130 y131 y132 y133 y134 y135 y136 y137 y138 y139 y140 y141 y142 y143 y144 y145 y146 y147 y148 y149 y150 y151 y152 y153 y154 y155 y156 y157 y158 y159 y160 y161 y162 y163 y164 y165 y166 y167 : Value) (w' : World), Below W0.heap.size W0 w' → Q (.exit 2) ⟨(x0 :: .pointer (some ⟨B0, 0, none⟩) :: y2 :: .slice (some ⟨ob, 0, none⟩) L L :: .func (.func 24) #[] #[] :: x5 :: x6 :: y7 :: y8 :: y9 :: y10 :: x11 :: y12 :: y13 :: y14 :: y15 :: y16 :: y17 :: y18 :: x19 :: x20 :: x21 :: x22 :: x23 :: x24 :: x25 :: x26 :: x27 :: x28 :: x29 :: x30 :: x31 :: x32 :: x33 :: x34 :: x35 :: x36 :: x37 :: x38 :: x39 :: x40 :: x41 :: x42 :: x43 :: x44 :: x45 :: x46 :: x47 :: x48 :: x49 :: x50 :: x51 :: x52 :: x53 :: x54 :: x55 :: x56 :: x57 :: x58 :: x59 :: x60 :: x61 :: x62 :: .slice C L cap :: .int .i64 (L : Int) :: .int .i64 (L : Int) :: y66 :: y67 :: y68 :: y69 :: y70 :: y71 :: y72 :: y73 :: y74 :: y75 :: y76 :: y77 :: y78 :: y79 :: y80 :: y81 :: y82 :: y83 :: y84 :: y85 :: y86 :: y87 :: y88 :: y89 :: y90 :: y91 :: y92 :: y93 :: y94 :: y95 :: y96 :: y97 :: y98 :: y99 :: y100 :: y101 :: y102 :: y103 :: y104 :: y105 :: y106 :: y107 :: y108 :: y109 :: y110 :: y111 :: y112 :: y113 :: y114 :: y115 :: y116 :: y117 :: y118 :: y119 :: y120 :: y121 :: y122 :: y123 :: y124 :: y125 :: y126 :: y127 :: y128 :: y129 :: y130 :: y131 :: y132 :: y133 :: y134 :: y135 :: y136 :: y137 :: y138 :: y139 :: y140 :: y141 :: y142 :: y143 :: y144 :: y145 :: y146 :: y147 :: y148 :: y149 :: y150 :: y151 :: y152 :: y153 :: y154 :: y155 :: y156 :: y157 :: y158 :: y159 :: y160 :: y161 :: y162 :: y163 :: y164 :: y165 :: y166 :: y167 :: x168 :: []).toArray, []⟩ w') :
    Code.wp Try.prog hloop2 Q ⟨(x0 :: .pointer (some ⟨B0, 0, none⟩) :: x2 :: .slice (some ⟨ob, 0, none⟩) L L :: .func (.func 24) #[] #[] :: x5 :: x6 :: x7 :: x8 :: x9 :: x10 :: x11 :: x12 :: x13 :: x14 :: x15 :: x16 :: x17 :: x18 :: x19 :: x20 :: x21 :: x22 :: x23 :: x24 :: x25 :: x26 :: x27 :: x28 :: x29 :: x30 :: x31 :: x32 :: x33 :: x34 :: x35 :: x36 :: x37 :: x38 :: x39 :: x40 :: x41 :: x42 :: x43 :: x44 :: x45 :: x46 :: x47 :: x48 :: x49 :: x50 :: x51 :: x52 :: x53 :: x54 :: x55 :: x56 :: x57 :: x58 :: x59 :: x60 :: x61 :: x62 :: .slice C L cap :: .int .i64 (L : Int) :: .int .i64 0 :: x66 :: x67 :: x68 :: x69 :: x70 :: x71 :: x72 :: x73 :: x74 :: x75 :: x76 :: x77 :: x78 :: x79 :: x80 :: x81 :: x82 :: x83 :: x84 :: x85 :: x86 :: x87 :: x88 :: x89 :: x90 :: x91 :: x92 :: x93 :: x94 :: x95 :: x96 :: x97 :: x98 :: x99 :: x100 :: x101 :: x102 :: x103 :: x104 :: x105 :: x106 :: x107 :: x108 :: x109 :: x110 :: x111 :: x112 :: x113 :: x114 :: x115 :: x116 :: x117 :: x118 :: x119 :: x120 :: x121 :: x122 :: x123 :: x124 :: x125 :: x126 :: x127 :: x128 :: x129 :: x130 :: x131 :: x132 :: x133 :: x134 :: x135 :: x136 :: x137 :: x138 :: x139 :: x140 :: x141 :: x142 :: x143 :: x144 :: x145 :: x146 :: x147 :: x148 :: x149 :: x150 :: x151 :: x152 :: x153 :: x154 :: x155 :: x156 :: x157 :: x158 :: x159 :: x160 :: x161 :: x162 :: x163 :: x164 :: x165 :: x166 :: x167 :: x168 :: []).toArray, []⟩ W0 := by
  conv => arg 2; whnf
  have HL := Lib.hid hL
  have HRT := Lib.hid hRt
  have HRN := Lib.hid hRn
  have HA := Lib.hid hA
  have HOK := Lib.hid hok
  have HR := Lib.hid hrows
  have HE := Lib.hid hexit
  clear hL hRt hRn hA hok hrows hexit
  go_loopw [65] (fun ix wr => ∃ k : Nat, k ≤ L ∧ ix = .int .i64 k ∧ Below W0.heap.size W0 wr) (fun ix _ => L - (intOf ix).toNat)
  case atStart => exact ⟨0, by omega, rfl, Below.refl _ _⟩
  case round =>
    obtain ⟨p, hp, rfl, hbw⟩ := hrel
    by_cases hlt : p < L
    · have hi := insAt_in (l := f.code) (p := p) (by rw [HL.out]; exact hlt)
      obtain ⟨r1, r2, r3⟩ := HR.out p hlt
      have r1 := (hbw.cell (p := ⟨ob, p, none⟩) (World.block_lt_of_cell? W0 _ r1)).trans r1
      have r2 := Pre.later r2 hbw
      have hoki : Ok (insAt f.code p) (Rn : Int) f.Fr L := by have h := HOK.out.at_ hi; rw [HRT.out, HL.out] at h; exact h
      have hrw := HA.out.holds.shp.at_ (p := p) (by rw [HL.out]; exact hlt)
      have HWE := Lib.hid (fun ho hs k n hn => within_edge HOK.out HA.out hi ho hs k n hn)
      have HROK := Lib.hid (rok_of hrw)
      obtain ⟨b, o, rfl, hlb, hcs⟩ := (hC.below hbw) p _ hi
      obtain ⟨ic0, ic1, ic2, ic3, ic4, ic5, ic6, ic7, ic8, ic9, ic10, ic11, ic12, ic13, ic14⟩ := RdI.load hcs
      have y2 := (hbw.cell (p := ⟨B0, 2, none⟩) (World.block_lt_of_cell? W0 _ hbf)).trans hbf
      have hyl := World.block_lt_of_cell? wr _ y2
      have hol := World.block_lt_of_cell? wr _ r1
      clear hi hcs hrw
      generalize insAt f.code p = i at *
      generalize hv : row M p = v at *
      clear hv
      have hbi := heap_alloc_new wr i.obj
      have hBi := Below.one wr i.obj
      have r1 := (hBi.cell (p := ⟨ob, p, none⟩) hol).trans r1
      have y2 := (hBi.cell (p := ⟨B0, 2, none⟩) hyl).trans y2
      obtain ⟨vb, vc, W', hap, hP, hvbr, hBW⟩ := append_vals (pb p) Rn v r3 (by omega) (Pre.later r2 hBi) 3
      have hsz : (wr.alloc i.obj).heap.size = wr.heap.size + 1 := by simp
      rw [hsz] at hap hBW hvbr
      have hvbr : wr.heap.size ≤ vb := by omega
      have y2 := (hBW.cell (p := ⟨B0, 2, none⟩) (by omega)).trans y2
      have hbi := (hBW.block wr.heap.size (by omega)).trans hbi
      have hB1 : Below wr.heap.size wr W' := hBi.trans (hBW.mono (by omega))
      have HOKI := Lib.hid hoki
      have HP := Lib.hid hP
      have HV := Lib.hid r3
      have HBI := Lib.hid hbi
      have hB1 := Lib.hid hB1
      have hB2 := Lib.hid hbw
      have hnl := next_len i p
      obtain ⟨k, op, dst, a, bb, n, text, q0, q1, q2, q3, q4, q5, to_, els⟩ := i
      simp only [Ins.obj] at ic0 ic1 ic2 ic3 ic4 ic5 ic6 ic7 ic8 ic9 ic10 ic11 ic12 ic13 ic14 r1 y2 hap
      clear r2 r3 hBi hbi hBW hP hoki hsz
      go_wp2_with (first
        | (refine append_ran (o := ⟨some 75, _, _, _, _, _⟩) rfl (.tmp 70) (.tmp 74) rfl rfl rfl hap ?_))
      clear hap r1 y2 ic0 ic1 ic2 ic3 ic4 ic5 ic6 ic7 ic8 ic9 ic10 ic11 ic12 ic13 ic14
      refine hold3_any v Rn vb vc hR40 HV.out _ HP.out _ _ _ _ _ _ _ _ _ _ _ _ _ _ _ _ _ _ _ _ _ _ _ _ _ _ _ _ _ _ _ _ _ _ _ _ _ _ _ _ _ _ _ _ _ _ _ _ _ _ _ _ _ _ _ _ _ _ _ _ _ _ _ _ _ _ _ _ _ _ _ _ _ _ _ _ _ _ _ _ _ _ _ _ _ _ _ _ _ _ _ _ _ _ _ _ _ _ _ _ _ _ _ _ _ _ _ _ _ _ _ _ _ _ _ _ _ _ _ _ _ _ _ _ _ _ _ _ _ _ _ _ _ _ _ _ _ _ _ _ _ _ _ _ _ _ _ _ _ _ _ _ _ _ _ _ _ _ _ _ _ _ _ _ _ _ ?_
      intro y12 y84 y85 y86 y87 y88 y89 y90 y91 y92 y93 w3 hb3
      have hbi := (hb3.block wr.heap.size (Nat.lt_of_lt_of_le (Array.getElem?_eq_some_iff.1 HBI.out).1 (Nat.le_refl _))).trans HBI.out
      have hil := (Array.getElem?_eq_some_iff.1 hbi).1
      have hBr3 := Lib.hid (hB1.out.trans (hb3.mono hB1.out.size))
      have hB3 := hB2.out.trans (hBr3.out.mono hB2.out.size)
      have HP3 := Lib.hid (Pre.later HP.out hb3)
      clear hb3
      cases hnv : v.any (fun x => x.k == 0)
      case true =>
        clear hnv hbi
        have hB4 := hB3.alloc hB3.size (.cells #[.int .i64 0, .int .i64 0] 28)
        go_wp2
        exact ⟨⟨p + 1, by omega, by go_num, hB4⟩, by simp [intOf]; omega⟩
      case false =>
        have HO := Lib.hid (HROK.out hnv)
        have hk3 := heap_alloc_new w3 nv.obj
        have hbi4 := alloc_keeps hbi nv.obj
        have hB4 := hB3.alloc hB3.size nv.obj
        have HP4 := Lib.hid (Pre.later HP3.out (Below.one w3 nv.obj))
        have hbe := behind_any ⟨k, op, dst, a, bb, n, text, q0, q1, q2, q3, q4, q5, to_, els⟩ v HOKI.out HV.out HO.out (some ⟨vb, 0, none⟩) vc (w3.alloc nv.obj) (PreV.read HP4.out)
        unfold SetT at hbe
        have HUP : Hid (upd ⟨k, op, dst, a, bb, n, text, q0, q1, q2, q3, q4, q5, to_, els⟩ v = if 0 ≤ (Ins.sets ⟨k, op, dst, a, bb, n, text, q0, q1, q2, q3, q4, q5, to_, els⟩) then v.set (Ins.sets ⟨k, op, dst, a, bb, n, text, q0, q1, q2, q3, q4, q5, to_, els⟩).toNat (setV ⟨k, op, dst, a, bb, n, text, q0, q1, q2, q3, q4, q5, to_, els⟩ v).1 else v) := Lib.hid rfl
        have HSV := Lib.hid (HWE.out HO.out)
        have HUL := Lib.hid (upd_len ⟨k, op, dst, a, bb, n, text, q0, q1, q2, q3, q4, q5, to_, els⟩ v)
        generalize setV ⟨k, op, dst, a, bb, n, text, q0, q1, q2, q3, q4, q5, to_, els⟩ v = xx at *
        obtain ⟨⟨xk, xn⟩, on⟩ := xx
        have ⟨d0, d1, d2, d3, d4, d5, d6, d7, d8, d9, d10, d11, d12, d13, d14⟩ := Ins.cells (i := ⟨k, op, dst, a, bb, n, text, q0, q1, q2, q3, q4, q5, to_, els⟩) hbi
        simp only [Ins.agg, Vl.agg, Vl.obj] at hbe hk3 hbi4 hB4 HUP HSV d0 d1 d2 d3 d4 d5 d6 d7 d8 d9 d10 d11 d12 d13 d14
        clear hnv
        go_upto_region 33 with (first
          | (go_at_call 25; refine hbe.mono ?_; rintro e w4 ⟨rfl, hb4⟩; have hk4 := (hb4.block _ (Array.getElem?_eq_some_iff.1 hk3).1).trans hk3; have hbi5 := (hb4.block _ (Array.getElem?_eq_some_iff.1 hbi4).1).trans hbi4; have z0 := cell_of_heap hk4 0 (.int .i64 0) rfl; have z1 := cell_of_heap hk4 1 (.int .i64 0) rfl; have f0 := free_of_heap hk4 0; have f1 := free_of_heap hk4 1))
        have hk5 := heap_put2 (W := w4) (x := nv) (y := ⟨xk, xn⟩) hk4
        have hB5 := below_put2 (y := ⟨xk, xn⟩) (hb4.mono (Nat.le_of_lt (Array.getElem?_eq_some_iff.1 hk3).1)) (Nat.le_refl w3.heap.size)
        have hbi6 := (heap_setCell_other (w4.setCell ⟨w3.heap.size, 0, none⟩ (.int .i64 xk)) ⟨w3.heap.size, 1, none⟩ wr.heap.size (.int .i64 xn) (Nat.ne_of_lt hil)).trans ((heap_setCell_other w4 ⟨w3.heap.size, 0, none⟩ wr.heap.size (.int .i64 xk) (Nat.ne_of_lt hil)).trans hbi5)
        have hB5b : Below wr.heap.size wr ((w4.setCell ⟨w3.heap.size, 0, none⟩ (.int .i64 xk)).setCell ⟨w3.heap.size, 1, none⟩ (.int .i64 xn)) := hBr3.out.trans ((Below.alloc (Below.refl _ _) (Nat.le_refl _) _ |>.trans hB5).mono hBr3.out.size)
        have hP5 : PreV ((w4.setCell ⟨w3.heap.size, 0, none⟩ (.int .i64 xk)).setCell ⟨w3.heap.size, 1, none⟩ (.int .i64 xn)) vb v := Pre.of_heap HP3.out ((Below.alloc (Below.refl w3.heap.size w3) (Nat.le_refl _) _ |>.trans hB5).block _ (Pre.lt HP3.out))
        have hvlt := Nat.lt_of_lt_of_le (Pre.lt HP3.out) (Below.alloc (Below.refl w3.heap.size w3) (Nat.le_refl _) nv.obj |>.trans hB5).size
        simp only [put2, Vl.obj] at hk5 hB5
        clear z0 z1 f0 f1 hk4 hbi5 hb4 hk3 hbi4 hbe hB4 hB5 d0 d1 d2 d3 d4 d5 d6 d7 d8 d9 d10 d11 d12 d13 d14
        generalize (w4.setCell ⟨w3.heap.size, 0, none⟩ (.int .i64 xk)).setCell ⟨w3.heap.size, 1, none⟩ (.int .i64 xn) = w5 at *
        have HP5 := Lib.hid hP5
        have ⟨d0, d1, d2, d3, d4, d5, d6, d7, d8, d9, d10, d11, d12, d13, d14⟩ := Ins.cells (i := ⟨k, op, dst, a, bb, n, text, q0, q1, q2, q3, q4, q5, to_, els⟩) hbi6
        simp only at d0 d1 d2 d3 d4 d5 d6 d7 d8 d9 d10 d11 d12 d13 d14
        have hil5 := (Array.getElem?_eq_some_iff.1 hbi6).1
        clear hP5 hbi
        cases on
        · go_wp2
          exact ⟨⟨p + 1, by omega, by go_num, hbw.trans (hB5b.mono hbw.size)⟩, by simp [intOf]; omega⟩
        · have hst := fun W => refSets_any ⟨k, op, dst, a, bb, n, text, q0, q1, q2, q3, q4, q5, to_, els⟩ W
          have hnx := fun W => refNext_any ⟨k, op, dst, a, bb, n, text, q0, q1, q2, q3, q4, q5, to_, els⟩ p (by omega) W
          have HSB := Lib.hid (fun h => Ins.sets_bd HOKI.out h)
          have z0 := cell_of_heap hk5 0 (.int .i64 xk) rfl
          have z1 := cell_of_heap hk5 1 (.int .i64 xn) rfl
          have hkl5 := (Array.getElem?_eq_some_iff.1 hk5).1
          generalize Ins.sets ⟨k, op, dst, a, bb, n, text, q0, q1, q2, q3, q4, q5, to_, els⟩ = ss at *
          unfold SlN at hnx
          simp only [Ins.agg] at hst hnx
          have HNX := Lib.hid hnx
          clear hnx
          go_wp2_with fail
          refine (hst _).mono ?_
          rintro e w6 ⟨rfl, hb6⟩
          have hbi7 := (hb6.block _ hil5).trans hbi6
          have hk7 := (hb6.block _ hkl5).trans hk5
          have z0 := cell_of_heap hk7 0 (.int .i64 xk) rfl
          have z1 := cell_of_heap hk7 1 (.int .i64 xn) rfl
          have hB6 := hB5b.trans (hb6.mono hB5b.size)
          have HP6 := Lib.hid (Pre.later HP5.out hb6)
          have hil6 := (Array.getElem?_eq_some_iff.1 hbi7).1
          clear hb6 hk5 hbi6 hB5b hst hil5 hkl5 d0 d1 d2 d3 d4 d5 d6 d7 d8 d9 d10 d11 d12 d13 d14
          by_cases hs0 : 0 ≤ ss
          · obtain ⟨sn, rfl⟩ : ∃ sn : Nat, ss = sn := ⟨ss.toNat, by omega⟩
            have hsR : sn < Rn := by have := HSB.out hs0; omega
            have hx : v[sn]? = some (at_ v sn) := by rw [at_in (by rw [HV.out]; exact hsR)]; simp
            obtain ⟨c0, c1⟩ := PreV.cells HP6.out hx
            have g0 := Pre.free HP6.out (sn * 2)
            have g1 := Pre.free HP6.out (sn * 2 + 1)
            have hPS := PreV.set HP6.out hx ⟨xk, xn⟩
            have hHU : upd ⟨k, op, dst, a, bb, n, text, q0, q1, q2, q3, q4, q5, to_, els⟩ v = v.set sn ⟨xk, xn⟩ := by rw [HUP.out, if_pos hs0, Int.toNat_natCast]
            rw [← hHU] at hPS
            have hvlt6 := Pre.lt HP6.out
            have q0' : decide ((sn : Int) ≥ 0) = true := by simp
            clear hx hs0
            clear hHU
            go_upto_region 37 with fail
            have hne := ins_ne_vals hbi7 HP6.out
            have hbi8 := (heap_setCell_other (w6.setCell ⟨vb, sn * 2, none⟩ (.int .i64 xk)) ⟨vb, sn * 2 + 1, none⟩ wr.heap.size (.int .i64 xn) hne).trans ((heap_setCell_other w6 ⟨vb, sn * 2, none⟩ wr.heap.size (.int .i64 xk) hne).trans hbi7)
            have hB7 := (hB6.setCell (p := ⟨vb, sn * 2, none⟩) hvbr (.int .i64 xk)).setCell (p := ⟨vb, sn * 2 + 1, none⟩) hvbr (.int .i64 xn)
            have HP7 := Lib.hid hPS
            clear hPS z0 z1 c0 c1 g0 g1 hbi7 hk7 hB6 HP6
            generalize (w6.setCell ⟨vb, sn * 2, none⟩ (.int .i64 xk)).setCell ⟨vb, sn * 2 + 1, none⟩ (.int .i64 xn) = w7 at *
            have ⟨d0, d1, d2, d3, d4, d5, d6, d7, d8, d9, d10, d11, d12, d13, d14⟩ := Ins.cells (i := ⟨k, op, dst, a, bb, n, text, q0, q1, q2, q3, q4, q5, to_, els⟩) hbi8
            simp only at d0 d1 d2 d3 d4 d5 d6 d7 d8 d9 d10 d11 d12 d13 d14
            go_wp2_with fail
            clear d0 d1 d2 d3 d4 d5 d6 d7 d8 d9 d10 d11 d12 d13 d14
            refine (HNX.out _).mono ?_
            rintro e w8 ⟨⟨A8, lc, rfl, hRN⟩, hb8⟩
            have hB8 := hB7.trans (hb8.mono hB7.size)
            have hbi9 := (hb8.block _ (Array.getElem?_eq_some_iff.1 hbi8).1).trans hbi8
            have hP8 := Pre.later HP7.out hb8
            have hBW0 := hbw.trans (hB8.mono hbw.size)
            have HSL := Lib.hid (HSV.out (by trivial))
            clear HSV
            generalize Ins.next ⟨k, op, dst, a, bb, n, text, q0, q1, q2, q3, q4, q5, to_, els⟩ ↑p = l at *
            rw [HL.out] at HSL
            go_wp2_with fail
            refine hold4_any f M ⟨k, op, dst, a, bb, n, text, q0, q1, q2, q3, q4, q5, to_, els⟩ (upd ⟨k, op, dst, a, bb, n, text, q0, q1, q2, q3, q4, q5, to_, els⟩ v) l L Rn ob vb vc wr.heap.size lc A8 pb hR40 hnl (by rw [HUL.out, HV.out]) HOKI.out w8 (fun n hn => ?_) HSL.out hbi9 hP8 hRN _ _ _ _ _ _ _ _ _ _ _ _ _ _ _ _ _ _ _ _ _ _ _ _ _ _ _ _ _ _ _ _ _ _ _ _ _ _ _ _ _ _ _ _ _ _ _ _ _ _ _ _ _ _ _ _ _ _ _ _ _ _ _ _ _ _ _ _ _ _ _ _ _ _ _ _ _ _ _ _ _ _ _ _ _ _ _ _ _ _ _ _ _ _ _ _ _ _ _ _ _ _ _ _ _ _ _ _ _ _ _ _ _ _ _ _ _ _ _ _ _ _ _ _ _ _ _ _ _ _ _ _ _ _ _ _ _ _ _ _ _ _ _ _ _ _ _ _ _ _ _ _ _ _ _ _ _ _ _ _ _ _ _ ?_
            · obtain ⟨r1, r2, r3⟩ := HR.out n hn
              exact ⟨(hBW0.cell (p := ⟨ob, n, none⟩) (World.block_lt_of_cell? W0 _ r1)).trans r1, Pre.later r2 hBW0, r3⟩
            intro y2 y16 y17 y18 y118 y119 y120 y121 y122 y123 y124 y125 y126 y127 y128 y129 y130 y131 y132 y133 y134 y135 y136 y137 y138 y139 y140 y141 y142 y143 y144 y145 y146 y147 y148 y149 y150 y151 y152 y153 y154 y155 y156 y157 y158 y159 y160 y161 y162 y163 y164 y165 y166 w9 hb9
            have hB9 := hBW0.trans (hb9.mono hBW0.size)
            go_wp2
            exact ⟨⟨p + 1, by omega, by go_num, hB9⟩, by simp [intOf]; omega⟩
          · have hHU : upd ⟨k, op, dst, a, bb, n, text, q0, q1, q2, q3, q4, q5, to_, els⟩ v = v := by rw [HUP.out, if_neg hs0]
            have hq0 : decide (ss ≥ 0) = false := by simp; omega
            have hq1 : decide (0 ≤ ss) = false := by simp; omega
            have HP7 : Hid (PreV w6 vb (upd ⟨k, op, dst, a, bb, n, text, q0, q1, q2, q3, q4, q5, to_, els⟩ v)) := Lib.hid (by rw [hHU]; exact HP6.out)
            have hbi8 := hbi7
            have hB7 := hB6
            have ⟨d0, d1, d2, d3, d4, d5, d6, d7, d8, d9, d10, d11, d12, d13, d14⟩ := Ins.cells (i := ⟨k, op, dst, a, bb, n, text, q0, q1, q2, q3, q4, q5, to_, els⟩) hbi8
            simp only at d0 d1 d2 d3 d4 d5 d6 d7 d8 d9 d10 d11 d12 d13 d14
            clear hHU hs0 z0 z1 hbi7 hk7 hB6 HP6
            go_wp2_with fail
            clear d0 d1 d2 d3 d4 d5 d6 d7 d8 d9 d10 d11 d12 d13 d14
            refine (HNX.out _).mono ?_
            rintro e w8 ⟨⟨A8, lc, rfl, hRN⟩, hb8⟩
            have hB8 := hB7.trans (hb8.mono hB7.size)
            have hbi9 := (hb8.block _ (Array.getElem?_eq_some_iff.1 hbi8).1).trans hbi8
            have hP8 := Pre.later HP7.out hb8
            have hBW0 := hbw.trans (hB8.mono hbw.size)
            have HSL := Lib.hid (HSV.out (by trivial))
            clear HSV
            generalize Ins.next ⟨k, op, dst, a, bb, n, text, q0, q1, q2, q3, q4, q5, to_, els⟩ ↑p = l at *
            rw [HL.out] at HSL
            go_wp2_with fail
            refine hold4_any f M ⟨k, op, dst, a, bb, n, text, q0, q1, q2, q3, q4, q5, to_, els⟩ (upd ⟨k, op, dst, a, bb, n, text, q0, q1, q2, q3, q4, q5, to_, els⟩ v) l L Rn ob vb vc wr.heap.size lc A8 pb hR40 hnl (by rw [HUL.out, HV.out]) HOKI.out w8 (fun n hn => ?_) HSL.out hbi9 hP8 hRN _ _ _ _ _ _ _ _ _ _ _ _ _ _ _ _ _ _ _ _ _ _ _ _ _ _ _ _ _ _ _ _ _ _ _ _ _ _ _ _ _ _ _ _ _ _ _ _ _ _ _ _ _ _ _ _ _ _ _ _ _ _ _ _ _ _ _ _ _ _ _ _ _ _ _ _ _ _ _ _ _ _ _ _ _ _ _ _ _ _ _ _ _ _ _ _ _ _ _ _ _ _ _ _ _ _ _ _ _ _ _ _ _ _ _ _ _ _ _ _ _ _ _ _ _ _ _ _ _ _ _ _ _ _ _ _ _ _ _ _ _ _ _ _ _ _ _ _ _ _ _ _ _ _ _ _ _ _ _ _ _ _ _ ?_
            · obtain ⟨r1, r2, r3⟩ := HR.out n hn
              exact ⟨(hBW0.cell (p := ⟨ob, n, none⟩) (World.block_lt_of_cell? W0 _ r1)).trans r1, Pre.later r2 hBW0, r3⟩
            intro y2 y16 y17 y18 y118 y119 y120 y121 y122 y123 y124 y125 y126 y127 y128 y129 y130 y131 y132 y133 y134 y135 y136 y137 y138 y139 y140 y141 y142 y143 y144 y145 y146 y147 y148 y149 y150 y151 y152 y153 y154 y155 y156 y157 y158 y159 y160 y161 y162 y163 y164 y165 y166 w9 hb9
            have hB9 := hBW0.trans (hb9.mono hBW0.size)
            go_wp2
            exact ⟨⟨p + 1, by omega, by go_num, hB9⟩, by simp [intOf]; omega⟩
    · obtain rfl : p = L := by omega
      go_wp2
      exact HE.out _ _ _ _ _ _ _ _ _ _ _ _ _ _ _ _ _ _ _ _ _ _ _ _ _ _ _ _ _ _ _ _ _ _ _ _ _ _ _ _ _ _ _ _ _ _ _ _ _ _ _ _ _ _ _ _ _ _ _ _ _ _ _ _ _ _ _ _ _ _ _ _ _ _ _ _ _ _ _ _ _ _ _ _ _ _ _ _ _ _ _ _ _ _ _ _ _ _ _ _ _ _ _ _ _ _ _ _ _ _ _ _ _ _ wr hbw
end Go.Proofs.Ytaofdbboalcceaa
