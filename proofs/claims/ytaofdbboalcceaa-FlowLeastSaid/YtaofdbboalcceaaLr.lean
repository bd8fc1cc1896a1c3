import Derived.Test.YtaofdbboalcceaaLn
/- FlowLeast: the loop over all instructions. -/
namespace Go.Proofs.Ytaofdbboalcceaa
open Go.RowKit Go.BigFrame

theorem cstep_no {f : Fn7} {M C : List (List Vl)} {p : Nat} (h : goes f M p = false) : cstep f M C p = C := by unfold cstep; rw [h]; rfl
theorem cstep_yes {f : Fn7} {M C : List (List Vl)} {p : Nat} (h : goes f M p = true) : cstep f M C p = cedges (insAt f.code p) p (upd (insAt f.code p) (row M p)) C ((insAt f.code p).next p).length := by unfold cstep; rw [h]; rfl
set_option maxRecDepth 1000000 in
set_option maxHeartbeats 16000000 in
theorem least3_any (f : Fn7) (M : List (List Vl)) (hA : Ans f M) (hok : OkF f) (L Rn ob B0 cap cb : Nat) (C : Option Addr) (hL : f.code.length = L) (hRt : f.R.toNat = Rn) (hRn : f.R = Rn) (hL25 : L ≤ 25) (hR40 : Rn ≤ 40) (pb : Nat → Nat) (W1 W0 : World) (hcb : W1.heap.size = cb) (hB10 : Below cb W1 W0)
    (hbf : W1.cell? ⟨B0, 2, none⟩ = some (.int .i64 Rn)) (hC : RdI W1 C f.code)
    (hrows : ∀ n : Nat, n < L → W1.cell? ⟨ob, n, none⟩ = some (.slice (some ⟨pb n, 0, none⟩) Rn Rn) ∧ PreV W1 (pb n) (row M n) ∧ (row M n).length = Rn)
    (hM0 : MemC W0 cb L Rn (cinit f))
    (x0 x2 x5 x6 x7 x8 x9 x10 x11 x12 x13 x14 x15 x16 x17 x18 x19 x20 x21 x22 x23 x24 x25 x26 x27 x28 x29 x30 x31 x32 x33 x34 x35 x36 x37 x38 x39 x40 x41 x42 x43 x44 x45 x46 x47 x48 x49 x50 x51 x52 x53 x54 x55 x56 x57 x58 x59 x60 x61 x62 x63 x64 x65 x66 x67 x68 x69 x70 x71 x72 x73 x74 x75 x76 x77 x78 x79 x80 x84 x85 x86 x87 x88 x89 x90 x91 x92 x93 x94 x95 x96 x97 x98 x99 x100 x101 x102 x103 x104 x105 x106 x107 x108 x109 x110 x111 x112 x113 x114 x115 x116 x117 x118 x119 x120 x121 x122 x123 x124 x125 x126 x127 x128 x129 x130 x131 x132 x133 x134 x135 x136 x137 x138 x139 x140 x141 x142 x143 x144 x145 x146 x147 x148 x149 x150 x151 x152 x153 x154 x155 x156 x157 x158 x159 x160 x161 x162 x163 x164 x165 x166 x167 x168 x169 x170 x171 x172 x173 x174 x175 x176 x177 x178 x179 x180 x181 x182 x183 x184 x185 x186 x187 x188 x189 x190 x191 x192 x193 x194 x195 x196 x197 x198 x199 x200 x201 x202 x203 x204 x205 x206 x207 x208 x209 x210 x211 x212 x213 x214 x215 x216 x217 x218 x219 x220 x221 x222 x223 x224 : Value) (Q : Exit → Act → World → Prop)
    (hexit : ∀ (y7 y8 y9 y10 y12 y13 y14 y15 y16 y17 y18 y84 y85 y86 y87 y88 y89 y90 y91 y92 y93 y94 y95 y96 y97 y98 y99 y100 y101 y102 y103 y104 y105 y106 y107 y108 y109 y110 y111 y112 y113 y114 y115 y116 y117 y118 y119 y120 y121 y122 y123 y124 y125 y126 y127 y128 y129 y130 y131 y132 y133 y134 y135 y136 y137 y138 y139 y140 y141 y142 y143 y144 y145 y146 y147 y148 y149 y150 y151 y152 y153 y154 y155 y156 y157 y158 y159 y160 y161 y162 y163 y164 y165 y166 y167 y168 y169 y170 y171 y172 y173 y174 y175 y176 y177 y178 y179 y180 y181 y182 y183 y184 y185 y186 y187 y188 y189 y190 y191 y192 y193 : Value) (w' : World), Below cb W1 w' → MemC w' cb L Rn M → Q (.exit 4) ⟨(x0 :: .pointer (some ⟨B0, 0, none⟩) :: x2 :: .slice (some ⟨ob, 0, none⟩) L L :: .slice (some ⟨cb, 0, none⟩) L L :: x5 :: x6 :: y7 :: y8 :: y9 :: y10 :: x11 :: y12 :: y13 :: y14 :: y15 :: y16 :: y17 :: y18 :: x19 :: x20 :: x21 :: x22 :: x23 :: x24 :: x25 :: x26 :: x27 :: x28 :: x29 :: x30 :: x31 :: x32 :: x33 :: x34 :: x35 :: x36 :: x37 :: x38 :: x39 :: x40 :: x41 :: x42 :: x43 :: x44 :: x45 :: x46 :: x47 :: x48 :: x49 :: x50 :: x51 :: x52 :: x53 :: x54 :: x55 :: x56 :: x57 :: x58 :: x59 :: x60 :: x61 :: x62 :: x63 :: x64 :: x65 :: x66 :: x67 :: x68 :: x69 :: x70 :: x71 :: x72 :: x73 :: x74 :: x75 :: x76 :: x77 :: x78 :: x79 :: x80 :: .slice C L cap :: .int .i64 (L : Int) :: .int .i64 (L : Int) :: y84 :: y85 :: y86 :: y87 :: y88 :: y89 :: y90 :: y91 :: y92 :: y93 :: y94 :: y95 :: y96 :: y97 :: y98 :: y99 :: y100 :: y101 :: y102 :: y103 :: y104 :: y105 :: y106 :: y107 :: y108 :: y109 :: y110 :: y111 :: y112 :: y113 :: y114 :: y115 :: y116 :: y117 :: y118 :: y119 :: y120 :: y121 :: y122 :: y123 :: y124 :: y125 :: y126 :: y127 :: y128 :: y129 :: y130 :: y131 :: y132 :: y133 :: y134 :: y135 :: y136 :: y137 :: y138 :: y139 :: y140 :: y141 :: y142 :: y143 :: y144 :: y145 :: y146 :: y147 :: y148 :: y149 :: y150 :: y151 :: y152 :: y153 :: y154 :: y155 :: y156 :: y157 :: y158 :: y159 :: y160 :: y161 :: y162 :: y163 :: y164 :: y165 :: y166 :: y167 :: y168 :: y169 :: y170 :: y171 :: y172 :: y173 :: y174 :: y175 :: y176 :: y177 :: y178 :: y179 :: y180 :: y181 :: y182 :: y183 :: y184 :: y185 :: y186 :: y187 :: y188 :: y189 :: y190 :: y191 :: y192 :: y193 :: x194 :: x195 :: x196 :: x197 :: x198 :: x199 :: x200 :: x201 :: x202 :: x203 :: x204 :: x205 :: x206 :: x207 :: x208 :: x209 :: x210 :: x211 :: x212 :: x213 :: x214 :: x215 :: x216 :: x217 :: x218 :: x219 :: x220 :: x221 :: x222 :: x223 :: x224 :: []).toArray, []⟩ w') :
    Code.wp Try.prog lloop3 Q ⟨(x0 :: .pointer (some ⟨B0, 0, none⟩) :: x2 :: .slice (some ⟨ob, 0, none⟩) L L :: .slice (some ⟨cb, 0, none⟩) L L :: x5 :: x6 :: x7 :: x8 :: x9 :: x10 :: x11 :: x12 :: x13 :: x14 :: x15 :: x16 :: x17 :: x18 :: x19 :: x20 :: x21 :: x22 :: x23 :: x24 :: x25 :: x26 :: x27 :: x28 :: x29 :: x30 :: x31 :: x32 :: x33 :: x34 :: x35 :: x36 :: x37 :: x38 :: x39 :: x40 :: x41 :: x42 :: x43 :: x44 :: x45 :: x46 :: x47 :: x48 :: x49 :: x50 :: x51 :: x52 :: x53 :: x54 :: x55 :: x56 :: x57 :: x58 :: x59 :: x60 :: x61 :: x62 :: x63 :: x64 :: x65 :: x66 :: x67 :: x68 :: x69 :: x70 :: x71 :: x72 :: x73 :: x74 :: x75 :: x76 :: x77 :: x78 :: x79 :: x80 :: .slice C L cap :: .int .i64 (L : Int) :: .int .i64 0 :: x84 :: x85 :: x86 :: x87 :: x88 :: x89 :: x90 :: x91 :: x92 :: x93 :: x94 :: x95 :: x96 :: x97 :: x98 :: x99 :: x100 :: x101 :: x102 :: x103 :: x104 :: x105 :: x106 :: x107 :: x108 :: x109 :: x110 :: x111 :: x112 :: x113 :: x114 :: x115 :: x116 :: x117 :: x118 :: x119 :: x120 :: x121 :: x122 :: x123 :: x124 :: x125 :: x126 :: x127 :: x128 :: x129 :: x130 :: x131 :: x132 :: x133 :: x134 :: x135 :: x136 :: x137 :: x138 :: x139 :: x140 :: x141 :: x142 :: x143 :: x144 :: x145 :: x146 :: x147 :: x148 :: x149 :: x150 :: x151 :: x152 :: x153 :: x154 :: x155 :: x156 :: x157 :: x158 :: x159 :: x160 :: x161 :: x162 :: x163 :: x164 :: x165 :: x166 :: x167 :: x168 :: x169 :: x170 :: x171 :: x172 :: x173 :: x174 :: x175 :: x176 :: x177 :: x178 :: x179 :: x180 :: x181 :: x182 :: x183 :: x184 :: x185 :: x186 :: x187 :: x188 :: x189 :: x190 :: x191 :: x192 :: x193 :: x194 :: x195 :: x196 :: x197 :: x198 :: x199 :: x200 :: x201 :: x202 :: x203 :: x204 :: x205 :: x206 :: x207 :: x208 :: x209 :: x210 :: x211 :: x212 :: x213 :: x214 :: x215 :: x216 :: x217 :: x218 :: x219 :: x220 :: x221 :: x222 :: x223 :: x224 :: []).toArray, []⟩ W0 := by
  conv => arg 2; whnf
  subst hcb
  obtain ⟨cb, hcb⟩ : ∃ cb, W1.heap.size = cb := ⟨_, rfl⟩
  have HCB := Lib.hid hcb
  rw [hcb] at hB10 hM0 hexit ⊢
  have hcbs : cb ≤ W0.heap.size := by rw [← hcb]; exact hB10.size
  have HL := Lib.hid hL
  have HRT := Lib.hid hRt
  have HRN := Lib.hid hRn
  have HA := Lib.hid hA
  have HOK := Lib.hid hok
  have HR := Lib.hid hrows
  have HE := Lib.hid hexit
  have HCALL := Lib.hid (call_all hok hA)
  have HCI := Lib.hid (call_ci hok hA)
  clear hL hRt hRn hA hok hrows hexit hcb
  go_loopw [83] (fun ix wr => ∃ k : Nat, k ≤ L ∧ ix = .int .i64 k ∧ Below cb W1 wr ∧ MemC wr cb L Rn (call f M k)) (fun ix _ => L - (intOf ix).toNat)
  case atStart => exact ⟨0, by omega, rfl, hB10, hM0⟩
  case round =>
    obtain ⟨p, hp, rfl, hbw, hMp⟩ := hrel
    by_cases hlt : p < L
    · have hbW : Below W1.heap.size W1 wr := by rw [HCB.out]; exact hbw
      have hi := insAt_in (l := f.code) (p := p) (by rw [HL.out]; exact hlt)
      obtain ⟨r1, r2, r3⟩ := HR.out p hlt
      have r1 := (hbW.cell (p := ⟨ob, p, none⟩) (World.block_lt_of_cell? W1 _ r1)).trans r1
      have r2 := Pre.later r2 hbW
      have hoki : Ok (insAt f.code p) (Rn : Int) f.Fr L := by have h := HOK.out.at_ hi; rw [HRT.out, HL.out] at h; exact h
      have hgi := goes_iff HA.out hi
      have hcs1 : goes f M p = true → _ := fun h => cstep_yes (C := call f M p) h
      have hcs0 : goes f M p = false → call f M (p + 1) = call f M p := fun h => cstep_no h
      have hcs1' : goes f M p = true → call f M (p + 1) = cedges (insAt f.code p) p (upd (insAt f.code p) (row M p)) (call f M p) ((insAt f.code p).next p).length := fun h => hcs1 h
      have hrw := HA.out.holds.shp.at_ (p := p) (by rw [HL.out]; exact hlt)
      have hrok := rok_of hrw
      have hanyr : (row M p).any (fun x => x.k == 0) = true → goes f M p = false := fun h => by unfold goes; rw [h]; rfl
      have hgn := fun (k : Nat) n (h : ((insAt f.code p).next (p : Int))[k]? = some n) => nextL_in HOK.out hi (List.mem_of_getElem? h)
      have hsh : ∀ n, n < L → (row (call f M p) n).length = Rn := fun n hn => by
        have := ((HCI.out p (by rw [HL.out]; omega)).1.shp.at_ (p := n) (by rw [HL.out]; exact hn)).1
        rw [HRT.out] at this; exact this
      obtain ⟨b, o, rfl, hlb, hcs⟩ := (hC.below hbW) p _ hi
      obtain ⟨ic0, ic1, ic2, ic3, ic4, ic5, ic6, ic7, ic8, ic9, ic10, ic11, ic12, ic13, ic14⟩ := RdI.load hcs
      have y2 := (hbW.cell (p := ⟨B0, 2, none⟩) (World.block_lt_of_cell? W1 _ hbf)).trans hbf
      have hyl := World.block_lt_of_cell? wr _ y2
      have hol := World.block_lt_of_cell? wr _ r1
      have hcr : cb + L < wr.heap.size := by have := hMp.s; omega
      clear hi hcs hrw hcs1
      rw [HL.out] at hgn
      have HGI := Lib.hid hgi
      have HC0 := Lib.hid hcs0
      have HC1 := Lib.hid hcs1'
      have HROK := Lib.hid hrok
      have HANY := Lib.hid hanyr
      have HGN := Lib.hid hgn
      have HSH := Lib.hid hsh
      have HMP := Lib.hid hMp
      have HBW := Lib.hid hbw
      clear hgi hcs0 hcs1' hrok hanyr hgn hsh hMp hbw hbW
      generalize insAt f.code p = i at *
      generalize hv : row M p = v at *
      clear hv
      have hbi := heap_alloc_new wr i.obj
      have hBi := Below.one wr i.obj
      have r1 := (hBi.cell (p := ⟨ob, p, none⟩) hol).trans r1
      have y2 := (hBi.cell (p := ⟨B0, 2, none⟩) hyl).trans y2
      obtain ⟨vb, vc, W', hap, hP, hvbr, hBW⟩ := append_vals (pb p) Rn v r3 (by omega) (Pre.later r2 hBi) 3
      have hsz : (wr.alloc i.obj).heap.size = wr.heap.size + 1 := by simp
      rw [hsz] at hap hBW hvbr
      have hvbr : wr.heap.size ≤ vb := by omega
      have y2 := (hBW.cell (p := ⟨B0, 2, none⟩) (by omega)).trans y2
      have hbi := (hBW.block wr.heap.size (by omega)).trans hbi
      have hB1 : Below wr.heap.size wr W' := hBi.trans (hBW.mono (by omega))
      have HOKI := Lib.hid hoki
      have HP := Lib.hid hP
      have HV := Lib.hid r3
      have HBI := Lib.hid hbi
      have hB1 := Lib.hid hB1
      have hnl := next_len i p
      obtain ⟨k, op, dst, a, bb, n, text, q0, q1, q2, q3, q4, q5, to_, els⟩ := i
      simp only [Ins.obj] at ic0 ic1 ic2 ic3 ic4 ic5 ic6 ic7 ic8 ic9 ic10 ic11 ic12 ic13 ic14 r1 y2 hap
      clear r2 r3 hBi hbi hBW hP hoki hsz
      go_wp2_with (first
        | (refine append_ran (o := ⟨some 93, _, _, _, _, _⟩) rfl (.tmp 88) (.tmp 92) rfl rfl rfl hap ?_))
      clear hap r1 y2 ic0 ic1 ic2 ic3 ic4 ic5 ic6 ic7 ic8 ic9 ic10 ic11 ic12 ic13 ic14
      refine least4_any v Rn vb vc hR40 HV.out _ HP.out _ _ _ _ _ _ _ _ _ _ _ _ _ _ _ _ _ _ _ _ _ _ _ _ _ _ _ _ _ _ _ _ _ _ _ _ _ _ _ _ _ _ _ _ _ _ _ _ _ _ _ _ _ _ _ _ _ _ _ _ _ _ _ _ _ _ _ _ _ _ _ _ _ _ _ _ _ _ _ _ _ _ _ _ _ _ _ _ _ _ _ _ _ _ _ _ _ _ _ _ _ _ _ _ _ _ _ _ _ _ _ _ _ _ _ _ _ _ _ _ _ _ _ _ _ _ _ _ _ _ _ _ _ _ _ _ _ _ _ _ _ _ _ _ _ _ _ _ _ _ _ _ _ _ _ _ _ _ _ _ _ _ _ _ _ _ _ _ _ _ _ _ _ _ _ _ _ _ _ _ _ _ _ _ _ _ _ _ _ _ _ _ _ _ _ _ _ _ _ _ _ _ _ _ _ _ _ _ _ _ _ _ _ _ _ _ _ _ _ _ _ _ ?_
      intro y12 y102 y103 y104 y105 y106 y107 y108 y109 y110 y111 w3 hb3
      have hbi := (hb3.block wr.heap.size (Nat.lt_of_lt_of_le (Array.getElem?_eq_some_iff.1 HBI.out).1 (Nat.le_refl _))).trans HBI.out
      have hil := (Array.getElem?_eq_some_iff.1 hbi).1
      have hBr3 := hB1.out.trans (hb3.mono hB1.out.size)
      have HP3 := Lib.hid (Pre.later HP.out hb3)
      clear hb3
      cases hnv : v.any (fun x => x.k == 0)
      case true =>
        have HG := Lib.hid (HC0.out (HANY.out hnv))
        have HB4 := Lib.hid (HBW.out.trans (hBr3.mono (by omega)))
        have HM4 := Lib.hid (MemC.later HMP.out hBr3)
        clear hnv hbi hBr3
        go_wp2
        exact ⟨⟨p + 1, by omega, by go_num, HB4.out, by rw [HG.out]; exact HM4.out⟩, by simp [intOf]; omega⟩
      case false =>
        have HO := Lib.hid (HROK.out hnv)
        have hbe := behind_any ⟨k, op, dst, a, bb, n, text, q0, q1, q2, q3, q4, q5, to_, els⟩ v HOKI.out HV.out HO.out (some ⟨vb, 0, none⟩) vc w3 (PreV.read HP3.out)
        unfold SetT at hbe
        have HUP : Hid (upd ⟨k, op, dst, a, bb, n, text, q0, q1, q2, q3, q4, q5, to_, els⟩ v = if 0 ≤ (Ins.sets ⟨k, op, dst, a, bb, n, text, q0, q1, q2, q3, q4, q5, to_, els⟩) then v.set (Ins.sets ⟨k, op, dst, a, bb, n, text, q0, q1, q2, q3, q4, q5, to_, els⟩).toNat (setV ⟨k, op, dst, a, bb, n, text, q0, q1, q2, q3, q4, q5, to_, els⟩ v).1 else v) := Lib.hid rfl
        have HUL := Lib.hid (upd_len ⟨k, op, dst, a, bb, n, text, q0, q1, q2, q3, q4, q5, to_, els⟩ v)
        generalize setV ⟨k, op, dst, a, bb, n, text, q0, q1, q2, q3, q4, q5, to_, els⟩ v = xx at *
        obtain ⟨⟨xk, xn⟩, on⟩ := xx
        have ⟨d0, d1, d2, d3, d4, d5, d6, d7, d8, d9, d10, d11, d12, d13, d14⟩ := Ins.cells (i := ⟨k, op, dst, a, bb, n, text, q0, q1, q2, q3, q4, q5, to_, els⟩) hbi
        simp only [Ins.agg, Vl.agg] at hbe HUP d0 d1 d2 d3 d4 d5 d6 d7 d8 d9 d10 d11 d12 d13 d14
        clear hnv
        go_upto_region 31 with (first
          | (go_at_call 25; refine hbe.mono ?_; rintro e w4 ⟨rfl, hb4⟩))
        have hb4 := hb4.alloc hb4.size (.cells #[.int .i64 xk, .int .i64 xn] 28)
        have hk5 := heap_alloc_new w4 (.cells #[.int .i64 xk, .int .i64 xn] 28)
        have hbi6 := (hb4.block _ hil).trans hbi
        have hB5b := hBr3.trans (hb4.mono hBr3.size)
        have HP5 := Lib.hid (Pre.later HP3.out hb4)
        clear hb4 hbe hbi hBr3 d0 d1 d2 d3 d4 d5 d6 d7 d8 d9 d10 d11 d12 d13 d14
        have htb : w4.heap.size < (w4.alloc (.cells #[.int .i64 xk, .int .i64 xn] 28)).heap.size := by simp
        generalize w4.alloc (.cells #[.int .i64 xk, .int .i64 xn] 28) = w5 at *
        have ⟨d0, d1, d2, d3, d4, d5, d6, d7, d8, d9, d10, d11, d12, d13, d14⟩ := Ins.cells (i := ⟨k, op, dst, a, bb, n, text, q0, q1, q2, q3, q4, q5, to_, els⟩) hbi6
        simp only at d0 d1 d2 d3 d4 d5 d6 d7 d8 d9 d10 d11 d12 d13 d14
        have hil5 := (Array.getElem?_eq_some_iff.1 hbi6).1
        cases on
        · have HG := Lib.hid (HC0.out (by cases hg : goes f M p with | false => rfl | true => exact absurd (HGI.out.1 hg).2 (by simp)))
          have HB6 := Lib.hid (HBW.out.trans (hB5b.mono (by omega)))
          have HM6 := Lib.hid (MemC.later HMP.out hB5b)
          go_wp2
          exact ⟨⟨p + 1, by omega, by go_num, HB6.out, by rw [HG.out]; exact HM6.out⟩, by simp [intOf]; omega⟩
        · have HG := Lib.hid (HC1.out (HGI.out.2 ⟨HO.out, by trivial⟩))
          have hst := fun W => refSets_any ⟨k, op, dst, a, bb, n, text, q0, q1, q2, q3, q4, q5, to_, els⟩ W
          have hnx := fun W => refNext_fr ⟨k, op, dst, a, bb, n, text, q0, q1, q2, q3, q4, q5, to_, els⟩ p (by omega) W
          have HSB := Lib.hid (fun h => Ins.sets_bd HOKI.out h)
          have z0 := cell_of_heap hk5 0 (.int .i64 xk) rfl
          have z1 := cell_of_heap hk5 1 (.int .i64 xn) rfl
          have hkl5 := (Array.getElem?_eq_some_iff.1 hk5).1
          generalize Ins.sets ⟨k, op, dst, a, bb, n, text, q0, q1, q2, q3, q4, q5, to_, els⟩ = ss at *
          unfold SlF at hnx
          simp only [Ins.agg] at hst hnx
          have HNX := Lib.hid hnx
          clear hnx
          go_wp2_with fail
          refine (hst _).mono ?_
          rintro e w6 ⟨rfl, hb6⟩
          have hbi7 := (hb6.block _ hil5).trans hbi6
          have hk7 := (hb6.block _ hkl5).trans hk5
          have z0 := cell_of_heap hk7 0 (.int .i64 xk) rfl
          have z1 := cell_of_heap hk7 1 (.int .i64 xn) rfl
          have hB6 := hB5b.trans (hb6.mono hB5b.size)
          have HP6 := Lib.hid (Pre.later HP5.out hb6)
          have hil6 := (Array.getElem?_eq_some_iff.1 hbi7).1
          clear hb6 hk5 hbi6 hB5b hst hil5 hkl5 htb d0 d1 d2 d3 d4 d5 d6 d7 d8 d9 d10 d11 d12 d13 d14
          by_cases hs0 : 0 ≤ ss
          · obtain ⟨sn, rfl⟩ : ∃ sn : Nat, ss = sn := ⟨ss.toNat, by omega⟩
            have hsR : sn < Rn := by have := HSB.out hs0; omega
            have hx : v[sn]? = some (at_ v sn) := by rw [at_in (by rw [HV.out]; exact hsR)]; simp
            obtain ⟨c0, c1⟩ := PreV.cells HP6.out hx
            have g0 := Pre.free HP6.out (sn * 2)
            have g1 := Pre.free HP6.out (sn * 2 + 1)
            have hPS := PreV.set HP6.out hx ⟨xk, xn⟩
            have hHU : upd ⟨k, op, dst, a, bb, n, text, q0, q1, q2, q3, q4, q5, to_, els⟩ v = v.set sn ⟨xk, xn⟩ := by rw [HUP.out, if_pos hs0, Int.toNat_natCast]
            rw [← hHU] at hPS
            have hvlt6 := Pre.lt HP6.out
            have q0' : decide ((sn : Int) ≥ 0) = true := by simp
            clear hx hs0
            clear hHU
            go_upto_region 35 with fail
            have hne := ins_ne_vals hbi7 HP6.out
            have hbi8 := (heap_setCell_other (w6.setCell ⟨vb, sn * 2, none⟩ (.int .i64 xk)) ⟨vb, sn * 2 + 1, none⟩ wr.heap.size (.int .i64 xn) hne).trans ((heap_setCell_other w6 ⟨vb, sn * 2, none⟩ wr.heap.size (.int .i64 xk) hne).trans hbi7)
            have hB7 := (hB6.setCell (p := ⟨vb, sn * 2, none⟩) hvbr (.int .i64 xk)).setCell (p := ⟨vb, sn * 2 + 1, none⟩) hvbr (.int .i64 xn)
            have HP7 := Lib.hid hPS
            clear hPS z0 z1 c0 c1 g0 g1 hbi7 hk7 hB6 HP6
            generalize (w6.setCell ⟨vb, sn * 2, none⟩ (.int .i64 xk)).setCell ⟨vb, sn * 2 + 1, none⟩ (.int .i64 xn) = w7 at *
            have ⟨d0, d1, d2, d3, d4, d5, d6, d7, d8, d9, d10, d11, d12, d13, d14⟩ := Ins.cells (i := ⟨k, op, dst, a, bb, n, text, q0, q1, q2, q3, q4, q5, to_, els⟩) hbi8
            simp only at d0 d1 d2 d3 d4 d5 d6 d7 d8 d9 d10 d11 d12 d13 d14
            have hil7 := (Array.getElem?_eq_some_iff.1 hbi8).1
            go_wp2_with fail
            clear d0 d1 d2 d3 d4 d5 d6 d7 d8 d9 d10 d11 d12 d13 d14
            refine (HNX.out _).mono ?_
            rintro e w8 ⟨⟨A8, lc, rfl, hRN, hAF⟩, hb8⟩
            have hB8 := hB7.trans (hb8.mono hB7.size)
            have hbi9 := (hb8.block _ hil7).trans hbi8
            have hP8 := Pre.later HP7.out hb8
            have hM8 := MemC.later HMP.out hB8
            have HB8 := Lib.hid (HBW.out.trans (hB8.mono (by omega)))
            have hAF2 : ∀ b o, A8 = some ⟨b, o, none⟩ → cb + L < b := fun b o h => by have := hAF b o h; have := hB7.size; omega
            clear hAF
            go_wp2_with fail
            refine least5_any f ⟨k, op, dst, a, bb, n, text, q0, q1, q2, q3, q4, q5, to_, els⟩ p (upd ⟨k, op, dst, a, bb, n, text, q0, q1, q2, q3, q4, q5, to_, els⟩ v) (call f M p) L Rn cb vb vc wr.heap.size lc A8 hR40 hnl (by rw [HUL.out, HV.out]) HOKI.out w8 hM8 HSH.out (fun k n h => HGN.out k n h) hbi9 hcr hP8 (by omega) hRN hAF2 _ _ _ _ _ _ _ _ _ _ _ _ _ _ _ _ _ _ _ _ _ _ _ _ _ _ _ _ _ _ _ _ _ _ _ _ _ _ _ _ _ _ _ _ _ _ _ _ _ _ _ _ _ _ _ _ _ _ _ _ _ _ _ _ _ _ _ _ _ _ _ _ _ _ _ _ _ _ _ _ _ _ _ _ _ _ _ _ _ _ _ _ _ _ _ _ _ _ _ _ _ _ _ _ _ _ _ _ _ _ _ _ _ _ _ _ _ _ _ _ _ _ _ _ _ _ _ _ _ _ _ _ _ _ _ _ _ _ _ _ _ _ _ _ _ _ _ _ _ _ _ _ _ _ _ _ _ _ _ _ _ _ _ _ _ _ _ _ _ _ _ _ _ _ _ _ _ _ _ _ _ _ _ _ _ _ _ _ _ _ _ _ _ _ _ _ _ _ _ _ _ _ _ _ _ _ _ _ _ _ _ _ _ _ _ _ _ _ _ _ ?_
            intro y16 y17 y18 y134 y135 y136 y137 y138 y139 y140 y141 y142 y143 y144 y145 y146 y147 y148 y149 y150 y151 y152 y153 y154 y155 y156 y157 y158 y159 y160 y161 y162 y163 y164 y165 y166 y167 y168 y169 y170 y171 y172 y173 y174 y175 y176 y177 y178 y179 y180 y181 y182 y183 y184 y185 y186 y187 y188 y189 y190 y191 y192 w9 hb9 hM9
            have HB9 := Lib.hid (HB8.out.trans hb9.below)
            have HM9 := Lib.hid hM9
            clear hM9 hb9
            go_wp2
            exact ⟨⟨p + 1, by omega, by go_num, HB9.out, by rw [HG.out]; exact HM9.out⟩, by simp [intOf]; omega⟩
          · have hHU : upd ⟨k, op, dst, a, bb, n, text, q0, q1, q2, q3, q4, q5, to_, els⟩ v = v := by rw [HUP.out, if_neg hs0]
            have hq0 : decide (ss ≥ 0) = false := by simp; omega
            have hq1 : decide (0 ≤ ss) = false := by simp; omega
            have HP7 : Hid (PreV w6 vb (upd ⟨k, op, dst, a, bb, n, text, q0, q1, q2, q3, q4, q5, to_, els⟩ v)) := Lib.hid (by rw [hHU]; exact HP6.out)
            have hbi8 := hbi7
            have hB7 := hB6
            clear hHU hs0 z0 z1 hbi7 hk7 hB6 HP6
            have ⟨d0, d1, d2, d3, d4, d5, d6, d7, d8, d9, d10, d11, d12, d13, d14⟩ := Ins.cells (i := ⟨k, op, dst, a, bb, n, text, q0, q1, q2, q3, q4, q5, to_, els⟩) hbi8
            simp only at d0 d1 d2 d3 d4 d5 d6 d7 d8 d9 d10 d11 d12 d13 d14
            have hil7 := (Array.getElem?_eq_some_iff.1 hbi8).1
            go_wp2_with fail
            clear d0 d1 d2 d3 d4 d5 d6 d7 d8 d9 d10 d11 d12 d13 d14
            refine (HNX.out _).mono ?_
            rintro e w8 ⟨⟨A8, lc, rfl, hRN, hAF⟩, hb8⟩
            have hB8 := hB7.trans (hb8.mono hB7.size)
            have hbi9 := (hb8.block _ hil7).trans hbi8
            have hP8 := Pre.later HP7.out hb8
            have hM8 := MemC.later HMP.out hB8
            have HB8 := Lib.hid (HBW.out.trans (hB8.mono (by omega)))
            have hAF2 : ∀ b o, A8 = some ⟨b, o, none⟩ → cb + L < b := fun b o h => by have := hAF b o h; have := hB7.size; omega
            clear hAF
            go_wp2_with fail
            refine least5_any f ⟨k, op, dst, a, bb, n, text, q0, q1, q2, q3, q4, q5, to_, els⟩ p (upd ⟨k, op, dst, a, bb, n, text, q0, q1, q2, q3, q4, q5, to_, els⟩ v) (call f M p) L Rn cb vb vc wr.heap.size lc A8 hR40 hnl (by rw [HUL.out, HV.out]) HOKI.out w8 hM8 HSH.out (fun k n h => HGN.out k n h) hbi9 hcr hP8 (by omega) hRN hAF2 _ _ _ _ _ _ _ _ _ _ _ _ _ _ _ _ _ _ _ _ _ _ _ _ _ _ _ _ _ _ _ _ _ _ _ _ _ _ _ _ _ _ _ _ _ _ _ _ _ _ _ _ _ _ _ _ _ _ _ _ _ _ _ _ _ _ _ _ _ _ _ _ _ _ _ _ _ _ _ _ _ _ _ _ _ _ _ _ _ _ _ _ _ _ _ _ _ _ _ _ _ _ _ _ _ _ _ _ _ _ _ _ _ _ _ _ _ _ _ _ _ _ _ _ _ _ _ _ _ _ _ _ _ _ _ _ _ _ _ _ _ _ _ _ _ _ _ _ _ _ _ _ _ _ _ _ _ _ _ _ _ _ _ _ _ _ _ _ _ _ _ _ _ _ _ _ _ _ _ _ _ _ _ _ _ _ _ _ _ _ _ _ _ _ _ _ _ _ _ _ _ _ _ _ _ _ _ _ _ _ _ _ _ _ _ _ _ _ _ _ ?_
            intro y16 y17 y18 y134 y135 y136 y137 y138 y139 y140 y141 y142 y143 y144 y145 y146 y147 y148 y149 y150 y151 y152 y153 y154 y155 y156 y157 y158 y159 y160 y161 y162 y163 y164 y165 y166 y167 y168 y169 y170 y171 y172 y173 y174 y175 y176 y177 y178 y179 y180 y181 y182 y183 y184 y185 y186 y187 y188 y189 y190 y191 y192 w9 hb9 hM9
            have HB9 := Lib.hid (HB8.out.trans hb9.below)
            have HM9 := Lib.hid hM9
            clear hM9 hb9
            go_wp2
            exact ⟨⟨p + 1, by omega, by go_num, HB9.out, by rw [HG.out]; exact HM9.out⟩, by simp [intOf]; omega⟩
    · obtain rfl : p = L := by omega
      have HMX := Lib.hid (by have h := hMp; rw [← HL.out, HCALL.out] at h; rw [HL.out] at h; exact h)
      clear hMp
      go_wp2
      exact HE.out _ _ _ _ _ _ _ _ _ _ _ _ _ _ _ _ _ _ _ _ _ _ _ _ _ _ _ _ _ _ _ _ _ _ _ _ _ _ _ _ _ _ _ _ _ _ _ _ _ _ _ _ _ _ _ _ _ _ _ _ _ _ _ _ _ _ _ _ _ _ _ _ _ _ _ _ _ _ _ _ _ _ _ _ _ _ _ _ _ _ _ _ _ _ _ _ _ _ _ _ _ _ _ _ _ _ _ _ _ _ _ _ _ _ _ _ _ _ _ _ _ wr hbw HMX.out
end Go.Proofs.Ytaofdbboalcceaa
