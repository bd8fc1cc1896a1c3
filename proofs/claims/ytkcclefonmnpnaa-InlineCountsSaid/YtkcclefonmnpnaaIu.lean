import Derived.Test.YtkcclefonmnpnaaMx
import Derived.Deep.CutBlock
import Derived.Deep.LoopGhost
import Derived.Test.YtkcclefonmnpnaaIt
import Derived.Test.YtkcclefonmnpnaaIn
import Derived.Test.YtkcclefonmnpnaaId
import Derived.Test.YtkcclefonmnpnaaIc
import Derived.Test.YtkcclefonmnpnaaXe
import Derived.Test.YtkcclefonmnpnaaXb
import Derived.Test.YtkcclefonmnpnaaIl
import Derived.Test.YtkcclefonmnpnaaZq
/- InlineCounts: its first loop. -/
namespace Go.Proofs.Ytkcclefonmnpnaa
open Go.RowKit Go.BigFrame

/-- what the first loop has counted -/
structure CoI (sm : ByteArray → Option Fn7) (f : Fn7) (n : Nat) (c r l : Int) : Prop where
  ce : c = (cntS sm (f.code.take n) : Nat)
  re : r = f.R + (regS' sm (f.code.take n) : Nat)
  le : l = (f.code.length + linS sm (f.code.take n) : Nat)
  cb : c ≤ n
  rb : r ≤ f.R + 40 * n
  lb : l ≤ f.code.length + 64 * n
theorem CoI.start (sm : ByteArray → Option Fn7) (f : Fn7) : CoI sm f 0 0 f.R (f.code.length : Int) where
  ce := by simp [cntS]
  re := by simp [regS']
  le := by simp [linS]
  cb := by simp
  rb := by simp
  lb := by simp
theorem CoI.step {sm : ByteArray → Option Fn7} {f : Fn7} {n : Nat} {c r l c' r' l' : Int} {i : Ins} (h : CoI sm f n c r l) (hsm : ∀ i ∈ f.code, ∀ g, smOf sm i = some g → SmallF g ∧ g.ps = i.n ∧ g.R ≤ 40) (hi : f.code[n]? = some i)
    (hc : (smOf sm i = none ∧ c' = c ∧ r' = r ∧ l' = l) ∨ ∃ g, smOf sm i = some g ∧ c' = c + 1 ∧ r' = r + g.R ∧ l' = l + (g.R + (g.code.length : Int) - 1) + (retN i.dst g.code g.code.length : Int)) : CoI sm f (n + 1) c' r' l' := by
  obtain ⟨s1, s2⟩ := sums_succ (sm := sm) hi
  have hc1 := h.ce
  have hr1 := h.re
  have hl1 := h.le
  have h1 := h.cb
  have h2 := h.rb
  have h3 := h.lb
  rcases hc with ⟨hn, rfl, rfl, rfl⟩ | ⟨g, hg, rfl, rfl, rfl⟩
  · obtain ⟨e1, e2, e3⟩ := s2 hn
    exact ⟨by rw [e1]; exact hc1, by rw [e2]; exact hr1, by rw [e3]; exact hl1, by omega, by omega, by omega⟩
  · obtain ⟨e1, e2, e3⟩ := s1 g hg
    obtain ⟨q1, _, q3⟩ := hsm i (List.mem_of_getElem? hi) g hg
    have q4 := atL_small q1 q3 i.dst
    have q5 := atL_ret g i.dst
    have q6 := q1.ok.R
    have q7 := q1.ok.ps
    have q8 := q1.ok.len
    exact ⟨by rw [e1]; omega, by rw [e2]; omega, by rw [e3]; omega, by omega, by omega, by omega⟩
theorem CoI.low {sm : ByteArray → Option Fn7} {f : Fn7} {n : Nat} {c r l : Int} (h : CoI sm f n c r l) (hR : 0 ≤ f.R) : 0 ≤ c ∧ 0 ≤ r ∧ 0 ≤ l := by
  have hc1 := h.ce
  have hr1 := h.re
  have hl1 := h.le
  omega
set_option maxRecDepth 1000000 in
set_option maxHeartbeats 16000000 in
theorem ic_loopA (u : Un7) (F G : Option Addr) (cF cG N M L cap b2 : Nat) (k : Int) (f : Fn7) (C : Option Addr) (wm : World) (hU : OkU u) (hF : ∀ f ∈ u.funcs, Sm f) (hf : f ∈ u.funcs) (hN : u.funcs.length = N) (hM : u.globs.length = M) (hN9 : N ≤ 100000) (hL : f.code.length = L) (hu : RdU wm F G u) (hC : RdI wm C f.code) (hb : wm.heap[b2]? = some (unObj u F G cF cG)) (hR : 0 ≤ f.R ∧ f.R ≤ 40) (h60 : L ≤ 60) :
    ∀ ⦃x0 x3 x4 x5 x6 x7 x11 x12 x13 x14 x15 x16 x17 x18 x19 x20 x21 x22 x23 x24 x25 x26 x27 x28 x29 x30 x31 x32 x33 x34 x35 x36 x37 x38 x39 x40 x41 x42 x43 x44 x45 x46 x47 x48 x49 x50 x51 x52 x53 x54 x55 x56 x57 x58 x59 x60 x61 x62 x63 x64 x68 x69 x70 x71 x72 x73 x74 x75 x76 x77 x78 x79 x80 x81 x82 x83 x84 x85 x86 x87 x88 x89 x90 x91 x92 x93 x94 x95 x96 x97 x98 x99 x100 x101 x102 x103 x104 x105 x106 x107 x108 x109 x110 x111 x112 x113 x114 x115 x116 x117 x118 x119 x120 x121 x122 x123 x124 x125 x126 x127 x128 x129 x130 x131 x132 x133 x134 x135 x136 x137 x138 x139 x140 x141 x142 x143 x144 x145 x146 x147 x148 x149 x150 x151 x152 x153 x154 x155 x156 x157 x158 x159 x160 x161 x162 x163 x164 x165 x166 x167 x168 x169 x170 x171 x172 x173 x174 x175 x176 x177 x178 x179 x180 x181 x182 x183 x184 x185 x186 x187 x188 x189 x190 x191 x192 x193 x194 x195 x196 x197 x198 x199 x200 x201 x202 : Value⦄ (Q : Exit → Act → World → Prop), (∀ ⦃y12 y13 y14 y16 y67 y68 y69 y70 y71 y72 y73 y74 y75 y76 y77 y78 y79 y80 y81 y82 y83 y84 y85 y86 y87 y88 y89 y90 y91 y92 y93 y94 y95 y96 y97 y98 y99 y100 y101 y102 y103 y104 y105 y106 y107 y108 y109 y110 y111 y112 y113 y114 y115 y116 y117 y118 y119 y120 y121 y122 y123 y124 y125 y126 y127 y128 y129 y130 : Value⦄ ⦃w' : World⦄ (c' r' l' : Int), CoI (smTo u.funcs k u.funcs.length) f L c' r' l' → Below wm.heap.size wm w' → Q (.exit 0) ⟨(x0 :: .int .i64 k :: .pointer (some ⟨b2, 0, none⟩) :: x3 :: x4 :: x5 :: x6 :: x7 :: .int .i64 c' :: .int .i64 r' :: .int .i64 l' :: x11 :: y12 :: y13 :: y14 :: x15 :: y16 :: x17 :: x18 :: x19 :: x20 :: x21 :: x22 :: x23 :: x24 :: x25 :: x26 :: x27 :: x28 :: x29 :: x30 :: x31 :: x32 :: x33 :: x34 :: x35 :: x36 :: x37 :: x38 :: x39 :: x40 :: x41 :: x42 :: x43 :: x44 :: x45 :: x46 :: x47 :: x48 :: x49 :: x50 :: x51 :: x52 :: x53 :: x54 :: x55 :: x56 :: x57 :: x58 :: x59 :: x60 :: x61 :: x62 :: x63 :: x64 :: .slice C L cap :: .int .i64 (L : Int) :: y67 :: y68 :: y69 :: y70 :: y71 :: y72 :: y73 :: y74 :: y75 :: y76 :: y77 :: y78 :: y79 :: y80 :: y81 :: y82 :: y83 :: y84 :: y85 :: y86 :: y87 :: y88 :: y89 :: y90 :: y91 :: y92 :: y93 :: y94 :: y95 :: y96 :: y97 :: y98 :: y99 :: y100 :: y101 :: y102 :: y103 :: y104 :: y105 :: y106 :: y107 :: y108 :: y109 :: y110 :: y111 :: y112 :: y113 :: y114 :: y115 :: y116 :: y117 :: y118 :: y119 :: y120 :: y121 :: y122 :: y123 :: y124 :: y125 :: y126 :: y127 :: y128 :: y129 :: y130 :: x131 :: x132 :: x133 :: x134 :: x135 :: x136 :: x137 :: x138 :: x139 :: x140 :: x141 :: x142 :: x143 :: x144 :: x145 :: x146 :: x147 :: x148 :: x149 :: x150 :: x151 :: x152 :: x153 :: x154 :: x155 :: x156 :: x157 :: x158 :: x159 :: x160 :: x161 :: x162 :: x163 :: x164 :: x165 :: x166 :: x167 :: x168 :: x169 :: x170 :: x171 :: x172 :: x173 :: x174 :: x175 :: x176 :: x177 :: x178 :: x179 :: x180 :: x181 :: x182 :: x183 :: x184 :: x185 :: x186 :: x187 :: x188 :: x189 :: x190 :: x191 :: x192 :: x193 :: x194 :: x195 :: x196 :: x197 :: x198 :: x199 :: x200 :: x201 :: x202 :: []).toArray, []⟩ w') → Code.wp Try.prog icA Q ⟨(x0 :: .int .i64 k :: .pointer (some ⟨b2, 0, none⟩) :: x3 :: x4 :: x5 :: x6 :: x7 :: .int .i64 0 :: .int .i64 f.R :: .int .i64 (L : Int) :: x11 :: x12 :: x13 :: x14 :: x15 :: x16 :: x17 :: x18 :: x19 :: x20 :: x21 :: x22 :: x23 :: x24 :: x25 :: x26 :: x27 :: x28 :: x29 :: x30 :: x31 :: x32 :: x33 :: x34 :: x35 :: x36 :: x37 :: x38 :: x39 :: x40 :: x41 :: x42 :: x43 :: x44 :: x45 :: x46 :: x47 :: x48 :: x49 :: x50 :: x51 :: x52 :: x53 :: x54 :: x55 :: x56 :: x57 :: x58 :: x59 :: x60 :: x61 :: x62 :: x63 :: x64 :: .slice C L cap :: .int .i64 (L : Int) :: .int .i64 0 :: x68 :: x69 :: x70 :: x71 :: x72 :: x73 :: x74 :: x75 :: x76 :: x77 :: x78 :: x79 :: x80 :: x81 :: x82 :: x83 :: x84 :: x85 :: x86 :: x87 :: x88 :: x89 :: x90 :: x91 :: x92 :: x93 :: x94 :: x95 :: x96 :: x97 :: x98 :: x99 :: x100 :: x101 :: x102 :: x103 :: x104 :: x105 :: x106 :: x107 :: x108 :: x109 :: x110 :: x111 :: x112 :: x113 :: x114 :: x115 :: x116 :: x117 :: x118 :: x119 :: x120 :: x121 :: x122 :: x123 :: x124 :: x125 :: x126 :: x127 :: x128 :: x129 :: x130 :: x131 :: x132 :: x133 :: x134 :: x135 :: x136 :: x137 :: x138 :: x139 :: x140 :: x141 :: x142 :: x143 :: x144 :: x145 :: x146 :: x147 :: x148 :: x149 :: x150 :: x151 :: x152 :: x153 :: x154 :: x155 :: x156 :: x157 :: x158 :: x159 :: x160 :: x161 :: x162 :: x163 :: x164 :: x165 :: x166 :: x167 :: x168 :: x169 :: x170 :: x171 :: x172 :: x173 :: x174 :: x175 :: x176 :: x177 :: x178 :: x179 :: x180 :: x181 :: x182 :: x183 :: x184 :: x185 :: x186 :: x187 :: x188 :: x189 :: x190 :: x191 :: x192 :: x193 :: x194 :: x195 :: x196 :: x197 :: x198 :: x199 :: x200 :: x201 :: x202 :: []).toArray, []⟩ wm := by
  intros
  rename_i Q hQ
  conv => arg 2; whnf
  have HQ := Lib.hid hQ
  have HU := Lib.hid hU
  have HF := Lib.hid hf
  have HN := Lib.hid hN
  have HM := Lib.hid hM
  have HN9 := Lib.hid hN9
  have HL := Lib.hid hL
  have HUW := Lib.hid hu
  have HC := Lib.hid hC
  have HB := Lib.hid hb
  have HR := Lib.hid hR
  have H60 := Lib.hid h60
  have HSM := Lib.hid (sm_facts hU hF (k := k) hf)
  have HS : Hid (CoI (smTo u.funcs k u.funcs.length) f 0 0 f.R (L : Int)) := Lib.hid (by rw [← hL]; exact CoI.start _ f)
  clear hQ hU hF hf hN hM hN9 hL hu hC hb hR h60
  go_loopw [8, 9, 10, 67] (fun cv rv lv ix wr => ∃ (n : Nat) (c r l : Int), n ≤ L ∧ ix = .int .i64 n ∧ cv = .int .i64 c ∧ rv = .int .i64 r ∧ lv = .int .i64 l ∧ CoI (smTo u.funcs k u.funcs.length) f n c r l ∧ Below wm.heap.size wm wr) (fun _ _ _ ix _ => L - (intOf ix).toNat)
  case atStart => exact ⟨0, 0, f.R, L, by omega, rfl, rfl, rfl, rfl, HS.out, Below.refl _ _⟩
  case round =>
    obtain ⟨n, c, r, l, hn, rfl, rfl, rfl, rfl, hco, hbw⟩ := hrel
    have HCO := Lib.hid hco
    have HBW := Lib.hid hbw
    clear hco HS
    by_cases hlt : n < L
    · obtain ⟨i, hi⟩ : ∃ i, f.code[n]? = some i := ⟨_, List.getElem?_eq_getElem (by rw [HL.out]; exact hlt)⟩
      have HI := Lib.hid hi
      clear hi hbw
      go_upto_block 1 with fail
      refine wp_block ?_
      refine ic_body u F G cF cG N M L cap b2 n k f C i c r l wr HU.out HF.out HN.out HM.out HN9.out HL.out HI.out ?_ (HC.out.below HBW.out) ?_ ?_ ?_ ?_ _ ?_
      · exact ⟨HUW.out.fs.below HBW.out, HUW.out.gs.below HBW.out⟩
      · exact (HBW.out.block _ (Array.getElem?_eq_some_iff.1 HB.out).1).trans HB.out
      · have h1 := HCO.out.low HR.out.1; have h2 := HCO.out.cb; have h3 := H60.out; omega
      · have h1 := HCO.out.low HR.out.1; have h2 := HCO.out.rb; have h3 := H60.out; have h4 := HR.out; omega
      · have h1 := HCO.out.low HR.out.1; have h2 := HCO.out.lb; have h3 := H60.out; have h4 := HL.out; omega
      intros
      rename_i w' e c' r' l' he hcase hb'
      have HCO' := Lib.hid (HCO.out.step HSM.out HI.out hcase)
      have HBW' := Lib.hid (HBW.out.trans (hb'.mono HBW.out.size))
      clear hcase hb'
      rcases he with rfl | rfl
      all_goals
        have h60 := H60.out
        (try simp only [Exit.inBlock])
        go_wp2_with fail
        exact ⟨⟨n + 1, c', r', l', by omega, by go_num, rfl, rfl, rfl, HCO'.out, HBW'.out⟩, by simp [intOf]; omega⟩
    · obtain rfl : L = n := by omega
      clear hbw
      go_wp2_with fail
      exact HQ.out _ _ _ HCO.out HBW.out
end Go.Proofs.Ytkcclefonmnpnaa
