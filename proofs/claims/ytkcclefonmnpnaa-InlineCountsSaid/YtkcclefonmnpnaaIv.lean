import Derived.Test.YtkcclefonmnpnaaMx
import Derived.Deep.CutBlock
import Derived.Deep.LoopGhost
import Derived.Test.YtkcclefonmnpnaaIt
import Derived.Test.YtkcclefonmnpnaaIn
import Derived.Test.YtkcclefonmnpnaaId
import Derived.Test.YtkcclefonmnpnaaIc
import Derived.Test.YtkcclefonmnpnaaXe
import Derived.Test.YtkcclefonmnpnaaXb
import Derived.Test.YtkcclefonmnpnaaIl
import Derived.Test.YtkcclefonmnpnaaZq
/- InlineCounts: its second loop. -/
namespace Go.Proofs.Ytkcclefonmnpnaa
open Go.RowKit Go.BigFrame

theorem ic_left {u : Un7} (hU : OkU u) (hF : ∀ f ∈ u.funcs, Sm f) {k : Nat} {f : Fn7} (hf : u.funcs[k]? = some f) :
    ∀ i ∈ (ofS u k f).C, i.kind = 8 → ∃ (a : Nat) (g : Fn7), findU u.funcs i.text = some a ∧ u.funcs[a]? = some g ∧ ¬ ((a : Int) ≠ (k : Int) ∧ SmallF g) := fun i hi h8 => by
  have hfm := List.mem_of_getElem? hf
  have hokf := hU.ok f hfm
  have hS := hF f hfm
  have h40 : f.R ≤ 40 := by have h5 := hS.2.2.1; have h6 := hokf.R; omega
  have hsm := sm_facts hU hF (k := (k : Int)) hfm
  have hI := InI.all hokf hS.2.1 h40 hsm f.code.length (Nat.le_refl _)
  obtain ⟨j, hj, he⟩ := hI.from_ i hi h8
  obtain ⟨e1, e2, e3, e4⟩ := erI_kind he
  have hj8 : j.kind = 8 := by first | (rw [e1]; exact h8) | (rw [← e1]; exact h8)
  obtain ⟨a, g, h1, h2, h3⟩ := smOf_law hU (k := (k : Int)) hfm hj hj8
  have hrest := hI.rest
  have hle := hI.le
  obtain ⟨q, hq, hqi⟩ := List.getElem_of_mem hi
  have hq2 : (ofS u k f).C[q]? = some i := by rw [List.getElem?_eq_getElem hq, hqi]
  unfold ofS at hq hq2
  have hnone : smOf (smTo u.funcs k u.funcs.length) i = none := hI.done q (by omega) i hq2
  have ht : j.text = i.text := by
    have := congrArg Ins.text he
    simpa [erI] using this
  refine ⟨a, g, by rw [← ht]; exact h1, h2, ?_⟩
  rcases h3 with h3 | h3
  · rw [smOf_er he, hnone] at h3
    cases h3.2
  · exact h3.1
set_option maxRecDepth 1000000 in
set_option maxHeartbeats 16000000 in
theorem ic_body5 (u : Un7) (F G : Option Addr) (cF cG N M L cap b2 n : Nat) (k : Int) (l : List Ins) (C : Option Addr) (i : Ins) (wr : World) (hlw : i.kind = 8 → ∃ (a : Nat) (g : Fn7), findU u.funcs i.text = some a ∧ u.funcs[a]? = some g ∧ ¬ ((a : Int) ≠ k ∧ SmallF g)) (hN : u.funcs.length = N) (hM : u.globs.length = M) (hN9 : N ≤ 100000) (hL : l.length = L) (hi : l[n]? = some i) (hu : RdU wr F G u) (hC : RdI wr C l) (hb : wr.heap[b2]? = some (unObj u F G cF cG)) :
    ∀ ⦃x0 x3 x4 x5 x6 x7 x8 x9 x10 x11 x12 x13 x14 x15 x16 x17 x18 x19 x20 x21 x22 x23 x24 x25 x26 x27 x28 x29 x30 x31 x32 x33 x34 x35 x36 x37 x38 x39 x40 x41 x42 x43 x44 x45 x46 x47 x48 x49 x50 x51 x52 x53 x54 x55 x56 x57 x58 x59 x60 x61 x62 x63 x64 x65 x66 x67 x68 x69 x70 x71 x72 x73 x74 x75 x76 x77 x78 x79 x80 x81 x82 x83 x84 x85 x86 x87 x88 x89 x90 x91 x92 x93 x94 x95 x96 x97 x98 x99 x100 x101 x102 x103 x104 x105 x106 x107 x108 x109 x110 x111 x112 x113 x114 x115 x116 x117 x118 x119 x120 x121 x122 x123 x124 x125 x126 x127 x128 x129 x130 x131 x133 x135 x136 x137 x138 x139 x140 x141 x142 x143 x144 x145 x146 x147 x148 x149 x150 x151 x152 x153 x154 x155 x156 x157 x158 x159 x160 x161 x162 x163 x164 x165 x166 x167 x168 x169 x170 x171 x172 x173 x174 x175 x176 x177 x178 x179 x180 x181 x182 x183 x184 x185 x186 x187 x188 x189 x190 x191 x192 x193 x194 x195 x196 x197 x198 x199 x200 x201 x202 : Value⦄ (Q : Exit → Act → World → Prop), (∀ ⦃y18 y19 y136 y137 y138 y139 y140 y141 y142 y143 y144 y145 y146 y147 y148 y149 y150 y151 y152 y153 y154 y155 y156 y157 : Value⦄ ⦃w' : World⦄, Below wr.heap.size wr w' → Q .normal ⟨(x0 :: .int .i64 k :: .pointer (some ⟨b2, 0, none⟩) :: x3 :: x4 :: x5 :: x6 :: x7 :: x8 :: x9 :: x10 :: x11 :: x12 :: x13 :: x14 :: x15 :: x16 :: x17 :: y18 :: y19 :: x20 :: x21 :: x22 :: x23 :: x24 :: x25 :: x26 :: x27 :: x28 :: x29 :: x30 :: x31 :: x32 :: x33 :: x34 :: x35 :: x36 :: x37 :: x38 :: x39 :: x40 :: x41 :: x42 :: x43 :: x44 :: x45 :: x46 :: x47 :: x48 :: x49 :: x50 :: x51 :: x52 :: x53 :: x54 :: x55 :: x56 :: x57 :: x58 :: x59 :: x60 :: x61 :: x62 :: x63 :: x64 :: x65 :: x66 :: x67 :: x68 :: x69 :: x70 :: x71 :: x72 :: x73 :: x74 :: x75 :: x76 :: x77 :: x78 :: x79 :: x80 :: x81 :: x82 :: x83 :: x84 :: x85 :: x86 :: x87 :: x88 :: x89 :: x90 :: x91 :: x92 :: x93 :: x94 :: x95 :: x96 :: x97 :: x98 :: x99 :: x100 :: x101 :: x102 :: x103 :: x104 :: x105 :: x106 :: x107 :: x108 :: x109 :: x110 :: x111 :: x112 :: x113 :: x114 :: x115 :: x116 :: x117 :: x118 :: x119 :: x120 :: x121 :: x122 :: x123 :: x124 :: x125 :: x126 :: x127 :: x128 :: x129 :: x130 :: x131 :: .slice C L cap :: x133 :: .int .i64 (n : Int) :: x135 :: y136 :: y137 :: y138 :: y139 :: y140 :: y141 :: y142 :: y143 :: y144 :: y145 :: y146 :: y147 :: y148 :: y149 :: y150 :: y151 :: y152 :: y153 :: y154 :: y155 :: y156 :: y157 :: x158 :: x159 :: x160 :: x161 :: x162 :: x163 :: x164 :: x165 :: x166 :: x167 :: x168 :: x169 :: x170 :: x171 :: x172 :: x173 :: x174 :: x175 :: x176 :: x177 :: x178 :: x179 :: x180 :: x181 :: x182 :: x183 :: x184 :: x185 :: x186 :: x187 :: x188 :: x189 :: x190 :: x191 :: x192 :: x193 :: x194 :: x195 :: x196 :: x197 :: x198 :: x199 :: x200 :: x201 :: x202 :: []).toArray, []⟩ w') → Code.wp Try.prog icC5 Q ⟨(x0 :: .int .i64 k :: .pointer (some ⟨b2, 0, none⟩) :: x3 :: x4 :: x5 :: x6 :: x7 :: x8 :: x9 :: x10 :: x11 :: x12 :: x13 :: x14 :: x15 :: x16 :: x17 :: x18 :: x19 :: x20 :: x21 :: x22 :: x23 :: x24 :: x25 :: x26 :: x27 :: x28 :: x29 :: x30 :: x31 :: x32 :: x33 :: x34 :: x35 :: x36 :: x37 :: x38 :: x39 :: x40 :: x41 :: x42 :: x43 :: x44 :: x45 :: x46 :: x47 :: x48 :: x49 :: x50 :: x51 :: x52 :: x53 :: x54 :: x55 :: x56 :: x57 :: x58 :: x59 :: x60 :: x61 :: x62 :: x63 :: x64 :: x65 :: x66 :: x67 :: x68 :: x69 :: x70 :: x71 :: x72 :: x73 :: x74 :: x75 :: x76 :: x77 :: x78 :: x79 :: x80 :: x81 :: x82 :: x83 :: x84 :: x85 :: x86 :: x87 :: x88 :: x89 :: x90 :: x91 :: x92 :: x93 :: x94 :: x95 :: x96 :: x97 :: x98 :: x99 :: x100 :: x101 :: x102 :: x103 :: x104 :: x105 :: x106 :: x107 :: x108 :: x109 :: x110 :: x111 :: x112 :: x113 :: x114 :: x115 :: x116 :: x117 :: x118 :: x119 :: x120 :: x121 :: x122 :: x123 :: x124 :: x125 :: x126 :: x127 :: x128 :: x129 :: x130 :: x131 :: .slice C L cap :: x133 :: .int .i64 (n : Int) :: x135 :: x136 :: x137 :: x138 :: x139 :: x140 :: x141 :: x142 :: x143 :: x144 :: x145 :: x146 :: x147 :: x148 :: x149 :: x150 :: x151 :: x152 :: x153 :: x154 :: x155 :: x156 :: x157 :: x158 :: x159 :: x160 :: x161 :: x162 :: x163 :: x164 :: x165 :: x166 :: x167 :: x168 :: x169 :: x170 :: x171 :: x172 :: x173 :: x174 :: x175 :: x176 :: x177 :: x178 :: x179 :: x180 :: x181 :: x182 :: x183 :: x184 :: x185 :: x186 :: x187 :: x188 :: x189 :: x190 :: x191 :: x192 :: x193 :: x194 :: x195 :: x196 :: x197 :: x198 :: x199 :: x200 :: x201 :: x202 :: []).toArray, []⟩ wr := by
  intros
  rename_i Q hQ
  conv => arg 2; whnf
  have HQ := Lib.hid hQ
  have hnL : n < L := by rw [← hL]; exact (List.getElem?_eq_some_iff.1 hi).1
  obtain ⟨bI, oI, hlA, hbl, hcs⟩ := hC n i hi
  subst hlA
  obtain ⟨x0, x1, x2, x3, x4, x5, x6, x7, x8, x9, x10, x11, x12, x13, x14⟩ := RdI.load hcs
  have hb1 := Below.one wr i.obj
  have hk1 := heap_alloc_new wr i.obj
  have hbx1 := alloc_keeps hb i.obj
  have hfi := fun nm W h => Find_any u F G cF cG nm (by rw [hN]; exact hN9) W h
  have hfu : RdF wr F u.funcs := hu.fs
  simp only [unAgg, hN, hM] at hfi
  simp only [unObj] at hbx1
  rw [hN, hM] at hbx1
  have HN := Lib.hid hN
  have HLW := Lib.hid hlw
  have HFI := Lib.hid hfi
  have HFU := Lib.hid hfu
  clear hQ hcs hb hlw hfi hfu hu hC hi hL hM hN
  obtain ⟨kd, op, dst, a, b', nn, text, r0, r1, r2, r3, r4, r5, to_, els⟩ := i
  simp only [Ins.obj] at x0 x1 x2 x3 x4 x5 x6 x7 x8 x9 x10 x11 x12 x13 x14 hk1 hb1 hbx1
  have HK1 := Lib.hid hk1
  have HB1 := Lib.hid hb1
  have HBX1 := Lib.hid hbx1
  clear hk1 hb1 hbx1
  go_upto_region 27 with fail
  obtain ⟨w1, hw1⟩ : ∃ w1, wr.alloc (.cells #[.int .i64 kd, .int .i64 op, .int .i64 dst, .int .i64 a, .int .i64 b', .int .i64 nn, .string text, .int .i64 r0, .int .i64 r1, .int .i64 r2, .int .i64 r3, .int .i64 r4, .int .i64 r5, .int .i64 to_, .int .i64 els] 32) = w1 := ⟨_, rfl⟩
  obtain ⟨b12, hb12⟩ : ∃ b12, wr.heap.size = b12 := ⟨_, rfl⟩
  rw [hw1] at HK1 HB1 HBX1 ⊢
  rw [hb12] at HK1 ⊢
  clear hw1 x0 x1 x2 x3 x4 x5 x6 x7 x8 x9 x10 x11 x12 x13 x14
  have k0 := cell_of_heap HK1.out 0 (.int .i64 kd) rfl
  have k6 := cell_of_heap HK1.out 6 (.string text) rfl
  have hl12 := (Array.getElem?_eq_some_iff.1 HK1.out).1
  have u0 := cell_of_heap HBX1.out 0 (.slice F N cF) rfl
  have u1 := cell_of_heap HBX1.out 1 (.slice G M cG) rfl
  have u2 := cell_of_heap HBX1.out 2 (.int .i64 u.top) rfl
  have hlb2 := (Array.getElem?_eq_some_iff.1 HBX1.out).1
  go_wp2_with fail
  refine (HFI.out _ _ (HFU.out.below HB1.out)).mono ?_
  rintro e w2 ⟨rfl, hb2⟩
  dsimp only
  have HK2 := Lib.hid ((hb2.block _ hl12).trans HK1.out)
  have HBX2 := Lib.hid ((hb2.block _ hlb2).trans HBX1.out)
  have HB2 := Lib.hid (HB1.out.trans (hb2.mono HB1.out.size))
  clear hb2 k0 k6 hl12 u0 u1 u2 hlb2 HK1 HBX1 HB1 HFI
  have k0 := cell_of_heap HK2.out 0 (.int .i64 kd) rfl
  have hl12 := (Array.getElem?_eq_some_iff.1 HK2.out).1
  have u0 := cell_of_heap HBX2.out 0 (.slice F N cF) rfl
  have hlb2 := (Array.getElem?_eq_some_iff.1 HBX2.out).1
  by_cases h8 : kd = 8
  case neg =>
    have p1 : (kd == 8) = false := by simpa using h8
    have p2 : decide (kd = 8) = false := by simpa using h8
    clear h8
    obtain ⟨z, hz⟩ : ∃ z, findI u.funcs text = z := ⟨_, rfl⟩
    simp only [hz]
    go_wp2_with fail
    exact HQ.out HB2.out
  case pos =>
    obtain ⟨ai, g, hfa, hga, hcase⟩ := HLW.out h8
    subst h8
    have haN : ai < N := by rw [← HN.out]; exact (List.getElem?_eq_some_iff.1 hga).1
    rw [findI_some hfa]
    have HCS := Lib.hid hcase
    clear HLW hfa hcase
    by_cases hak : (ai : Int) = k
    · have p1 : ((ai : Int) != k) = false := by simpa using hak
      have p2 : decide ((ai : Int) = k) = true := by simpa using hak
      clear hak hga
      go_wp2_with fail
      exact HQ.out HB2.out
    · have p1 : ((ai : Int) != k) = true := by simpa using hak
      have p2 : decide ((ai : Int) = k) = false := by simpa using hak
      have HAK := Lib.hid hak
      obtain ⟨fb, fo, Cg, gcap, rfl, hblg, hcg, hrg⟩ := (HFU.out.below HB2.out) ai g hga
      obtain ⟨q0, q1, q2, q3, q4⟩ := fn_cells hcg
      obtain ⟨LG, hLG⟩ : ∃ LG, g.code.length = LG := ⟨_, rfl⟩
      have hsm := fun W hW => rsmall_any g Cg gcap W hW
      simp only [funcAgg] at hsm
      rw [hLG] at q4 hsm
      have HSM := Lib.hid hsm
      have HRG := Lib.hid hrg
      clear hak hga hcg hrg hsm hLG
      go_wp2_with fail
      refine (HSM.out _ HRG.out).mono ?_
      rintro e w3 ⟨⟨bv, rfl, hbv⟩, hb3⟩
      dsimp only
      have HB3 := Lib.hid (HB2.out.trans (hb3.mono HB2.out.size))
      cases bv
      case false =>
        clear hb3 hbv
        go_wp2_with fail
        exact HQ.out HB3.out
      case true => exact absurd ⟨HAK.out, hbv.1 rfl⟩ HCS.out
set_option maxRecDepth 1000000 in
set_option maxHeartbeats 16000000 in
theorem ic_loopC (u : Un7) (F G : Option Addr) (cF cG N M L cap b2 : Nat) (k : Int) (l : List Ins) (C : Option Addr) (wm : World) (hlw : ∀ i ∈ l, i.kind = 8 → ∃ (a : Nat) (g : Fn7), findU u.funcs i.text = some a ∧ u.funcs[a]? = some g ∧ ¬ ((a : Int) ≠ k ∧ SmallF g)) (hN : u.funcs.length = N) (hM : u.globs.length = M) (hN9 : N ≤ 100000) (hL : l.length = L) (hL9 : L ≤ 8192) (hu : RdU wm F G u) (hC : RdI wm C l) (hb : wm.heap[b2]? = some (unObj u F G cF cG)) :
    ∀ ⦃x0 x3 x4 x5 x6 x7 x8 x9 x10 x11 x12 x13 x14 x15 x16 x17 x18 x19 x20 x21 x22 x23 x24 x25 x26 x27 x28 x29 x30 x31 x32 x33 x34 x35 x36 x37 x38 x39 x40 x41 x42 x43 x44 x45 x46 x47 x48 x49 x50 x51 x52 x53 x54 x55 x56 x57 x58 x59 x60 x61 x62 x63 x64 x65 x66 x67 x68 x69 x70 x71 x72 x73 x74 x75 x76 x77 x78 x79 x80 x81 x82 x83 x84 x85 x86 x87 x88 x89 x90 x91 x92 x93 x94 x95 x96 x97 x98 x99 x100 x101 x102 x103 x104 x105 x106 x107 x108 x109 x110 x111 x112 x113 x114 x115 x116 x117 x118 x119 x120 x121 x122 x123 x124 x125 x126 x127 x128 x129 x130 x131 x135 x136 x137 x138 x139 x140 x141 x142 x143 x144 x145 x146 x147 x148 x149 x150 x151 x152 x153 x154 x155 x156 x157 x158 x159 x160 x161 x162 x163 x164 x165 x166 x167 x168 x169 x170 x171 x172 x173 x174 x175 x176 x177 x178 x179 x180 x181 x182 x183 x184 x185 x186 x187 x188 x189 x190 x191 x192 x193 x194 x195 x196 x197 x198 x199 x200 x201 x202 : Value⦄ (Q : Exit → Act → World → Prop), (∀ ⦃y4 y18 y19 y134 y135 y136 y137 y138 y139 y140 y141 y142 y143 y144 y145 y146 y147 y148 y149 y150 y151 y152 y153 y154 y155 y156 y157 y158 : Value⦄ ⦃w' : World⦄, Below wm.heap.size wm w' → Q (.exit 4) ⟨(x0 :: .int .i64 k :: .pointer (some ⟨b2, 0, none⟩) :: x3 :: y4 :: x5 :: x6 :: x7 :: x8 :: x9 :: x10 :: x11 :: x12 :: x13 :: x14 :: x15 :: x16 :: x17 :: y18 :: y19 :: x20 :: x21 :: x22 :: x23 :: x24 :: x25 :: x26 :: x27 :: x28 :: x29 :: x30 :: x31 :: x32 :: x33 :: x34 :: x35 :: x36 :: x37 :: x38 :: x39 :: x40 :: x41 :: x42 :: x43 :: x44 :: x45 :: x46 :: x47 :: x48 :: x49 :: x50 :: x51 :: x52 :: x53 :: x54 :: x55 :: x56 :: x57 :: x58 :: x59 :: x60 :: x61 :: x62 :: x63 :: x64 :: x65 :: x66 :: x67 :: x68 :: x69 :: x70 :: x71 :: x72 :: x73 :: x74 :: x75 :: x76 :: x77 :: x78 :: x79 :: x80 :: x81 :: x82 :: x83 :: x84 :: x85 :: x86 :: x87 :: x88 :: x89 :: x90 :: x91 :: x92 :: x93 :: x94 :: x95 :: x96 :: x97 :: x98 :: x99 :: x100 :: x101 :: x102 :: x103 :: x104 :: x105 :: x106 :: x107 :: x108 :: x109 :: x110 :: x111 :: x112 :: x113 :: x114 :: x115 :: x116 :: x117 :: x118 :: x119 :: x120 :: x121 :: x122 :: x123 :: x124 :: x125 :: x126 :: x127 :: x128 :: x129 :: x130 :: x131 :: .slice C L cap :: .int .i64 (L : Int) :: y134 :: y135 :: y136 :: y137 :: y138 :: y139 :: y140 :: y141 :: y142 :: y143 :: y144 :: y145 :: y146 :: y147 :: y148 :: y149 :: y150 :: y151 :: y152 :: y153 :: y154 :: y155 :: y156 :: y157 :: y158 :: x159 :: x160 :: x161 :: x162 :: x163 :: x164 :: x165 :: x166 :: x167 :: x168 :: x169 :: x170 :: x171 :: x172 :: x173 :: x174 :: x175 :: x176 :: x177 :: x178 :: x179 :: x180 :: x181 :: x182 :: x183 :: x184 :: x185 :: x186 :: x187 :: x188 :: x189 :: x190 :: x191 :: x192 :: x193 :: x194 :: x195 :: x196 :: x197 :: x198 :: x199 :: x200 :: x201 :: x202 :: []).toArray, []⟩ w') → Code.wp Try.prog icC Q ⟨(x0 :: .int .i64 k :: .pointer (some ⟨b2, 0, none⟩) :: x3 :: x4 :: x5 :: x6 :: x7 :: x8 :: x9 :: x10 :: x11 :: x12 :: x13 :: x14 :: x15 :: x16 :: x17 :: x18 :: x19 :: x20 :: x21 :: x22 :: x23 :: x24 :: x25 :: x26 :: x27 :: x28 :: x29 :: x30 :: x31 :: x32 :: x33 :: x34 :: x35 :: x36 :: x37 :: x38 :: x39 :: x40 :: x41 :: x42 :: x43 :: x44 :: x45 :: x46 :: x47 :: x48 :: x49 :: x50 :: x51 :: x52 :: x53 :: x54 :: x55 :: x56 :: x57 :: x58 :: x59 :: x60 :: x61 :: x62 :: x63 :: x64 :: x65 :: x66 :: x67 :: x68 :: x69 :: x70 :: x71 :: x72 :: x73 :: x74 :: x75 :: x76 :: x77 :: x78 :: x79 :: x80 :: x81 :: x82 :: x83 :: x84 :: x85 :: x86 :: x87 :: x88 :: x89 :: x90 :: x91 :: x92 :: x93 :: x94 :: x95 :: x96 :: x97 :: x98 :: x99 :: x100 :: x101 :: x102 :: x103 :: x104 :: x105 :: x106 :: x107 :: x108 :: x109 :: x110 :: x111 :: x112 :: x113 :: x114 :: x115 :: x116 :: x117 :: x118 :: x119 :: x120 :: x121 :: x122 :: x123 :: x124 :: x125 :: x126 :: x127 :: x128 :: x129 :: x130 :: x131 :: .slice C L cap :: .int .i64 (L : Int) :: .int .i64 0 :: x135 :: x136 :: x137 :: x138 :: x139 :: x140 :: x141 :: x142 :: x143 :: x144 :: x145 :: x146 :: x147 :: x148 :: x149 :: x150 :: x151 :: x152 :: x153 :: x154 :: x155 :: x156 :: x157 :: x158 :: x159 :: x160 :: x161 :: x162 :: x163 :: x164 :: x165 :: x166 :: x167 :: x168 :: x169 :: x170 :: x171 :: x172 :: x173 :: x174 :: x175 :: x176 :: x177 :: x178 :: x179 :: x180 :: x181 :: x182 :: x183 :: x184 :: x185 :: x186 :: x187 :: x188 :: x189 :: x190 :: x191 :: x192 :: x193 :: x194 :: x195 :: x196 :: x197 :: x198 :: x199 :: x200 :: x201 :: x202 :: []).toArray, []⟩ wm := by
  intros
  rename_i Q hQ
  conv => arg 2; whnf
  have HQ := Lib.hid hQ
  have HLW := Lib.hid hlw
  have HN := Lib.hid hN
  have HM := Lib.hid hM
  have HN9 := Lib.hid hN9
  have HL := Lib.hid hL
  have HUW := Lib.hid hu
  have HC := Lib.hid hC
  have HB := Lib.hid hb
  clear hQ hlw hN hM hN9 hL hu hC hb
  go_loopw [134] (fun ix wr => ∃ n : Nat, n ≤ L ∧ ix = .int .i64 n ∧ Below wm.heap.size wm wr) (fun ix _ => L - (intOf ix).toNat)
  case atStart => exact ⟨0, by omega, rfl, Below.refl _ _⟩
  case round =>
    obtain ⟨n, hn, rfl, hbw⟩ := hrel
    have HBW := Lib.hid hbw
    by_cases hlt : n < L
    · obtain ⟨i, hi⟩ : ∃ i, l[n]? = some i := ⟨_, List.getElem?_eq_getElem (by rw [HL.out]; exact hlt)⟩
      have HI := Lib.hid hi
      clear hi hbw
      go_upto_block 5 with fail
      refine wp_block ?_
      refine ic_body5 u F G cF cG N M L cap b2 n k l C i wr (HLW.out i (List.mem_of_getElem? HI.out)) HN.out HM.out HN9.out HL.out HI.out ?_ (HC.out.below HBW.out) ?_ _ ?_
      · exact ⟨HUW.out.fs.below HBW.out, HUW.out.gs.below HBW.out⟩
      · exact (HBW.out.block _ (Array.getElem?_eq_some_iff.1 HB.out).1).trans HB.out
      intros
      rename_i w' hb'
      have HBW' := Lib.hid (HBW.out.trans (hb'.mono HBW.out.size))
      clear hb'
      (try simp only [Exit.inBlock])
      go_wp2_with fail
      exact ⟨⟨n + 1, by omega, by go_num, HBW'.out⟩, by simp [intOf]; omega⟩
    · obtain rfl : L = n := by omega
      clear hbw
      go_wp2_with fail
      exact HQ.out HBW.out
end Go.Proofs.Ytkcclefonmnpnaa
