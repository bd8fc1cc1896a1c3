import Derived.Test.YtkcclefonmnpnaaMx
import Derived.Test.YtkcclefonmnpnaaIp
import Derived.Test.YtkcclefonmnpnaaIl
import Derived.Test.YtkcclefonmnpnaaXe
import Derived.Test.YtkcclefonmnpnaaXb
import Derived.Deep.CutBlock
import Derived.Test.YtkcclefonmnpnaaIn
import Derived.Test.YtkcclefonmnpnaaIg
import Derived.Test.YtkcclefonmnpnaaIc
import Derived.Test.YtkcclefonmnpnaaZq
import Derived.Test.YtkcclefonmnpnaaId
/- InlineCounts (plain). -/
namespace Go.Proofs.Ytkcclefonmnpnaa
open Go.RowKit

theorem smOf_law {u : Un7} (hU : OkU u) {k : Int} {f : Fn7} (hf : f ∈ u.funcs) {i : Ins} (hi : i ∈ f.code) (h8 : i.kind = 8) :
    ∃ (a : Nat) (g : Fn7), findU u.funcs i.text = some a ∧ u.funcs[a]? = some g ∧ ((((a : Int) ≠ k ∧ SmallF g) ∧ smOf (smTo u.funcs k u.funcs.length) i = some g) ∨ (¬ ((a : Int) ≠ k ∧ SmallF g) ∧ smOf (smTo u.funcs k u.funcs.length) i = none)) := by
  obtain ⟨a, g, h1, h2, _⟩ := hU.calls f hf i hi h8
  have hnm : g.nm = i.text := by
    obtain ⟨g', h3, h4⟩ := findU_lt h1
    rw [h2] at h3
    injection h3 with h3
    rw [h3, h4]
  have hso : smOf (smTo u.funcs k u.funcs.length) i = smTo u.funcs k u.funcs.length i.text := by unfold smOf; rw [if_pos h8]
  refine ⟨a, g, h1, h2, ?_⟩
  by_cases hc : (a : Int) ≠ k ∧ SmallF g
  · left
    refine ⟨hc, ?_⟩
    rw [hso, ← hnm]
    exact smTo_in (one_nm hU) (List.getElem?_eq_some_iff.1 h2).1 h2 hc.1 hc.2
  · right
    refine ⟨hc, ?_⟩
    rw [hso]
    cases hs : smTo u.funcs k u.funcs.length i.text with
    | none => rfl
    | some g' =>
      obtain ⟨m1, m2, j, _, m3, m4⟩ := smTo_mem hs
      have := one_nm hU a j g g' h2 m3 (by rw [hnm, m1])
      subst this
      rw [h2] at m3
      injection m3 with m3
      subst m3
      exact absurd ⟨m4, m2⟩ hc
/-- what a call's returns add to the lines -/
def retN (d : Int) (l : List Ins) (m : Nat) : Nat := ((l.take m).map fun i => if i.kind = 13 ∧ 0 ≤ d then 1 else 0).sum
theorem retN_succ {d : Int} {l : List Ins} {m : Nat} {i : Ins} (h : l[m]? = some i) : retN d l (m + 1) = retN d l m + if i.kind = 13 ∧ 0 ≤ d then 1 else 0 := by
  unfold retN
  rw [List.take_add_one, h]
  simp
theorem retN_le (d : Int) (l : List Ins) (m : Nat) : retN d l m ≤ l.length := by
  unfold retN
  have h1 := sum_le (fun i : Ins => if i.kind = 13 ∧ 0 ≤ d then 1 else 0) 1 (l.take m) fun i _ => by split <;> omega
  have h2 : (l.take m).length ≤ l.length := by simp; omega
  omega
theorem atL_ret (g : Fn7) (d : Int) : atL g d g.code.length = g.R.toNat + g.code.length + retN d g.code g.code.length := by
  unfold atL retN
  rw [List.take_length]
  have key : ∀ l : List Ins, (l.map (widI d)).sum = l.length + (l.map fun i => if i.kind = 13 ∧ 0 ≤ d then 1 else 0).sum := by
    intro l
    induction l with
    | nil => rfl
    | cons i l ih =>
      simp only [List.map_cons, List.sum_cons, List.length_cons, ih]
      unfold widI
      split <;> omega
  rw [key]
  omega
theorem sums_succ {sm : ByteArray → Option Fn7} {l : List Ins} {n : Nat} {i : Ins} (h : l[n]? = some i) : (∀ g, smOf sm i = some g → cntS sm (l.take (n + 1)) = cntS sm (l.take n) + 1 ∧ regS' sm (l.take (n + 1)) = regS' sm (l.take n) + g.R.toNat ∧ linS sm (l.take (n + 1)) = linS sm (l.take n) + (atL g i.dst g.code.length - 1)) ∧
    (smOf sm i = none → cntS sm (l.take (n + 1)) = cntS sm (l.take n) ∧ regS' sm (l.take (n + 1)) = regS' sm (l.take n) ∧ linS sm (l.take (n + 1)) = linS sm (l.take n)) := by
  unfold cntS regS' linS
  rw [sum_step _ h, sum_step _ h, sum_step _ h]
  refine ⟨fun g hg => ?_, fun hg => ?_⟩
  · simp only [hg]; exact ⟨trivial, trivial, trivial⟩
  · simp only [hg]; exact ⟨rfl, rfl, rfl⟩
end Go.Proofs.Ytkcclefonmnpnaa
/- InlineCounts: its loops. -/
namespace Go.Proofs.Ytkcclefonmnpnaa
open Go.RowKit Go.BigFrame

noncomputable def icA : Code := ((((Try.f12.body).map loopsI).getD [])[0]?).getD .skip
noncomputable def icC : Code := ((((Try.f12.body).map loopsI).getD [])[1]?).getD .skip
noncomputable def icA1 : Code := inBkI (seqNI (inLoopI icA) 2)
noncomputable def icB : Code := ((loopsI icA1)[0]?).getD .skip
noncomputable def icC5 : Code := inBkI (seqNI (inLoopI icC) 2)
theorem ic_wrap {x : Int} (h0 : -9000000 ≤ x) (h1 : x ≤ 9000000) : wrap64 x = x := by unfold wrap64; omega
set_option maxRecDepth 1000000 in
set_option maxHeartbeats 16000000 in
theorem ic_loopB (i : Ins) (g : Fn7) (Cg : Option Addr) (LG gcap b12 : Nat) (x : Int) (wb : World) (hL : g.code.length = LG) (hLG : LG ≤ 8192) (hC : RdI wb Cg g.code) (hx : 0 ≤ x ∧ x ≤ 100000) (hb : wb.heap[b12]? = some i.obj) :
    ∀ ⦃x0 x1 x2 x3 x4 x5 x6 x7 x8 x9 x11 x13 x14 x15 x16 x17 x18 x19 x20 x21 x22 x23 x24 x25 x26 x27 x28 x29 x30 x31 x32 x33 x34 x35 x36 x37 x38 x39 x40 x41 x42 x43 x44 x45 x46 x47 x48 x49 x50 x51 x52 x53 x54 x55 x56 x57 x58 x59 x60 x61 x62 x63 x64 x65 x66 x67 x68 x69 x70 x71 x72 x73 x74 x75 x76 x77 x78 x79 x80 x81 x82 x83 x84 x85 x86 x87 x88 x89 x90 x91 x92 x93 x94 x95 x96 x97 x98 x99 x100 x101 x102 x103 x104 x105 x106 x107 x108 x109 x110 x111 x112 x116 x117 x118 x119 x120 x121 x122 x123 x124 x125 x126 x127 x128 x129 x130 x131 x132 x133 x134 x135 x136 x137 x138 x139 x140 x141 x142 x143 x144 x145 x146 x147 x148 x149 x150 x151 x152 x153 x154 x155 x156 x157 x158 x159 x160 x161 x162 x163 x164 x165 x166 x167 x168 x169 x170 x171 x172 x173 x174 x175 x176 x177 x178 x179 x180 x181 x182 x183 x184 x185 x186 x187 x188 x189 x190 x191 x192 x193 x194 x195 x196 x197 x198 x199 x200 x201 x202 : Value⦄ (Q : Exit → Act → World → Prop), (∀ ⦃y16 y115 y116 y117 y118 y119 y120 y121 y122 y123 y124 y125 y126 y127 y128 y129 : Value⦄ ⦃w' : World⦄, Below wb.heap.size wb w' → Q (.exit 2) ⟨(x0 :: x1 :: x2 :: x3 :: x4 :: x5 :: x6 :: x7 :: x8 :: x9 :: .int .i64 (x + (retN i.dst g.code LG : Int)) :: x11 :: .pointer (some ⟨b12, 0, none⟩) :: x13 :: x14 :: x15 :: y16 :: x17 :: x18 :: x19 :: x20 :: x21 :: x22 :: x23 :: x24 :: x25 :: x26 :: x27 :: x28 :: x29 :: x30 :: x31 :: x32 :: x33 :: x34 :: x35 :: x36 :: x37 :: x38 :: x39 :: x40 :: x41 :: x42 :: x43 :: x44 :: x45 :: x46 :: x47 :: x48 :: x49 :: x50 :: x51 :: x52 :: x53 :: x54 :: x55 :: x56 :: x57 :: x58 :: x59 :: x60 :: x61 :: x62 :: x63 :: x64 :: x65 :: x66 :: x67 :: x68 :: x69 :: x70 :: x71 :: x72 :: x73 :: x74 :: x75 :: x76 :: x77 :: x78 :: x79 :: x80 :: x81 :: x82 :: x83 :: x84 :: x85 :: x86 :: x87 :: x88 :: x89 :: x90 :: x91 :: x92 :: x93 :: x94 :: x95 :: x96 :: x97 :: x98 :: x99 :: x100 :: x101 :: x102 :: x103 :: x104 :: x105 :: x106 :: x107 :: x108 :: x109 :: x110 :: x111 :: x112 :: .slice Cg LG gcap :: .int .i64 (LG : Int) :: y115 :: y116 :: y117 :: y118 :: y119 :: y120 :: y121 :: y122 :: y123 :: y124 :: y125 :: y126 :: y127 :: y128 :: y129 :: x130 :: x131 :: x132 :: x133 :: x134 :: x135 :: x136 :: x137 :: x138 :: x139 :: x140 :: x141 :: x142 :: x143 :: x144 :: x145 :: x146 :: x147 :: x148 :: x149 :: x150 :: x151 :: x152 :: x153 :: x154 :: x155 :: x156 :: x157 :: x158 :: x159 :: x160 :: x161 :: x162 :: x163 :: x164 :: x165 :: x166 :: x167 :: x168 :: x169 :: x170 :: x171 :: x172 :: x173 :: x174 :: x175 :: x176 :: x177 :: x178 :: x179 :: x180 :: x181 :: x182 :: x183 :: x184 :: x185 :: x186 :: x187 :: x188 :: x189 :: x190 :: x191 :: x192 :: x193 :: x194 :: x195 :: x196 :: x197 :: x198 :: x199 :: x200 :: x201 :: x202 :: []).toArray, []⟩ w') → Code.wp Try.prog icB Q ⟨(x0 :: x1 :: x2 :: x3 :: x4 :: x5 :: x6 :: x7 :: x8 :: x9 :: .int .i64 x :: x11 :: .pointer (some ⟨b12, 0, none⟩) :: x13 :: x14 :: x15 :: x16 :: x17 :: x18 :: x19 :: x20 :: x21 :: x22 :: x23 :: x24 :: x25 :: x26 :: x27 :: x28 :: x29 :: x30 :: x31 :: x32 :: x33 :: x34 :: x35 :: x36 :: x37 :: x38 :: x39 :: x40 :: x41 :: x42 :: x43 :: x44 :: x45 :: x46 :: x47 :: x48 :: x49 :: x50 :: x51 :: x52 :: x53 :: x54 :: x55 :: x56 :: x57 :: x58 :: x59 :: x60 :: x61 :: x62 :: x63 :: x64 :: x65 :: x66 :: x67 :: x68 :: x69 :: x70 :: x71 :: x72 :: x73 :: x74 :: x75 :: x76 :: x77 :: x78 :: x79 :: x80 :: x81 :: x82 :: x83 :: x84 :: x85 :: x86 :: x87 :: x88 :: x89 :: x90 :: x91 :: x92 :: x93 :: x94 :: x95 :: x96 :: x97 :: x98 :: x99 :: x100 :: x101 :: x102 :: x103 :: x104 :: x105 :: x106 :: x107 :: x108 :: x109 :: x110 :: x111 :: x112 :: .slice Cg LG gcap :: .int .i64 (LG : Int) :: .int .i64 0 :: x116 :: x117 :: x118 :: x119 :: x120 :: x121 :: x122 :: x123 :: x124 :: x125 :: x126 :: x127 :: x128 :: x129 :: x130 :: x131 :: x132 :: x133 :: x134 :: x135 :: x136 :: x137 :: x138 :: x139 :: x140 :: x141 :: x142 :: x143 :: x144 :: x145 :: x146 :: x147 :: x148 :: x149 :: x150 :: x151 :: x152 :: x153 :: x154 :: x155 :: x156 :: x157 :: x158 :: x159 :: x160 :: x161 :: x162 :: x163 :: x164 :: x165 :: x166 :: x167 :: x168 :: x169 :: x170 :: x171 :: x172 :: x173 :: x174 :: x175 :: x176 :: x177 :: x178 :: x179 :: x180 :: x181 :: x182 :: x183 :: x184 :: x185 :: x186 :: x187 :: x188 :: x189 :: x190 :: x191 :: x192 :: x193 :: x194 :: x195 :: x196 :: x197 :: x198 :: x199 :: x200 :: x201 :: x202 :: []).toArray, []⟩ wb := by
  intros
  rename_i Q hQ
  conv => arg 2; whnf
  have HQ := Lib.hid hQ
  have HC := Lib.hid hC
  have HL := Lib.hid hL
  have HB := Lib.hid hb
  have HX := Lib.hid hx
  have HR := Lib.hid (fun m => retN_le i.dst g.code m)
  clear hQ hC hL hb hx
  go_loopw [10, 115] (fun ln ix wr => ∃ q : Nat, q ≤ LG ∧ ix = .int .i64 q ∧ ln = .int .i64 (x + (retN i.dst g.code q : Int)) ∧ Below wb.heap.size wb wr) (fun _ ix _ => LG - (intOf ix).toNat)
  case atStart => exact ⟨0, by omega, rfl, by simp [retN], Below.refl _ _⟩
  case round =>
    obtain ⟨q, hq, rfl, rfl, hbw⟩ := hrel
    by_cases hlt : q < LG
    · obtain ⟨j, hj⟩ : ∃ j, g.code[q]? = some j := ⟨_, List.getElem?_eq_getElem (by rw [HL.out]; exact hlt)⟩
      obtain ⟨b2, o2, hlA, hbl, hcs⟩ := (HC.out.below hbw) q j hj
      subst hlA
      obtain ⟨x0, x1, x2, x3, x4, x5, x6, x7, x8, x9, x10, x11, x12, x13, x14⟩ := RdI.load hcs
      have hb12 := (hbw.block _ (Array.getElem?_eq_some_iff.1 HB.out).1).trans HB.out
      have hd := cell_of_heap hb12 2 (.int .i64 i.dst) rfl
      have hlb := (Array.getElem?_eq_some_iff.1 hb12).1
      have hsu := retN_succ (d := i.dst) hj
      have HSU := Lib.hid hsu
      have HFIN : Hid (Below wb.heap.size wb (wr.alloc j.obj)) := Lib.hid (hbw.trans ((Below.one wr j.obj).mono hbw.size))
      obtain ⟨y, hy⟩ : ∃ y : Int, x + (retN i.dst g.code q : Int) = y := ⟨_, rfl⟩
      have hyb : wrap64 (y + 1) = y + 1 := by
        rw [← hy]
        have h1 := HR.out q
        have h2 := HX.out
        have h3 := HL.out
        exact ic_wrap (by omega) (by omega)
      have HY := Lib.hid hy
      clear hj hcs hsu hbw hb12
      obtain ⟨kd, op, dst, a, b', n, text, r0, r1, r2, r3, r4, r5, to_, els⟩ := j
      simp only [Ins.obj] at x0 x1 x2 x3 x4 x5 x6 x7 x8 x9 x10 x11 x12 x13 x14 HFIN HSU
      rw [hy]
      clear hy
      by_cases h13 : kd = 13
      · subst h13
        by_cases hd0 : 0 ≤ i.dst
        · have q1 : decide (i.dst ≥ 0) = true := by simpa using hd0
          have q2 : decide (0 ≤ i.dst) = true := by simpa using hd0
          have HN : Hid (x + (retN i.dst g.code (q + 1) : Int) = y + 1) := Lib.hid (by rw [HSU.out, if_pos ⟨rfl, hd0⟩, ← HY.out]; omega)
          clear hd0
          go_wp2_with fail
          exact ⟨⟨q + 1, by omega, by go_num, by first | (rw [HN.out]; done) | (rw [HN.out, hyb]; done) | (simp only [HN.out, hyb]; done), HFIN.out⟩, by simp [intOf]; omega⟩
        · have q1 : decide (i.dst ≥ 0) = false := by simpa using hd0
          have q2 : decide (0 ≤ i.dst) = false := by simpa using hd0
          have HN : Hid (x + (retN i.dst g.code (q + 1) : Int) = y) := Lib.hid (by rw [HSU.out, if_neg (fun h => hd0 h.2), ← HY.out]; omega)
          clear hd0
          go_wp2_with fail
          exact ⟨⟨q + 1, by omega, by go_num, by first | (rw [HN.out]; done) | (rw [HN.out, hyb]; done) | (simp only [HN.out, hyb]; done), HFIN.out⟩, by simp [intOf]; omega⟩
      · have q0 : (kd == 13) = false := by simpa using h13
        have q1 : decide (kd = 13) = false := by simpa using h13
        have HN : Hid (x + (retN i.dst g.code (q + 1) : Int) = y) := Lib.hid (by rw [HSU.out, if_neg (fun h => h13 h.1), ← HY.out]; omega)
        clear h13
        go_wp2_with fail
        exact ⟨⟨q + 1, by omega, by go_num, by first | (rw [HN.out]; done) | (rw [HN.out, hyb]; done) | (simp only [HN.out, hyb]; done), HFIN.out⟩, by simp [intOf]; omega⟩
    · obtain rfl : LG = q := by omega
      have HE := Lib.hid hbw
      clear hbw
      go_wp2
      exact HQ.out HE.out
end Go.Proofs.Ytkcclefonmnpnaa
/- InlineCounts: the first loop's body. -/
namespace Go.Proofs.Ytkcclefonmnpnaa
open Go.RowKit Go.BigFrame

theorem ic_wraps {R c r l : Int} {LG : Nat} (h0 : 0 ≤ R) (h1 : R ≤ 4096) (h2 : LG ≤ 8192) (hc : 0 ≤ c ∧ c ≤ 10000) (hr : 0 ≤ r ∧ r ≤ 80000) (hl : 0 ≤ l ∧ l ≤ 80000) : wrap64 (R + (LG : Int)) = R + LG ∧ wrap64 (R + (LG : Int) - 1) = R + LG - 1 ∧ wrap64 (l + (R + (LG : Int) - 1)) = l + (R + LG - 1) ∧ wrap64 (c + 1) = c + 1 ∧ wrap64 (r + R) = r + R :=
  ⟨ic_wrap (by omega) (by omega), ic_wrap (by omega) (by omega), ic_wrap (by omega) (by omega), ic_wrap (by omega) (by omega), ic_wrap (by omega) (by omega)⟩
set_option maxRecDepth 1000000 in
set_option maxHeartbeats 16000000 in
theorem ic_body (u : Un7) (F G : Option Addr) (cF cG N M L cap b2 n : Nat) (k : Int) (f : Fn7) (C : Option Addr) (i : Ins) (c r l : Int) (wr : World) (hU : OkU u) (hf : f ∈ u.funcs) (hN : u.funcs.length = N) (hM : u.globs.length = M) (hN9 : N ≤ 100000) (hL : f.code.length = L) (hi : f.code[n]? = some i) (hu : RdU wr F G u) (hC : RdI wr C f.code) (hb : wr.heap[b2]? = some (unObj u F G cF cG)) (hc : 0 ≤ c ∧ c ≤ 10000) (hr : 0 ≤ r ∧ r ≤ 80000) (hl : 0 ≤ l ∧ l ≤ 80000) :
    ∀ ⦃x0 x3 x4 x5 x6 x7 x11 x12 x13 x14 x15 x16 x17 x18 x19 x20 x21 x22 x23 x24 x25 x26 x27 x28 x29 x30 x31 x32 x33 x34 x35 x36 x37 x38 x39 x40 x41 x42 x43 x44 x45 x46 x47 x48 x49 x50 x51 x52 x53 x54 x55 x56 x57 x58 x59 x60 x61 x62 x63 x64 x66 x68 x69 x70 x71 x72 x73 x74 x75 x76 x77 x78 x79 x80 x81 x82 x83 x84 x85 x86 x87 x88 x89 x90 x91 x92 x93 x94 x95 x96 x97 x98 x99 x100 x101 x102 x103 x104 x105 x106 x107 x108 x109 x110 x111 x112 x113 x114 x115 x116 x117 x118 x119 x120 x121 x122 x123 x124 x125 x126 x127 x128 x129 x130 x131 x132 x133 x134 x135 x136 x137 x138 x139 x140 x141 x142 x143 x144 x145 x146 x147 x148 x149 x150 x151 x152 x153 x154 x155 x156 x157 x158 x159 x160 x161 x162 x163 x164 x165 x166 x167 x168 x169 x170 x171 x172 x173 x174 x175 x176 x177 x178 x179 x180 x181 x182 x183 x184 x185 x186 x187 x188 x189 x190 x191 x192 x193 x194 x195 x196 x197 x198 x199 x200 x201 x202 : Value⦄ (Q : Exit → Act → World → Prop), (∀ ⦃y12 y13 y14 y16 y69 y70 y71 y72 y73 y74 y75 y76 y77 y78 y79 y80 y81 y82 y83 y84 y85 y86 y87 y88 y89 y90 y91 y92 y93 y94 y95 y96 y97 y98 y99 y100 y101 y102 y103 y104 y105 y106 y107 y108 y109 y110 y111 y112 y113 y114 y115 y116 y117 y118 y119 y120 y121 y122 y123 y124 y125 y126 y127 y128 y129 : Value⦄ ⦃w' : World⦄ (e : Exit) (c' r' l' : Int), (e = .exit 1 ∨ e = .normal) → ((smOf (smTo u.funcs k u.funcs.length) i = none ∧ c' = c ∧ r' = r ∧ l' = l) ∨ ∃ g, smOf (smTo u.funcs k u.funcs.length) i = some g ∧ c' = c + 1 ∧ r' = r + g.R ∧ l' = l + (g.R + (g.code.length : Int) - 1) + (retN i.dst g.code g.code.length : Int)) → Below wr.heap.size wr w' → Q e ⟨(x0 :: .int .i64 k :: .pointer (some ⟨b2, 0, none⟩) :: x3 :: x4 :: x5 :: x6 :: x7 :: .int .i64 c' :: .int .i64 r' :: .int .i64 l' :: x11 :: y12 :: y13 :: y14 :: x15 :: y16 :: x17 :: x18 :: x19 :: x20 :: x21 :: x22 :: x23 :: x24 :: x25 :: x26 :: x27 :: x28 :: x29 :: x30 :: x31 :: x32 :: x33 :: x34 :: x35 :: x36 :: x37 :: x38 :: x39 :: x40 :: x41 :: x42 :: x43 :: x44 :: x45 :: x46 :: x47 :: x48 :: x49 :: x50 :: x51 :: x52 :: x53 :: x54 :: x55 :: x56 :: x57 :: x58 :: x59 :: x60 :: x61 :: x62 :: x63 :: x64 :: .slice C L cap :: x66 :: .int .i64 (n : Int) :: x68 :: y69 :: y70 :: y71 :: y72 :: y73 :: y74 :: y75 :: y76 :: y77 :: y78 :: y79 :: y80 :: y81 :: y82 :: y83 :: y84 :: y85 :: y86 :: y87 :: y88 :: y89 :: y90 :: y91 :: y92 :: y93 :: y94 :: y95 :: y96 :: y97 :: y98 :: y99 :: y100 :: y101 :: y102 :: y103 :: y104 :: y105 :: y106 :: y107 :: y108 :: y109 :: y110 :: y111 :: y112 :: y113 :: y114 :: y115 :: y116 :: y117 :: y118 :: y119 :: y120 :: y121 :: y122 :: y123 :: y124 :: y125 :: y126 :: y127 :: y128 :: y129 :: x130 :: x131 :: x132 :: x133 :: x134 :: x135 :: x136 :: x137 :: x138 :: x139 :: x140 :: x141 :: x142 :: x143 :: x144 :: x145 :: x146 :: x147 :: x148 :: x149 :: x150 :: x151 :: x152 :: x153 :: x154 :: x155 :: x156 :: x157 :: x158 :: x159 :: x160 :: x161 :: x162 :: x163 :: x164 :: x165 :: x166 :: x167 :: x168 :: x169 :: x170 :: x171 :: x172 :: x173 :: x174 :: x175 :: x176 :: x177 :: x178 :: x179 :: x180 :: x181 :: x182 :: x183 :: x184 :: x185 :: x186 :: x187 :: x188 :: x189 :: x190 :: x191 :: x192 :: x193 :: x194 :: x195 :: x196 :: x197 :: x198 :: x199 :: x200 :: x201 :: x202 :: []).toArray, []⟩ w') → Code.wp Try.prog icA1 Q ⟨(x0 :: .int .i64 k :: .pointer (some ⟨b2, 0, none⟩) :: x3 :: x4 :: x5 :: x6 :: x7 :: .int .i64 c :: .int .i64 r :: .int .i64 l :: x11 :: x12 :: x13 :: x14 :: x15 :: x16 :: x17 :: x18 :: x19 :: x20 :: x21 :: x22 :: x23 :: x24 :: x25 :: x26 :: x27 :: x28 :: x29 :: x30 :: x31 :: x32 :: x33 :: x34 :: x35 :: x36 :: x37 :: x38 :: x39 :: x40 :: x41 :: x42 :: x43 :: x44 :: x45 :: x46 :: x47 :: x48 :: x49 :: x50 :: x51 :: x52 :: x53 :: x54 :: x55 :: x56 :: x57 :: x58 :: x59 :: x60 :: x61 :: x62 :: x63 :: x64 :: .slice C L cap :: x66 :: .int .i64 (n : Int) :: x68 :: x69 :: x70 :: x71 :: x72 :: x73 :: x74 :: x75 :: x76 :: x77 :: x78 :: x79 :: x80 :: x81 :: x82 :: x83 :: x84 :: x85 :: x86 :: x87 :: x88 :: x89 :: x90 :: x91 :: x92 :: x93 :: x94 :: x95 :: x96 :: x97 :: x98 :: x99 :: x100 :: x101 :: x102 :: x103 :: x104 :: x105 :: x106 :: x107 :: x108 :: x109 :: x110 :: x111 :: x112 :: x113 :: x114 :: x115 :: x116 :: x117 :: x118 :: x119 :: x120 :: x121 :: x122 :: x123 :: x124 :: x125 :: x126 :: x127 :: x128 :: x129 :: x130 :: x131 :: x132 :: x133 :: x134 :: x135 :: x136 :: x137 :: x138 :: x139 :: x140 :: x141 :: x142 :: x143 :: x144 :: x145 :: x146 :: x147 :: x148 :: x149 :: x150 :: x151 :: x152 :: x153 :: x154 :: x155 :: x156 :: x157 :: x158 :: x159 :: x160 :: x161 :: x162 :: x163 :: x164 :: x165 :: x166 :: x167 :: x168 :: x169 :: x170 :: x171 :: x172 :: x173 :: x174 :: x175 :: x176 :: x177 :: x178 :: x179 :: x180 :: x181 :: x182 :: x183 :: x184 :: x185 :: x186 :: x187 :: x188 :: x189 :: x190 :: x191 :: x192 :: x193 :: x194 :: x195 :: x196 :: x197 :: x198 :: x199 :: x200 :: x201 :: x202 :: []).toArray, []⟩ wr := by
  intros
  rename_i Q hQ
  conv => arg 2; whnf
  have HQ := Lib.hid hQ
  have hnL : n < L := by rw [← hL]; exact (List.getElem?_eq_some_iff.1 hi).1
  obtain ⟨bI, oI, hlA, hbl, hcs⟩ := hC n i hi
  subst hlA
  obtain ⟨x0, x1, x2, x3, x4, x5, x6, x7, x8, x9, x10, x11, x12, x13, x14⟩ := RdI.load hcs
  have hb1 := Below.one wr i.obj
  have hk1 := heap_alloc_new wr i.obj
  have hbx1 := alloc_keeps hb i.obj
  have hlw := fun h8 => smOf_law hU (k := k) hf (List.mem_of_getElem? hi) h8
  have hno : i.kind ≠ 8 → smOf (smTo u.funcs k u.funcs.length) i = none := fun h8 => by unfold smOf; rw [if_neg h8]
  have hfi := fun nm W h => Find_any u F G cF cG nm (by rw [hN]; exact hN9) W h
  have hfu : RdF wr F u.funcs := hu.fs
  simp only [unAgg, hN, hM] at hfi
  simp only [unObj] at hbx1
  rw [hN, hM] at hbx1
  have HN := Lib.hid hN
  have HU := Lib.hid hU
  have HLW := Lib.hid hlw
  have HNO := Lib.hid hno
  have HFI := Lib.hid hfi
  have HFU := Lib.hid hfu
  have HC0 := Lib.hid hc
  have HR0 := Lib.hid hr
  have HL0 := Lib.hid hl
  clear hQ hcs hb hlw hno hfi hfu hu hC hi hf hL hM hU hc hr hl hN
  obtain ⟨kd, op, dst, a, b', nn, text, r0, r1, r2, r3, r4, r5, to_, els⟩ := i
  simp only [Ins.obj] at x0 x1 x2 x3 x4 x5 x6 x7 x8 x9 x10 x11 x12 x13 x14 hk1 hb1 hbx1
  have HK1 := Lib.hid hk1
  have HB1 := Lib.hid hb1
  have HBX1 := Lib.hid hbx1
  clear hk1 hb1 hbx1
  go_upto_region 11 with fail
  obtain ⟨w1, hw1⟩ : ∃ w1, wr.alloc (.cells #[.int .i64 kd, .int .i64 op, .int .i64 dst, .int .i64 a, .int .i64 b', .int .i64 nn, .string text, .int .i64 r0, .int .i64 r1, .int .i64 r2, .int .i64 r3, .int .i64 r4, .int .i64 r5, .int .i64 to_, .int .i64 els] 32) = w1 := ⟨_, rfl⟩
  obtain ⟨b12, hb12⟩ : ∃ b12, wr.heap.size = b12 := ⟨_, rfl⟩
  rw [hw1] at HK1 HB1 HBX1 ⊢
  rw [hb12] at HK1 ⊢
  clear hw1 x0 x1 x2 x3 x4 x5 x6 x7 x8 x9 x10 x11 x12 x13 x14
  have k0 := cell_of_heap HK1.out 0 (.int .i64 kd) rfl
  have k6 := cell_of_heap HK1.out 6 (.string text) rfl
  have hl12 := (Array.getElem?_eq_some_iff.1 HK1.out).1
  have u0 := cell_of_heap HBX1.out 0 (.slice F N cF) rfl
  have u1 := cell_of_heap HBX1.out 1 (.slice G M cG) rfl
  have u2 := cell_of_heap HBX1.out 2 (.int .i64 u.top) rfl
  have hlb2 := (Array.getElem?_eq_some_iff.1 HBX1.out).1
  go_wp2_with fail
  refine (HFI.out _ _ (HFU.out.below HB1.out)).mono ?_
  rintro e w2 ⟨rfl, hb2⟩
  dsimp only
  have HK2 := Lib.hid ((hb2.block _ hl12).trans HK1.out)
  have HBX2 := Lib.hid ((hb2.block _ hlb2).trans HBX1.out)
  have HB2 := Lib.hid (HB1.out.trans (hb2.mono HB1.out.size))
  clear hb2 k0 k6 hl12 u0 u1 u2 hlb2 HK1 HBX1 HB1 HFI
  have k0 := cell_of_heap HK2.out 0 (.int .i64 kd) rfl
  have hl12 := (Array.getElem?_eq_some_iff.1 HK2.out).1
  have u0 := cell_of_heap HBX2.out 0 (.slice F N cF) rfl
  have hlb2 := (Array.getElem?_eq_some_iff.1 HBX2.out).1
  by_cases h8 : kd = 8
  case neg =>
    have p1 : (kd != 8) = true := by simpa using h8
    have p2 : decide (kd = 8) = false := by simpa using h8
    have HN0 := Lib.hid (HNO.out h8)
    clear h8
    obtain ⟨z, hz⟩ : ∃ z, findI u.funcs text = z := ⟨_, rfl⟩
    simp only [hz]
    go_wp2_with fail
    exact HQ.out (.exit 1) c r l (Or.inl rfl) (Or.inl ⟨HN0.out, rfl, rfl, rfl⟩) HB2.out
  case pos =>
    obtain ⟨ai, g, hfa, hga, hcase⟩ := HLW.out h8
    subst h8
    have haN : ai < N := by rw [← HN.out]; exact (List.getElem?_eq_some_iff.1 hga).1
    rw [findI_some hfa]
    have HCS := Lib.hid hcase
    have HOK := Lib.hid (HU.out.ok g (List.mem_of_getElem? hga))
    clear HLW HNO hfa hcase HU
    by_cases hak : (ai : Int) = k
    · have p1 : ((ai : Int) == k) = true := by simpa using hak
      have p2 : decide ((ai : Int) = k) = true := by simpa using hak
      have HN0 : Hid (smOf (smTo u.funcs k u.funcs.length) ⟨8, op, dst, a, b', nn, text, r0, r1, r2, r3, r4, r5, to_, els⟩ = none) := Lib.hid (by
        rcases HCS.out with h | h
        · exact absurd hak h.1.1
        · exact h.2)
      clear hak hga
      go_wp2_with fail
      exact HQ.out (.exit 1) c r l (Or.inl rfl) (Or.inl ⟨HN0.out, rfl, rfl, rfl⟩) HB2.out
    · have p1 : ((ai : Int) == k) = false := by simpa using hak
      have p2 : decide ((ai : Int) = k) = false := by simpa using hak
      have HAK := Lib.hid hak
      obtain ⟨fb, fo, Cg, gcap, rfl, hblg, hcg, hrg⟩ := (HFU.out.below HB2.out) ai g hga
      obtain ⟨q0, q1, q2, q3, q4⟩ := fn_cells hcg
      obtain ⟨LG, hLG⟩ : ∃ LG, g.code.length = LG := ⟨_, rfl⟩
      have hsm := fun W hW => rsmall_any g Cg gcap W hW
      simp only [funcAgg] at hsm
      rw [hLG] at q4 hsm
      have HSM := Lib.hid hsm
      have HRG := Lib.hid hrg
      have HLG := Lib.hid hLG
      clear hak hga hcg hrg hsm hLG
      go_wp2_with fail
      refine (HSM.out _ HRG.out).mono ?_
      rintro e w3 ⟨⟨bv, rfl, hbv⟩, hb3⟩
      dsimp only
      have HBV := Lib.hid hbv
      have HB3 := Lib.hid (HB2.out.trans (hb3.mono HB2.out.size))
      cases bv
      case false =>
        have HN0 : Hid (smOf (smTo u.funcs k u.funcs.length) ⟨8, op, dst, a, b', nn, text, r0, r1, r2, r3, r4, r5, to_, els⟩ = none) := Lib.hid (by
          rcases HCS.out with h | h
          · exact absurd (HBV.out.2 h.1.2) (by simp)
          · exact h.2)
        clear hb3 hbv
        go_wp2_with fail
        exact HQ.out (.exit 1) c r l (Or.inl rfl) (Or.inl ⟨HN0.out, rfl, rfl, rfl⟩) HB3.out
      case true =>
        have HSO : Hid (smOf (smTo u.funcs k u.funcs.length) ⟨8, op, dst, a, b', nn, text, r0, r1, r2, r3, r4, r5, to_, els⟩ = some g) := Lib.hid (by
          rcases HCS.out with h | h
          · exact h.2
          · exact absurd ⟨HAK.out, HBV.out.1 rfl⟩ h.1)
        have HK3 := Lib.hid ((hb3.block _ hl12).trans HK2.out)
        have HBX3 := Lib.hid ((hb3.block _ hlb2).trans HBX2.out)
        have HRG3 := Lib.hid (HRG.out.below hb3)
        have s0 := (hb3.cell (World.block_lt_of_cell? _ _ q0)).trans q0
        have s1 := (hb3.cell (World.block_lt_of_cell? _ _ q1)).trans q1
        have s2 := (hb3.cell (World.block_lt_of_cell? _ _ q2)).trans q2
        have s3 := (hb3.cell (World.block_lt_of_cell? _ _ q3)).trans q3
        have s4 := (hb3.cell (World.block_lt_of_cell? _ _ q4)).trans q4
        have hblg3 : fb < w3.heap.size := Nat.lt_of_lt_of_le hblg hb3.size
        have HOK3 := Lib.hid (show 0 ≤ g.R ∧ g.R ≤ 4096 ∧ LG ≤ 8192 ∧ 1 ≤ LG from ⟨by have := HOK.out.R; have := HOK.out.ps; omega, by have := HOK.out.R; omega, by rw [← HLG.out]; exact HOK.out.len.2, by rw [← HLG.out]; exact HOK.out.len.1⟩)
        obtain ⟨v1, v2, v3, v4, v5⟩ := ic_wraps HOK3.out.1 HOK3.out.2.1 HOK3.out.2.2.1 HC0.out HR0.out HL0.out
        clear hb3 hbv q0 q1 q2 q3 q4 hblg k0 hl12 u0 hlb2 HK2 HBX2 HRG HSM HCS HBV HAK
        have u0 := cell_of_heap HBX3.out 0 (.slice (some ⟨fb, fo, none⟩) N cF) rfl
        have hlb2 := (Array.getElem?_eq_some_iff.1 HBX3.out).1
        have HB4 := Lib.hid (HB3.out.trans ((Below.one w3 (.cells #[.string g.nm, .int .i64 g.ps, .int .i64 g.R, .int .i64 g.Fr, .slice Cg LG gcap] 24)).mono HB3.out.size))
        have HRG4 := Lib.hid (HRG3.out.below (Below.one w3 (.cells #[.string g.nm, .int .i64 g.ps, .int .i64 g.R, .int .i64 g.Fr, .slice Cg LG gcap] 24)))
        have HK4 := Lib.hid (alloc_keeps HK3.out (.cells #[.string g.nm, .int .i64 g.ps, .int .i64 g.R, .int .i64 g.Fr, .slice Cg LG gcap] 24))
        have HX4 := Lib.hid (heap_alloc_new w3 (.cells #[.string g.nm, .int .i64 g.ps, .int .i64 g.R, .int .i64 g.Fr, .slice Cg LG gcap] 24))
        go_upto_region 14 with fail
        obtain ⟨w4, hw4⟩ : ∃ w4, w3.alloc (.cells #[.string g.nm, .int .i64 g.ps, .int .i64 g.R, .int .i64 g.Fr, .slice Cg LG gcap] 24) = w4 := ⟨_, rfl⟩
        obtain ⟨b14, hb14⟩ : ∃ b14, w3.heap.size = b14 := ⟨_, rfl⟩
        rw [hw4] at HB4 HRG4 HK4 HX4 ⊢
        rw [hb14] at HX4 ⊢
        clear hw4 hb14 s0 s1 s2 s3 s4 hblg3 u0 hlb2
        have g2 := cell_of_heap HX4.out 2 (.int .i64 g.R) rfl
        have g4 := cell_of_heap HX4.out 4 (.slice Cg LG gcap) rfl
        have hl14 := (Array.getElem?_eq_some_iff.1 HX4.out).1
        go_wp2_with fail
        rw [v3, v4, v5]
        refine ic_loopB ⟨8, op, dst, a, b', nn, text, r0, r1, r2, r3, r4, r5, to_, els⟩ g Cg LG gcap b12 (l + (g.R + (LG : Int) - 1)) w4 HLG.out HOK3.out.2.2.1 HRG4.out ?_ HK4.out _ ?_
        · have h1 := HOK3.out; have h2 := HL0.out; omega
        intros
        rename_i w5 hb5
        (try simp only [Exit.inBlock])
        (try go_wp2_with fail)
        exact HQ.out .normal (c + 1) (r + g.R) _ (Or.inr rfl) (Or.inr ⟨g, HSO.out, rfl, rfl, by rw [HLG.out]⟩) (HB4.out.trans (hb5.mono HB4.out.size))
end Go.Proofs.Ytkcclefonmnpnaa
