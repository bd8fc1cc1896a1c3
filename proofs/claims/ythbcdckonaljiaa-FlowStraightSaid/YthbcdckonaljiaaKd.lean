import Derived.Test.YthbcdckonaljiaaKa
/- FlowStraight: statement 22 of the second loop. -/
namespace Go.Proofs.Ythbcdckonaljiaa
open Go.RowKit Go.BigFrame

set_option maxRecDepth 1000000 in
set_option maxHeartbeats 16000000 in
theorem st_22 (i : Ins) (ib B : Nat) (V : Value) (cd : List Ins) (rg : List Int) (w wq : World) (hS : Sg w wq B V cd rg) (hcl : cd.length ≤ 60) (hx : wq.heap[ib]? = some (.cells i.l.toArray 31))
    (z0 z1 z2 z4 z5 z6 z7 z8 z9 z11 z12 z13 z14 z15 z16 z17 z18 z19 z20 z21 z22 z23 z24 z25 z26 z27 z28 z29 z30 z31 z32 z33 z34 z35 z36 z37 z38 z39 z40 z41 z42 z43 z44 z45 z46 z47 z48 z49 z50 z51 z52 z53 z54 z55 z56 z57 z58 z59 z60 z61 z62 z63 z64 z65 z66 z67 z68 z69 z70 z71 z72 z73 z74 z75 z76 z77 z78 z79 z80 z81 z82 z83 z84 z85 z86 z87 z88 z89 z90 z91 z92 z93 z94 z95 z96 z97 z98 z99 z100 z101 z102 z103 z104 z105 z106 z107 z108 z109 z110 z111 z112 z113 z114 z115 z116 z117 z118 z119 z120 z121 z122 z123 z124 z125 z126 z127 z128 z129 z130 z131 z132 z133 z134 z135 z136 z137 z138 z139 z140 z141 z142 z143 z144 z145 z146 z147 z148 z149 z150 z151 z152 z153 z154 : Value) (Q : Exit → Act → World → Prop)
    (hK : ∀ (y95 y96 y97 y98 y99 y100 : Value) (w' : World) (V' : Value), Sg w w' B V' (cd ++ [i]) rg → Q .normal ⟨(z0 :: z1 :: z2 :: .pointer (some ⟨B, 0, none⟩) :: z4 :: z5 :: z6 :: z7 :: z8 :: z9 :: .pointer (some ⟨ib, 0, none⟩) :: z11 :: z12 :: z13 :: z14 :: z15 :: z16 :: z17 :: z18 :: z19 :: z20 :: z21 :: z22 :: z23 :: z24 :: z25 :: z26 :: z27 :: z28 :: z29 :: z30 :: z31 :: z32 :: z33 :: z34 :: z35 :: z36 :: z37 :: z38 :: z39 :: z40 :: z41 :: z42 :: z43 :: z44 :: z45 :: z46 :: z47 :: z48 :: z49 :: z50 :: z51 :: z52 :: z53 :: z54 :: z55 :: z56 :: z57 :: z58 :: z59 :: z60 :: z61 :: z62 :: z63 :: z64 :: z65 :: z66 :: z67 :: z68 :: z69 :: z70 :: z71 :: z72 :: z73 :: z74 :: z75 :: z76 :: z77 :: z78 :: z79 :: z80 :: z81 :: z82 :: z83 :: z84 :: z85 :: z86 :: z87 :: z88 :: z89 :: z90 :: z91 :: z92 :: z93 :: z94 :: y95 :: y96 :: y97 :: y98 :: y99 :: y100 :: z101 :: z102 :: z103 :: z104 :: z105 :: z106 :: z107 :: z108 :: z109 :: z110 :: z111 :: z112 :: z113 :: z114 :: z115 :: z116 :: z117 :: z118 :: z119 :: z120 :: z121 :: z122 :: z123 :: z124 :: z125 :: z126 :: z127 :: z128 :: z129 :: z130 :: z131 :: z132 :: z133 :: z134 :: z135 :: z136 :: z137 :: z138 :: z139 :: z140 :: z141 :: z142 :: z143 :: z144 :: z145 :: z146 :: z147 :: z148 :: z149 :: z150 :: z151 :: z152 :: z153 :: z154 :: []).toArray, []⟩ w') :
    Code.wp Try.prog (seqNs sbody 6) Q ⟨(z0 :: z1 :: z2 :: .pointer (some ⟨B, 0, none⟩) :: z4 :: z5 :: z6 :: z7 :: z8 :: z9 :: .pointer (some ⟨ib, 0, none⟩) :: z11 :: z12 :: z13 :: z14 :: z15 :: z16 :: z17 :: z18 :: z19 :: z20 :: z21 :: z22 :: z23 :: z24 :: z25 :: z26 :: z27 :: z28 :: z29 :: z30 :: z31 :: z32 :: z33 :: z34 :: z35 :: z36 :: z37 :: z38 :: z39 :: z40 :: z41 :: z42 :: z43 :: z44 :: z45 :: z46 :: z47 :: z48 :: z49 :: z50 :: z51 :: z52 :: z53 :: z54 :: z55 :: z56 :: z57 :: z58 :: z59 :: z60 :: z61 :: z62 :: z63 :: z64 :: z65 :: z66 :: z67 :: z68 :: z69 :: z70 :: z71 :: z72 :: z73 :: z74 :: z75 :: z76 :: z77 :: z78 :: z79 :: z80 :: z81 :: z82 :: z83 :: z84 :: z85 :: z86 :: z87 :: z88 :: z89 :: z90 :: z91 :: z92 :: z93 :: z94 :: z95 :: z96 :: z97 :: z98 :: z99 :: z100 :: z101 :: z102 :: z103 :: z104 :: z105 :: z106 :: z107 :: z108 :: z109 :: z110 :: z111 :: z112 :: z113 :: z114 :: z115 :: z116 :: z117 :: z118 :: z119 :: z120 :: z121 :: z122 :: z123 :: z124 :: z125 :: z126 :: z127 :: z128 :: z129 :: z130 :: z131 :: z132 :: z133 :: z134 :: z135 :: z136 :: z137 :: z138 :: z139 :: z140 :: z141 :: z142 :: z143 :: z144 :: z145 :: z146 :: z147 :: z148 :: z149 :: z150 :: z151 :: z152 :: z153 :: z154 :: []).toArray, []⟩ wq := by
  conv => arg 2; whnf
  have HK := Lib.hid hK
  have kx := hx
  have ⟨d0, d1, d2, d3, d4, d5, d6, d7, d8, d9, d10, d11, d12, d13, d14⟩ := Ins.cells (i := i) kx
  have hxl := (Array.getElem?_eq_some_iff.1 kx).1
  have v4 := cell_of_heap hS.fb 4 V rfl
  have hins := append_ins1 hS.own i (by omega) hS.s 3
  obtain ⟨c, hc⟩ : ∃ c, cd.length = c := ⟨_, rfl⟩
  rw [hc] at hins hcl
  have hform : ∃ A n, V = .slice A c n := by
    have h := hS.own
    unfold OwnI at h
    rw [hc] at h
    obtain ⟨_, h2⟩ := h
    rcases h2 with ⟨rfl, hn⟩ | ⟨g, cp, cur, rfl, _⟩
    · exact ⟨none, 0, by rw [hn]⟩
    · exact ⟨_, _, rfl⟩
  obtain ⟨V', W', hap, hO, hg, gb, cp, rfl, _, _⟩ := hins
  have hV := hS.own.base
  have e0 := hS.fb_app hg hV
  have g4 := cell_of_heap e0 4 V rfl
  have ff4 := free_of_heap e0 4
  have HS4 := Lib.hid (hS.app (Below.one _ _) hO hg hV)
  have hBl := hS.s
  have hBs : B < wq.heap.size := by omega
  obtain ⟨kk, op, dst, a, b', nn, text, r0, r1, r2, r3, r4, r5, to_, els⟩ := i
  simp only [Ins.l] at hap d0 d1 d2 d3 d4 d5 d6 d7 d8 d9 d10 d11 d12 d13 d14
  clear hS hO hg e0 hV kx hx hK hform
  go_wp2_with (first
    | (refine append_ran (o := ⟨some 99, _, _, _, _, _⟩) rfl (.tmp 96) (.tmp 98) rfl rfl rfl hap ?_))
  exact HK.out _ _ _ _ _ _ _ _ HS4.out
end Go.Proofs.Ythbcdckonaljiaa
