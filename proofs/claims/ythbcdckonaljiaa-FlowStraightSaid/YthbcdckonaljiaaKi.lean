import Derived.Test.YthbcdckonaljiaaZg
import Derived.Test.YthbcdckonaljiaaKa
/- FlowStraight: its third loop. -/
namespace Go.Proofs.Ythbcdckonaljiaa
open Go.RowKit Go.BigFrame

theorem knl_get {rg : List Int} {k : Nat} (hk : k < rg.length) : (knl rg)[k]? = some ⟨1, rgAt rg (k : Int)⟩ := by
  unfold knl rgAt
  rw [List.getElem?_map, List.getElem?_eq_getElem hk]
  simp [List.getD, hk]
theorem below_dns {B : Nat} {a w : World} (h : Below B a w) (q : Nat) : Below B a (w.drewN q) := ⟨h.os, h.tape, h.output, h.size, h.block⟩
set_option maxRecDepth 1000000 in
set_option maxHeartbeats 16000000 in
theorem sloop3_any (M ob rb pb : Nat) (rg : List Int) (w : World) (hrl : rg.length = 10) (hM : M ≤ 100) (hR : RgB4 w rb rg) (hrow : w.cell? ⟨ob, M, none⟩ = some (.slice (some ⟨pb, 0, none⟩) 10 10)) (hV : PreV w pb (knl rg))
    (z0 z1 z2 z3 z5 z6 z7 z8 z9 z10 z12 z13 z14 z15 z16 z17 z18 z19 z20 z21 z22 z23 z24 z25 z26 z27 z28 z29 z30 z31 z32 z33 z34 z35 z36 z37 z38 z39 z40 z41 z42 z43 z44 z45 z46 z47 z48 z49 z50 z51 z52 z53 z54 z55 z56 z57 z58 z59 z60 z61 z62 z63 z64 z65 z66 z67 z68 z69 z70 z71 z72 z73 z74 z75 z76 z77 z78 z79 z80 z81 z82 z83 z84 z85 z86 z87 z88 z89 z90 z91 z92 z93 z94 z95 z96 z97 z98 z99 z100 z101 z102 z103 z104 z105 z106 z107 z108 z109 z110 z111 z112 z113 z114 z115 z116 z117 z118 z119 z120 z121 z122 z123 z124 z125 z126 z127 z128 z129 z130 z131 z132 z133 z134 z135 z137 z138 z139 z140 z141 z142 z143 z144 z145 z146 z147 z148 z149 z150 z151 z152 z153 z154 : Value) (Q : Exit → Act → World → Prop)
    (hQ : ∀ (y2 y14 y137 y138 y139 y140 y141 y142 y143 y144 y145 y146 y147 y148 y149 y150 y151 y152 y153 : Value) (w' : World), Below w.heap.size w w' → Q (.exit 4) ⟨(z0 :: z1 :: y2 :: z3 :: .pointer (some ⟨rb, 0, none⟩) :: z5 :: z6 :: z7 :: z8 :: z9 :: z10 :: .slice (some ⟨ob, 0, none⟩) (M + 1) (M + 1) :: z12 :: z13 :: y14 :: z15 :: z16 :: z17 :: z18 :: z19 :: z20 :: z21 :: z22 :: z23 :: z24 :: z25 :: z26 :: z27 :: z28 :: z29 :: z30 :: z31 :: z32 :: z33 :: z34 :: z35 :: z36 :: z37 :: z38 :: z39 :: z40 :: z41 :: z42 :: z43 :: z44 :: z45 :: z46 :: z47 :: z48 :: z49 :: z50 :: z51 :: z52 :: z53 :: z54 :: z55 :: z56 :: z57 :: z58 :: z59 :: z60 :: z61 :: z62 :: z63 :: z64 :: z65 :: z66 :: z67 :: z68 :: z69 :: z70 :: z71 :: z72 :: z73 :: z74 :: z75 :: z76 :: z77 :: z78 :: z79 :: z80 :: z81 :: z82 :: z83 :: z84 :: z85 :: z86 :: z87 :: z88 :: z89 :: z90 :: z91 :: z92 :: z93 :: z94 :: z95 :: z96 :: z97 :: z98 :: z99 :: z100 :: z101 :: z102 :: z103 :: z104 :: z105 :: z106 :: z107 :: z108 :: z109 :: z110 :: z111 :: z112 :: z113 :: z114 :: z115 :: z116 :: z117 :: z118 :: z119 :: z120 :: z121 :: z122 :: z123 :: z124 :: z125 :: z126 :: z127 :: z128 :: z129 :: z130 :: z131 :: z132 :: z133 :: z134 :: z135 :: .int .i64 10 :: y137 :: y138 :: y139 :: y140 :: y141 :: y142 :: y143 :: y144 :: y145 :: y146 :: y147 :: y148 :: y149 :: y150 :: y151 :: y152 :: y153 :: z154 :: []).toArray, []⟩ w') :
    Code.wp Try.prog sloop3 Q ⟨(z0 :: z1 :: z2 :: z3 :: .pointer (some ⟨rb, 0, none⟩) :: z5 :: z6 :: z7 :: z8 :: z9 :: z10 :: .slice (some ⟨ob, 0, none⟩) (M + 1) (M + 1) :: z12 :: z13 :: z14 :: z15 :: z16 :: z17 :: z18 :: z19 :: z20 :: z21 :: z22 :: z23 :: z24 :: z25 :: z26 :: z27 :: z28 :: z29 :: z30 :: z31 :: z32 :: z33 :: z34 :: z35 :: z36 :: z37 :: z38 :: z39 :: z40 :: z41 :: z42 :: z43 :: z44 :: z45 :: z46 :: z47 :: z48 :: z49 :: z50 :: z51 :: z52 :: z53 :: z54 :: z55 :: z56 :: z57 :: z58 :: z59 :: z60 :: z61 :: z62 :: z63 :: z64 :: z65 :: z66 :: z67 :: z68 :: z69 :: z70 :: z71 :: z72 :: z73 :: z74 :: z75 :: z76 :: z77 :: z78 :: z79 :: z80 :: z81 :: z82 :: z83 :: z84 :: z85 :: z86 :: z87 :: z88 :: z89 :: z90 :: z91 :: z92 :: z93 :: z94 :: z95 :: z96 :: z97 :: z98 :: z99 :: z100 :: z101 :: z102 :: z103 :: z104 :: z105 :: z106 :: z107 :: z108 :: z109 :: z110 :: z111 :: z112 :: z113 :: z114 :: z115 :: z116 :: z117 :: z118 :: z119 :: z120 :: z121 :: z122 :: z123 :: z124 :: z125 :: z126 :: z127 :: z128 :: z129 :: z130 :: z131 :: z132 :: z133 :: z134 :: z135 :: .int .i64 0 :: z137 :: z138 :: z139 :: z140 :: z141 :: z142 :: z143 :: z144 :: z145 :: z146 :: z147 :: z148 :: z149 :: z150 :: z151 :: z152 :: z153 :: z154 :: []).toArray, []⟩ w := by
  conv => arg 2; whnf
  have HQ := Lib.hid hQ
  have HR := Lib.hid hR
  have HV := Lib.hid hV
  have HROW := Lib.hid hrow
  have hrbl := (Array.getElem?_eq_some_iff.1 hR).1
  have hobl := World.block_lt_of_cell? _ _ hrow
  clear hQ hR hV hrow
  go_loopw [136] (fun ix wr => ∃ k : Nat, k ≤ 10 ∧ ix = .int .i64 k ∧ Below w.heap.size w wr) (fun ix _ => 10 - (intOf ix).toNat)
  case atStart => exact ⟨0, by omega, rfl, Below.refl _ _⟩
  case round =>
    obtain ⟨k, hk, rfl, hb⟩ := hrel
    have HB := Lib.hid hb
    by_cases hlt : k < 10
    · have e1 := (hb.cell (p := ⟨rb, k, none⟩) hrbl).trans (HR.out.cell (j := k) (by omega))
      have e0 := (hb.cell (p := ⟨ob, M, none⟩) hobl).trans HROW.out
      obtain ⟨p0, p1⟩ := PreV.cells (Pre.later HV.out hb) (knl_get (k := k) (by omega))
      generalize rgAt rg (k : Int) = r at *
      have hne := fun W => neq_val ⟨1, r⟩ ⟨1, r⟩ W
      simp only [Vl.agg, decide_true, Bool.not_true] at hne p0 p1
      have hki : (k : Int) < 10 := by omega
      clear hb
      go_upto_region 32 with fail
      go_quiet (fail)
      go_wp2
      exact ⟨⟨k + 1, by omega, by go_num, by first | exact HB.out | exact below_dns HB.out _⟩, by simp [intOf]; omega⟩
    · obtain rfl : k = 10 := by omega
      clear hb
      go_wp2
      exact HQ.out _ _ _ _ _ _ _ _ _ _ _ _ _ _ _ _ _ _ _ wr HB.out
end Go.Proofs.Ythbcdckonaljiaa
