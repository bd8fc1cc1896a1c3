import Derived.Test.YthbcdckonaljiaaKb
import Derived.Test.YthbcdckonaljiaaKc
import Derived.Test.YthbcdckonaljiaaKd
import Derived.Test.YthbcdckonaljiaaKg
import Derived.Test.YthbcdckonaljiaaKa
/- FlowStraight: its second loop. -/
namespace Go.Proofs.Ythbcdckonaljiaa
open Go.RowKit Go.BigFrame

set_option maxRecDepth 1000000 in
set_option maxHeartbeats 16000000 in
theorem sloop2_any (l : List B4) (L cap : Nat) (A : Option Addr) (hL : l.length = L) (h20L : L ≤ 20) (hx : ∀ x ∈ l, x.ok) (w w1 : World) (B : Nat) (V0 : Value) (hA : RdB4 w A l) (hS0 : Sg w w1 B V0 (codeS (l.take 0)) (regS (l.take 0))) (hBw : w.heap.size ≤ B)
    (z1 z2 z5 z6 z7 z8 z9 z10 z11 z12 z13 z14 z15 z16 z17 z18 z19 z20 z21 z22 z23 z24 z25 z26 z27 z28 z29 z30 z31 z32 z33 z34 z35 z36 z37 z38 z39 z40 z41 z45 z46 z47 z48 z49 z50 z51 z52 z53 z54 z55 z56 z57 z58 z59 z60 z61 z62 z63 z64 z65 z66 z67 z68 z69 z70 z71 z72 z73 z74 z75 z76 z77 z78 z79 z80 z81 z82 z83 z84 z85 z86 z87 z88 z89 z90 z91 z92 z93 z94 z95 z96 z97 z98 z99 z100 z101 z102 z103 z104 z105 z106 z107 z108 z109 z110 z111 z112 z113 z114 z115 z116 z117 z118 z119 z120 z121 z122 z123 z124 z125 z126 z127 z128 z129 z130 z131 z132 z133 z134 z135 z136 z137 z138 z139 z140 z141 z142 z143 z144 z145 z146 z147 z148 z149 z150 z151 z152 z153 z154 : Value) (Q : Exit → Act → World → Prop)
    (hQ : ∀ (y8 y9 y10 y45 y46 y47 y48 y49 y50 y51 y52 y53 y54 y55 y56 y57 y58 y59 y60 y61 y62 y63 y64 y65 y66 y67 y68 y69 y70 y71 y72 y73 y74 y75 y76 y77 y78 y79 y80 y81 y82 y83 y84 y85 y86 y87 y88 y89 y90 y91 y92 y93 y94 y95 y96 y97 y98 y99 y100 y101 : Value) (w' : World) (V : Value), Sg w w' B V (codeS l) (regS l) → Q (.exit 2) ⟨(.slice A L cap :: z1 :: z2 :: .pointer (some ⟨B, 0, none⟩) :: .pointer (some ⟨B + 1, 0, none⟩) :: z5 :: z6 :: z7 :: y8 :: y9 :: y10 :: z11 :: z12 :: z13 :: z14 :: z15 :: z16 :: z17 :: z18 :: z19 :: z20 :: z21 :: z22 :: z23 :: z24 :: z25 :: z26 :: z27 :: z28 :: z29 :: z30 :: z31 :: z32 :: z33 :: z34 :: z35 :: z36 :: z37 :: z38 :: z39 :: z40 :: z41 :: .slice A L cap :: .int .i64 (L : Int) :: .int .i64 (L : Int) :: y45 :: y46 :: y47 :: y48 :: y49 :: y50 :: y51 :: y52 :: y53 :: y54 :: y55 :: y56 :: y57 :: y58 :: y59 :: y60 :: y61 :: y62 :: y63 :: y64 :: y65 :: y66 :: y67 :: y68 :: y69 :: y70 :: y71 :: y72 :: y73 :: y74 :: y75 :: y76 :: y77 :: y78 :: y79 :: y80 :: y81 :: y82 :: y83 :: y84 :: y85 :: y86 :: y87 :: y88 :: y89 :: y90 :: y91 :: y92 :: y93 :: y94 :: y95 :: y96 :: y97 :: y98 :: y99 :: y100 :: y101 :: z102 :: z103 :: z104 :: z105 :: z106 :: z107 :: z108 :: z109 :: z110 :: z111 :: z112 :: z113 :: z114 :: z115 :: z116 :: z117 :: z118 :: z119 :: z120 :: z121 :: z122 :: z123 :: z124 :: z125 :: z126 :: z127 :: z128 :: z129 :: z130 :: z131 :: z132 :: z133 :: z134 :: z135 :: z136 :: z137 :: z138 :: z139 :: z140 :: z141 :: z142 :: z143 :: z144 :: z145 :: z146 :: z147 :: z148 :: z149 :: z150 :: z151 :: z152 :: z153 :: z154 :: []).toArray, []⟩ w') :
    Code.wp Try.prog sloop2 Q ⟨(.slice A L cap :: z1 :: z2 :: .pointer (some ⟨B, 0, none⟩) :: .pointer (some ⟨B + 1, 0, none⟩) :: z5 :: z6 :: z7 :: z8 :: z9 :: z10 :: z11 :: z12 :: z13 :: z14 :: z15 :: z16 :: z17 :: z18 :: z19 :: z20 :: z21 :: z22 :: z23 :: z24 :: z25 :: z26 :: z27 :: z28 :: z29 :: z30 :: z31 :: z32 :: z33 :: z34 :: z35 :: z36 :: z37 :: z38 :: z39 :: z40 :: z41 :: .slice A L cap :: .int .i64 (L : Int) :: .int .i64 0 :: z45 :: z46 :: z47 :: z48 :: z49 :: z50 :: z51 :: z52 :: z53 :: z54 :: z55 :: z56 :: z57 :: z58 :: z59 :: z60 :: z61 :: z62 :: z63 :: z64 :: z65 :: z66 :: z67 :: z68 :: z69 :: z70 :: z71 :: z72 :: z73 :: z74 :: z75 :: z76 :: z77 :: z78 :: z79 :: z80 :: z81 :: z82 :: z83 :: z84 :: z85 :: z86 :: z87 :: z88 :: z89 :: z90 :: z91 :: z92 :: z93 :: z94 :: z95 :: z96 :: z97 :: z98 :: z99 :: z100 :: z101 :: z102 :: z103 :: z104 :: z105 :: z106 :: z107 :: z108 :: z109 :: z110 :: z111 :: z112 :: z113 :: z114 :: z115 :: z116 :: z117 :: z118 :: z119 :: z120 :: z121 :: z122 :: z123 :: z124 :: z125 :: z126 :: z127 :: z128 :: z129 :: z130 :: z131 :: z132 :: z133 :: z134 :: z135 :: z136 :: z137 :: z138 :: z139 :: z140 :: z141 :: z142 :: z143 :: z144 :: z145 :: z146 :: z147 :: z148 :: z149 :: z150 :: z151 :: z152 :: z153 :: z154 :: []).toArray, []⟩ w1 := by
  conv => arg 2; whnf
  have HL := Lib.hid hL
  have HX := Lib.hid hx
  have HA := Lib.hid hA
  have HQ := Lib.hid hQ
  have HS := Lib.hid hS0
  clear hL hx hA hQ hS0
  go_loopw [44] (fun ix wr => ∃ (k : Nat) (V : Value), k ≤ L ∧ ix = .int .i64 k ∧ Sg w wr B V (codeS (l.take k)) (regS (l.take k))) (fun ix _ => L - (intOf ix).toNat)
  case atStart => exact ⟨0, _, by omega, rfl, HS.out⟩
  case round =>
    obtain ⟨k, V, hk, rfl, hr⟩ := hrel
    clear HS
    by_cases hlt : k < L
    · obtain ⟨x, hx⟩ : ∃ x, l[k]? = some x := ⟨_, List.getElem?_eq_getElem (by rw [HL.out]; exact hlt)⟩
      have hxo := HX.out x (List.mem_of_getElem? hx)
      have htk : l.take (k + 1) = l.take k ++ [x] := by rw [List.take_add_one, hx, Option.toList_some]
      have HRG : Hid (regS (l.take (k + 1)) = stepS (regS (l.take k)) x) := Lib.hid (by rw [htk]; unfold regS; rw [List.foldl_append]; rfl)
      have HCD : Hid (codeS (l.take (k + 1)) = codeS (l.take k) ++ [insS x]) := Lib.hid (by rw [htk]; unfold codeS; rw [List.map_append, ← List.append_assoc]; rfl)
      have hrl : (regS (l.take k)).length = 10 := regS_len _ _ rfl
      have hcl : (codeS (l.take k)).length ≤ 60 := by rw [codeS_len, List.length_take, HL.out]; omega
      obtain ⟨b, o, rfl, hbl, hcs⟩ := (HA.out.below (hr.b.mono hBw)) k x hx
      have c0 : wr.cell? ⟨b, o + k * 4, none⟩ = _ := hcs 0 (by omega)
      have c1 : wr.cell? ⟨b, o + k * 4 + 1, none⟩ = _ := hcs 1 (by omega)
      have c2 : wr.cell? ⟨b, o + k * 4 + 2, none⟩ = _ := hcs 2 (by omega)
      have c3 : wr.cell? ⟨b, o + k * 4 + 3, none⟩ = _ := hcs 3 (by omega)
      obtain ⟨x0, x1, x2, x3⟩ := x
      obtain ⟨⟨h00, h01⟩, ⟨h10, h11⟩, ⟨h20, h21⟩, h30, h31⟩ := hxo
      simp only [b4l, List.getElem?_cons_zero, List.getElem?_cons_succ] at c0 c1 c2 c3 h00 h01 h10 h11 h20 h21 h30 h31
      obtain ⟨m1, hm1⟩ : ∃ m : Nat, x1 % 10 = m := ⟨(x1 % 10).toNat, by omega⟩
      obtain ⟨m2, hm2⟩ : ∃ m : Nat, x2 % 10 = m := ⟨(x2 % 10).toNat, by omega⟩
      obtain ⟨m3, hm3⟩ : ∃ m : Nat, x3 % 10 = m := ⟨(x3 % 10).toNat, by omega⟩
      obtain ⟨op, hop⟩ : ∃ op, opS ⟨x0, x1, x2, x3⟩ = op := ⟨_, rfl⟩
      obtain ⟨dn, hdn⟩ : ∃ dn, (dov op (rgAt (regS (l.take k)) (m2 : Int)) (rgAt (regS (l.take k)) (m3 : Int))).1 = dn := ⟨_, rfl⟩
      have hins : insS ⟨x0, x1, x2, x3⟩ = ⟨3, op, m1, m2, m3, 0, ⟨#[]⟩, 0, 0, 0, 0, 0, 0, 0, -1⟩ := by simp only [insS, hop, hm1, hm2, hm3]
      have hstp : stepS (regS (l.take k)) ⟨x0, x1, x2, x3⟩ = (regS (l.take k)).set m1 dn := by simp only [stepS, hop, hm1, hm2, hm3, hdn, Int.toNat_natCast]
      rw [hins] at HCD
      rw [hstp] at HRG
      generalize regS (l.take k) = rg at *
      generalize codeS (l.take k) = cd at *
      have HR := Lib.hid hr
      have HM := Lib.hid (And.intro hm1 (And.intro hm2 hm3))
      have HOP := Lib.hid hop
      have HDN := Lib.hid hdn
      have hb1 : m1 < 10 := by omega
      have hb2 : m2 < 10 := by omega
      have hb3 : m3 < 10 := by omega
      clear hr hx hcs htk hm1 hm2 hm3 hop hdn hins hstp
      go_upto_region 15 with fail
      rename_i Ko hKo K15 hK15
      refine st_15 x0 x1 x2 x3 b o L cap k wr hlt c0 c1 c2 c3 _ _ _ _ _ _ _ _ _ _ _ _ _ _ _ _ _ _ _ _ _ _ _ _ _ _ _ _ _ _ _ _ _ _ _ _ _ _ _ _ _ _ _ _ _ _ _ _ _ _ _ _ _ _ _ _ _ _ _ _ _ _ _ _ _ _ _ _ _ _ _ _ _ _ _ _ _ _ _ _ _ _ _ _ _ _ _ _ _ _ _ _ _ _ _ _ _ _ _ _ _ _ _ _ _ _ _ _ _ _ _ _ _ _ _ _ _ _ _ _ _ _ _ _ _ _ _ _ _ _ _ _ _ _ _ _ _ _ _ _ _ _ _ _ _ _ _ _ _ _ _ _ _ _ _ ?_
      intro q46 q47
      have hx2 := heap_alloc_new wr (.cells #[.int .u8 x0, .int .u8 x1, .int .u8 x2, .int .u8 x3] 33)
      have hS2 := HR.out.later (Below.one wr (.cells #[.int .u8 x0, .int .u8 x1, .int .u8 x2, .int .u8 x3] 33))
      have hl2 : wr.heap.size < (wr.alloc (.cells #[.int .u8 x0, .int .u8 x1, .int .u8 x2, .int .u8 x3] 33)).heap.size := by simp
      generalize wr.alloc (.cells #[.int .u8 x0, .int .u8 x1, .int .u8 x2, .int .u8 x3] 33) = w2 at *
      refine hK15 _ _ ?_
      refine wp_seq_k (fun K16 hK16 => ?_)
      refine st_16 x0 x1 x2 x3 wr.heap.size w2 h00 h01 hx2 _ _ _ _ _ _ _ _ _ _ _ _ _ _ _ _ _ _ _ _ _ _ _ _ _ _ _ _ _ _ _ _ _ _ _ _ _ _ _ _ _ _ _ _ _ _ _ _ _ _ _ _ _ _ _ _ _ _ _ _ _ _ _ _ _ _ _ _ _ _ _ _ _ _ _ _ _ _ _ _ _ _ _ _ _ _ _ _ _ _ _ _ _ _ _ _ _ _ _ _ _ _ _ _ _ _ _ _ _ _ _ _ _ _ _ _ _ _ _ _ _ _ _ _ _ _ _ _ _ _ _ _ _ _ _ _ _ _ _ _ _ _ _ _ _ _ _ _ _ _ _ _ _ _ _ _ ?_
      intro q48 q49 q50 q51 q52
      refine hK16 _ _ ?_
      refine wp_seq_k (fun K17 hK17 => ?_)
      refine st_17 (1 + x0 % 19) w2 (by omega) (by omega) _ _ _ _ _ _ _ _ _ _ _ _ _ _ _ _ _ _ _ _ _ _ _ _ _ _ _ _ _ _ _ _ _ _ _ _ _ _ _ _ _ _ _ _ _ _ _ _ _ _ _ _ _ _ _ _ _ _ _ _ _ _ _ _ _ _ _ _ _ _ _ _ _ _ _ _ _ _ _ _ _ _ _ _ _ _ _ _ _ _ _ _ _ _ _ _ _ _ _ _ _ _ _ _ _ _ _ _ _ _ _ _ _ _ _ _ _ _ _ _ _ _ _ _ _ _ _ _ _ _ _ _ _ _ _ _ _ _ _ _ _ _ _ _ _ _ _ _ _ _ _ _ _ _ _ _ ?_
      intro q53 q54 q55 q56 q57 q58 q59 q60
      have hop2 : (if 4 ≤ 1 + x0 % 19 ∧ 1 + x0 % 19 ≤ 7 then 1 + x0 % 19 + 4 else 1 + x0 % 19) = op := HOP.out
      rw [hop2]
      refine hK17 _ _ ?_
      refine wp_seq_k (fun K19 hK19 => ?_)
      refine st_19 w2 _ _ _ _ _ _ _ _ _ _ _ _ _ _ _ _ _ _ _ _ _ _ _ _ _ _ _ _ _ _ _ _ _ _ _ _ _ _ _ _ _ _ _ _ _ _ _ _ _ _ _ _ _ _ _ _ _ _ _ _ _ _ _ _ _ _ _ _ _ _ _ _ _ _ _ _ _ _ _ _ _ _ _ _ _ _ _ _ _ _ _ _ _ _ _ _ _ _ _ _ _ _ _ _ _ _ _ _ _ _ _ _ _ _ _ _ _ _ _ _ _ _ _ _ _ _ _ _ _ _ _ _ _ _ _ _ _ _ _ _ _ _ _ _ _ _ _ _ _ _ _ _ _ _ _ _ _ ?_
      intro q61 w3 hb3'
      have hx3 := (hb3'.block _ hl2).trans hx2
      refine hK19 _ _ ?_
      refine wp_seq_k (fun K20 hK20 => ?_)
      have hsz3 := hS2.s
      have hsz4 := hb3'.size
      have hl3 : wr.heap.size < w3.heap.size := by omega
      have hx4 := ((Below.one w3 (.cells #[.int .i64 3, .int .i64 0, .int .i64 (-1), .int .i64 0, .int .i64 0, .int .i64 0, .string ⟨#[]⟩, .int .i64 0, .int .i64 0, .int .i64 0, .int .i64 0, .int .i64 0, .int .i64 0, .int .i64 0, .int .i64 (-1)] 31)).block _ hl3).trans hx3
      refine st_20 x0 x1 x2 x3 op wr.heap.size w3.heap.size (w3.alloc (.cells #[.int .i64 3, .int .i64 0, .int .i64 (-1), .int .i64 0, .int .i64 0, .int .i64 0, .string ⟨#[]⟩, .int .i64 0, .int .i64 0, .int .i64 0, .int .i64 0, .int .i64 0, .int .i64 0, .int .i64 0, .int .i64 (-1)] 31)) h10 h11 h20 h21 h30 h31 (by omega) hx4 (heap_alloc_new w3 _) _ _ _ _ _ _ _ _ _ _ _ _ _ _ _ _ _ _ _ _ _ _ _ _ _ _ _ _ _ _ _ _ _ _ _ _ _ _ _ _ _ _ _ _ _ _ _ _ _ _ _ _ _ _ _ _ _ _ _ _ _ _ _ _ _ _ _ _ _ _ _ _ _ _ _ _ _ _ _ _ _ _ _ _ _ _ _ _ _ _ _ _ _ _ _ _ _ _ _ _ _ _ _ _ _ _ _ _ _ _ _ _ _ _ _ _ _ _ _ _ _ _ _ _ _ _ _ _ _ _ _ _ _ _ _ _ _ _ _ _ _ _ _ _ _ _ _ _ _ _ _ _ _ _ ?_
      intro q62 q63 q64 q65 q66 q67 q68 q69 q70 q71 q72 q73 q74 q75 q76 q77 q78 w4 hb4 kx
      rw [HM.out.1, HM.out.2.1, HM.out.2.2] at kx
      have hS4 := hS2.later ((hb3'.alloc hb3'.size (.cells #[.int .i64 3, .int .i64 0, .int .i64 (-1), .int .i64 0, .int .i64 0, .int .i64 0, .string ⟨#[]⟩, .int .i64 0, .int .i64 0, .int .i64 0, .int .i64 0, .int .i64 0, .int .i64 0, .int .i64 0, .int .i64 (-1)] 31)).trans (hb4.mono hsz4))
      refine hK20 _ _ ?_
      refine wp_seq_k (fun K21 hK21 => ?_)
      refine st_21 op m1 m2 m3 w3.heap.size (B + 1) rg dn w4 hb1 hb2 hb3 hrl hS4.rb kx HDN.out _ _ _ _ _ _ _ _ _ _ _ _ _ _ _ _ _ _ _ _ _ _ _ _ _ _ _ _ _ _ _ _ _ _ _ _ _ _ _ _ _ _ _ _ _ _ _ _ _ _ _ _ _ _ _ _ _ _ _ _ _ _ _ _ _ _ _ _ _ _ _ _ _ _ _ _ _ _ _ _ _ _ _ _ _ _ _ _ _ _ _ _ _ _ _ _ _ _ _ _ _ _ _ _ _ _ _ _ _ _ _ _ _ _ _ _ _ _ _ _ _ _ _ _ _ _ _ _ _ _ _ _ _ _ _ _ _ _ _ _ _ _ _ _ _ _ _ _ _ _ _ _ _ _ ?_
      intro q79 q80 q81 q82 q83 q84 q85 q86 q87 q88 q89 q90 q91 q92 q93 q94 w5 hb5
      have hS5 := (hS4.later hb5).reg m1 dn
      have kx5 := (heap_setCell_other w5 ⟨B + 1, m1, none⟩ w3.heap.size (.int .i64 dn) (by simp only; omega)).trans ((hb5.block _ (Array.getElem?_eq_some_iff.1 kx).1).trans kx)
      refine hK21 _ _ ?_
      refine st_22 ⟨3, op, m1, m2, m3, 0, ⟨#[]⟩, 0, 0, 0, 0, 0, 0, 0, -1⟩ w3.heap.size B V cd (rg.set m1 dn) w _ hS5 hcl kx5 _ _ _ _ _ _ _ _ _ _ _ _ _ _ _ _ _ _ _ _ _ _ _ _ _ _ _ _ _ _ _ _ _ _ _ _ _ _ _ _ _ _ _ _ _ _ _ _ _ _ _ _ _ _ _ _ _ _ _ _ _ _ _ _ _ _ _ _ _ _ _ _ _ _ _ _ _ _ _ _ _ _ _ _ _ _ _ _ _ _ _ _ _ _ _ _ _ _ _ _ _ _ _ _ _ _ _ _ _ _ _ _ _ _ _ _ _ _ _ _ _ _ _ _ _ _ _ _ _ _ _ _ _ _ _ _ _ _ _ _ _ _ _ _ _ _ _ _ _ _ _ _ _ _ ?_
      intro q95 q96 q97 q98 q99 q100 w6 V6 hS6
      rw [← HCD.out, ← HRG.out] at hS6
      have HS6 := Lib.hid hS6
      clear hS6 hS5 hS4 hS2 kx kx5 hx2 hx3 c0 c1 c2 c3
      refine hKo _ _ ?_
      go_wp2
      exact ⟨⟨k + 1, _, by omega, by go_num, HS6.out⟩, by simp [intOf]; omega⟩
    · obtain rfl : k = L := by omega
      have HF : Hid (Sg w wr B V (codeS l) (regS l)) := Lib.hid (by have h := hr; rw [List.take_of_length_le (by rw [HL.out]; exact Nat.le_refl _)] at h; exact h)
      clear hr
      go_wp2
      exact HQ.out _ _ _ _ _ _ _ _ _ _ _ _ _ _ _ _ _ _ _ _ _ _ _ _ _ _ _ _ _ _ _ _ _ _ _ _ _ _ _ _ _ _ _ _ _ _ _ _ _ _ _ _ _ _ _ _ _ _ _ _ wr V HF.out
end Go.Proofs.Ythbcdckonaljiaa
