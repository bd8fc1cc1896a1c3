import Derived.Test.YthbcdckonaljiaaKa
/- FlowStraight: the last instruction. -/
namespace Go.Proofs.Ythbcdckonaljiaa
open Go.RowKit Go.BigFrame

theorem step_append_ran {P : Program} {ops : Array Oper} {o : Oper} {a : Act} {w w' : World} {K : Act → World → Prop} {Q : Exit → Act → World → Prop} {E : Prop} {t u : TypeId} {vs vx V : Value} (hw : Region.wanted o (yielded ops a.tmps) = true) (s x : Operand)
    (ho : o.op = .call { callee := .builtin .append, args := #[s, x], argTypes := #[t, u] }) (hs : a.eval s = vs) (hx : a.eval x = vx) (hr : (Builtin.append_ #[t, u] o.type #[vs, vx]).run P w = .ok V w') (h : K (a.put o.dst V) w') :
    if Region.wanted o (yielded ops a.tmps) = true then Oper.wp P o a w K Q else E := by
  rw [if_pos hw]
  unfold Oper.wp execOp
  simp only [ho, resolve, invoke, builtin, Sem.run_bind, Sem.run_pure, Result.andThen_ok, List.map_toArray, List.map_cons, List.map_nil, hs, hx, hr]
  exact h
set_option maxRecDepth 1000000 in
set_option maxHeartbeats 16000000 in
theorem st_24 (B : Nat) (V : Value) (cd : List Ins) (rg : List Int) (w wq : World) (hS : Sg w wq B V cd rg) (hcl : cd.length ≤ 60)
    (z0 z1 z2 z4 z5 z6 z7 z8 z9 z10 z11 z12 z13 z14 z15 z16 z17 z18 z19 z20 z21 z22 z23 z24 z25 z26 z27 z28 z29 z30 z31 z32 z33 z34 z35 z36 z37 z38 z39 z40 z41 z42 z43 z44 z45 z46 z47 z48 z49 z50 z51 z52 z53 z54 z55 z56 z57 z58 z59 z60 z61 z62 z63 z64 z65 z66 z67 z68 z69 z70 z71 z72 z73 z74 z75 z76 z77 z78 z79 z80 z81 z82 z83 z84 z85 z86 z87 z88 z89 z90 z91 z92 z93 z94 z95 z96 z97 z98 z99 z100 z101 z102 z103 z104 z105 z106 z107 z108 z109 z110 z111 z112 z113 z114 z115 z116 z117 z118 z119 z120 z121 z122 z123 z124 z125 z126 z127 z128 z129 z130 z131 z132 z133 z134 z135 z136 z137 z138 z139 z140 z141 z142 z143 z144 z145 z146 z147 z148 z149 z150 z151 z152 z153 z154 : Value) (K : Act → World → Prop) (Q : Exit → Act → World → Prop)
    (hK : ∀ (y102 y103 y104 y105 y106 y107 : Value) (w' : World) (g cp : Nat), Sg w w' B (.slice (some ⟨g, 0, none⟩) (cd.length + 1) cp) (cd ++ [retS]) rg → PreI w' g (cd ++ [retS]) → K ⟨(z0 :: z1 :: z2 :: .pointer (some ⟨B, 0, none⟩) :: z4 :: z5 :: z6 :: z7 :: z8 :: z9 :: z10 :: z11 :: z12 :: z13 :: z14 :: z15 :: z16 :: z17 :: z18 :: z19 :: z20 :: z21 :: z22 :: z23 :: z24 :: z25 :: z26 :: z27 :: z28 :: z29 :: z30 :: z31 :: z32 :: z33 :: z34 :: z35 :: z36 :: z37 :: z38 :: z39 :: z40 :: z41 :: z42 :: z43 :: z44 :: z45 :: z46 :: z47 :: z48 :: z49 :: z50 :: z51 :: z52 :: z53 :: z54 :: z55 :: z56 :: z57 :: z58 :: z59 :: z60 :: z61 :: z62 :: z63 :: z64 :: z65 :: z66 :: z67 :: z68 :: z69 :: z70 :: z71 :: z72 :: z73 :: z74 :: z75 :: z76 :: z77 :: z78 :: z79 :: z80 :: z81 :: z82 :: z83 :: z84 :: z85 :: z86 :: z87 :: z88 :: z89 :: z90 :: z91 :: z92 :: z93 :: z94 :: z95 :: z96 :: z97 :: z98 :: z99 :: z100 :: z101 :: y102 :: y103 :: y104 :: y105 :: y106 :: y107 :: z108 :: z109 :: z110 :: z111 :: z112 :: z113 :: z114 :: z115 :: z116 :: z117 :: z118 :: z119 :: z120 :: z121 :: z122 :: z123 :: z124 :: z125 :: z126 :: z127 :: z128 :: z129 :: z130 :: z131 :: z132 :: z133 :: z134 :: z135 :: z136 :: z137 :: z138 :: z139 :: z140 :: z141 :: z142 :: z143 :: z144 :: z145 :: z146 :: z147 :: z148 :: z149 :: z150 :: z151 :: z152 :: z153 :: z154 :: []).toArray, []⟩ w') :
    Code.wp Try.prog ((seqNs ((Try.f3.body).getD .skip) 6)) (Exit.then K Q) ⟨(z0 :: z1 :: z2 :: .pointer (some ⟨B, 0, none⟩) :: z4 :: z5 :: z6 :: z7 :: z8 :: z9 :: z10 :: z11 :: z12 :: z13 :: z14 :: z15 :: z16 :: z17 :: z18 :: z19 :: z20 :: z21 :: z22 :: z23 :: z24 :: z25 :: z26 :: z27 :: z28 :: z29 :: z30 :: z31 :: z32 :: z33 :: z34 :: z35 :: z36 :: z37 :: z38 :: z39 :: z40 :: z41 :: z42 :: z43 :: z44 :: z45 :: z46 :: z47 :: z48 :: z49 :: z50 :: z51 :: z52 :: z53 :: z54 :: z55 :: z56 :: z57 :: z58 :: z59 :: z60 :: z61 :: z62 :: z63 :: z64 :: z65 :: z66 :: z67 :: z68 :: z69 :: z70 :: z71 :: z72 :: z73 :: z74 :: z75 :: z76 :: z77 :: z78 :: z79 :: z80 :: z81 :: z82 :: z83 :: z84 :: z85 :: z86 :: z87 :: z88 :: z89 :: z90 :: z91 :: z92 :: z93 :: z94 :: z95 :: z96 :: z97 :: z98 :: z99 :: z100 :: z101 :: z102 :: z103 :: z104 :: z105 :: z106 :: z107 :: z108 :: z109 :: z110 :: z111 :: z112 :: z113 :: z114 :: z115 :: z116 :: z117 :: z118 :: z119 :: z120 :: z121 :: z122 :: z123 :: z124 :: z125 :: z126 :: z127 :: z128 :: z129 :: z130 :: z131 :: z132 :: z133 :: z134 :: z135 :: z136 :: z137 :: z138 :: z139 :: z140 :: z141 :: z142 :: z143 :: z144 :: z145 :: z146 :: z147 :: z148 :: z149 :: z150 :: z151 :: z152 :: z153 :: z154 :: []).toArray, []⟩ wq := by
  conv => arg 2; whnf
  have HK := Lib.hid hK
  have hpla := fun k W => Plain_any k W
  simp only [Ins.agg] at hpla
  have HPL := Lib.hid hpla
  have v4 := cell_of_heap hS.fb 4 V rfl
  have hBs : B < wq.heap.size := by have := hS.s; omega
  have HS := Lib.hid hS
  clear hK hpla hS
  refine wp_region_noPanic ?_
  go_region_law (first
    | (go_simp; refine (HPL.out _ _).mono ?_; rintro e w3 ⟨rfl, hb3⟩; have hB3 := ((Below.refl wq.heap.size wq).drew).trans hb3; have hS3 := HS.out.later hB3; have u4 := cell_of_heap hS3.fb 4 V rfl; have hBs3 : B < w3.heap.size := (by have := hS3.s; omega); obtain ⟨V', W', hap, hO, hg, gb, cp, rfl, hgB, hP⟩ := append_ins1 hS3.own retS (by omega) hS3.s 3; have hV := hS3.own.base; have e0 := hS3.fb_app hg hV; have g4 := cell_of_heap e0 4 V rfl; have ff4 := free_of_heap e0 4; have HS4 := Lib.hid (hS3.app (Below.one _ _) hO hg hV); have HP := Lib.hid (Pre.other (a := ⟨B, 4, none⟩) hP (by simp only; omega) (.slice (some ⟨gb, 0, none⟩) (cd.length + 1) cp)); simp only [Ins.l] at hap; have HAP := Lib.hid hap; clear hS3 hO hg e0 hV hP hap hb3)
    | (refine step_append_ran rfl (.tmp 103) (.tmp 105) rfl rfl rfl HAP.out ?_))
  all_goals
    refine NoPanic.normal ?_
    go_wp2_with fail
    exact HK.out _ _ _ _ _ _ _ gb cp HS4.out HP.out
end Go.Proofs.Ythbcdckonaljiaa
