import Derived.Test.YthbcdckonaljiaaQb
namespace Go.Proofs.Ythbcdckonaljiaa
open Go.RowKit Go.BigFrame

noncomputable def smU : Code := ((((Try.f86.body).map loopsOf).getD [])[1]?).getD .skip
noncomputable def smV : Code := ((((Try.f86.body).map loopsOf).getD [])[3]?).getD .skip
set_option maxRecDepth 1000000 in
set_option maxHeartbeats 16000000 in
theorem smU_any (l : List Int) (ob N cap a i0 : Nat) (hl : l.length = N) (ha : a < i0) (hi : i0 ≤ N) (hN : N ≤ 100000) (w : World) (hP : PC w ob l)
    (z1 z2 z3 z4 z5 z6 z7 z8 z9 z11 z12 z14 z15 z16 z17 z18 z19 z20 z21 z22 z23 z24 z25 z26 z27 z28 z29 z30 z31 z32 z33 z34 z35 z36 z37 z38 z39 z40 z41 z42 z43 z44 z45 z46 z47 z48 z49 z50 z51 z52 z53 z54 z55 z56 z57 z58 z59 z60 z61 z62 z63 z64 z65 z66 z67 z68 z69 z70 z71 z72 z73 z74 z75 z76 z77 z78 z79 z80 z81 z82 z83 z84 z85 z86 z87 z88 z89 z90 z91 z92 z93 z94 z95 z96 z97 z98 z99 z100 z101 z102 z103 z104 z105 z106 z107 z108 z109 z110 z111 z112 z113 z114 z115 z116 z117 z118 z119 z120 z121 z122 z123 z124 z125 z126 z127 z128 z129 z130 z131 z132 z133 z134 z135 z136 z137 z138 z139 z140 z141 z142 z143 z144 z145 z146 z147 z148 z149 z150 z151 z152 z153 z154 z155 z156 z157 z158 z159 z160 z161 z162 z163 z164 z165 z166 z167 z168 z169 z170 z171 z172 z173 z174 z175 z176 z177 z178 z179 z180 z181 z182 z183 z184 z185 z186 z187 z188 z189 z190 z191 z192 z193 z194 z195 z196 z197 z198 z199 z200 z201 z202 z203 z204 z205 z206 z207 z208 z209 z210 z211 z212 z213 z214 z215 z216 z217 z218 z219 : Value) (Q : Exit → Act → World → Prop)
    (hQ : ∀ (y13 y55 y56 y57 y58 y59 y60 y61 y62 y63 y64 y65 y66 y67 y68 y69 y70 y71 y72 y73 y74 y75 y76 : Value) (w' : World), PC w' ob (upS l a (i0 - 1 - a)) → OnlyC w w' ob → Q (.exit 2) ⟨(.slice (some ⟨ob, 0, none⟩) N cap::z1::z2::z3::z4::z5::z6::z7::z8::z9::.int .i64 (i0 : Int)::z11::z12::y13::z14::z15::z16::z17::z18::z19::z20::z21::z22::z23::z24::z25::z26::z27::z28::z29::z30::z31::z32::z33::z34::z35::z36::z37::z38::z39::z40::z41::z42::z43::z44::z45::z46::z47::z48::z49::z50::z51::z52::z53::z54::y55::y56::y57::y58::y59::y60::y61::y62::y63::y64::y65::y66::y67::y68::y69::y70::y71::y72::y73::y74::y75::y76::z77::z78::z79::z80::z81::z82::z83::z84::z85::z86::z87::z88::z89::z90::z91::z92::z93::z94::z95::z96::z97::z98::z99::z100::z101::z102::z103::z104::z105::z106::z107::z108::z109::z110::z111::z112::z113::z114::z115::z116::z117::z118::z119::z120::z121::z122::z123::z124::z125::z126::z127::z128::z129::z130::z131::z132::z133::z134::z135::z136::z137::z138::z139::z140::z141::z142::z143::z144::z145::z146::z147::z148::z149::z150::z151::z152::z153::z154::z155::z156::z157::z158::z159::z160::z161::z162::z163::z164::z165::z166::z167::z168::z169::z170::z171::z172::z173::z174::z175::z176::z177::z178::z179::z180::z181::z182::z183::z184::z185::z186::z187::z188::z189::z190::z191::z192::z193::z194::z195::z196::z197::z198::z199::z200::z201::z202::z203::z204::z205::z206::z207::z208::z209::z210::z211::z212::z213::z214::z215::z216::z217::z218::z219::[]).toArray, []⟩ w') :
    Code.wp Try.prog smU Q ⟨(.slice (some ⟨ob, 0, none⟩) N cap::z1::z2::z3::z4::z5::z6::z7::z8::z9::.int .i64 (i0 : Int)::z11::z12::.int .i64 (a : Int)::z14::z15::z16::z17::z18::z19::z20::z21::z22::z23::z24::z25::z26::z27::z28::z29::z30::z31::z32::z33::z34::z35::z36::z37::z38::z39::z40::z41::z42::z43::z44::z45::z46::z47::z48::z49::z50::z51::z52::z53::z54::z55::z56::z57::z58::z59::z60::z61::z62::z63::z64::z65::z66::z67::z68::z69::z70::z71::z72::z73::z74::z75::z76::z77::z78::z79::z80::z81::z82::z83::z84::z85::z86::z87::z88::z89::z90::z91::z92::z93::z94::z95::z96::z97::z98::z99::z100::z101::z102::z103::z104::z105::z106::z107::z108::z109::z110::z111::z112::z113::z114::z115::z116::z117::z118::z119::z120::z121::z122::z123::z124::z125::z126::z127::z128::z129::z130::z131::z132::z133::z134::z135::z136::z137::z138::z139::z140::z141::z142::z143::z144::z145::z146::z147::z148::z149::z150::z151::z152::z153::z154::z155::z156::z157::z158::z159::z160::z161::z162::z163::z164::z165::z166::z167::z168::z169::z170::z171::z172::z173::z174::z175::z176::z177::z178::z179::z180::z181::z182::z183::z184::z185::z186::z187::z188::z189::z190::z191::z192::z193::z194::z195::z196::z197::z198::z199::z200::z201::z202::z203::z204::z205::z206::z207::z208::z209::z210::z211::z212::z213::z214::z215::z216::z217::z218::z219::[]).toArray, []⟩ w := by
  conv => arg 2; whnf
  have HQ := Lib.hid hQ
  have HP := Lib.hid hP
  have HL := Lib.hid hl
  clear hQ hP hl
  go_loopw [13] (fun vk wr => ∃ d p : Nat, vk = .int .i64 p ∧ p = a + d ∧ p + 1 ≤ i0 ∧ PC wr ob (upS l a d) ∧ OnlyC w wr ob) (fun vk _ => N + 1 - (intOf vk).toNat)
  case atStart => exact ⟨0, a, rfl, by omega, by omega, HP.out, OnlyC.refl _ _⟩
  case round =>
    obtain ⟨d, q, rfl, hq, hqi, hp, ho⟩ := hrel
    have HQQ := Lib.hid hq
    have HPP := Lib.hid hp
    have HO := Lib.hid ho
    by_cases hlt : q + 1 < i0
    · have hlti : (q : Int) < (i0 : Int) - 1 := by omega
      have hlen : (upS l a d).length = N := by rw [upS_len, HL.out]
      have n1 : q + 1 < N := by omega
      have n2 : q < N := by omega
      obtain ⟨W1, hW1⟩ : ∃ W1 : World, ({ wr with drawn := wr.drawn + 1 } : World) = W1 := ⟨_, rfl⟩
      have hp1 : PC W1 ob (upS l a d) := Pre.of_heap hp (by rw [← hW1])
      have d1 := hp1.get (j := q + 1) (by omega)
      have d2 := hp1.get (j := q) (by omega)
      have f2 := Pre.free hp1 q
      have h3 := hp1.swp (i := q) (j := q + 1) (by omega) (by omega)
      have hs1 := hp1.set (j := q) (by omega) ((upS l a d).getD (q + 1) 0)
      obtain ⟨z, d3⟩ : ∃ z, (W1.setCell ⟨ob, q, none⟩ (.int .i64 ((upS l a d).getD (q + 1) 0))).cell? ⟨ob, q + 1, none⟩ = some z := ⟨_, hs1.get (j := q + 1) (by simp; omega)⟩
      have f3 := Pre.free hs1 (q + 1)
      have ho1 : OnlyC wr W1 ob := by rw [← hW1]; exact OnlyC.drew (OnlyC.refl wr ob)
      have HO3 := Lib.hid (ho.trans ((ho1.setCell q (.int .i64 ((upS l a d).getD (q + 1) 0))).setCell (q + 1) (.int .i64 ((upS l a d).getD q 0))))
      have HW1 := Lib.hid hW1
      have HLT := Lib.hid hlt
      have h4 : PC ((W1.setCell ⟨ob, q, none⟩ (.int .i64 ((upS l a d).getD (q + 1) 0))).setCell ⟨ob, q + 1, none⟩ (.int .i64 ((upS l a d).getD q 0))) ob (upS l a (d + 1)) := by
        have e : upS l a (d + 1) = swp (upS l a d) (a + d) (a + d + 1) := rfl
        rw [e, ← hq]; exact h3
      have H3 := Lib.hid h4
      have HWA := Lib.hid (show wrap64 ((q : Int) + 1) = (q : Int) + 1 by unfold wrap64; omega)
      clear hp1 hs1 ho1 hW1 hp ho h3 h4 hlen hq hqi hlt
      generalize (upS l a d).getD q 0 = x at *
      generalize (upS l a d).getD (q + 1) 0 = y at *
      go_upto_region 11 with fail
      obtain ⟨VALS, hVALS⟩ : ∃ VALS : List Value, VALS = [.slice (some ⟨ob, 0, none⟩) N cap, .int .i64 (q : Int), .slice (some ⟨ob, 0, none⟩) N cap, .int .i64 (q : Int), .int .i64 ((q : Int) + 1), .slice (some ⟨ob, 0, none⟩) N cap, .int .i64 (q : Int), .int .i64 ((q : Int) + 1), .pointer (some ⟨ob, q + 1, none⟩), .int .i64 (y), .slice (some ⟨ob, 0, none⟩) N cap, .int .i64 (q : Int), .pointer (some ⟨ob, q, none⟩), .int .i64 (x), .pointer (some ⟨ob, q, none⟩), undef, .pointer (some ⟨ob, q + 1, none⟩)] := ⟨_, rfl⟩
      refine wp_region_noPanic ?_
      refine wp_region_grown2 17 (IcW W1 ob (q) (.int .i64 (y)) 15 [9, 13] VALS) (by kernel_rfl) (by kernel_rfl) ?_ ?_ ?_
      · exact And.intro (by rw [if_neg (by simp)]; exact HW1.out) (And.intro (fun j v h => by cases h) (fun h => by cases h))
      · intro i o s wq hi ho hI hsi hdep
        rw [hVALS] at hI ⊢
        rcases (by omega : i = 0 ∨ i = 1 ∨ i = 2 ∨ i = 3 ∨ i = 4 ∨ i = 5 ∨ i = 6 ∨ i = 7 ∨ i = 8 ∨ i = 9 ∨ i = 10 ∨ i = 11 ∨ i = 12 ∨ i = 13 ∨ i = 14 ∨ i = 15 ∨ i = 16) with rfl | rfl | rfl | rfl | rfl | rfl | rfl | rfl | rfl | rfl | rfl | rfl | rfl | rfl | rfl | rfl | rfl
        all_goals (simp only [List.getElem?_cons_zero, List.getElem?_cons_succ] at ho; obtain rfl := Option.some.inj ho)
        · exact Or.inl (Or.inl ⟨_, _, runT_move (.tmp 0) rfl, hI.step 0 _ rfl (by decide)⟩)
        · exact Or.inl (Or.inl ⟨_, _, runT_move (.tmp 13) rfl, hI.step 1 _ rfl (by decide)⟩)
        · exact Or.inl (Or.inl ⟨_, _, runT_move (.tmp 0) rfl, hI.step 2 _ rfl (by decide)⟩)
        · exact Or.inl (Or.inl ⟨_, _, runT_move (.tmp 13) rfl, hI.step 3 _ rfl (by decide)⟩)
        · have e3 := hI.told (j := 3) rfl (hdep ⟨3, .data⟩ (by simp) rfl)
          have e3 := hI.told (j := 3) rfl (hdep ⟨3, .data⟩ (by simp) rfl)
          exact Or.inl (Or.inl ⟨_, _, adT HWA.out (.tmp 64) (.const (.int .i64 1)) rfl (evalT_told 3 (by kernel_rfl) e3) rfl, hI.step 4 _ rfl (by decide)⟩)
        · exact Or.inl (Or.inl ⟨_, _, runT_move (.tmp 0) rfl, hI.step 5 _ rfl (by decide)⟩)
        · exact Or.inl (Or.inl ⟨_, _, runT_move (.tmp 13) rfl, hI.step 6 _ rfl (by decide)⟩)
        · have e6 := hI.told (j := 6) rfl (hdep ⟨6, .data⟩ (by simp) rfl)
          have e6 := hI.told (j := 6) rfl (hdep ⟨6, .data⟩ (by simp) rfl)
          exact Or.inl (Or.inl ⟨_, _, adT HWA.out (.tmp 67) (.const (.int .i64 1)) rfl (evalT_told 6 (by kernel_rfl) e6) rfl, hI.step 7 _ rfl (by decide)⟩)
        · have e5 := hI.told (j := 5) rfl (hdep ⟨5, .data⟩ (by simp) rfl)
          have e7 := hI.told (j := 7) rfl (hdep ⟨7, .data⟩ (by simp) rfl)
          exact Or.inl (Or.inl ⟨_, _, ixT n1 (.tmp 66) (.tmp 68) rfl (evalT_told 5 (by kernel_rfl) e5) (evalT_told 7 (by kernel_rfl) e7), hI.step 8 _ rfl (by decide)⟩)
        · have hw := (hI.early (j := 9) (by decide) hsi).symm
          subst hw
          have e8 := hI.told (j := 8) rfl (hdep ⟨8, .data⟩ (by simp) rfl)
          exact Or.inl (Or.inl ⟨_, _, ldT (w := W1) d1 (.tmp 69) rfl (evalT_told 8 (by kernel_rfl) e8), hI.step 9 _ rfl (by decide)⟩)
        · exact Or.inl (Or.inl ⟨_, _, runT_move (.tmp 0) rfl, hI.step 10 _ rfl (by decide)⟩)
        · exact Or.inl (Or.inl ⟨_, _, runT_move (.tmp 13) rfl, hI.step 11 _ rfl (by decide)⟩)
        · have e10 := hI.told (j := 10) rfl (hdep ⟨10, .data⟩ (by simp) rfl)
          have e11 := hI.told (j := 11) rfl (hdep ⟨11, .data⟩ (by simp) rfl)
          exact Or.inl (Or.inl ⟨_, _, ixT n2 (.tmp 71) (.tmp 72) rfl (evalT_told 10 (by kernel_rfl) e10) (evalT_told 11 (by kernel_rfl) e11), hI.step 12 _ rfl (by decide)⟩)
        · have hw := (hI.early (j := 13) (by decide) hsi).symm
          subst hw
          have e12 := hI.told (j := 12) rfl (hdep ⟨12, .data⟩ (by simp) rfl)
          exact Or.inl (Or.inl ⟨_, _, ldT (w := W1) d2 (.tmp 73) rfl (evalT_told 12 (by kernel_rfl) e12), hI.step 13 _ rfl (by decide)⟩)
        · have e0 := hI.told (j := 0) rfl (hdep ⟨0, .data⟩ (by simp) rfl)
          have e1 := hI.told (j := 1) rfl (hdep ⟨1, .data⟩ (by simp) rfl)
          exact Or.inl (Or.inl ⟨_, _, ixT n2 (.tmp 61) (.tmp 62) rfl (evalT_told 0 (by kernel_rfl) e0) (evalT_told 1 (by kernel_rfl) e1), hI.step 14 _ rfl (by decide)⟩)
        · have hw := (hI.first hsi).symm
          subst hw
          have e14 := hI.told (j := 14) rfl (hdep ⟨14, .data⟩ (by simp) rfl)
          have e9 := hI.told (j := 9) rfl (hdep ⟨9, .data⟩ (by simp) rfl)
          exact Or.inr ⟨_, stT (w := W1) d2 f2 (.tmp 75) (.tmp 70) rfl (evalT_told 14 (by kernel_rfl) e14) _ (evalT_told 9 (by kernel_rfl) e9), hI.store rfl (fun j hj => by simp only [List.mem_cons, List.not_mem_nil, or_false] at hj; rcases hj with rfl | rfl; all_goals exact hdep ⟨_, .phase⟩ (by simp) rfl)⟩
        · have e2 := hI.told (j := 2) rfl (hdep ⟨2, .data⟩ (by simp) rfl)
          have e4 := hI.told (j := 4) rfl (hdep ⟨4, .data⟩ (by simp) rfl)
          exact Or.inl (Or.inl ⟨_, _, ixT n1 (.tmp 63) (.tmp 65) rfl (evalT_told 2 (by kernel_rfl) e2) (evalT_told 4 (by kernel_rfl) e4), hI.step 16 _ rfl (by decide)⟩)
      · intro s wq hI hsome
        rw [hVALS] at hI
        have e0 := hI.told (j := 0) rfl (hsome 0 (by omega))
        have e1 := hI.told (j := 1) rfl (hsome 1 (by omega))
        have e2 := hI.told (j := 2) rfl (hsome 2 (by omega))
        have e3 := hI.told (j := 3) rfl (hsome 3 (by omega))
        have e4 := hI.told (j := 4) rfl (hsome 4 (by omega))
        have e5 := hI.told (j := 5) rfl (hsome 5 (by omega))
        have e6 := hI.told (j := 6) rfl (hsome 6 (by omega))
        have e7 := hI.told (j := 7) rfl (hsome 7 (by omega))
        have e8 := hI.told (j := 8) rfl (hsome 8 (by omega))
        have e9 := hI.told (j := 9) rfl (hsome 9 (by omega))
        have e10 := hI.told (j := 10) rfl (hsome 10 (by omega))
        have e11 := hI.told (j := 11) rfl (hsome 11 (by omega))
        have e12 := hI.told (j := 12) rfl (hsome 12 (by omega))
        have e13 := hI.told (j := 13) rfl (hsome 13 (by omega))
        have e14 := hI.told (j := 14) rfl (hsome 14 (by omega))
        have e15 := hI.told (j := 15) rfl (hsome 15 (by omega))
        have e16 := hI.told (j := 16) rfl (hsome 16 (by omega))
        have hw := hI.last (hsome 15 (by omega))
        simp only [List.take_succ_cons, List.take_zero, List.drop_succ_cons, List.drop_zero, putsT, e0, e1, e2, e3, e4, e5, e6, e7, e8, e9, e10, e11, e12, e13, e14, e15, e16, Option.getD_some]
        subst hw
        clear hI hsome hVALS e0 e1 e2 e3 e4 e5 e6 e7 e8 e9 e10 e11 e12 e13 e14 e15 e16
        go_frame
        go_wp2_with fail
        refine NoPanic.normal ?_
        go_wp2
        have h1 := HLT.out
        have h2 := HQQ.out
        exact ⟨⟨d + 1, q + 1, by go_num, by omega, by omega, H3.out, HO3.out⟩, by simp [intOf]; omega⟩
    · have hlti : ¬ (q : Int) < (i0 : Int) - 1 := by omega
      have HE : Hid (PC wr ob (upS l a (i0 - 1 - a))) := Lib.hid (by rw [show i0 - 1 - a = d by omega]; exact hp)
      clear hp ho hq hqi hlt
      go_wp2
      exact HQ.out _ _ _ _ _ _ _ _ _ _ _ _ _ _ _ _ _ _ _ _ _ _ _ wr HE.out HO.out
set_option maxRecDepth 1000000 in
set_option maxHeartbeats 16000000 in
theorem smV_any (l : List Int) (ob N cap m i0 : Nat) (hl : l.length = N) (hi : i0 ≤ m) (hm : m < N) (hN : N ≤ 100000) (w : World) (hP : PC w ob l)
    (z1 z2 z3 z4 z5 z6 z7 z8 z9 z10 z11 z12 z13 z15 z16 z18 z19 z20 z21 z22 z23 z24 z25 z26 z27 z28 z29 z30 z31 z32 z33 z34 z35 z36 z37 z38 z39 z40 z41 z42 z43 z44 z45 z46 z47 z48 z49 z50 z51 z52 z53 z54 z55 z56 z57 z58 z59 z60 z61 z62 z63 z64 z65 z66 z67 z68 z69 z70 z71 z72 z73 z74 z75 z76 z77 z78 z79 z80 z81 z82 z83 z84 z85 z86 z87 z88 z89 z90 z91 z92 z93 z94 z95 z96 z97 z98 z99 z100 z101 z102 z103 z104 z105 z106 z107 z108 z109 z110 z111 z112 z113 z114 z115 z116 z117 z118 z119 z120 z121 z122 z123 z124 z125 z126 z127 z128 z129 z130 z131 z132 z133 z134 z135 z136 z137 z138 z139 z140 z141 z142 z143 z144 z145 z146 z147 z148 z149 z150 z151 z152 z153 z154 z155 z156 z157 z158 z159 z160 z161 z162 z163 z164 z165 z166 z167 z168 z169 z170 z171 z172 z173 z174 z175 z176 z177 z178 z179 z180 z181 z182 z183 z184 z185 z186 z187 z188 z189 z190 z191 z192 z193 z194 z195 z196 z197 z198 z199 z200 z201 z202 z203 z204 z205 z206 z207 z208 z209 z210 z211 z212 z213 z214 z215 z216 z217 z218 z219 : Value) (Q : Exit → Act → World → Prop)
    (hQ : ∀ (y17 y108 y109 y110 y111 y112 y113 y114 y115 y116 y117 y118 y119 y120 y121 y122 y123 y124 y125 y126 y127 y128 : Value) (w' : World), PC w' ob (dnS l m (m - i0)) → OnlyC w w' ob → Q (.exit 6) ⟨(.slice (some ⟨ob, 0, none⟩) N cap::z1::z2::z3::z4::z5::z6::z7::z8::z9::z10::z11::z12::z13::.int .i64 (i0 : Int)::z15::z16::y17::z18::z19::z20::z21::z22::z23::z24::z25::z26::z27::z28::z29::z30::z31::z32::z33::z34::z35::z36::z37::z38::z39::z40::z41::z42::z43::z44::z45::z46::z47::z48::z49::z50::z51::z52::z53::z54::z55::z56::z57::z58::z59::z60::z61::z62::z63::z64::z65::z66::z67::z68::z69::z70::z71::z72::z73::z74::z75::z76::z77::z78::z79::z80::z81::z82::z83::z84::z85::z86::z87::z88::z89::z90::z91::z92::z93::z94::z95::z96::z97::z98::z99::z100::z101::z102::z103::z104::z105::z106::z107::y108::y109::y110::y111::y112::y113::y114::y115::y116::y117::y118::y119::y120::y121::y122::y123::y124::y125::y126::y127::y128::z129::z130::z131::z132::z133::z134::z135::z136::z137::z138::z139::z140::z141::z142::z143::z144::z145::z146::z147::z148::z149::z150::z151::z152::z153::z154::z155::z156::z157::z158::z159::z160::z161::z162::z163::z164::z165::z166::z167::z168::z169::z170::z171::z172::z173::z174::z175::z176::z177::z178::z179::z180::z181::z182::z183::z184::z185::z186::z187::z188::z189::z190::z191::z192::z193::z194::z195::z196::z197::z198::z199::z200::z201::z202::z203::z204::z205::z206::z207::z208::z209::z210::z211::z212::z213::z214::z215::z216::z217::z218::z219::[]).toArray, []⟩ w') :
    Code.wp Try.prog smV Q ⟨(.slice (some ⟨ob, 0, none⟩) N cap::z1::z2::z3::z4::z5::z6::z7::z8::z9::z10::z11::z12::z13::.int .i64 (i0 : Int)::z15::z16::.int .i64 (m : Int)::z18::z19::z20::z21::z22::z23::z24::z25::z26::z27::z28::z29::z30::z31::z32::z33::z34::z35::z36::z37::z38::z39::z40::z41::z42::z43::z44::z45::z46::z47::z48::z49::z50::z51::z52::z53::z54::z55::z56::z57::z58::z59::z60::z61::z62::z63::z64::z65::z66::z67::z68::z69::z70::z71::z72::z73::z74::z75::z76::z77::z78::z79::z80::z81::z82::z83::z84::z85::z86::z87::z88::z89::z90::z91::z92::z93::z94::z95::z96::z97::z98::z99::z100::z101::z102::z103::z104::z105::z106::z107::z108::z109::z110::z111::z112::z113::z114::z115::z116::z117::z118::z119::z120::z121::z122::z123::z124::z125::z126::z127::z128::z129::z130::z131::z132::z133::z134::z135::z136::z137::z138::z139::z140::z141::z142::z143::z144::z145::z146::z147::z148::z149::z150::z151::z152::z153::z154::z155::z156::z157::z158::z159::z160::z161::z162::z163::z164::z165::z166::z167::z168::z169::z170::z171::z172::z173::z174::z175::z176::z177::z178::z179::z180::z181::z182::z183::z184::z185::z186::z187::z188::z189::z190::z191::z192::z193::z194::z195::z196::z197::z198::z199::z200::z201::z202::z203::z204::z205::z206::z207::z208::z209::z210::z211::z212::z213::z214::z215::z216::z217::z218::z219::[]).toArray, []⟩ w := by
  conv => arg 2; whnf
  have HQ := Lib.hid hQ
  have HP := Lib.hid hP
  have HL := Lib.hid hl
  clear hQ hP hl
  go_loopw [17] (fun vk wr => ∃ d p : Nat, vk = .int .i64 p ∧ p + d = m ∧ i0 ≤ p ∧ PC wr ob (dnS l m d) ∧ OnlyC w wr ob) (fun vk _ => (intOf vk).toNat)
  case atStart => exact ⟨0, m, rfl, by omega, by omega, HP.out, OnlyC.refl _ _⟩
  case round =>
    obtain ⟨d, p, rfl, hq, hqi, hp, ho⟩ := hrel
    have HPP := Lib.hid hp
    have HO := Lib.hid ho
    by_cases hlt : i0 < p
    · obtain ⟨q, rfl⟩ : ∃ q, p = q + 1 := ⟨p - 1, by omega⟩
      have hlti : (i0 : Int) < (q : Int) + 1 := by omega
      have hlen : (dnS l m d).length = N := by rw [dnS_len, HL.out]
      have n1 : q + 1 < N := by omega
      have n2 : q < N := by omega
      obtain ⟨W1, hW1⟩ : ∃ W1 : World, ({ wr with drawn := wr.drawn + 1 } : World) = W1 := ⟨_, rfl⟩
      have hp1 : PC W1 ob (dnS l m d) := Pre.of_heap hp (by rw [← hW1])
      have d1 := hp1.get (j := q + 1) (by omega)
      have d2 := hp1.get (j := q) (by omega)
      have f1 := Pre.free hp1 (q + 1)
      have h3 := hp1.swp (i := q + 1) (j := q) (by omega) (by omega)
      have hs1 := hp1.set (j := q + 1) (by omega) ((dnS l m d).getD q 0)
      obtain ⟨z, d3⟩ : ∃ z, (W1.setCell ⟨ob, q + 1, none⟩ (.int .i64 ((dnS l m d).getD q 0))).cell? ⟨ob, q, none⟩ = some z := ⟨_, hs1.get (j := q) (by simp; omega)⟩
      have f3 := Pre.free hs1 q
      have ho1 : OnlyC wr W1 ob := by rw [← hW1]; exact OnlyC.drew (OnlyC.refl wr ob)
      have HO3 := Lib.hid (ho.trans ((ho1.setCell (q + 1) (.int .i64 ((dnS l m d).getD q 0))).setCell q (.int .i64 ((dnS l m d).getD (q + 1) 0))))
      have HW1 := Lib.hid hW1
      have HLT := Lib.hid (And.intro hlt hq)
      have h4 : PC ((W1.setCell ⟨ob, q + 1, none⟩ (.int .i64 ((dnS l m d).getD q 0))).setCell ⟨ob, q, none⟩ (.int .i64 ((dnS l m d).getD (q + 1) 0))) ob (dnS l m (d + 1)) := by
        have e : dnS l m (d + 1) = swp (dnS l m d) (m - d) (m - d - 1) := rfl
        rw [e, show m - d = q + 1 by omega]; exact h3
      have H3 := Lib.hid h4
      have HWS := Lib.hid (show wrap64 ((q : Int) + 1 - 1) = (q : Int) by unfold wrap64; omega)
      clear hp1 hs1 ho1 hW1 hp ho h3 h4 hlen hq hqi hlt
      generalize (dnS l m d).getD (q + 1) 0 = x at *
      generalize (dnS l m d).getD q 0 = y at *
      rw [show ((q + 1 : Nat) : Int) = (q : Int) + 1 by omega]
      go_upto_region 23 with fail
      obtain ⟨VALS, hVALS⟩ : ∃ VALS : List Value, VALS = [.slice (some ⟨ob, 0, none⟩) N cap, .int .i64 ((q : Int) + 1), .slice (some ⟨ob, 0, none⟩) N cap, .int .i64 ((q : Int) + 1), .int .i64 (q : Int), .slice (some ⟨ob, 0, none⟩) N cap, .int .i64 ((q : Int) + 1), .int .i64 (q : Int), .pointer (some ⟨ob, q, none⟩), .int .i64 (y), .slice (some ⟨ob, 0, none⟩) N cap, .int .i64 ((q : Int) + 1), .pointer (some ⟨ob, q + 1, none⟩), .int .i64 (x), .pointer (some ⟨ob, q + 1, none⟩), undef, .pointer (some ⟨ob, q, none⟩)] := ⟨_, rfl⟩
      refine wp_region_noPanic ?_
      refine wp_region_grown2 17 (IcW W1 ob (q + 1) (.int .i64 (y)) 15 [9, 13] VALS) (by kernel_rfl) (by kernel_rfl) ?_ ?_ ?_
      · exact And.intro (by rw [if_neg (by simp)]; exact HW1.out) (And.intro (fun j v h => by cases h) (fun h => by cases h))
      · intro i o s wq hi ho hI hsi hdep
        rw [hVALS] at hI ⊢
        rcases (by omega : i = 0 ∨ i = 1 ∨ i = 2 ∨ i = 3 ∨ i = 4 ∨ i = 5 ∨ i = 6 ∨ i = 7 ∨ i = 8 ∨ i = 9 ∨ i = 10 ∨ i = 11 ∨ i = 12 ∨ i = 13 ∨ i = 14 ∨ i = 15 ∨ i = 16) with rfl | rfl | rfl | rfl | rfl | rfl | rfl | rfl | rfl | rfl | rfl | rfl | rfl | rfl | rfl | rfl | rfl
        all_goals (simp only [List.getElem?_cons_zero, List.getElem?_cons_succ] at ho; obtain rfl := Option.some.inj ho)
        · exact Or.inl (Or.inl ⟨_, _, runT_move (.tmp 0) rfl, hI.step 0 _ rfl (by decide)⟩)
        · exact Or.inl (Or.inl ⟨_, _, runT_move (.tmp 17) rfl, hI.step 1 _ rfl (by decide)⟩)
        · exact Or.inl (Or.inl ⟨_, _, runT_move (.tmp 0) rfl, hI.step 2 _ rfl (by decide)⟩)
        · exact Or.inl (Or.inl ⟨_, _, runT_move (.tmp 17) rfl, hI.step 3 _ rfl (by decide)⟩)
        · have e3 := hI.told (j := 3) rfl (hdep ⟨3, .data⟩ (by simp) rfl)
          have e3 := hI.told (j := 3) rfl (hdep ⟨3, .data⟩ (by simp) rfl)
          exact Or.inl (Or.inl ⟨_, _, sbT HWS.out (.tmp 116) (.const (.int .i64 1)) rfl (evalT_told 3 (by kernel_rfl) e3) rfl, hI.step 4 _ rfl (by decide)⟩)
        · exact Or.inl (Or.inl ⟨_, _, runT_move (.tmp 0) rfl, hI.step 5 _ rfl (by decide)⟩)
        · exact Or.inl (Or.inl ⟨_, _, runT_move (.tmp 17) rfl, hI.step 6 _ rfl (by decide)⟩)
        · have e6 := hI.told (j := 6) rfl (hdep ⟨6, .data⟩ (by simp) rfl)
          have e6 := hI.told (j := 6) rfl (hdep ⟨6, .data⟩ (by simp) rfl)
          exact Or.inl (Or.inl ⟨_, _, sbT HWS.out (.tmp 119) (.const (.int .i64 1)) rfl (evalT_told 6 (by kernel_rfl) e6) rfl, hI.step 7 _ rfl (by decide)⟩)
        · have e5 := hI.told (j := 5) rfl (hdep ⟨5, .data⟩ (by simp) rfl)
          have e7 := hI.told (j := 7) rfl (hdep ⟨7, .data⟩ (by simp) rfl)
          exact Or.inl (Or.inl ⟨_, _, ixT n2 (.tmp 118) (.tmp 120) rfl (evalT_told 5 (by kernel_rfl) e5) (evalT_told 7 (by kernel_rfl) e7), hI.step 8 _ rfl (by decide)⟩)
        · have hw := (hI.early (j := 9) (by decide) hsi).symm
          subst hw
          have e8 := hI.told (j := 8) rfl (hdep ⟨8, .data⟩ (by simp) rfl)
          exact Or.inl (Or.inl ⟨_, _, ldT (w := W1) d2 (.tmp 121) rfl (evalT_told 8 (by kernel_rfl) e8), hI.step 9 _ rfl (by decide)⟩)
        · exact Or.inl (Or.inl ⟨_, _, runT_move (.tmp 0) rfl, hI.step 10 _ rfl (by decide)⟩)
        · exact Or.inl (Or.inl ⟨_, _, runT_move (.tmp 17) rfl, hI.step 11 _ rfl (by decide)⟩)
        · have e10 := hI.told (j := 10) rfl (hdep ⟨10, .data⟩ (by simp) rfl)
          have e11 := hI.told (j := 11) rfl (hdep ⟨11, .data⟩ (by simp) rfl)
          exact Or.inl (Or.inl ⟨_, _, ixT n1 (.tmp 123) (.tmp 124) rfl (evalT_told 10 (by kernel_rfl) e10) (evalT_told 11 (by kernel_rfl) e11), hI.step 12 _ rfl (by decide)⟩)
        · have hw := (hI.early (j := 13) (by decide) hsi).symm
          subst hw
          have e12 := hI.told (j := 12) rfl (hdep ⟨12, .data⟩ (by simp) rfl)
          exact Or.inl (Or.inl ⟨_, _, ldT (w := W1) d1 (.tmp 125) rfl (evalT_told 12 (by kernel_rfl) e12), hI.step 13 _ rfl (by decide)⟩)
        · have e0 := hI.told (j := 0) rfl (hdep ⟨0, .data⟩ (by simp) rfl)
          have e1 := hI.told (j := 1) rfl (hdep ⟨1, .data⟩ (by simp) rfl)
          exact Or.inl (Or.inl ⟨_, _, ixT n1 (.tmp 113) (.tmp 114) rfl (evalT_told 0 (by kernel_rfl) e0) (evalT_told 1 (by kernel_rfl) e1), hI.step 14 _ rfl (by decide)⟩)
        · have hw := (hI.first hsi).symm
          subst hw
          have e14 := hI.told (j := 14) rfl (hdep ⟨14, .data⟩ (by simp) rfl)
          have e9 := hI.told (j := 9) rfl (hdep ⟨9, .data⟩ (by simp) rfl)
          exact Or.inr ⟨_, stT (w := W1) d1 f1 (.tmp 127) (.tmp 122) rfl (evalT_told 14 (by kernel_rfl) e14) _ (evalT_told 9 (by kernel_rfl) e9), hI.store rfl (fun j hj => by simp only [List.mem_cons, List.not_mem_nil, or_false] at hj; rcases hj with rfl | rfl; all_goals exact hdep ⟨_, .phase⟩ (by simp) rfl)⟩
        · have e2 := hI.told (j := 2) rfl (hdep ⟨2, .data⟩ (by simp) rfl)
          have e4 := hI.told (j := 4) rfl (hdep ⟨4, .data⟩ (by simp) rfl)
          exact Or.inl (Or.inl ⟨_, _, ixT n2 (.tmp 115) (.tmp 117) rfl (evalT_told 2 (by kernel_rfl) e2) (evalT_told 4 (by kernel_rfl) e4), hI.step 16 _ rfl (by decide)⟩)
      · intro s wq hI hsome
        rw [hVALS] at hI
        have e0 := hI.told (j := 0) rfl (hsome 0 (by omega))
        have e1 := hI.told (j := 1) rfl (hsome 1 (by omega))
        have e2 := hI.told (j := 2) rfl (hsome 2 (by omega))
        have e3 := hI.told (j := 3) rfl (hsome 3 (by omega))
        have e4 := hI.told (j := 4) rfl (hsome 4 (by omega))
        have e5 := hI.told (j := 5) rfl (hsome 5 (by omega))
        have e6 := hI.told (j := 6) rfl (hsome 6 (by omega))
        have e7 := hI.told (j := 7) rfl (hsome 7 (by omega))
        have e8 := hI.told (j := 8) rfl (hsome 8 (by omega))
        have e9 := hI.told (j := 9) rfl (hsome 9 (by omega))
        have e10 := hI.told (j := 10) rfl (hsome 10 (by omega))
        have e11 := hI.told (j := 11) rfl (hsome 11 (by omega))
        have e12 := hI.told (j := 12) rfl (hsome 12 (by omega))
        have e13 := hI.told (j := 13) rfl (hsome 13 (by omega))
        have e14 := hI.told (j := 14) rfl (hsome 14 (by omega))
        have e15 := hI.told (j := 15) rfl (hsome 15 (by omega))
        have e16 := hI.told (j := 16) rfl (hsome 16 (by omega))
        have hw := hI.last (hsome 15 (by omega))
        simp only [List.take_succ_cons, List.take_zero, List.drop_succ_cons, List.drop_zero, putsT, e0, e1, e2, e3, e4, e5, e6, e7, e8, e9, e10, e11, e12, e13, e14, e15, e16, Option.getD_some]
        subst hw
        clear hI hsome hVALS e0 e1 e2 e3 e4 e5 e6 e7 e8 e9 e10 e11 e12 e13 e14 e15 e16
        go_frame
        go_wp2_with fail
        refine NoPanic.normal ?_
        go_wp2
        have h1 := HLT.out
        exact ⟨⟨d + 1, q, rfl, by omega, by omega, H3.out, HO3.out⟩, by simp [intOf]⟩
    · have hlti : ¬ (i0 : Int) < (p : Int) := by omega
      have HE : Hid (PC wr ob (dnS l m (m - i0))) := Lib.hid (by rw [show m - i0 = d by omega]; exact hp)
      clear hp ho hq hqi hlt
      go_wp2
      exact HQ.out _ _ _ _ _ _ _ _ _ _ _ _ _ _ _ _ _ _ _ _ _ _ wr HE.out HO.out
open Go.RowKit Go.BigFrame

def dropS : Code → Nat → Code
  | c, 0 => c
  | .seq _ b, n + 1 => dropS b n
  | c, _ => c
noncomputable def smBody : Code := (Try.f86.body).getD .skip
def SmT (n ob N cap wb : Nat) (D : Int → Prop) (c : Int → Int → Int) : Prop := ∀ (l : List Int) (a m b : Nat) (x y z : Int), a < m → m < b → b ≤ N → b - a ≤ n → x = a → y = m → z = b → ∀ w, SrtT l N ob D w → CmpT w ob wb D c → Calls Try.prog 86 #[.slice (some ⟨ob, 0, none⟩) N cap, .int .i64 x, .int .i64 y, .int .i64 z, cmpV wb] w fun e w' => e = .returned (.tuple #[]) ∧ SrtT (symM c n l a m b) N ob D w' ∧ OnlyC w w' ob
theorem CmpT.later {w w' : World} {ob wb : Nat} {D : Int → Prop} {c : Int → Int → Int} (h : CmpT w ob wb D c) (ho : OnlyC w w' ob) : CmpT w' ob wb D c := fun x y W hx hy hW => h x y W hx hy (ho.trans hW)
theorem SrtT.perm {R R' : List Int} {N ob : Nat} {D : Int → Prop} {w w' : World} (h : SrtT R N ob D w) (hp : R'.Perm R) (hP : PC w' ob R') : SrtT R' N ob D w' :=
  ⟨hp.length_eq.trans h.1, fun x hx => h.2.1 x (hp.mem_iff.1 hx), hP⟩
theorem SrtT.later {R : List Int} {N ob : Nat} {D : Int → Prop} {w w' : World} (h : SrtT R N ob D w) (hb : Below w.heap.size w w') : SrtT R N ob D w' := ⟨h.1, h.2.1, Pre.later h.2.2 hb⟩
set_option maxRecDepth 1000000 in
set_option maxHeartbeats 16000000 in
theorem sm11 {n ob N cap wb : Nat} {D : Int → Prop} {c : Int → Int → Int} (IH : SmT n ob N cap wb D c) {l L : List Int} {M e b : Nat} (hb : b ≤ N) (hn : b - M ≤ n) (hL : (if M < e ∧ e < b then symM c n l M e b else l) = L)
    {w : World} (hl : SrtT l N ob D w) (hcm : CmpT w ob wb D c) (z1 z2 z5 z6 z7 z8 z9 z10 z11 z12 z13 z14 z15 z16 z17 z19 z20 z21 z22 z23 z25 z26 z27 z28 z29 z30 z31 z32 z33 z34 z35 z36 z37 z38 z39 z40 z41 z42 z43 z44 z45 z46 z47 z48 z49 z50 z51 z52 z53 z54 z55 z56 z57 z58 z59 z60 z61 z62 z63 z64 z65 z66 z67 z68 z69 z70 z71 z72 z73 z74 z75 z76 z77 z78 z79 z80 z81 z82 z83 z84 z85 z86 z87 z88 z89 z90 z91 z92 z93 z94 z95 z96 z97 z98 z99 z100 z101 z102 z103 z104 z105 z106 z107 z108 z109 z110 z111 z112 z113 z114 z115 z116 z117 z118 z119 z120 z121 z122 z123 z124 z125 z126 z127 z128 z129 z130 z131 z132 z133 z134 z135 z136 z137 z138 z139 z140 z141 z142 z143 z144 z145 z146 z147 z148 z149 z150 z151 z152 z153 z154 z155 z156 z157 z158 z159 z160 z161 z162 z163 z164 z165 z166 z167 z168 z169 z170 z171 z172 z173 z174 z175 z176 z177 z178 z179 z180 z181 z182 z183 z184 z185 z186 z187 z188 z189 z190 z191 z192 z193 z194 z195 z196 z197 z198 z199 z200 z201 z202 z203 z204 z205 z206 z207 z208 z209 z210 z211 z212 z213 z214 z215 z216 z217 z218 z219 : Value) (Q : Exit → Act → World → Prop)
    (hQ : ∀ a w', a.defers = [] → SrtT L N ob D w' → OnlyC w w' ob → Q .normal a w') :
    Code.wp Try.prog (dropS smBody 11) Q ⟨(.slice (some ⟨ob, 0, none⟩) N cap::z1::z2::.int .i64 (b : Int)::.func (.func 40) #[] #[.pointer (some ⟨wb, 0, none⟩)]::z5::z6::z7::z8::z9::z10::z11::z12::z13::z14::z15::z16::z17::.int .i64 (M : Int)::z19::z20::z21::z22::z23::.int .i64 (e : Int)::z25::z26::z27::z28::z29::z30::z31::z32::z33::z34::z35::z36::z37::z38::z39::z40::z41::z42::z43::z44::z45::z46::z47::z48::z49::z50::z51::z52::z53::z54::z55::z56::z57::z58::z59::z60::z61::z62::z63::z64::z65::z66::z67::z68::z69::z70::z71::z72::z73::z74::z75::z76::z77::z78::z79::z80::z81::z82::z83::z84::z85::z86::z87::z88::z89::z90::z91::z92::z93::z94::z95::z96::z97::z98::z99::z100::z101::z102::z103::z104::z105::z106::z107::z108::z109::z110::z111::z112::z113::z114::z115::z116::z117::z118::z119::z120::z121::z122::z123::z124::z125::z126::z127::z128::z129::z130::z131::z132::z133::z134::z135::z136::z137::z138::z139::z140::z141::z142::z143::z144::z145::z146::z147::z148::z149::z150::z151::z152::z153::z154::z155::z156::z157::z158::z159::z160::z161::z162::z163::z164::z165::z166::z167::z168::z169::z170::z171::z172::z173::z174::z175::z176::z177::z178::z179::z180::z181::z182::z183::z184::z185::z186::z187::z188::z189::z190::z191::z192::z193::z194::z195::z196::z197::z198::z199::z200::z201::z202::z203::z204::z205::z206::z207::z208::z209::z210::z211::z212::z213::z214::z215::z216::z217::z218::z219::[]).toArray, []⟩ w := by
  conv => arg 2; whnf
  have HQ := Lib.hid hQ
  have HL := Lib.hid hl
  have HCM := Lib.hid hcm
  have HI := Lib.hid IH
  have HLL := Lib.hid hL
  clear hQ hl hcm IH hL
  by_cases h1 : M < e
  · have hi1 : (M : Int) < e := by omega
    by_cases h2 : e < b
    · have hi2 : (e : Int) < b := by omega
      have HX := HLL.out
      rw [if_pos ⟨h1, h2⟩] at HX
      have HX := Lib.hid HX
      go_wp2_with (go_at_call 86; refine (HI.out l M e b _ _ _ h1 h2 hb hn rfl rfl rfl _ HL.out HCM.out).mono ?_; rintro e9 w3 ⟨rfl, hs3, ho3⟩; rw [HX.out] at hs3; have HS3 := Lib.hid hs3; have HO3 := Lib.hid ho3; clear hs3 ho3)
      exact HQ.out _ _ rfl HS3.out HO3.out
    · have hi2 : ¬ (e : Int) < b := by omega
      have hnn : ¬ (M < e ∧ e < b) := fun h => h2 h.2
      have HX := HLL.out
      rw [if_neg hnn] at HX
      have HX := Lib.hid HX
      go_wp2
      exact HQ.out _ _ rfl (by rw [← HX.out]; exact HL.out) (OnlyC.refl _ _)
  · have hi1 : ¬ (M : Int) < e := by omega
    have hnn : ¬ (M < e ∧ e < b) := fun h => h1 h.1
    have HX := HLL.out
    rw [if_neg hnn] at HX
    have HX := Lib.hid HX
    go_wp2
    exact HQ.out _ _ rfl (by rw [← HX.out]; exact HL.out) (OnlyC.refl _ _)
set_option maxRecDepth 1000000 in
set_option maxHeartbeats 16000000 in
theorem sm10 {n ob N cap wb : Nat} {D : Int → Prop} {c : Int → Int → Int} (IH : SmT n ob N cap wb D c) {l L2 L : List Int} {a M s e b : Nat} (hb : b ≤ N) (hMb : M ≤ b) (hn : b - M ≤ n) (hnA : M - a ≤ n) (hL2 : (if a < s ∧ s < M then symM c n l a s M else l) = L2) (hL : (if M < e ∧ e < b then symM c n L2 M e b else L2) = L)
    {w : World} (hl : SrtT l N ob D w) (hcm : CmpT w ob wb D c) (z2 z5 z6 z7 z8 z9 z10 z11 z12 z13 z14 z15 z16 z17 z19 z21 z22 z23 z25 z26 z27 z28 z29 z30 z31 z32 z33 z34 z35 z36 z37 z38 z39 z40 z41 z42 z43 z44 z45 z46 z47 z48 z49 z50 z51 z52 z53 z54 z55 z56 z57 z58 z59 z60 z61 z62 z63 z64 z65 z66 z67 z68 z69 z70 z71 z72 z73 z74 z75 z76 z77 z78 z79 z80 z81 z82 z83 z84 z85 z86 z87 z88 z89 z90 z91 z92 z93 z94 z95 z96 z97 z98 z99 z100 z101 z102 z103 z104 z105 z106 z107 z108 z109 z110 z111 z112 z113 z114 z115 z116 z117 z118 z119 z120 z121 z122 z123 z124 z125 z126 z127 z128 z129 z130 z131 z132 z133 z134 z135 z136 z137 z138 z139 z140 z141 z142 z143 z144 z145 z146 z147 z148 z149 z150 z151 z152 z153 z154 z155 z156 z157 z158 z159 z160 z161 z162 z163 z164 z165 z166 z167 z168 z169 z170 z171 z172 z173 z174 z175 z176 z177 z178 z179 z180 z181 z182 z183 z184 z185 z186 z187 z188 z189 z190 z191 z192 z193 z194 z195 z196 z197 z198 z199 z200 z201 z202 z203 z204 z205 z206 z207 z208 z209 z210 z211 z212 z213 z214 z215 z216 z217 z218 z219 : Value) (Q : Exit → Act → World → Prop)
    (hQ : ∀ a w', a.defers = [] → SrtT L N ob D w' → OnlyC w w' ob → Q .normal a w') :
    Code.wp Try.prog (dropS smBody 10) Q ⟨(.slice (some ⟨ob, 0, none⟩) N cap::.int .i64 (a : Int)::z2::.int .i64 (b : Int)::.func (.func 40) #[] #[.pointer (some ⟨wb, 0, none⟩)]::z5::z6::z7::z8::z9::z10::z11::z12::z13::z14::z15::z16::z17::.int .i64 (M : Int)::z19::.int .i64 (s : Int)::z21::z22::z23::.int .i64 (e : Int)::z25::z26::z27::z28::z29::z30::z31::z32::z33::z34::z35::z36::z37::z38::z39::z40::z41::z42::z43::z44::z45::z46::z47::z48::z49::z50::z51::z52::z53::z54::z55::z56::z57::z58::z59::z60::z61::z62::z63::z64::z65::z66::z67::z68::z69::z70::z71::z72::z73::z74::z75::z76::z77::z78::z79::z80::z81::z82::z83::z84::z85::z86::z87::z88::z89::z90::z91::z92::z93::z94::z95::z96::z97::z98::z99::z100::z101::z102::z103::z104::z105::z106::z107::z108::z109::z110::z111::z112::z113::z114::z115::z116::z117::z118::z119::z120::z121::z122::z123::z124::z125::z126::z127::z128::z129::z130::z131::z132::z133::z134::z135::z136::z137::z138::z139::z140::z141::z142::z143::z144::z145::z146::z147::z148::z149::z150::z151::z152::z153::z154::z155::z156::z157::z158::z159::z160::z161::z162::z163::z164::z165::z166::z167::z168::z169::z170::z171::z172::z173::z174::z175::z176::z177::z178::z179::z180::z181::z182::z183::z184::z185::z186::z187::z188::z189::z190::z191::z192::z193::z194::z195::z196::z197::z198::z199::z200::z201::z202::z203::z204::z205::z206::z207::z208::z209::z210::z211::z212::z213::z214::z215::z216::z217::z218::z219::[]).toArray, []⟩ w := by
  conv => arg 2; whnf
  refine wp_seq_k (fun K hK => ?_)
  have HK := Lib.hid hK
  have HQ := Lib.hid hQ
  have HL := Lib.hid hl
  have HCM := Lib.hid hcm
  have HI := Lib.hid IH
  have HLL := Lib.hid hL2
  have HLM := Lib.hid hL
  clear hQ hl hcm IH hL hL2 hK
  by_cases h1 : a < s
  · have hi1 : (a : Int) < s := by omega
    by_cases h2 : s < M
    · have hi2 : (s : Int) < M := by omega
      have HX := HLL.out
      rw [if_pos ⟨h1, h2⟩] at HX
      have HX := Lib.hid HX
      go_wp2_with (go_at_call 86; refine (HI.out l a s M _ _ _ h1 h2 (Nat.le_trans hMb hb) hnA rfl rfl rfl _ HL.out HCM.out).mono ?_; rintro e9 w3 ⟨rfl, hs3, ho3⟩; rw [HX.out] at hs3; have HS3 := Lib.hid hs3; have HO3 := Lib.hid ho3; clear hs3 ho3)
      refine HK.out _ _ ?_
      exact sm11 HI.out hb hn HLM.out HS3.out (HCM.out.later HO3.out) _ _ _ _ _ _ _ _ _ _ _ _ _ _ _ _ _ _ _ _ _ _ _ _ _ _ _ _ _ _ _ _ _ _ _ _ _ _ _ _ _ _ _ _ _ _ _ _ _ _ _ _ _ _ _ _ _ _ _ _ _ _ _ _ _ _ _ _ _ _ _ _ _ _ _ _ _ _ _ _ _ _ _ _ _ _ _ _ _ _ _ _ _ _ _ _ _ _ _ _ _ _ _ _ _ _ _ _ _ _ _ _ _ _ _ _ _ _ _ _ _ _ _ _ _ _ _ _ _ _ _ _ _ _ _ _ _ _ _ _ _ _ _ _ _ _ _ _ _ _ _ _ _ _ _ _ _ _ _ _ _ _ _ _ _ _ _ _ _ _ _ _ _ _ _ _ _ _ _ _ _ _ _ _ _ _ _ _ _ _ _ _ _ _ _ _ _ _ _ _ _ _ _ _ _ _ _ _ _ _ _ _ _ _ _ Q (fun a w' h0 h1 h2 => HQ.out a w' h0 h1 (HO3.out.trans h2))
    · have hi2 : ¬ (s : Int) < M := by omega
      have hnn : ¬ (a < s ∧ s < M) := fun h => h2 h.2
      have HX := HLL.out
      rw [if_neg hnn] at HX
      have HX := Lib.hid HX
      go_wp2
      refine HK.out _ _ ?_
      exact sm11 HI.out hb hn HLM.out (by rw [← HX.out]; exact HL.out) HCM.out _ _ _ _ _ _ _ _ _ _ _ _ _ _ _ _ _ _ _ _ _ _ _ _ _ _ _ _ _ _ _ _ _ _ _ _ _ _ _ _ _ _ _ _ _ _ _ _ _ _ _ _ _ _ _ _ _ _ _ _ _ _ _ _ _ _ _ _ _ _ _ _ _ _ _ _ _ _ _ _ _ _ _ _ _ _ _ _ _ _ _ _ _ _ _ _ _ _ _ _ _ _ _ _ _ _ _ _ _ _ _ _ _ _ _ _ _ _ _ _ _ _ _ _ _ _ _ _ _ _ _ _ _ _ _ _ _ _ _ _ _ _ _ _ _ _ _ _ _ _ _ _ _ _ _ _ _ _ _ _ _ _ _ _ _ _ _ _ _ _ _ _ _ _ _ _ _ _ _ _ _ _ _ _ _ _ _ _ _ _ _ _ _ _ _ _ _ _ _ _ _ _ _ _ _ _ _ _ _ _ _ _ _ _ _ Q HQ.out
  · have hi1 : ¬ (a : Int) < s := by omega
    have hnn : ¬ (a < s ∧ s < M) := fun h => h1 h.1
    have HX := HLL.out
    rw [if_neg hnn] at HX
    have HX := Lib.hid HX
    go_wp2
    refine HK.out _ _ ?_
    exact sm11 HI.out hb hn HLM.out (by rw [← HX.out]; exact HL.out) HCM.out _ _ _ _ _ _ _ _ _ _ _ _ _ _ _ _ _ _ _ _ _ _ _ _ _ _ _ _ _ _ _ _ _ _ _ _ _ _ _ _ _ _ _ _ _ _ _ _ _ _ _ _ _ _ _ _ _ _ _ _ _ _ _ _ _ _ _ _ _ _ _ _ _ _ _ _ _ _ _ _ _ _ _ _ _ _ _ _ _ _ _ _ _ _ _ _ _ _ _ _ _ _ _ _ _ _ _ _ _ _ _ _ _ _ _ _ _ _ _ _ _ _ _ _ _ _ _ _ _ _ _ _ _ _ _ _ _ _ _ _ _ _ _ _ _ _ _ _ _ _ _ _ _ _ _ _ _ _ _ _ _ _ _ _ _ _ _ _ _ _ _ _ _ _ _ _ _ _ _ _ _ _ _ _ _ _ _ _ _ _ _ _ _ _ _ _ _ _ _ _ _ _ _ _ _ _ _ _ _ _ _ _ _ _ _ Q HQ.out
set_option maxRecDepth 1000000 in
set_option maxHeartbeats 16000000 in
theorem sm9 {n ob N cap wb : Nat} {D : Int → Prop} {c : Int → Int → Int} (IH : SmT n ob N cap wb D c) {l L1 L2 L : List Int} {a m M s e b : Nat} (hN : N ≤ 100000) (hb : b ≤ N) (hMb : M ≤ b) (hn : b - M ≤ n) (hnA : M - a ≤ n) (hsm : s ≤ m) (heb : e ≤ b) (hL1 : (if s < m ∧ m < e then rot (e - s) l m (m - s) (e - m) else l) = L1) (hL2 : (if a < s ∧ s < M then symM c n L1 a s M else L1) = L2) (hL : (if M < e ∧ e < b then symM c n L2 M e b else L2) = L)
    {w : World} (hl : SrtT l N ob D w) (hcm : CmpT w ob wb D c) (z5 z6 z7 z8 z9 z10 z11 z12 z13 z14 z15 z16 z17 z19 z21 z22 z23 z25 z26 z27 z28 z29 z30 z31 z32 z33 z34 z35 z36 z37 z38 z39 z40 z41 z42 z43 z44 z45 z46 z47 z48 z49 z50 z51 z52 z53 z54 z55 z56 z57 z58 z59 z60 z61 z62 z63 z64 z65 z66 z67 z68 z69 z70 z71 z72 z73 z74 z75 z76 z77 z78 z79 z80 z81 z82 z83 z84 z85 z86 z87 z88 z89 z90 z91 z92 z93 z94 z95 z96 z97 z98 z99 z100 z101 z102 z103 z104 z105 z106 z107 z108 z109 z110 z111 z112 z113 z114 z115 z116 z117 z118 z119 z120 z121 z122 z123 z124 z125 z126 z127 z128 z129 z130 z131 z132 z133 z134 z135 z136 z137 z138 z139 z140 z141 z142 z143 z144 z145 z146 z147 z148 z149 z150 z151 z152 z153 z154 z155 z156 z157 z158 z159 z160 z161 z162 z163 z164 z165 z166 z167 z168 z169 z170 z171 z172 z173 z174 z175 z176 z177 z178 z179 z180 z181 z182 z183 z184 z185 z186 z187 z188 z189 z190 z191 z192 z193 z194 z195 z196 z197 z198 z199 z200 z201 z202 z203 z204 z205 z206 z207 z208 z209 z210 z211 z212 z213 z214 z215 z216 z217 z218 z219 : Value) (Q : Exit → Act → World → Prop)
    (hQ : ∀ a w', a.defers = [] → SrtT L N ob D w' → OnlyC w w' ob → Q .normal a w') :
    Code.wp Try.prog (dropS smBody 9) Q ⟨(.slice (some ⟨ob, 0, none⟩) N cap::.int .i64 (a : Int)::.int .i64 (m : Int)::.int .i64 (b : Int)::.func (.func 40) #[] #[.pointer (some ⟨wb, 0, none⟩)]::z5::z6::z7::z8::z9::z10::z11::z12::z13::z14::z15::z16::z17::.int .i64 (M : Int)::z19::.int .i64 (s : Int)::z21::z22::z23::.int .i64 (e : Int)::z25::z26::z27::z28::z29::z30::z31::z32::z33::z34::z35::z36::z37::z38::z39::z40::z41::z42::z43::z44::z45::z46::z47::z48::z49::z50::z51::z52::z53::z54::z55::z56::z57::z58::z59::z60::z61::z62::z63::z64::z65::z66::z67::z68::z69::z70::z71::z72::z73::z74::z75::z76::z77::z78::z79::z80::z81::z82::z83::z84::z85::z86::z87::z88::z89::z90::z91::z92::z93::z94::z95::z96::z97::z98::z99::z100::z101::z102::z103::z104::z105::z106::z107::z108::z109::z110::z111::z112::z113::z114::z115::z116::z117::z118::z119::z120::z121::z122::z123::z124::z125::z126::z127::z128::z129::z130::z131::z132::z133::z134::z135::z136::z137::z138::z139::z140::z141::z142::z143::z144::z145::z146::z147::z148::z149::z150::z151::z152::z153::z154::z155::z156::z157::z158::z159::z160::z161::z162::z163::z164::z165::z166::z167::z168::z169::z170::z171::z172::z173::z174::z175::z176::z177::z178::z179::z180::z181::z182::z183::z184::z185::z186::z187::z188::z189::z190::z191::z192::z193::z194::z195::z196::z197::z198::z199::z200::z201::z202::z203::z204::z205::z206::z207::z208::z209::z210::z211::z212::z213::z214::z215::z216::z217::z218::z219::[]).toArray, []⟩ w := by
  conv => arg 2; whnf
  refine wp_seq_k (fun K hK => ?_)
  have HK := Lib.hid hK
  have HQ := Lib.hid hQ
  have HL := Lib.hid hl
  have HCM := Lib.hid hcm
  have HI := Lib.hid IH
  have HLK := Lib.hid hL1
  have HLL := Lib.hid hL2
  have HLM := Lib.hid hL
  clear hQ hl hcm IH hL hL1 hL2 hK
  by_cases h1 : s < m
  · have hi1 : (s : Int) < m := by omega
    by_cases h2 : m < e
    · have hi2 : (m : Int) < e := by omega
      have HX := HLK.out
      rw [if_pos ⟨h1, h2⟩] at HX
      have HX := Lib.hid HX
      have HPM : Hid (L1.Perm l) := Lib.hid (by rw [← HX.out]; exact rot_perm _ (by omega) (by rw [HL.out.1]; omega))
      go_wp2_with (go_at_call 105; refine (rotate_any l ob N cap s m e HL.out.1 h1 h2 (Nat.le_trans heb hb) hN _ _ HL.out.2.2).mono ?_; rintro e9 w3 ⟨rfl, hs3, ho3⟩; rw [HX.out] at hs3; have HS3 := Lib.hid (HL.out.perm HPM.out hs3); have HO3 := Lib.hid ho3; clear hs3 ho3)
      refine HK.out _ _ ?_
      exact sm10 HI.out hb hMb hn hnA HLL.out HLM.out HS3.out (HCM.out.later HO3.out) _ _ _ _ _ _ _ _ _ _ _ _ _ _ _ _ _ _ _ _ _ _ _ _ _ _ _ _ _ _ _ _ _ _ _ _ _ _ _ _ _ _ _ _ _ _ _ _ _ _ _ _ _ _ _ _ _ _ _ _ _ _ _ _ _ _ _ _ _ _ _ _ _ _ _ _ _ _ _ _ _ _ _ _ _ _ _ _ _ _ _ _ _ _ _ _ _ _ _ _ _ _ _ _ _ _ _ _ _ _ _ _ _ _ _ _ _ _ _ _ _ _ _ _ _ _ _ _ _ _ _ _ _ _ _ _ _ _ _ _ _ _ _ _ _ _ _ _ _ _ _ _ _ _ _ _ _ _ _ _ _ _ _ _ _ _ _ _ _ _ _ _ _ _ _ _ _ _ _ _ _ _ _ _ _ _ _ _ _ _ _ _ _ _ _ _ _ _ _ _ _ _ _ _ _ _ _ _ _ _ _ _ _ Q (fun a w' h0 h1 h2 => HQ.out a w' h0 h1 (HO3.out.trans h2))
    · have hi2 : ¬ (m : Int) < e := by omega
      have hnn : ¬ (s < m ∧ m < e) := fun h => h2 h.2
      have HX := HLK.out
      rw [if_neg hnn] at HX
      have HX := Lib.hid HX
      go_wp2
      refine HK.out _ _ ?_
      exact sm10 HI.out hb hMb hn hnA HLL.out HLM.out (by rw [← HX.out]; exact HL.out) HCM.out _ _ _ _ _ _ _ _ _ _ _ _ _ _ _ _ _ _ _ _ _ _ _ _ _ _ _ _ _ _ _ _ _ _ _ _ _ _ _ _ _ _ _ _ _ _ _ _ _ _ _ _ _ _ _ _ _ _ _ _ _ _ _ _ _ _ _ _ _ _ _ _ _ _ _ _ _ _ _ _ _ _ _ _ _ _ _ _ _ _ _ _ _ _ _ _ _ _ _ _ _ _ _ _ _ _ _ _ _ _ _ _ _ _ _ _ _ _ _ _ _ _ _ _ _ _ _ _ _ _ _ _ _ _ _ _ _ _ _ _ _ _ _ _ _ _ _ _ _ _ _ _ _ _ _ _ _ _ _ _ _ _ _ _ _ _ _ _ _ _ _ _ _ _ _ _ _ _ _ _ _ _ _ _ _ _ _ _ _ _ _ _ _ _ _ _ _ _ _ _ _ _ _ _ _ _ _ _ _ _ _ _ _ Q HQ.out
  · have hi1 : ¬ (s : Int) < m := by omega
    have hnn : ¬ (s < m ∧ m < e) := fun h => h1 h.1
    have HX := HLK.out
    rw [if_neg hnn] at HX
    have HX := Lib.hid HX
    go_wp2
    refine HK.out _ _ ?_
    exact sm10 HI.out hb hMb hn hnA HLL.out HLM.out (by rw [← HX.out]; exact HL.out) HCM.out _ _ _ _ _ _ _ _ _ _ _ _ _ _ _ _ _ _ _ _ _ _ _ _ _ _ _ _ _ _ _ _ _ _ _ _ _ _ _ _ _ _ _ _ _ _ _ _ _ _ _ _ _ _ _ _ _ _ _ _ _ _ _ _ _ _ _ _ _ _ _ _ _ _ _ _ _ _ _ _ _ _ _ _ _ _ _ _ _ _ _ _ _ _ _ _ _ _ _ _ _ _ _ _ _ _ _ _ _ _ _ _ _ _ _ _ _ _ _ _ _ _ _ _ _ _ _ _ _ _ _ _ _ _ _ _ _ _ _ _ _ _ _ _ _ _ _ _ _ _ _ _ _ _ _ _ _ _ _ _ _ _ _ _ _ _ _ _ _ _ _ _ _ _ _ _ _ _ _ _ _ _ _ _ _ _ _ _ _ _ _ _ _ _ _ _ _ _ _ _ _ _ _ _ _ _ _ _ _ _ _ _ _ Q HQ.out
set_option maxRecDepth 1000000 in
set_option maxHeartbeats 16000000 in
theorem sm6 {n ob N cap wb : Nat} {D : Int → Prop} {c : Int → Int → Int} (IH : SmT n ob N cap wb D c) {l L1 L2 L : List Int} {a m M s e b nn s0 r0 pp n0 : Nat} (hN : N ≤ 100000) (hb : b ≤ N) (hMb : M ≤ b) (hn : b - M ≤ n) (hnA : M - a ≤ n) (hsm : s ≤ m) (heb : e ≤ b) (hL1 : (if s < m ∧ m < e then rot (e - s) l m (m - s) (e - m) else l) = L1) (hL2 : (if a < s ∧ s < M then symM c n L1 a s M else L1) = L2) (hL : (if M < e ∧ e < b then symM c n L2 M e b else L2) = L)
    (hnn : nn = pp + 1) (hsr : s0 ≤ r0) (hr0 : r0 ≤ N) (hrn : r0 ≤ s0 + n0) (hrp : r0 ≤ pp + 1) (hps : pp < N + s0) (hS : bsr (fun k => !decide (c (l.getD (pp - k) 0) (l.getD k 0) < 0)) n0 s0 r0 = s) (he : s + e = nn)
    {w : World} (hl : SrtT l N ob D w) (hcm : CmpT w ob wb D c) (z5 z6 z7 z8 z9 z10 z11 z12 z13 z14 z15 z16 z17 z22 z23 z24 z25 z26 z27 z28 z29 z30 z31 z32 z33 z34 z35 z36 z37 z38 z39 z40 z41 z42 z43 z44 z45 z46 z47 z48 z49 z50 z51 z52 z53 z54 z55 z56 z57 z58 z59 z60 z61 z62 z63 z64 z65 z66 z67 z68 z69 z70 z71 z72 z73 z74 z75 z76 z77 z78 z79 z80 z81 z82 z83 z84 z85 z86 z87 z88 z89 z90 z91 z92 z93 z94 z95 z96 z97 z98 z99 z100 z101 z102 z103 z104 z105 z106 z107 z108 z109 z110 z111 z112 z113 z114 z115 z116 z117 z118 z119 z120 z121 z122 z123 z124 z125 z126 z127 z128 z129 z130 z131 z132 z133 z134 z135 z136 z137 z138 z139 z140 z141 z142 z143 z144 z145 z146 z147 z148 z149 z150 z151 z152 z153 z154 z155 z156 z157 z158 z159 z160 z161 z162 z163 z164 z165 z166 z167 z168 z169 z170 z171 z172 z173 z174 z175 z176 z177 z178 z179 z180 z181 z182 z183 z184 z185 z186 z187 z188 z189 z190 z191 z192 z193 z194 z195 z196 z197 z198 z199 z200 z201 z202 z203 z204 z205 z206 z207 z208 z209 z210 z211 z212 z213 z214 z215 z216 z217 z218 z219 : Value) (Q : Exit → Act → World → Prop)
    (hQ : ∀ a w', a.defers = [] → SrtT L N ob D w' → OnlyC w w' ob → Q .normal a w') :
    Code.wp Try.prog (dropS smBody 6) Q ⟨(.slice (some ⟨ob, 0, none⟩) N cap::.int .i64 (a : Int)::.int .i64 (m : Int)::.int .i64 (b : Int)::.func (.func 40) #[] #[.pointer (some ⟨wb, 0, none⟩)]::z5::z6::z7::z8::z9::z10::z11::z12::z13::z14::z15::z16::z17::.int .i64 (M : Int)::.int .i64 (nn : Int)::.int .i64 (s0 : Int)::.int .i64 (r0 : Int)::z22::z23::z24::z25::z26::z27::z28::z29::z30::z31::z32::z33::z34::z35::z36::z37::z38::z39::z40::z41::z42::z43::z44::z45::z46::z47::z48::z49::z50::z51::z52::z53::z54::z55::z56::z57::z58::z59::z60::z61::z62::z63::z64::z65::z66::z67::z68::z69::z70::z71::z72::z73::z74::z75::z76::z77::z78::z79::z80::z81::z82::z83::z84::z85::z86::z87::z88::z89::z90::z91::z92::z93::z94::z95::z96::z97::z98::z99::z100::z101::z102::z103::z104::z105::z106::z107::z108::z109::z110::z111::z112::z113::z114::z115::z116::z117::z118::z119::z120::z121::z122::z123::z124::z125::z126::z127::z128::z129::z130::z131::z132::z133::z134::z135::z136::z137::z138::z139::z140::z141::z142::z143::z144::z145::z146::z147::z148::z149::z150::z151::z152::z153::z154::z155::z156::z157::z158::z159::z160::z161::z162::z163::z164::z165::z166::z167::z168::z169::z170::z171::z172::z173::z174::z175::z176::z177::z178::z179::z180::z181::z182::z183::z184::z185::z186::z187::z188::z189::z190::z191::z192::z193::z194::z195::z196::z197::z198::z199::z200::z201::z202::z203::z204::z205::z206::z207::z208::z209::z210::z211::z212::z213::z214::z215::z216::z217::z218::z219::[]).toArray, []⟩ w := by
  conv => arg 2; whnf
  refine wp_seq_k (fun K hK => ?_)
  have HK := Lib.hid hK
  have HQ := Lib.hid hQ
  have HL := Lib.hid hl
  have HCM := Lib.hid hcm
  have HI := Lib.hid IH
  have HLK := Lib.hid hL1
  have HLL := Lib.hid hL2
  have HLM := Lib.hid hL
  have HS := Lib.hid hS
  clear hQ hl hcm IH hL hL1 hL2 hK hS
  have hni : (nn : Int) - 1 = (pp : Int) := by omega
  have hnb : (0 : Int) ≤ (nn : Int) := by omega
  have hnc : (nn : Int) ≤ 200001 := by omega
  clear hnn
  go_wp2
  refine HK.out _ _ ?_
  refine wp_seq_k (fun K2 hK2 => ?_)
  have HK2 := Lib.hid hK2
  clear hK2
  refine wp_block ?_
  refine smC_any l ob N cap pp wb n0 s0 r0 HL.out.1 hsr hr0 hrn hrp hps hN D c HL.out.2.1 w HL.out.2.2 HCM.out _ _ _ _ _ _ _ _ _ _ _ _ _ _ _ _ _ _ _ _ _ _ _ _ _ _ _ _ _ _ _ _ _ _ _ _ _ _ _ _ _ _ _ _ _ _ _ _ _ _ _ _ _ _ _ _ _ _ _ _ _ _ _ _ _ _ _ _ _ _ _ _ _ _ _ _ _ _ _ _ _ _ _ _ _ _ _ _ _ _ _ _ _ _ _ _ _ _ _ _ _ _ _ _ _ _ _ _ _ _ _ _ _ _ _ _ _ _ _ _ _ _ _ _ _ _ _ _ _ _ _ _ _ _ _ _ _ _ _ _ _ _ _ _ _ _ _ _ _ _ _ _ _ _ _ _ _ _ _ _ _ _ _ _ _ _ _ _ _ _ _ _ _ _ _ _ _ _ _ _ _ _ _ _ _ _ _ _ _ _ _ _ _ _ _ _ _ _ _ _ _ _ _ _ _ _ _ _ _ _ _ _ _ _ _ _ ?_
  intro v21 v23 v149 v150 v151 v152 v153 v154 v155 v156 v157 v158 v159 v160 v161 v162 v163 v164 v165 v166 v167 v168 v169 v170 v171 v172 v173 v174 w3 hb3
  have HB3 := Lib.hid hb3
  clear hb3
  rw [HS.out]
  refine HK2.out _ _ ?_
  refine wp_seq_k (fun K3 hK3 => ?_)
  have HK3 := Lib.hid hK3
  clear hK3 hni
  have hei : (nn : Int) - s = (e : Int) := by omega
  have hsi0 : (0 : Int) ≤ (s : Int) := by omega
  have hei0 : (0 : Int) ≤ (e : Int) := by omega
  have hei1 : (e : Int) ≤ 100000 := by omega
  go_wp2
  refine HK3.out _ _ ?_
  exact sm9 HI.out hN hb hMb hn hnA hsm heb HLK.out HLL.out HLM.out (HL.out.later HB3.out) (HCM.out.later (OnlyC.below ob HB3.out)) _ _ _ _ _ _ _ _ _ _ _ _ _ _ _ _ _ _ _ _ _ _ _ _ _ _ _ _ _ _ _ _ _ _ _ _ _ _ _ _ _ _ _ _ _ _ _ _ _ _ _ _ _ _ _ _ _ _ _ _ _ _ _ _ _ _ _ _ _ _ _ _ _ _ _ _ _ _ _ _ _ _ _ _ _ _ _ _ _ _ _ _ _ _ _ _ _ _ _ _ _ _ _ _ _ _ _ _ _ _ _ _ _ _ _ _ _ _ _ _ _ _ _ _ _ _ _ _ _ _ _ _ _ _ _ _ _ _ _ _ _ _ _ _ _ _ _ _ _ _ _ _ _ _ _ _ _ _ _ _ _ _ _ _ _ _ _ _ _ _ _ _ _ _ _ _ _ _ _ _ _ _ _ _ _ _ _ _ _ _ _ _ _ _ _ _ _ _ _ _ _ _ _ _ _ _ _ _ _ _ _ _ Q (fun a w' h0 h1 h2 => HQ.out a w' h0 h1 ((OnlyC.below ob HB3.out).trans h2))
set_option maxRecDepth 1000000 in
set_option maxHeartbeats 16000000 in
theorem sm2 {n ob N cap wb : Nat} {D : Int → Prop} {c : Int → Int → Int} (IH : SmT n ob N cap wb D c) {l L : List Int} {a m b : Nat} (hN : N ≤ 100000) (hb : b ≤ N) (ha : a < m) (hm : m < b) (hn : b - a ≤ n + 1) (h1 : ¬ m - a = 1) (h2 : ¬ b - m = 1) (hL : symM c (n + 1) l a m b = L)
    {w : World} (hl : SrtT l N ob D w) (hcm : CmpT w ob wb D c) (z5 z6 z7 z8 z9 z10 z11 z12 z13 z14 z15 z16 z17 z18 z19 z20 z21 z22 z23 z24 z25 z26 z27 z28 z29 z30 z31 z32 z33 z34 z35 z36 z37 z38 z39 z40 z41 z42 z43 z44 z45 z46 z47 z48 z49 z50 z51 z52 z53 z54 z55 z56 z57 z58 z59 z60 z61 z62 z63 z64 z65 z66 z67 z68 z69 z70 z71 z72 z73 z74 z75 z76 z77 z78 z79 z80 z81 z82 z83 z84 z85 z86 z87 z88 z89 z90 z91 z92 z93 z94 z95 z96 z97 z98 z99 z100 z101 z102 z103 z104 z105 z106 z107 z108 z109 z110 z111 z112 z113 z114 z115 z116 z117 z118 z119 z120 z121 z122 z123 z124 z125 z126 z127 z128 z129 z130 z131 z132 z133 z134 z135 z136 z137 z138 z139 z140 z141 z142 z143 z144 z145 z146 z147 z148 z149 z150 z151 z152 z153 z154 z155 z156 z157 z158 z159 z160 z161 z162 z163 z164 z165 z166 z167 z168 z169 z170 z171 z172 z173 z174 z175 z176 z177 z178 z179 z180 z181 z182 z183 z184 z185 z186 z187 z188 z189 z190 z191 z192 z193 z194 z195 z196 z197 z198 z199 z200 z201 z202 z203 z204 z205 z206 z207 z208 z209 z210 z211 z212 z213 z214 z215 z216 z217 z218 z219 : Value) (Q : Exit → Act → World → Prop)
    (hQ : ∀ a w', a.defers = [] → SrtT L N ob D w' → OnlyC w w' ob → Q .normal a w') :
    Code.wp Try.prog (dropS smBody 2) Q ⟨(.slice (some ⟨ob, 0, none⟩) N cap::.int .i64 (a : Int)::.int .i64 (m : Int)::.int .i64 (b : Int)::.func (.func 40) #[] #[.pointer (some ⟨wb, 0, none⟩)]::z5::z6::z7::z8::z9::z10::z11::z12::z13::z14::z15::z16::z17::z18::z19::z20::z21::z22::z23::z24::z25::z26::z27::z28::z29::z30::z31::z32::z33::z34::z35::z36::z37::z38::z39::z40::z41::z42::z43::z44::z45::z46::z47::z48::z49::z50::z51::z52::z53::z54::z55::z56::z57::z58::z59::z60::z61::z62::z63::z64::z65::z66::z67::z68::z69::z70::z71::z72::z73::z74::z75::z76::z77::z78::z79::z80::z81::z82::z83::z84::z85::z86::z87::z88::z89::z90::z91::z92::z93::z94::z95::z96::z97::z98::z99::z100::z101::z102::z103::z104::z105::z106::z107::z108::z109::z110::z111::z112::z113::z114::z115::z116::z117::z118::z119::z120::z121::z122::z123::z124::z125::z126::z127::z128::z129::z130::z131::z132::z133::z134::z135::z136::z137::z138::z139::z140::z141::z142::z143::z144::z145::z146::z147::z148::z149::z150::z151::z152::z153::z154::z155::z156::z157::z158::z159::z160::z161::z162::z163::z164::z165::z166::z167::z168::z169::z170::z171::z172::z173::z174::z175::z176::z177::z178::z179::z180::z181::z182::z183::z184::z185::z186::z187::z188::z189::z190::z191::z192::z193::z194::z195::z196::z197::z198::z199::z200::z201::z202::z203::z204::z205::z206::z207::z208::z209::z210::z211::z212::z213::z214::z215::z216::z217::z218::z219::[]).toArray, []⟩ w := by
  conv => arg 2; whnf
  have HQ := Lib.hid hQ
  have HL := Lib.hid hl
  have HCM := Lib.hid hcm
  have HI := Lib.hid IH
  obtain ⟨M, hM⟩ : ∃ M, (a + b) / 2 = M := ⟨_, rfl⟩
  obtain ⟨s, hs⟩ : ∃ s, symP c l a m b = s := ⟨_, rfl⟩
  have hbd := symP_bd c l ha hm
  unfold symM at hL
  rw [if_neg h1, if_neg h2] at hL
  simp only at hL
  unfold symR at hL
  rw [hs, hM] at hL
  rw [hs, hM] at hbd
  unfold symP at hs
  rw [hM] at hs
  have HS := Lib.hid hs
  have HLL := Lib.hid hL
  have hMi : ((a : Int) + b) / 2 = (M : Int) := by omega
  have hM0 : (0 : Int) ≤ (M : Int) := by omega
  have hM1 : (M : Int) ≤ 100000 := by omega
  have hb1 : (b : Int) ≤ 100000 := by omega
  have hm1 : (m : Int) ≤ 100000 := by omega
  have ha1 : (a : Int) ≤ 100000 := by omega
  clear hQ hl hcm IH hL hs
  refine wp_seq_k (fun K hK => ?_)
  have HK := Lib.hid hK
  clear hK
  go_wp2
  refine HK.out _ _ ?_
  clear hMi
  refine wp_seq_k (fun K2 hK2 => ?_)
  have HK2 := Lib.hid hK2
  clear hK2
  obtain ⟨nn, hnn⟩ : ∃ nn, M + m = nn := ⟨_, rfl⟩
  have hnI : (M : Int) + m = (nn : Int) := by omega
  have HNN := Lib.hid hnn
  clear hnn
  go_wp2
  refine HK2.out _ _ ?_
  clear hnI
  refine wp_seq_k (fun K3 hK3 => ?_)
  have HK3 := Lib.hid hK3
  clear hK3
  go_wp2
  refine HK3.out _ _ ?_
  refine wp_seq_k (fun K4 hK4 => ?_)
  have HK4 := Lib.hid hK4
  clear hK4
  by_cases h3 : M < m
  · have h3i : (M : Int) < m := by omega
    obtain ⟨s0, hs0⟩ : ∃ s0, nn - b = s0 := ⟨_, rfl⟩
    have hNN := HNN.out
    have hsI : (nn : Int) - b = (s0 : Int) := by omega
    have hsB : (nn : Int) ≤ 200000 := by omega
    have HS0 := Lib.hid hs0
    clear hs0 hNN
    go_wp2
    have hNN := HNN.out
    have hS0 := HS0.out
    refine HK4.out _ _ ?_
    exact sm6 (s := s) (e := M + m - s) (pp := M + m - 1) (n0 := b - a) HI.out hN hb (by omega) (by omega) (by omega) hbd.2.1 hbd.2.2.2 rfl rfl HLL.out (by omega) (by omega) (by omega) (by omega) (by omega) (by omega) (by have := HS.out; rw [if_pos h3, if_pos h3, hNN, hS0, ← hNN] at this; exact this) (by omega) HL.out HCM.out _ _ _ _ _ _ _ _ _ _ _ _ _ _ _ _ _ _ _ _ _ _ _ _ _ _ _ _ _ _ _ _ _ _ _ _ _ _ _ _ _ _ _ _ _ _ _ _ _ _ _ _ _ _ _ _ _ _ _ _ _ _ _ _ _ _ _ _ _ _ _ _ _ _ _ _ _ _ _ _ _ _ _ _ _ _ _ _ _ _ _ _ _ _ _ _ _ _ _ _ _ _ _ _ _ _ _ _ _ _ _ _ _ _ _ _ _ _ _ _ _ _ _ _ _ _ _ _ _ _ _ _ _ _ _ _ _ _ _ _ _ _ _ _ _ _ _ _ _ _ _ _ _ _ _ _ _ _ _ _ _ _ _ _ _ _ _ _ _ _ _ _ _ _ _ _ _ _ _ _ _ _ _ _ _ _ _ _ _ _ _ _ _ _ _ _ _ _ _ _ _ _ _ _ _ _ _ _ _ _ _ Q HQ.out
  · have h3i : ¬ (M : Int) < m := by omega
    go_wp2
    have hNN := HNN.out
    refine HK4.out _ _ ?_
    exact sm6 (s := s) (e := M + m - s) (pp := M + m - 1) (n0 := b - a) HI.out hN hb (by omega) (by omega) (by omega) hbd.2.1 hbd.2.2.2 rfl rfl HLL.out (by omega) (by omega) (by omega) (by omega) (by omega) (by omega) (by have := HS.out; rw [if_neg h3, if_neg h3] at this; exact this) (by omega) HL.out HCM.out _ _ _ _ _ _ _ _ _ _ _ _ _ _ _ _ _ _ _ _ _ _ _ _ _ _ _ _ _ _ _ _ _ _ _ _ _ _ _ _ _ _ _ _ _ _ _ _ _ _ _ _ _ _ _ _ _ _ _ _ _ _ _ _ _ _ _ _ _ _ _ _ _ _ _ _ _ _ _ _ _ _ _ _ _ _ _ _ _ _ _ _ _ _ _ _ _ _ _ _ _ _ _ _ _ _ _ _ _ _ _ _ _ _ _ _ _ _ _ _ _ _ _ _ _ _ _ _ _ _ _ _ _ _ _ _ _ _ _ _ _ _ _ _ _ _ _ _ _ _ _ _ _ _ _ _ _ _ _ _ _ _ _ _ _ _ _ _ _ _ _ _ _ _ _ _ _ _ _ _ _ _ _ _ _ _ _ _ _ _ _ _ _ _ _ _ _ _ _ _ _ _ _ _ _ _ _ _ _ _ _ Q HQ.out
end Go.Proofs.Ythbcdckonaljiaa
