import Derived.Test.YtdoeinccnfggiaaDoorN
namespace Go.Proofs.YtdoeinccnfggiaaDoor
open Go.RowKit Go.BigFrame

theorem Turn.trans {w w1 w2 : World} {p : Nat} {F F1 : Nat → Prop} {T' : List Ty} {D' : ByteArray → Option (List Fld)} (hch : Chg w w1 F) (hF1 : ∀ k, F1 k → F k ∨ w.heap.size ≤ k) (h : Turn w1 w2 p F1 T' D') : Turn w w2 p F T' D' := by
  obtain ⟨F2, h1, h2, h3⟩ := h
  refine ⟨F2, h1, hch.trans h2 hF1, fun k hk => ?_⟩
  rcases h3 k hk with h | h
  · exact hF1 k h
  · have := hch.size
    exact .inr (by omega)
theorem FRd.drew {w : World} {A : Option Addr} {l : List Fld} (h : FRd w A l) : FRd w.drew A l := h
set_option maxRecDepth 1000000 in
set_option maxHeartbeats 8000000 in
theorem define_any {w : World} {p : Nat} {F : Nat → Prop} {T : List Ty} {D : ByteArray → Option (List Fld)} (h : Tb w p F T D) (K : Nat) (s : ByteArray) (A : Option Addr) (cap : Nat) (l : List Fld) (hL : l.length ≤ 1000)
    (hR : FRd w A l) (hA : ∀ b, A = some ⟨b, 0, none⟩ → ¬ F b) (he : (strL T s).2.2 = 0) (hd : ∀ f ∈ l, deep (strL T s).1 D K f.type) :
    Calls Tryd.prog 12 #[.pointer (some ⟨p, 0, none⟩), .string s, .slice A l.length cap] w fun e w' => e = .returned (.int .i64 (defE (strL T s).1 D K s l)) ∧ Turn w w' p F (strL T s).1 (defD D s l (defE (strL T s).1 D K s l)) := by
  have hs := struct_any h s
  generalize hT1 : strL T s = R at *
  obtain ⟨T1, R2, R3⟩ := R
  simp only at *
  subst he
  obtain ⟨L, hLL⟩ : ∃ L, l.length = L := ⟨_, rfl⟩
  rw [hLL] at hL
  have hAllL : (l.all fun f => (sz T1 D K f.type).2) = true ∨ (l.all fun f => (sz T1 D K f.type).2) = false := by cases (l.all fun f => (sz T1 D K f.type).2) <;> simp
  obtain ⟨e0, he0⟩ : ∃ e0, e0 = defE T1 D K s l := ⟨_, rfl⟩
  rw [← he0, hLL]
  have hmm := @run_makeMap Tryd.prog
  go_enter Tryd.func12, Tryd.ntmps12
  go_wp2_with (first
    | (go_at_call 13; refine hs.mono ?_; rintro e w1 ⟨rfl, ⟨F1, ⟨V, M, m, g, g1, g2, g3, g4, g5, g6, g7, g8⟩, hch, hF1⟩⟩; have hcM := cell_of_heap g1 1 (.map (some M)) rfl; have hlk := look64 g3 s true))
  have hgs : (g s).isSome = (D s).isSome := by
    cases hD : D s with
    | none => rw [(g7 s).1 hD]; rfl
    | some l' =>
      obtain ⟨b, cap', cs, e1, _⟩ := (g7 s).2 l' hD
      rw [e1]; rfl
  have hR1 := hR.chg hch hA
  have hTb1 : Tb w1 p F1 T1 D := ⟨V, M, m, g, g1, g2, g3, g4, g5, g6, g7, g8⟩
  have hTurn1 : Turn w w1 p F T1 D := ⟨F1, hTb1, hch, hF1⟩
  have HGS := Lib.hid hgs
  clear hgs
  go_loopw [10, 40] (fun tv i w8 => ∃ j : Nat, j ≤ L ∧ i = .int .i64 j ∧ tv = .bool (tw (D s).isSome l j) ∧ MapS w8 w1.heap.size j (gc (l.take j)) ∧ Below w1.heap.size w1 w8) (fun _ i _ => L - (intOf i).toNat)
  case atStart => exact ⟨0, by omega, rfl, by rw [HGS.out]; rfl, MapS.made w1, Below.one _ _⟩
  case round =>
    obtain ⟨j, hj, rfl, rfl, hM, hb⟩ := hrel
    by_cases hlt : j < L
    · have hf : l[j]? = some (l[j]'(by omega)) := by simp
      generalize l[j]'(by omega) = f at hf
      obtain ⟨b, rfl, _, c0, c1⟩ := (hR1.below hb) j f hf
      have hM' := hM.below (Below.one wr (.cells #[.string f.name, .int .i64 f.type] 31)) hM.lt
      have hl1 := look69 hM' f.name false
      rw [gc_look] at hl1
      simp only [Bool.false_eq_true, if_false] at hl1
      have hcn : cnt (l.take j) f.name ≤ 1000 := Nat.le_trans (cnt_le _ _) (by simp; omega)
      have htw := tw_succ (D s).isSome l j f hf
      have htk : l.take (j + 1) = l.take j ++ [f] := by rw [List.take_add_one, hf]; rfl
      have hgc := gc_snoc (l.take j) f
      rw [← htk] at hgc
      have HTW := Lib.hid htw
      have HGC := Lib.hid hgc
      clear htw hgc htk hR hch
      generalize tw (D s).isSome l j = tj at *
      generalize cnt (l.take j) f.name = c at *
      generalize gc (l.take j) = gj at *
      have hwr : wrap64 ((c : Int) + 1) = (c : Int) + 1 := by unfold wrap64; omega
      have hsize : (wr.alloc (.cells #[.string f.name, .int .i64 f.type] 31)).heap.size = wr.heap.size + 1 := by simp
      have hmono := hb.size
      have hMlt := hM.lt
      have hend : ∀ w3, MapS w3 w1.heap.size (j + 1) (upd gj f.name (.int .i64 ((c : Int) + 1))) → (wr.alloc (.cells #[.string f.name, .int .i64 f.type] 31)).grownBy w3 (some w1.heap.size) →
          (MapS w3 w1.heap.size (j + 1) (gc (l.take (j + 1))) ∧ Below w1.heap.size w1 w3) ∧ w3.cell? ⟨wr.heap.size, 0, none⟩ = some (.string f.name) ∧ (Instr.lookup 69 (.map (some w1.heap.size)) (.string f.name) false).run Tryd.prog w3 = .ok (.int .i64 ((c : Int) + 1)) w3 := fun w3 hM3 hg3 => by
        refine ⟨⟨by rw [HGC.out]; exact hM3, (hb.alloc hmono _).grown hg3 (by rw [hsize]; omega) (fun k hk => by injection hk with hk; omega)⟩, ?_, ?_⟩
        · exact (World.cell?_of_block (a := ⟨wr.heap.size, 0, none⟩) (hg3.block wr.heap.size (by rw [hsize]; omega) (fun e => by injection e with e; omega))).trans (cell_of_heap (heap_alloc_new wr _) 0 _ rfl)
        · have := look69 hM3 f.name false
          simpa [upd] using this
      clear hM hMlt hR1
      cases tj
      · cases hemp : f.name.toList.isEmpty
        · by_cases hc : 0 < c
          · have q : decide ((c : Int) + 1 > 1) = true := by simp; omega
            have hd0 : decide (0 < c) = true := by simpa using hc
            rw [hemp, hd0] at HTW
            clear hd0 hc
            go_wp2_with (at_mapUpdate; refine wpList_mapUpdate_s _ rfl _ _ _ 69 rfl (k := 9) (e := 3) (by kernel_rfl) (by kernel_rfl) w1.heap.size j gj rfl hM' f.name (.int .i64 ((c : Int) + 1)) rfl rfl ?_; intro w3 hM3 hg3; obtain ⟨hfin, c3, hl3⟩ := hend w3 hM3 hg3)
            exact ⟨⟨j + 1, by omega, by simp, by rw [HTW.out]; rfl, hfin.1, hfin.2⟩, by simp [intOf]; omega⟩
          · have q : decide ((c : Int) + 1 > 1) = false := by simp; omega
            have hd0 : decide (0 < c) = false := by simpa using hc
            rw [hemp, hd0] at HTW
            clear hd0 hc
            go_wp2_with (at_mapUpdate; refine wpList_mapUpdate_s _ rfl _ _ _ 69 rfl (k := 9) (e := 3) (by kernel_rfl) (by kernel_rfl) w1.heap.size j gj rfl hM' f.name (.int .i64 ((c : Int) + 1)) rfl rfl ?_; intro w3 hM3 hg3; obtain ⟨hfin, c3, hl3⟩ := hend w3 hM3 hg3)
            exact ⟨⟨j + 1, by omega, by simp, by rw [HTW.out]; rfl, hfin.1, hfin.2⟩, by simp [intOf]; omega⟩
        · rw [hemp] at HTW
          go_wp2_with (at_mapUpdate; refine wpList_mapUpdate_s _ rfl _ _ _ 69 rfl (k := 9) (e := 3) (by kernel_rfl) (by kernel_rfl) w1.heap.size j gj rfl hM' f.name (.int .i64 ((c : Int) + 1)) rfl rfl ?_; intro w3 hM3 hg3; obtain ⟨hfin, c3, hl3⟩ := hend w3 hM3 hg3)
          exact ⟨⟨j + 1, by omega, by simp, by rw [HTW.out]; rfl, hfin.1, hfin.2⟩, by simp [intOf]; omega⟩
      · go_wp2_with (at_mapUpdate; refine wpList_mapUpdate_s _ rfl _ _ _ 69 rfl (k := 9) (e := 3) (by kernel_rfl) (by kernel_rfl) w1.heap.size j gj rfl hM' f.name (.int .i64 ((c : Int) + 1)) rfl rfl ?_; intro w3 hM3 hg3; obtain ⟨hfin, c3, hl3⟩ := hend w3 hM3 hg3)
        exact ⟨⟨j + 1, by omega, by simp, by rw [HTW.out]; rfl, hfin.1, hfin.2⟩, by simp [intOf]; omega⟩
    · obtain rfl : j = L := by omega
      cases htw : tw (D s).isSome l l.length
      · have HTW0 := Lib.hid htw
        rw [hLL] at htw
        rw [htw]
        clear htw
        have hTbr := hTb1.below hb
        have hRr := hR1.below hb
        clear hM
        go_wp2

        have hw4 : ∃ w4, w4 = wr := ⟨_, rfl⟩
        obtain ⟨w4, rfl⟩ := hw4
        go_loopw [14, 66] (fun sm i w8 => ∃ k : Nat, k ≤ j ∧ i = .int .i64 k ∧ sm = .int .i64 (sumF T1 D K (l.take k)) ∧ (0 ≤ sumF T1 D K (l.take k) ∧ sumF T1 D K (l.take k) ≤ 5000000 * k) ∧ (∀ (i : Nat) f, i < k → l[i]? = some f → (sz T1 D K f.type).2 = true) ∧ Below w4.heap.size w4 w8) (fun _ i _ => j - (intOf i).toNat)
        case atStart => exact ⟨0, by omega, rfl, by simp [sumF], by simp [sumF], fun i f hi => by omega, Below.refl _ _⟩
        case round =>
          obtain ⟨k, hk, rfl, rfl, ⟨hs0, hs1⟩, hall, hb4⟩ := hrel
          by_cases hlt2 : k < j
          · have hf : l[k]? = some (l[k]'(by omega)) := by simp
            generalize l[k]'(by omega) = f at hf
            obtain ⟨b, rfl, _, c0, c1⟩ := (hRr.below hb4) k f hf
            have hmem := List.mem_of_getElem? hf
            have hdf := hd f hmem
            have hzb := deep_bound K f.type hdf
            have hsz := fun w hw => size_any (p := p) (F := F1) (T := T1) (D := D) K f.type w hw hdf
            have hS := sumF_succ T1 D K k l f hf
            have HS := Lib.hid hS
            clear hS
            have hTb4 := (hTbr.below hb4).below (Below.one wr (.cells #[.string f.name, .int .i64 f.type] 31))
            have hallf : (sz T1 D K f.type).2 = false → e0 = 8 := fun hz => by
              rw [he0]
              unfold defE
              rw [if_neg (by rw [HTW0.out]; decide), if_pos]
              rw [List.all_eq_false]
              exact ⟨f, hmem, by simp [hz]⟩
            have hallt : (sz T1 D K f.type).2 = true → ∀ (i : Nat) f', i < k + 1 → l[i]? = some f' → (sz T1 D K f'.type).2 = true := fun hz i f' hi hf' => by
              by_cases hik : i = k
              · subst hik
                rw [hf] at hf'
                injection hf' with hf'
                subst hf'
                exact hz
              · exact hall i f' (by omega) hf'
            have HALT := Lib.hid hallt
            clear hall hallt
            generalize sumF T1 D K (l.take k) = S at *
            generalize sz T1 D K f.type = Z at *
            obtain ⟨Z1, Z2⟩ := Z
            simp only at *
            have hwr : wrap64 (S + Z1) = S + Z1 := by unfold wrap64; omega
            cases Z2
            · have h8 := hallf rfl
              subst h8
              have hdd : defD D s l 8 = D := by unfold defD; rw [if_neg (by decide)]
              go_wp2_with (go_at_call 14; refine (hsz _ hTb4).mono ?_; rintro e w6 ⟨rfl, hb6⟩)
              go_returns
              exact ⟨rfl, by rw [hdd]; exact hTurn1.more (hb.trans (((hb4.alloc hb4.size _).trans (hb6.mono (hb4.alloc hb4.size _).size)).mono hb.size))⟩
            · clear hallf
              go_wp2_with (go_at_call 14; refine (hsz _ hTb4).mono ?_; rintro e w6 ⟨rfl, hb6⟩)
              exact ⟨⟨k + 1, by omega, by simp, by rw [HS.out], by rw [HS.out]; constructor <;> push_cast <;> omega, HALT.out trivial, (hb4.alloc hb4.size _).trans (hb6.mono (hb4.alloc hb4.size _).size)⟩, by simp [intOf]; omega⟩
          · have hkj : k = j := by omega
            subst hkj
            have hAll : (l.all fun f => (sz T1 D K f.type).2) = true := by
              rw [List.all_eq_true]
              intro f hf
              obtain ⟨i, hi⟩ := List.mem_iff_getElem?.1 hf
              exact hall i f (by rw [← hLL]; exact (List.getElem?_eq_some_iff.1 hi).1) hi
            have hde : defE T1 D K s l = if l.length = 0 then 8 else if 4096 < sumF T1 D K l then 4 else 0 := by
              unfold defE
              rw [if_neg (by rw [HTW0.out]; decide), if_neg (by rw [hAll]; decide)]
            rw [hLL] at hde
            have htk : l.take k = l := by rw [← hLL, List.take_length]
            rw [htk] at hs0 hs1 ⊢
            clear hAll hall
            have hB5 := hb.trans (hb4.mono hb.size)
            by_cases hk0 : k = 0
            · rw [if_pos hk0] at hde
              rw [hde] at he0
              subst he0
              have hdd : defD D s l 8 = D := by unfold defD; rw [if_neg (by decide)]
              have hq : ((k : Int) == 0) = true := by simp [hk0]
              clear hk0 hde
              go_wp2
              go_returns
              exact ⟨rfl, by rw [hdd]; exact hTurn1.more hB5⟩
            · rw [if_neg hk0] at hde
              have hq : ((k : Int) == 0) = false := by simp; omega
              by_cases hbig : 4096 < sumF T1 D K l
              · rw [if_pos hbig] at hde
                rw [hde] at he0
                subst he0
                have hdd : defD D s l 4 = D := by unfold defD; rw [if_neg (by decide)]
                have hq2 : decide (sumF T1 D K l > 4096) = true := by simpa using hbig
                clear hk0 hde hbig
                go_wp2
                go_returns
                exact ⟨rfl, by rw [hdd]; exact hTurn1.more hB5⟩
              · rw [if_neg hbig] at hde
                rw [hde] at he0
                subst he0
                have hdd : defD D s l 0 = (fun x => if x = s then some l else D x) := by unfold defD; rw [if_pos rfl]
                have HDD := Lib.hid hdd
                have hq2 : decide (sumF T1 D K l > 4096) = false := by simpa using hbig
                obtain ⟨b, hAb, hx0⟩ := hRr 0 (l[0]'(by omega)) (by simp)
                clear hx0
                subst hAb
                have hR5 := (hRr.below hb4).drew
                have hcl := clone_any wr.drew b cap l hR5 (by omega) (by omega)
                rw [hLL] at hcl
                have hp5 := (hB5.block p (Array.getElem?_eq_some_iff.1 g1).1).trans g1
                have hc5 := cell_of_heap hp5 1 (.map (some M)) rfl
                clear hk0 hde hbig hdd htk hmm hs
                go_wp2
                go_region_law (go_simp; go_at_call 26; refine hcl.mono ?_; rintro e w6 ⟨⟨gb, cap', cs, rfl, hgb, hcs, hcc⟩, hb6⟩; have hB6 := (hB5.drew).trans (Below.mono (B' := w1.heap.size) hb6 hB5.size); have hp6 := (hB6.block p (Array.getElem?_eq_some_iff.1 g1).1).trans g1; have hc6 := cell_of_heap hp6 1 (.map (some M)) rfl; obtain ⟨w7, hrun, hM7, hg7⟩ := (g3.below hB6 g3.lt).update (P := Tryd.prog) (t := 64) (k := 9) (e := 26) (by kernel_rfl) (by kernel_rfl) s (.slice (some ⟨gb, 0, none⟩) k cap'))
                all_goals (go_wp2; go_returns; rw [← hLL] at hM7; exact ⟨rfl, by rw [HDD.out]; exact Turn.trans hch hF1 (Turn.define g1 g2 g3 g4 g5 g6 g7 g8 hB6 hM7 hg7 (Nat.le_trans hB5.size hgb) hcs (by rw [hLL]; exact hcc) (by omega))⟩)
      · have hdef : defE T1 D K s l = 7 := by unfold defE; rw [if_pos htw]
        have hdd : defD D s l 7 = D := by unfold defD; rw [if_neg (by decide)]
        rw [hLL] at htw
        rw [htw]
        rw [hdef] at he0
        subst he0
        clear htw hdef
        go_wp2
        go_returns
        exact ⟨rfl, by rw [hdd]; exact hTurn1.more hb⟩
end Go.Proofs.YtdoeinccnfggiaaDoor
