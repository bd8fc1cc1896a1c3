import Derived.Test.YtdoeinccnfggiaaDoorRv
namespace Go.Proofs.YtdoeinccnfggiaaDoor
open Go.RowKit Go.BigFrame

theorem Chg.set {w w' : World} {G : Nat → Prop} (h : Chg w w' G) {b o : Nat} (hb : G b) (u : Value) : Chg w (w'.setCell ⟨b, o, none⟩ u) G :=
  ⟨h.os, h.tape, h.output, by have := h.size; simpa [World.setCell] using this, fun k hk hn => (Below.heap_setCell _ _ _ _ (by intro e; simp at e; exact hn (e ▸ hb))).trans (h.block k hk hn)⟩
set_option maxRecDepth 1000000 in
set_option maxHeartbeats 4000000 in
theorem does_def {w : World} {p : Nat} {F X : Nat → Prop} {v : Value} {T : List Ty} {Ds : List (ByteArray × List Fld)} (h : Both w p F X v T Ds) (hne : ∀ d ∈ Ds, 0 < d.2.length) (hT : 1 ≤ T.length ∧ T.length ≤ 256) {K : Nat} (g : Good T (look Ds) K) (hDs : Ds.length ≤ 1000) (hDl : ∀ d ∈ Ds, d.2.length ≤ 1000) (s : Stp) (hs : s.verb = 3)
    (C : Option Addr) (cap : Nat) (hC : FRdO w C s.fields) (hCF : 0 < s.fields.length → ∀ b o, C = some ⟨b, o, none⟩ → ¬ F b) (hLF : s.fields.length ≤ 10) :
    Calls Tryd.prog 20 #[.pointer (some ⟨p, 0, none⟩), v, s.agg C cap] w fun e w' => ∃ v', e = .returned (.tuple #[v', .bool true]) ∧ Turn2 w w' p F X v' (strL T s.name).1 (defL Ds s.name s.fields (dErr T (look Ds) (K + 1) s.name s.fields)) := by
  obtain ⟨A, cA, B, cB, rfl, _, _⟩ := id h.rt
  obtain ⟨L, hL⟩ : ∃ L, T.length = L := ⟨_, rfl⟩
  obtain ⟨L2, hL2⟩ : ∃ L2, Ds.length = L2 := ⟨_, rfl⟩
  rw [hL, hL2] at h ⊢
  clear hL hL2
  obtain ⟨s1, s2, s3, s4, s5⟩ := s
  simp only at hs hC hLF ⊢
  subst hs
  obtain ⟨b0, b1, b2, hWs, hWB⟩ := box3 w (oT A L cA B L2 cB) (oS ⟨3, s2, s3, s4, s5⟩ C cap) (oT none 0 0 none 0 0)
  obtain ⟨W, hW⟩ : ∃ W, ((w.alloc (oT A L cA B L2 cB)).alloc (oS ⟨3, s2, s3, s4, s5⟩ C cap)).alloc (oT none 0 0 none 0 0) = W := ⟨_, rfl⟩
  rw [hW] at b0 b1 b2 hWs hWB
  simp only [oS] at b1 hW
  simp only [Stp.agg]
  obtain ⟨LS, hLS⟩ : ∃ LS, s5.length = LS := ⟨_, rfl⟩
  rw [hLS] at b1 hLF
  have HLS := Lib.hid hLS
  rw [hLS] at hW ⊢
  clear hLS
  have e0 := cell_of_heap b1 0 (.int .i64 3) rfl
  have e1 := cell_of_heap b1 3 (.string s4) rfl
  have e2 := cell_of_heap b1 4 (.slice C LS cap) rfl
  have hq := h.lt
  have hCW := hC.below hWB
  have g1 := g.strL s4
  have hg2 := good_define g s4 s5
  obtain ⟨E, hE⟩ : ∃ E, E = dErr T (look Ds) (K + 1) s4 s5 := ⟨_, rfl⟩
  have hlk : look (defL Ds s4 s5 E) = defD (look Ds) s4 s5 E := by rw [hE]; exact look_defL _ _ _ _ _
  have hp := fun w (t : Tb w p F T (look Ds)) A' cap' hR hA => progDefine_any t (K + 1) s4 A' cap' s5 (by rw [HLS.out]; omega) hR hA fun f _ => g1.dp f.type
  have hr := fun w1 F1 h1 h3 h5 => refDefine_any (w := w1) (F := F1) (T := T) (v := .agg #[.slice A L cA, .slice B L2 cB]) (Ds := Ds) h1 hne hDs hDl h3 hT (K + 1) s4 C cap s5 (by rw [HLS.out]; omega) h5 (fun f _ => g1.dp f.type) (fun f _ => g1.pos f.type)
  rw [← hE] at hp hr ⊢
  rw [HLS.out] at hp hr
  have HE := Lib.hid hE
  have HG := Lib.hid hg2
  clear hE hg2
  have hne1 : ∀ d ∈ defL Ds s4 s5 E, 0 < d.2.length := fun d hd => by
    unfold defL at hd
    by_cases h0 : E = 0
    · rw [if_pos h0] at hd
      rcases List.mem_append.1 hd with hd | hd
      · exact hne d hd
      · simp at hd
        subst hd
        exact (defE_none (dErr_zero (HE.out.symm.trans h0)).2).2
    · rw [if_neg h0] at hd
      exact hne d hd
  generalize (strL T s4).1 = T1 at *
  go_enter Tryd.func20, Tryd.ntmps20
  go_wp2
  go_loopw [23, 119] (fun V i w8 => ∃ k : Nat, k ≤ LS ∧ i = .int .i64 k ∧ Below W.heap.size W w8 ∧ ∃ U, V = U ∧ OwnF w8 U (s5.take k) ∧ ∀ b, U.ownBlock = some b → W.heap.size ≤ b) (fun _ i _ => LS - (intOf i).toNat)
  case atStart => exact ⟨0, by omega, rfl, Below.refl _ _, _, rfl, OwnF.nil _, fun b hb => by simp [Value.ownBlock] at hb⟩
  case round =>
    obtain ⟨k, hk, rfl, hb, V, hVu, hO, hOb⟩ := hrel
    have hVu2 := hVu.symm
    subst hVu2
    by_cases hlt : k < LS
    · have hf : s5[k]? = some (s5[k]'(by rw [HLS.out]; omega)) := by simp
      generalize s5[k]'(by rw [HLS.out]; omega) = f at hf
      obtain ⟨f1, f2⟩ := f
      obtain ⟨bf, of, rfl, hbf, c0, c1⟩ := (hCW.below hb) k _ hf
      have htk : s5.take (k + 1) = s5.take k ++ [⟨f1, f2⟩] := by rw [List.take_add_one, hf]; rfl
      have HTK := Lib.hid htk
      clear htk
      have hlen : (s5.take k).length ≤ 300 := by rw [List.length_take]; omega
      have HLEN := Lib.hid hlen
      clear hlen
      go_wp2_with (first
        | (at_builtin; go_must (refine append_fld rfl _ _ rfl V (s5.take k) rfl ((hO.alloc _).alloc _) (wr.heap.size + 1) ⟨f1, f2⟩ rfl (by simpa using heap_alloc_new (wr.alloc (.cells #[.string f1, .int .i64 f2] 71)) (.cells (Fld.l ⟨f1, f2⟩).toArray 31)) HLEN.out ?_); intro V' w4 hO4 hg4 hat4))
      refine ⟨⟨k + 1, by omega, by simp, ?_, _, rfl, by rw [HTK.out]; exact hO4, fun b hb4 => ?_⟩, by simp [intOf]; omega⟩
      · exact ((hb.alloc hb.size _).alloc (by have := hb.size; simp; omega) _).grown hg4 (by have := hb.size; simp; omega) hOb
      · rcases hat4 with hh | hh
        · exact hOb b (by rw [← hh, hb4])
        · rw [hb4] at hh
          injection hh with hh
          have := hb.size
          simp at hh
          omega
    · obtain rfl : k = LS := by omega
      rw [show s5.take k = s5 by rw [← HLS.out, List.take_length]] at hO
      have hbmp : Bump wr V k := by rw [← HLS.out]; exact hO.bump
      obtain ⟨A', cap', hV, hOb', hRd⟩ := hO.form
      rw [HLS.out] at hV
      subst hV
      have hVlt := hO.lt
      have hp8 := hp wr ((h.tb.below hWB).below (hb.mono (Nat.le_refl _))) A' cap' hRd (fun b hb' hF => by
        have h1 := hOb b (hOb' b hb')
        have h2 := hq b hF
        omega)
      have hb8 := hb.size
      have k0 := (hb.block w.heap.size (by omega)).trans b0
      have k1 := (hb.block (w.heap.size + 1) (by omega)).trans b1
      have k2 := (hb.block (w.heap.size + 1 + 1) (by omega)).trans b2
      have m1 := cell_of_heap k1 3 (.string s4) rfl
      go_wp2_with (first
        | (go_at_call 12; refine hp8.mono ?_; rintro e w1 ⟨rfl, ht⟩; obtain ⟨F1, t1, hc, hF1, hF1'⟩ := ht.clip; have d0 := (hc.block w.heap.size (by omega) (fun hh => by have := hq _ hh; omega)).trans k0; have d1 := (hc.block (w.heap.size + 1) (by omega) (fun hh => by have := hq _ hh; omega)).trans k1; have d2 := (hc.block (w.heap.size + 1 + 1) (by omega) (fun hh => by have := hq _ hh; omega)).trans k2; have a0 := cell_of_heap d0 0 (.slice A L cA) rfl; have a1 := cell_of_heap d0 1 (.slice B L2 cB) rfl; have a2 := cell_of_heap d1 3 (.string s4) rfl; have a3 := cell_of_heap d1 4 (.slice C k cap) rfl; have hc1 := hc.size)
        | (go_at_call 30; refine (hr w1 (fun j => F3 F1 X w.heap.size j ∨ (Value.slice A' k cap').ownBlock = some j) (h.rt.move hne (by omega) fun j hj hn => ⟨(hc.block j (by omega) (fun h => hn (.inl h))).trans ((hb.block j (by omega)).trans (hWB.block j hj)), fun hf => by rcases hf with (hf | hf | hf) | hf; (rcases hF1 j hf with h1 | h1; exact hn (.inl h1); omega); exact hn (.inr hf); omega; (have := hOb j hf; omega)⟩) (fun j hf => by rcases hf with (hf | hf | hf) | hf; exact hF1' j hf; (have := h.lx j hf; omega); omega; (have := hVlt j hf; omega)) ((hCW.below hb).chg hc hCF)).mono ?_; rintro e w2 ⟨⟨v2, rfl, hR2⟩, hb2⟩; obtain ⟨A3, c3, B3, c4, rfl, _, _⟩ := id hR2))
      have hq2 := (hb2.block _ (Array.getElem?_eq_some_iff.1 d2).1).trans d2
      have hb3 := Below.one w2 (.cells #[.slice A3 T1.length c3, .slice B3 (defL Ds s4 s5 E).length c4] 44)
      have hbm3 := hbmp.chg (w' := w2.alloc (.cells #[.slice A3 T1.length c3, .slice B3 (defL Ds s4 s5 E).length c4] 44)) fun b hb' hlt' => by
        have h1 := hOb b hb'
        rw [hb3.block b (by have := hb2.size; omega), hb2.block b (by omega), hc.block b hlt' (fun hf => by have := hq b hf; omega)]
      obtain ⟨w3, hw3⟩ : ∃ w3, w3 = w2.alloc (.cells #[.slice A3 T1.length c3, .slice B3 (defL Ds s4 s5 E).length c4] 44) := ⟨_, rfl⟩
      have HW3 := Lib.hid hw3
      rw [← hw3] at hbm3 hb3 ⊢
      clear hw3
      go_loopw [148] (fun i w8 => ∃ j : Nat, j ≤ k ∧ i = .int .i64 j ∧ Chg w3 w8 (fun m => (Value.slice A' k cap').ownBlock = some m) ∧ Bump w8 (.slice A' k cap') k) (fun i _ => k - (intOf i).toNat)
      case atStart => exact ⟨0, by omega, rfl, Chg.refl _ _, hbm3⟩
      case round =>
        obtain ⟨j, hj, rfl, hc8, hbm⟩ := hrel
        by_cases hlt2 : j < k
        · obtain ⟨b, cp, cs, hVb, hblk, hcs⟩ := hbm (by omega)
          injection hVb with hVb _ hcp
          subst hVb
          obtain ⟨n, hn⟩ := hcs j hlt2
          have x0 := cell_of_heap hblk (j * 2 + 1) _ hn
          have x1 := free_of_heap hblk (j * 2 + 1)
          clear hcs hn hcp
          go_wp2
          exact ⟨⟨j + 1, by omega, by simp, hc8.set rfl _, hbm.set rfl hlt2⟩, by simp [intOf]; omega⟩
        · obtain rfl : j = k := by omega
          rw [HW3.out] at hc8
          obtain ⟨n4, n5, n6, n7, n8, n9, f2, f3, hfin⟩ := does_end2 (F1 := F1) hWB hWs hq h.lx (by rw [hlk]; exact t1) ((Chg.of_below hb F).trans hc (fun i hi => .inl hi)) (fun i hi => (hF1 i hi).imp id (fun h => by omega)) hF1' hne1 hR2 hb2 hq2 (fun i hi => ⟨hOb i hi, by have := hVlt i hi; omega, fun hf => by rcases hF1 i hf with h1 | h1; (have := hq i h1; have := hOb i hi; omega); (have := hVlt i hi; omega)⟩) hc8
          go_wp2
          all_goals
            (try simp only [Exit.inBlock, Exit.then])
            refine bodyPost_ret (by simp [results, Tryd.results20, go_sem, f2, f3]; try rfl) rfl ?_
            exact ⟨_, rfl, hfin _ _⟩
end Go.Proofs.YtdoeinccnfggiaaDoor
