import Derived.Test.YtdoeinccnfggiaaDoorRp
namespace Go.Proofs.YtdoeinccnfggiaaDoor
open Go.RowKit Go.BigFrame

theorem name_some {s : ByteArray} (h : ¬ s.size = 0) : s.toList.isEmpty = false := by
  rw [Go.ByteArray.toList_eq]
  cases s with
  | mk d =>
    have : d.size ≠ 0 := h
    rw [List.isEmpty_eq_false_iff_exists_mem]
    exact ⟨d[0], by simp⟩
set_option maxRecDepth 1000000 in
set_option maxHeartbeats 8000000 in
/-- the document's Define where the struct has no fields yet -/
theorem refDefine_new {w : World} {F : Nat → Prop} {v : Value} {T : List Ty} {Ds : List (ByteArray × List Fld)} (h : RT w F v T Ds) (hne : ∀ d ∈ Ds, 0 < d.2.length) (hDs : Ds.length ≤ 1000) (hDl : ∀ d ∈ Ds, d.2.length ≤ 1000) (hF : ∀ k, F k → k < w.heap.size) (hT : 1 ≤ T.length ∧ T.length ≤ 256) (K : Nat) (s : ByteArray) (he : (strL T s).2.2 = 0) (hD : look Ds s = none)
    (A : Option Addr) (cap : Nat) (l : List Fld) (hl : l.length ≤ 1000) (hA : FRdO w A l) (hd : ∀ f ∈ l, deep (strL T s).1 (look Ds) K f.type) (hpos : ∀ f ∈ l, (sz (strL T s).1 (look Ds) K f.type).2 = true ↔ 0 < (sz (strL T s).1 (look Ds) K f.type).1) :
    Calls Tryd.prog 30 #[v, .string s, .slice A l.length cap] w fun e w' => (∃ v', e = .returned (.tuple #[v', .int .i64 (defE (strL T s).1 (look Ds) K s l)]) ∧ RT w' F v' (strL T s).1 (defL Ds s l (defE (strL T s).1 (look Ds) K s l))) ∧ Below w.heap.size w w' := by
  obtain ⟨A0, cap0, B, cap2, rfl, h1, h2⟩ := id h
  obtain ⟨L0, hL0⟩ : ∃ L, T.length = L := ⟨_, rfl⟩
  obtain ⟨L2, hL2⟩ : ∃ L2, Ds.length = L2 := ⟨_, rfl⟩
  rw [hL0, hL2] at h
  rw [hL0, hL2]
  clear hL0 hL2 h1 h2
  obtain ⟨q0, q1, hbb⟩ := @box2 w ((w.alloc (oT A0 L0 cap0 B L2 cap2)).alloc (oT none 0 0 none 0 0)) (oT A0 L0 cap0 B L2 cap2) (oT none 0 0 none 0 0) (Below.refl _ _)
  obtain ⟨W, hW⟩ : ∃ W, (w.alloc (oT A0 L0 cap0 B L2 cap2)).alloc (oT none 0 0 none 0 0) = W := ⟨_, rfl⟩
  have hWs : W.heap.size = w.heap.size + 2 := by rw [← hW]; simp
  rw [hW] at q0 q1 hbb
  have a0 := cell_of_heap q0 0 (.slice A0 L0 cap0) rfl
  have a1 := cell_of_heap q0 1 (.slice B L2 cap2) rfl
  have hst := refStruct_any (h.avoid2 hne hbb) hne (fun k hk => by rcases hk with hk | hk; exact Nat.lt_of_lt_of_le (hF k hk) hbb.size; omega) hT s
  generalize strL T s = R at *
  obtain ⟨T1, R2, R3⟩ := R
  simp only at *
  subst he
  have HD := Lib.hid hD
  clear hD
  obtain ⟨L, hL⟩ : ∃ L, l.length = L := ⟨_, rfl⟩
  have HL := Lib.hid hL
  rw [hL] at hl ⊢
  clear hL
  obtain ⟨e0, he0⟩ : ∃ e0, e0 = defE T1 (look Ds) K s l := ⟨_, rfl⟩
  rw [← he0]
  have HE := Lib.hid he0
  clear he0
  go_enter Tryd.func30, Tryd.ntmps30
  go_wp2_with (first
    | (go_at_call 29; refine hst.mono ?_; rintro e w2 ⟨⟨v2, rfl, hR2⟩, hb2⟩; obtain ⟨A3, c3, B3, c4, rfl, k1, k2⟩ := id hR2; have p0 := (hb2.block _ (Array.getElem?_eq_some_iff.1 q0).1).trans q0; have p1 := (hb2.block _ (Array.getElem?_eq_some_iff.1 q1).1).trans q1; have b0 := cell_of_heap p0 0 (.slice A0 L0 cap0) rfl; have b1 := cell_of_heap p0 1 (.slice B L2 cap2) rfl; have z0 := free_of_heap p0 0; have z1 := free_of_heap p0 1; have s0 := set2_heap p0 (.slice A3 T1.length c3) (.slice B3 Ds.length c4); have s1 := (set2_other (w2 := w2) (r := w.heap.size) (k := w.heap.size + 1) (by omega) (.slice A3 T1.length c3) (.slice B3 Ds.length c4)).trans p1; have c0 := cell_of_heap s0 0 (.slice A3 T1.length c3) rfl; have c1 := cell_of_heap s0 1 (.slice B3 Ds.length c4) rfl; have hR3 := hR2.set2 hne (r := w.heap.size) (.inr ⟨Nat.le_refl _, by omega⟩) (.slice A3 T1.length c3) (.slice B3 Ds.length c4))
    | (go_at_call 38; refine (refFields_any hR3 hne hDs s).mono ?_; rintro e w4 ⟨hh, hb4⟩; obtain ⟨-, rfl⟩ := hh.resolve_left (fun ⟨C, c, l', hx, _⟩ => by rw [HD.out] at hx; cases hx); clear hh; have t0 := (hb4.block _ (Array.getElem?_eq_some_iff.1 s0).1).trans s0; have t1 := (hb4.block _ (Array.getElem?_eq_some_iff.1 s1).1).trans s1; have hbw := hbb.trans (hb2.mono hbb.size); have hb3 := (hbw.setCell (p := ⟨w.heap.size, 0, none⟩) (Nat.le_refl _) (.slice A3 T1.length c3)).setCell (p := ⟨w.heap.size, 1, none⟩) (Nat.le_refl _) (.slice B3 Ds.length c4); have hb5 := hb3.trans (hb4.mono hb3.size); have hS : DSt w w4 F _ T1 Ds _ _ A l := ⟨rfl, t0, t1, hR3.below hne hb4, hb5, hA.below hb5⟩))
  clear a0 a1 q0 q1 b0 b1 z0 z1 s0 s1 c0 c1 p0 p1 t0 t1 k1 k2 hst hbb hbw hb3 hb5 hb2 hb4
  have hlat : ∀ w5, Below w4.heap.size w4 w5 → DSt w w5 F _ T1 Ds (.slice A3 T1.length c3) (.slice B3 Ds.length c4) A l := fun w5 hb => hS.later hne hb
  have htw : ∀ (k : Nat) f, l[k]? = some f → (f.name.size = 0 ∨ 0 < cnt (l.take k) f.name) → e0 = 7 := fun k f hf hh => by
    rw [HE.out]
    unfold defE
    rw [HD.out, if_pos (tw_bad hf (hh.imp (fun h => by rw [size_zero h, Go.ByteArray.toList_eq]; rfl) id))]
  go_loopw [13] (fun i w8 => ∃ k : Nat, k ≤ L ∧ i = .int .i64 k ∧ Below w4.heap.size w4 w8 ∧ tw false l k = false) (fun i _ => L - (intOf i).toNat)
  case atStart => exact ⟨0, by omega, rfl, Below.refl _ _, rfl⟩
  case round =>
    obtain ⟨k, hk, rfl, hb, hno⟩ := hrel
    by_cases hlt : k < L
    · have hf : l[k]? = some (l[k]'(by rw [HL.out]; omega)) := by simp
      generalize l[k]'(by rw [HL.out]; omega) = f at hf
      go_wp2
      obtain ⟨w9, rfl⟩ : ∃ w9 : World, w9 = wr := ⟨_, rfl⟩
      go_loopw [14] (fun i w8 => ∃ j : Nat, j ≤ k ∧ i = .int .i64 j ∧ Below w9.heap.size w9 w8 ∧ ∀ (m : Nat) g, m < j → l[m]? = some g → g.name ≠ f.name) (fun i _ => k - (intOf i).toNat)
      case atStart => exact ⟨0, by omega, rfl, Below.refl _ _, fun m g hm => by omega⟩
      case round =>
        obtain ⟨j, hj, rfl, hb8, hnj⟩ := hrel
        have hbt := hb.trans (hb8.mono hb.size)
        have hS8 := hlat wr hbt
        obtain ⟨m0, m1, r0, r1, y0, y1, f2, f3⟩ := hS8.cells
        obtain ⟨bf, of, rfl, _, fk0, fk1⟩ := hS8.fl k f hf
        by_cases hlt2 : j < k
        · have hg : l[j]? = some (l[j]'(by rw [HL.out]; omega)) := by simp
          generalize l[j]'(by rw [HL.out]; omega) = g at hg
          obtain ⟨bg, og, hbg, _, g0, g1⟩ := hS8.fl j g hg
          injection hbg with hbg
          injection hbg with e1 e2
          subst e1 e2
          cases he : (g.name.toList == f.name.toList)
          · go_wp2
            go_quiet (fail)
            go_wp2
            exact ⟨⟨j + 1, by omega, by simp, below_drewN hb8 _, fun m g' hm hg' => by
              by_cases hmj : m = j
              · subst hmj
                rw [hg] at hg'
                injection hg' with hg'
                subst hg'
                exact bytes_other he
              · exact hnj m g' (by omega) hg'⟩, by simp [intOf]; omega⟩
          · have h7 := htw k f hf (.inr (cnt_pos hlt2 hg (bytes_same he)))
            subst h7
            go_wp2
            go_quiet (fail)
            have hS9 := hlat _ (below_drewN hbt nq)
            obtain ⟨-, -, -, -, y0, y1, f2, f3⟩ := hS9.cells
            go_wp2
            (try simp only [Exit.inBlock, Exit.then])
            refine bodyPost_ret (by simp [results, Tryd.results30, go_sem, f2, f3]; try rfl) rfl ?_
            exact ⟨⟨_, rfl, by unfold defL; rw [if_neg (by decide)]; exact (hS9.done hne _ _).1⟩, (hS9.done hne _ _).2⟩
        · obtain rfl : j = k := by omega
          by_cases hz : f.name.size = 0
          · have h7 := htw j f hf (.inl hz)
            subst h7
            have q1' : ((f.name.size : Int) == 0) = true := by simp [hz]
            clear hz
            go_wp2
            (try simp only [Exit.inBlock, Exit.then])
            refine bodyPost_ret (by simp [results, Tryd.results30, go_sem, f2, f3]; try rfl) rfl ?_
            exact ⟨⟨_, rfl, by unfold defL; rw [if_neg (by decide)]; exact (hS8.done hne _ _).1⟩, (hS8.done hne _ _).2⟩
          · have q1' : ((f.name.size : Int) == 0) = false := by simp [hz]
            have htk : tw false l (j + 1) = false := by
              rw [tw_succ _ _ _ _ hf, hno, cnt_zero hnj, name_some hz]
              rfl
            clear hz
            go_wp2
            exact ⟨⟨j + 1, by omega, by simp, hbt, htk⟩, by simp [intOf]; omega⟩
    · obtain rfl : k = L := by omega
      have hS9 := hlat wr hb
      clear hlat htw hb hS
      obtain ⟨w9, rfl⟩ : ∃ w9 : World, w9 = wr := ⟨_, rfl⟩
      have hlat : ∀ w5, Below w9.heap.size w9 w5 → DSt w w5 F _ T1 Ds (.slice A3 T1.length c3) (.slice B3 Ds.length c4) A l := fun w5 hb => hS9.later hne hb
      have hE1 : e0 = if (l.all fun f => (sz T1 (look Ds) K f.type).2) = false then 8 else if l.length = 0 then 8 else if 4096 < sumF T1 (look Ds) K l then 4 else 0 := by
        rw [HE.out]
        unfold defE
        rw [HD.out, HL.out, if_neg (by rw [show (none : Option (List Fld)).isSome = false from rfl, hno]; simp)]
      have HE1 := Lib.hid hE1
      clear hE1 hno
      have htk : sumF T1 (look Ds) K (l.take k) = sumF T1 (look Ds) K l := by rw [← HL.out, List.take_length]
      have HTK := Lib.hid htk
      clear htk
      go_wp2
      go_loopw [12, 15] (fun sm i w8 => ∃ j : Nat, j ≤ k ∧ i = .int .i64 j ∧ sm = .int .i64 (sumF T1 (look Ds) K (l.take j)) ∧ Below w9.heap.size w9 w8 ∧ ∀ (m : Nat) g, m < j → l[m]? = some g → (sz T1 (look Ds) K g.type).2 = true) (fun _ i _ => k - (intOf i).toNat)
      case atStart => exact ⟨0, by omega, rfl, by simp [sumF], Below.refl _ _, fun m g hm => by omega⟩
      case round =>
        obtain ⟨j, hj, rfl, rfl, hb, hal⟩ := hrel
        by_cases hlt : j < k
        · have hf : l[j]? = some (l[j]'(by rw [HL.out]; omega)) := by simp
          generalize l[j]'(by rw [HL.out]; omega) = f at hf
          obtain ⟨bf, of, rfl, hbf, _, fk1⟩ := (hlat wr hb).fl j f hf
          have hdf := hd f (List.mem_of_getElem? hf)
          have hpf := hpos f (List.mem_of_getElem? hf)
          have hbd := deep_bound K _ hdf
          have hsb := sumF_bound hd j (by rw [HL.out]; omega)
          have HS := Lib.hid (sumF_succ T1 (look Ds) K j l f hf)
          have lb := fun s : Later wr => hb.trans (s.h.mono hb.size)
          have ls := fun s : Later wr => hlat s.w (lb s)
          have l0 := fun s : Later wr => (ls s).cells.1
          have l1 := fun s : Later wr => (ls s).cells.2.1
          have lf := fun s : Later wr => (s.h.cell (p := ⟨bf, _, none⟩) hbf).trans fk1
          have lcg := fun w5 hb5 => refSize_any (F := F2 F w.heap.size) hne hDs hDl K f.type w5 (hlat w5 hb5).rt hdf
          have lc := fun s : Later wr => lcg s.w (lb s)
          generalize sumF T1 (look Ds) K (l.take j) = S at *
          cases hz : (sz T1 (look Ds) K f.type).2
          · have hz1 : (sz T1 (look Ds) K f.type).1 = 0 := by
              rw [hz] at hpf
              simp at hpf
              omega
            have h8 : e0 = 8 := by
              rw [HE1.out, if_pos]
              rw [List.all_eq_false]
              exact ⟨f, List.mem_of_getElem? hf, by rw [hz]; simp⟩
            rw [hz1] at lc
            clear hz1 hz hpf hbd
            subst h8
            go_wp2
            refine wp_region_later (by kernel_rfl) (by kernel_rfl) ?_
            repeat (go_big_quiet_step ((go_at_call 33; exact Calls.later (lc _))))
            refine wpQuiet_nil ?_
            rintro w3 ⟨s', rfl⟩
            have hS3 := ls s'
            generalize s'.w = w3 at *
            clear lb ls l0 l1 lf lc
            obtain ⟨m0, m1, r0, r1, y0, y1, f2, f3⟩ := hS3.cells
            go_wp2
            (try simp only [Exit.inBlock, Exit.then])
            refine bodyPost_ret (by simp [results, Tryd.results30, go_sem, f2, f3]; try rfl) rfl ?_
            exact ⟨⟨_, rfl, by unfold defL; rw [if_neg (by decide)]; exact (hS3.done hne _ _).1⟩, (hS3.done hne _ _).2⟩
          · have hp := hpf.1 hz
            have HZ := Lib.hid hz
            clear hz hpf
            generalize (sz T1 (look Ds) K f.type).1 = Z at *
            have qz : (Z == 0) = false := by simp; omega
            have hwr : wrap64 (S + Z) = S + Z := by unfold wrap64; omega
            go_wp2
            refine wp_region_later (by kernel_rfl) (by kernel_rfl) ?_
            repeat (go_big_quiet_step ((go_at_call 33; exact Calls.later (lc _))))
            refine wpQuiet_nil ?_
            rintro w3 ⟨s', rfl⟩
            have hb3 := lb s'
            have hbf3 := Nat.lt_of_lt_of_le hbf s'.h.size
            have fk3 := lf s'
            clear lb ls l0 l1 lf lc
            generalize s'.w = w3 at *
            have lb := fun s : Later w3 => hb3.trans (s.h.mono hb3.size)
            have ls := fun s : Later w3 => hlat s.w (lb s)
            have l0 := fun s : Later w3 => (ls s).cells.1
            have l1 := fun s : Later w3 => (ls s).cells.2.1
            have lf := fun s : Later w3 => (s.h.cell (p := ⟨bf, _, none⟩) hbf3).trans fk3
            have lc := fun s : Later w3 => lcg s.w (lb s)
            clear lcg
            go_wp2
            refine wp_region_later (by kernel_rfl) (by kernel_rfl) ?_
            repeat (go_big_quiet_step ((go_at_call 33; exact Calls.later (lc _))))
            refine wpQuiet_nil ?_
            rintro w5 ⟨s', rfl⟩
            have hb5 := lb s'
            clear lb ls l0 l1 lf lc
            generalize s'.w = w5 at *
            go_wp2
            exact ⟨⟨j + 1, by omega, by simp, by rw [HS.out], hb5, fun m g hm hg => by
              by_cases hmj : m = j
              · subst hmj
                rw [hf] at hg
                injection hg with hg
                subst hg
                exact HZ.out
              · exact hal m g (by omega) hg⟩, by simp [intOf]; omega⟩
        · obtain rfl : j = k := by omega
          have hS8 := hlat wr hb
          have hall : (l.all fun f => (sz T1 (look Ds) K f.type).2) = true := by
            rw [List.all_eq_true]
            intro f hf
            obtain ⟨m, hm⟩ := List.mem_iff_getElem?.1 hf
            exact hal m f (by rw [← HL.out]; exact (List.getElem?_eq_some_iff.1 hm).1) hm
          have hE2 := HE1.out
          rw [hall, if_neg (by simp), HL.out, ← HTK.out] at hE2
          have hsb := sumF_bound hd j (by rw [HL.out]; omega)
          rw [HTK.out] at hsb
          rw [HTK.out] at hE2 ⊢
          clear hall hal hlat
          generalize sumF T1 (look Ds) K l = S at *
          obtain ⟨m0, m1, r0, r1, y0, y1, f2, f3⟩ := hS8.cells
          by_cases hj0 : j = 0
          · have h8 : e0 = 8 := by rw [hE2, if_pos hj0]
            subst hj0
            subst h8
            clear hE2 hsb
            go_wp2
            (try simp only [Exit.inBlock, Exit.then])
            refine bodyPost_ret (by simp [results, Tryd.results30, go_sem, f2, f3]; try rfl) rfl ?_
            exact ⟨⟨_, rfl, by unfold defL; rw [if_neg (by decide)]; exact (hS8.done hne _ _).1⟩, (hS8.done hne _ _).2⟩
          · rw [if_neg hj0] at hE2
            have qj : (j == 0) = false := by simpa using hj0
            have qj2 : ((j : Int) == 0) = false := by simp; omega
            by_cases hs4 : 4096 < S
            · have h4 : e0 = 4 := by rw [hE2, if_pos hs4]
              subst h4
              have q4 : decide (S > 4096) = true := by simpa using hs4
              have q5 : decide (4096 < S) = true := by simpa using hs4
              clear hE2 hsb hs4
              go_wp2
              (try simp only [Exit.inBlock, Exit.then])
              refine bodyPost_ret (by simp [results, Tryd.results30, go_sem, f2, f3]; try rfl) rfl ?_
              exact ⟨⟨_, rfl, by unfold defL; rw [if_neg (by decide)]; exact (hS8.done hne _ _).1⟩, (hS8.done hne _ _).2⟩
            · have h0 : e0 = 0 := by rw [hE2, if_neg hs4]
              subst h0
              have q4 : decide (S > 4096) = false := by simpa using hs4
              have q5 : decide (4096 < S) = false := by simpa using hs4
              obtain ⟨V1, w6, A2, c2, w7, A4, c5, w8, hr1, hr2, hr3, n1, n2, n3, hS9⟩ := def_appends (s := s) (cap := cap) hS8 hne hF (by rw [HL.out]; omega) (by rw [HL.out]; exact hl) hDs
              rw [HL.out] at hr2 hr3
              have hne' : ∀ d ∈ Ds ++ [(s, l)], 0 < d.2.length := fun d hd => by
                rcases List.mem_append.1 hd with hd | hd
                · exact hne d hd
                · simp at hd; subst hd; simp only; rw [HL.out]; omega
              have hfin := fun u u' => hS9.done hne' u u'
              obtain ⟨m2, m3, r2, r3, y2, y3, f4, f5⟩ := hS9.cells
              clear hE2 hsb hs4 hS9
              clear m0 r0 r1 y0 y1 f2 f3 hS8
              go_wp2_with (first
                | (at_builtin; refine append_ran (t := 42) rfl _ _ rfl rfl rfl hr1 ?_)
                | (at_builtin; refine append_ran (t := 46) rfl _ _ rfl rfl rfl hr2 ?_)
                | (at_builtin; refine append_ran (t := 42) rfl _ _ rfl rfl rfl hr3 ?_))
              (try simp only [Exit.inBlock, Exit.then])
              refine bodyPost_ret (by simp [results, Tryd.results30, go_sem, f4, f5]; try rfl) rfl ?_
              exact ⟨⟨_, rfl, by unfold defL; rw [if_pos rfl]; exact (hfin _ _).1⟩, (hfin _ _).2⟩
end Go.Proofs.YtdoeinccnfggiaaDoor
