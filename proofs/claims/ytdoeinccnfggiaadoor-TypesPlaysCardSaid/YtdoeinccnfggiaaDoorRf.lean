import Derived.Test.YtdoeinccnfggiaaDoorRe
namespace Go.Proofs.YtdoeinccnfggiaaDoor
open Go.RowKit Go.BigFrame

theorem look_mem {Ds : List (ByteArray × List Fld)} {s : ByteArray} {l : List Fld} (h : look Ds s = some l) : ∃ d ∈ Ds, d.2 = l := by
  unfold look at h
  cases hf : Ds.find? (fun d => decide (d.1 = s)) with
  | none => rw [hf] at h; simp at h
  | some d =>
    rw [hf] at h
    simp at h
    exact ⟨d, List.mem_of_find?_eq_some hf, h⟩
theorem atT_get {T : List Ty} {n : Int} {x : Ty} (h : atT T n = some x) : ∃ m : Nat, n = m ∧ T[m]? = some x := by
  unfold atT at h
  split at h
  · exact ⟨n.toNat, by omega, h⟩
  · simp at h
set_option maxRecDepth 1000000 in
set_option maxHeartbeats 4000000 in
/-- the document's Size -/
theorem refSize_any {F : Nat → Prop} {v : Value} {T : List Ty} {Ds : List (ByteArray × List Fld)} (hne : ∀ d ∈ Ds, 0 < d.2.length) (hD : Ds.length ≤ 1000) (hDl : ∀ d ∈ Ds, d.2.length ≤ 1000) : ∀ (k : Nat) (n : Int) (w : World), RT w F v T Ds → deep T (look Ds) k n → Calls Tryd.prog 33 #[v, .int .i64 n] w fun e w' =>
    e = .returned (.int .i64 (sz T (look Ds) k n).1) ∧ Below w.heap.size w w'
  | 0, _, _, _, hd => hd.elim
  | k + 1, n, w, h, hd => by
    have ih := fun m w => refSize_any (F := F) (v := v) (T := T) (Ds := Ds) hne hD hDl k m w
    obtain ⟨A, cap, B, cap2, rfl, h1, h2⟩ := id h
    obtain ⟨L, hL⟩ : ∃ L, T.length = L := ⟨_, rfl⟩
    obtain ⟨L2, hL2⟩ : ∃ L2, Ds.length = L2 := ⟨_, rfl⟩
    rw [hL, hL2] at ih h ⊢
    have HTL := Lib.hid hL
    have hfix := fun s => refFields_fix (s := s) (v := .agg #[.slice A L cap, .slice B L2 cap2]) h hne hD
    clear hL hL2
    have hbb := Below.one w (oT A L cap B L2 cap2)
    have q0 := heap_alloc_new w (oT A L cap B L2 cap2)
    obtain ⟨W, hW⟩ : ∃ W, w.alloc (oT A L cap B L2 cap2) = W := ⟨_, rfl⟩
    rw [hW] at q0 hbb
    have a0 := cell_of_heap q0 0 (.slice A L cap) rfl
    have a1 := cell_of_heap q0 1 (.slice B L2 cap2) rfl
    have hi := refIs_any (h.below hne hbb) n
    have hafter : ∀ w1, Below W.heap.size W w1 → w1.cell? ⟨w.heap.size, 0, none⟩ = some (.slice A L cap) ∧ w1.cell? ⟨w.heap.size, 1, none⟩ = some (.slice B L2 cap2) ∧ RT w1 F (.agg #[.slice A L cap, .slice B L2 cap2]) T Ds ∧ Below w.heap.size w w1 := fun w1 hb => by
      have hh := (hb.block _ (Array.getElem?_eq_some_iff.1 q0).1).trans q0
      exact ⟨cell_of_heap hh 0 _ rfl, cell_of_heap hh 1 _ rfl, (h.below hne hbb).below hne hb, hbb.trans (hb.mono hbb.size)⟩
    unfold sz
    unfold deep at hd
    cases hx : atT T n with
    | none =>
      rw [hx] at hi
      clear ih hd hx
      go_enter Tryd.func33, Tryd.ntmps33
      go_wp2_with (first
        | (go_at_call 36; refine hi.mono ?_; rintro e w1 ⟨rfl, hb1⟩))
      go_returns
      exact ⟨rfl, (hafter w1 hb1).2.2.2⟩
    | some x =>
      obtain ⟨hd5, hd6⟩ := hd x hx
      clear hd
      rw [hx] at hi
      obtain ⟨m, rfl, hm⟩ := atT_get hx
      clear hx
      simp only [Option.isSome_some] at hi
      obtain ⟨b, rfl, hblt, _, c0, c1, c2, c3⟩ := h1 m x hm
      obtain ⟨x1, x2, x3, x4⟩ := x
      simp only at hd5 hd6 c0 c1 c2 c3 ⊢
      have hrow : ∀ w1, Below W.heap.size W w1 → w1.cell? ⟨b, m * 4, none⟩ = some (.int .i64 x1) ∧ w1.cell? ⟨b, m * 4 + 1, none⟩ = some (.int .i64 x2) ∧ w1.cell? ⟨b, m * 4 + 2, none⟩ = some (.int .i64 x3) ∧ w1.cell? ⟨b, m * 4 + 3, none⟩ = some (.string x4) := fun w1 hb => by
        have hb' := hbb.trans (hb.mono hbb.size)
        exact ⟨(hb'.cell (p := ⟨b, _, none⟩) hblt).trans c0, (hb'.cell (p := ⟨b, _, none⟩) hblt).trans c1, (hb'.cell (p := ⟨b, _, none⟩) hblt).trans c2, (hb'.cell (p := ⟨b, _, none⟩) hblt).trans c3⟩
      have hmL : (m : Int) < (L : Int) := by
        have h9 := (List.getElem?_eq_some_iff.1 hm).1
        rw [HTL.out] at h9
        omega
      by_cases h0 : x1 = 0
      · subst h0
        rw [if_pos rfl]
        clear ih hd5 hd6
        go_enter Tryd.func33, Tryd.ntmps33
        go_wp2_with (first
          | (go_at_call 36; refine hi.mono ?_; rintro e w1 ⟨rfl, hb1⟩; obtain ⟨a2, a3, hR1, hBw⟩ := hafter w1 hb1; obtain ⟨d0, d1, d2, d3⟩ := hrow w1 hb1))
        go_returns
        exact ⟨rfl, hBw⟩
      · rw [if_neg h0]
        have q0' : (x1 == 0) = false := by simpa using h0
        by_cases h5 : x1 = 5
        · subst h5
          rw [if_pos rfl]
          obtain ⟨e1, e2, e3⟩ := hd5 rfl
          clear hd5 hd6 hfix
          have ih5 := fun w hw => ih x2 w hw e1
          clear ih e1
          generalize sz T (look Ds) k x2 = S at *
          obtain ⟨S1, S2⟩ := S
          simp only at *
          have hwr : wrap64 (S1 * x3) = S1 * x3 := by unfold wrap64; omega
          go_enter Tryd.func33, Tryd.ntmps33
          go_wp2_with (first
            | (go_at_call 36; refine hi.mono ?_; rintro e w1 ⟨rfl, hb1⟩; obtain ⟨a2, a3, hR1, hBw⟩ := hafter w1 hb1; obtain ⟨d0, d1, d2, d3⟩ := hrow w1 hb1))
          have lb := fun s : Later w1 => hb1.trans (s.h.mono hb1.size)
          have l0 := fun s : Later w1 => (hafter s.w (lb s)).1
          have l1 := fun s : Later w1 => (hafter s.w (lb s)).2.1
          have l2 := fun s : Later w1 => (hrow s.w (lb s)).2.1
          have l3 := fun s : Later w1 => (hrow s.w (lb s)).2.2.1
          have lc := fun s : Later w1 => ih5 s.w (hafter s.w (lb s)).2.2.1
          refine wp_region_later (by kernel_rfl) (by kernel_rfl) ?_
          repeat (go_big_quiet_step ((go_at_call 33; exact Calls.later (lc _))))
          refine wpQuiet_nil ?_
          rintro w2 ⟨s', rfl⟩
          have hb2 := (hafter s'.w (lb s')).2.2.2
          generalize s'.w = w2 at *
          go_wp2
          go_returns
          exact ⟨rfl, hb2⟩
        · rw [if_neg h5]
          have q5' : (x1 == 5) = false := by simpa using h5
          by_cases h6 : x1 = 6
          · subst h6
            rw [if_pos rfl]
            obtain ⟨C, c, l, hl1, hl2, hRF, hcall⟩ := hfix x4
            have hdl : (∀ f ∈ l, deep T (look Ds) k f.type) ∧ ∀ j, j ≤ l.length → 0 ≤ sumF T (look Ds) k (l.take j) ∧ sumF T (look Ds) k (l.take j) ≤ 5000000 := by
              rcases hl2 with h2' | h2'
              · have : l = [] := by rw [← hl1, h2']; rfl
                subst this
                exact ⟨fun f hf => by simp at hf, fun j _ => by simp [sumF]⟩
              · exact hd6 rfl l h2'
            have hl1000 : l.length ≤ 1000 := by
              rcases hl2 with h2' | h2'
              · have : l = [] := by rw [← hl1, h2']; rfl
                subst this
                simp
              · obtain ⟨d, hd, hdl⟩ := look_mem h2'
                rw [← hdl]
                exact hDl d hd
            have hsum : List.foldl (fun s f => s + (sz T (look Ds) k f.type).1) 0 l = sumF T (look Ds) k l := rfl
            rw [hl1, hsum]
            clear hsum hl1 hl2 hd5 hd6 hfix
            obtain ⟨hFR, _⟩ := hRF
            obtain ⟨LL, hLL⟩ : ∃ LL, l.length = LL := ⟨_, rfl⟩
            rw [hLL] at hcall hl1000
            have htk : sumF T (look Ds) k (l.take LL) = sumF T (look Ds) k l := by rw [← hLL, List.take_length]
            have HTK := Lib.hid htk
            clear htk
            generalize (look Ds x4).isSome = isS at *
            go_enter Tryd.func33, Tryd.ntmps33
            go_wp2_with (first
              | (go_at_call 36; refine hi.mono ?_; rintro e w1 ⟨rfl, hb1⟩; obtain ⟨a2, a3, hR1, hBw⟩ := hafter w1 hb1; obtain ⟨d0, d1, d2, d3⟩ := hrow w1 hb1))
            have lb := fun s : Later w1 => hb1.trans (s.h.mono hb1.size)
            have l0 := fun s : Later w1 => (hafter s.w (lb s)).1
            have l1 := fun s : Later w1 => (hafter s.w (lb s)).2.1
            have l2 := fun s : Later w1 => (hrow s.w (lb s)).2.2.2
            have lc := fun s : Later w1 => hcall s.w (hafter s.w (lb s)).2.2.2
            refine wp_region_later (by kernel_rfl) (by kernel_rfl) ?_
            repeat (go_big_quiet_step ((go_at_call 38; exact Calls.later (lc _))))
            refine wpQuiet_nil ?_
            rintro w2 ⟨s', rfl⟩
            have hbW2 := lb s'
            generalize s'.w = w2 at *
            obtain ⟨_, _, _, hB2⟩ := hafter w2 hbW2
            clear l0 l1 l2 lc lb hcall
            go_wp2
            go_loopw [7, 8] (fun sm i w8 => ∃ j : Nat, j ≤ LL ∧ i = .int .i64 j ∧ sm = .int .i64 (sumF T (look Ds) k (l.take j)) ∧ Below w2.heap.size w2 w8) (fun _ i _ => LL - (intOf i).toNat)
            case atStart => exact ⟨0, by omega, rfl, by simp [sumF], Below.refl _ _⟩
            case round =>
              obtain ⟨j, hj, rfl, rfl, hb⟩ := hrel
              by_cases hlt : j < LL
              · have hf : l[j]? = some (l[j]'(by omega)) := by simp
                generalize l[j]'(by omega) = f at hf
                obtain ⟨bc, rfl, hbclt, _, f1⟩ := hFR j f hf
                have hS := sumF_succ T (look Ds) k j l f hf
                have hdf := hdl.1 f (List.mem_of_getElem? hf)
                have hb0 := hdl.2 j (by omega)
                have hb1' := hdl.2 (j + 1) (by omega)
                rw [hS] at hb1'
                have HS := Lib.hid hS
                clear hS
                have lb := fun s : Later wr => hbW2.trans ((hb.trans (s.h.mono hb.size)).mono hbW2.size)
                have lw := fun s : Later wr => (hafter s.w (lb s)).2.2.2
                have l0 := fun s : Later wr => (hafter s.w (lb s)).1
                have l1 := fun s : Later wr => (hafter s.w (lb s)).2.1
                have l2 := fun s : Later wr => ((lw s).cell (p := ⟨bc, j * 2 + 1, none⟩) hbclt).trans f1
                have lc := fun s : Later wr => ih f.type s.w (hafter s.w (lb s)).2.2.1 hdf
                generalize sumF T (look Ds) k (l.take j) = S at *
                generalize sz T (look Ds) k f.type = Z at *
                obtain ⟨Z1, Z2⟩ := Z
                simp only at *
                have hwr : wrap64 (S + Z1) = S + Z1 := by unfold wrap64; omega
                go_wp2
                refine wp_region_later (by kernel_rfl) (by kernel_rfl) ?_
                repeat (go_big_quiet_step ((go_at_call 33; exact Calls.later (lc _))))
                refine wpQuiet_nil ?_
                rintro w3 ⟨s', rfl⟩
                have hb3 := hb.trans (s'.h.mono hb.size)
                generalize s'.w = w3 at *
                go_wp2
                exact ⟨⟨j + 1, by omega, by simp, by rw [HS.out], hb3⟩, by simp [intOf]; omega⟩
              · have hjL : j = LL := by omega
                rw [hjL, HTK.out]
                go_wp2
                go_returns
                exact ⟨rfl, hB2.trans (hb.mono hB2.size)⟩
          · rw [if_neg h6]
            have q6' : (x1 == 6) = false := by simpa using h6
            clear ih hd5 hd6 hfix h0 h5 h6
            go_enter Tryd.func33, Tryd.ntmps33
            go_wp2_with (first
              | (go_at_call 36; refine hi.mono ?_; rintro e w1 ⟨rfl, hb1⟩; obtain ⟨a2, a3, hR1, hBw⟩ := hafter w1 hb1; obtain ⟨d0, d1, d2, d3⟩ := hrow w1 hb1))
            go_returns
            exact ⟨rfl, hBw⟩
end Go.Proofs.YtdoeinccnfggiaaDoor
