import Derived.Test.YtdoeinccnfggiaaDoorRy
namespace Go.Proofs.YtdoeinccnfggiaaDoor
open Go.RowKit Go.BigFrame

theorem OwnT.chg {w w' : World} {V : Value} {l : List Ty} (h : OwnT w V l) (hs : ∀ b, V.ownBlock = some b → b < w.heap.size → w'.heap[b]? = w.heap[b]?) : OwnT w' V l := by
  refine ⟨h.1, ?_⟩
  rcases h.2 with hn | ⟨g, cap, cur, rfl, hb, hg, rest⟩
  · exact .inl hn
  · exact .inr ⟨g, cap, cur, rfl, hb, (hs g rfl (Array.getElem?_eq_some_iff.1 hg).1).trans hg, rest⟩
theorem neq_ty (x y : Ty) (w : World) : (binOp .neq 51 x.agg y.agg).run Tryd.prog w = .ok (.bool (!tyEq x y)) w := by
  have h : (Op.equalIn 10000 51 x.agg y.agg).run Tryd.prog w = .ok (tyEq x y) w := by
    rw [run_equalIn_struct w 9999 51 _ _ (by kernel_rfl) (by kernel_rfl)]
    exact eqFields_four 9999 _ _ _ 3 3 3 9 0 1 2 3 w (.int .i64 x.kind) (.int .i64 y.kind) (.int .i64 x.elem) (.int .i64 y.elem) (.int .i64 x.n) (.int .i64 y.n) (.string x.name) (.string y.name) _ _ _ _ fields51
      (by kernel_rfl) (by kernel_rfl) (run_equalIn_int w 9998 3 .i64 .i64 _ _ (by kernel_rfl)) (by kernel_rfl) (by kernel_rfl) (run_equalIn_int w 9998 3 .i64 .i64 _ _ (by kernel_rfl))
      (by kernel_rfl) (by kernel_rfl) (run_equalIn_int w 9998 3 .i64 .i64 _ _ (by kernel_rfl)) (by kernel_rfl) (by kernel_rfl) (run_equalIn_string w 9998 9 _ _ (by kernel_rfl))
  simp only [binOp, Op.equal, Op.maxDepth, Sem.run_bind, h, Result.andThen_ok, Sem.run_pure]
set_option maxRecDepth 1000000 in
set_option maxHeartbeats 8000000 in
/-- the law TypesOnce's function, of any steps -/
theorem once_any {w : World} {A : Option Addr} {l : List Stp} {cap : Nat} (h : RdS w A l) (hl : l.length ≤ 9223372036854775807) (hTab : Tab w) : Calls Tryd.prog 4 #[.slice A l.length cap] w fun e w' => e = .returned (.bool true) ∧ Below w.heap.size w w' := by
  obtain ⟨L, hL⟩ : ∃ L, l.length = L := ⟨_, rfl⟩
  have hfew := few_any (cap := cap) h hl
  rw [hL] at hl hfew ⊢
  have HL := Lib.hid hL
  clear hL
  have hTab' := fun w' hb => Tab.below hTab (w' := w') hb
  go_enter Tryd.func4, Tryd.ntmps4
  go_wp2_with (first
    | (go_at_call 16; refine hfew.mono ?_; rintro e w1 ⟨⟨b, rfl, hfine⟩, hb1⟩; cases b))
  · go_wp2_with (first
      | (go_at_call 9; refine (awake_any _ (hTab' _ hb1)).mono ?_; rintro e w2 ⟨rfl, hb2⟩))
    go_returns
    exact ⟨rfl, hb1.trans (hb2.mono hb1.size)⟩
  · obtain ⟨hL40, hF⟩ := hfine (by simp)
    clear hfine
    go_wp2_with (first
      | (go_at_call 10; refine (new_any _).mono ?_; rintro e w2 ⟨rfl, hf2⟩; obtain ⟨F0, t2, hb2, hF0, hF0'⟩ := hf2.open_)
      | (go_at_call 17; refine (refNew_any w2 F0 hF0').mono ?_; rintro e w3 ⟨⟨v3, rfl, hR3⟩, hb3⟩; obtain ⟨A3, c3, B3, c4, rfl, _, _⟩ := id hR3))
    have hne0 : ∀ d ∈ ([] : List (ByteArray × List Fld)), 0 < d.2.length := fun d hd => by simp at hd
    have hb4 := Below.one w3 (.cells #[.slice A3 (tys 4).length c3, .slice B3 0 c4] 44)
    have hs12 := hb1.size
    have hs23 := hb2.size
    have hs34 := hb3.size
    have hbw : Below w.heap.size w (w3.alloc (.cells #[.slice A3 (tys 4).length c3, .slice B3 0 c4] 44)) := hb1.trans ((hb2.mono hs12).trans ((hb3.mono (by omega)).trans (hb4.mono (by omega))))
    have hst : St w (w3.alloc (.cells #[.slice A3 (tys 4).length c3, .slice B3 0 c4] 44)) (w1.heap.size + 1) w3.heap.size 0 (tys 4) [] (.slice A3 (tys 4).length c3) (.slice B3 0 c4) F0 :=
      ⟨⟨(t2.below hb3).below hb4, hR3.move hne0 hb4.size (fun k hk hn => ⟨hb4.block k hk, fun hh => by rcases hh with hh | hh; exact hn hh; omega⟩), fun k hk => by have := hF0' k hk; simp; omega, fun k hk => by rw [hk]; simp⟩,
        inv0, heap_alloc_new _ _, fun hh => by have := hF0' _ hh; omega, hbw, fun b hb => by have := hF0 b hb; omega, by omega⟩
    clear hb4 hbw
    obtain ⟨w4, hw4⟩ : ∃ w4, w4 = w3.alloc (.cells #[.slice A3 (tys 4).length c3, .slice B3 0 c4] 44) := ⟨_, rfl⟩
    rw [← hw4] at hst
    obtain ⟨p, hp⟩ : ∃ p, p = w1.heap.size + 1 := ⟨_, rfl⟩
    obtain ⟨rb, hrb⟩ : ∃ rb, rb = w3.heap.size := ⟨_, rfl⟩
    go_wp2
    rw [← hp, ← hrb] at hst ⊢
    rw [← hw4]
    clear hp hrb hw4
    go_loopw [26] (fun i w8 => ∃ k : Nat, k ≤ L ∧ i = .int .i64 k ∧ ∃ T Ds va vb F, St w w8 p rb k T Ds va vb F) (fun i _ => L - (intOf i).toNat)
    case atStart => exact ⟨0, by omega, rfl, _, _, _, _, _, hst⟩
    case round =>
      obtain ⟨k, hk, rfl, T, Ds, va, vb, F, hB, hI, hrb, hnF, hb, hFw, hrw⟩ := hrel
      by_cases hlt : k < L
      · have hs : l[k]? = some (l[k]'(by rw [HL.out]; omega)) := by simp
        have hfs := hF _ (List.mem_of_getElem? hs)
        generalize l[k]'(by rw [HL.out]; omega) = s at hs hfs
        obtain ⟨b, o, C, c, rfl, hbl, e1, e2, e3, e4, e5, e6⟩ := h k s hs
        obtain ⟨s1, s2, s3, s4, s5⟩ := s
        simp only at e1 e2 e3 e4 e5 e6
        have e1' := (hb.cell (p := ⟨b, _, none⟩) hbl).trans e1
        have e2' := (hb.cell (p := ⟨b, _, none⟩) hbl).trans e2
        have e3' := (hb.cell (p := ⟨b, _, none⟩) hbl).trans e3
        have e4' := (hb.cell (p := ⟨b, _, none⟩) hbl).trans e4
        have e5' := (hb.cell (p := ⟨b, _, none⟩) hbl).trans e5
        clear e1 e2 e3 e4 e5
        obtain ⟨LF, hLF⟩ : ∃ LF, s5.length = LF := ⟨_, rfl⟩
        rw [hLF] at e5'
        have HLF := Lib.hid hLF
        clear hLF
        have hBA := hb.alloc hb.size (.cells #[.int .i64 s1, .int .i64 s2, .int .i64 s3, .string s4, .slice C LF c] 48)
        have hone := Below.one wr (.cells #[.int .i64 s1, .int .i64 s2, .int .i64 s3, .string s4, .slice C LF c] 48)
        have bx := heap_alloc_new wr (.cells #[.int .i64 s1, .int .i64 s2, .int .i64 s3, .string s4, .slice C LF c] 48)
        have hBo := hB.below hI.ne hone
        have hlen := len_any hBo.tb
        obtain ⟨M, hM⟩ : ∃ M, T.length = M := ⟨_, rfl⟩
        rw [hM] at hlen
        have hM256 := hI.len.2
        rw [hM] at hM256
        have HM := Lib.hid hM
        clear hM
        have hrbA := (hone.block rb (Array.getElem?_eq_some_iff.1 hrb).1).trans hrb
        have hrblt := (Array.getElem?_eq_some_iff.1 hrb).1
        go_wp2_with (first
          | (go_at_call 18; refine hlen.mono ?_; rintro e w5 ⟨rfl, hw5⟩; subst hw5))
        obtain ⟨bw, hbwe⟩ : ∃ bw, bw = wr.heap.size := ⟨_, rfl⟩
        rw [← hbwe] at bx ⊢
        have hsA : (wr.alloc (.cells #[.int .i64 s1, .int .i64 s2, .int .i64 s3, .string s4, .slice C LF c] 48)).heap.size = bw + 1 := by rw [hbwe]; simp
        have hrbw : rb < bw := by omega
        have hwbw : w.heap.size ≤ bw := by have := hb.size; omega
        clear hbwe
        obtain ⟨wA, hwA⟩ : ∃ wA, wA = wr.alloc (.cells #[.int .i64 s1, .int .i64 s2, .int .i64 s3, .string s4, .slice C LF c] 48) := ⟨_, rfl⟩
        rw [← hwA] at hBA bx hBo hrbA hsA ⊢
        clear hlen hone e1' e2' e3' e4' e5' hB hrb hrblt hwA hb
        go_loopw [8, 33] (fun V i w8 => ∃ n : Nat, n ≤ M ∧ i = .int .i64 n ∧ Below wA.heap.size wA w8 ∧ ∃ U, V = U ∧ OwnT w8 U (T.take n) ∧ ∀ b, U.ownBlock = some b → wA.heap.size ≤ b) (fun _ i _ => M - (intOf i).toNat)
        case atStart => exact ⟨0, by omega, rfl, Below.refl _ _, _, rfl, World.ownsRow_nil _ 0 51 4, fun b hb => by simp [Value.ownBlock] at hb⟩
        case round =>
          obtain ⟨n, hn, rfl, hb, V, hVu, hO, hOb⟩ := hrel
          have hVu2 := hVu.symm
          subst hVu2
          by_cases hlt2 : n < M
          · have hx : T[n]? = some (T[n]'(by rw [HM.out]; omega)) := by simp
            have hax : atT T (n : Int) = some (T[n]'(by rw [HM.out]; omega)) := atT_lt hx
            generalize T[n]'(by rw [HM.out]; omega) = x at hx hax
            have ha := at_any (hBo.tb.below hb) (n : Int)
            rw [hax] at ha
            obtain ⟨y1, y2, y3, y4⟩ := x
            simp only [Option.getD_some, Option.isSome_some] at ha
            have htk : T.take (n + 1) = T.take n ++ [⟨y1, y2, y3, y4⟩] := by rw [List.take_add_one, hx]; rfl
            have HTK := Lib.hid htk
            have HLE := Lib.hid (show (T.take n).length ≤ 300 by rw [List.length_take]; omega)
            clear htk hx hax
            go_wp2_with (first
              | (go_at_call 19; refine ha.mono ?_; rintro e w6 ⟨rfl, hb6⟩; have hO6 := hO.below hb6)
              | (at_builtin; go_must (refine append_ty rfl _ _ rfl V (T.take n) rfl ((hO6.alloc _).alloc _) (w6.heap.size + 1) ⟨y1, y2, y3, y4⟩ rfl (by simpa using heap_alloc_new (w6.alloc (.cells #[.int .i64 y1, .int .i64 y2, .int .i64 y3, .string y4] 51)) (.cells (Ty.l ⟨y1, y2, y3, y4⟩).toArray 51)) HLE.out ?_); intro V' w7 hO7 hg7 hat7))
            have hb6' := hb.trans (hb6.mono hb.size)
            have hsz6 := hb6'.size
            refine ⟨⟨n + 1, by omega, by simp, ?_, _, rfl, by rw [HTK.out]; exact hO7, fun b hb4 => ?_⟩, by simp [intOf]; omega⟩
            · exact ((hb6'.alloc hsz6 _).alloc (by simp; omega) _).grown hg7 (by simp; omega) hOb
            · rcases hat7 with hh | hh
              · exact hOb b (by rw [← hh, hb4])
              · rw [hb4] at hh
                injection hh with hh
                simp at hh
                omega
          · obtain rfl : n = M := by omega
            rw [show T.take n = T by rw [← HM.out, List.take_length]] at hO
            have hFb : ∀ b, F b → b < wA.heap.size := hBo.lt
            have hBr := hBo.below hI.ne hb
            have hbs := hb.size
            have hVlt : ∀ b, V.ownBlock = some b → b < wr.heap.size := fun b hb => (World.ownsRow.lt hO b hb).2
            have hrbr := (hb.block rb (by omega)).trans hrbA
            have hbr := (hb.block bw (by omega)).trans bx
            have m0 := cell_of_heap hbr 0 (.int .i64 s1) rfl
            have m1 := cell_of_heap hbr 1 (.int .i64 s2) rfl
            have m2 := cell_of_heap hbr 2 (.int .i64 s3) rfl
            have m3 := cell_of_heap hbr 3 (.string s4) rfl
            have m4 := cell_of_heap hbr 4 (.slice C LF c) rfl
            have m5 := cell_of_heap hrbr 0 va rfl
            have m6 := cell_of_heap hrbr 1 vb rfl
            have hbwr := hBA.trans (hb.mono (by omega))
            have hdo := does_any hBr hI (by omega) ⟨s1, s2, s3, s4, s5⟩ hfs C c (e6.below hbwr) (fun h0 b' o' hC hf => by
              obtain ⟨b2, o2, k1, k2, _⟩ := e6 0 (s5[0]'h0) (by simp)
              rw [hC] at k1
              injection k1 with k1
              injection k1 with k1
              have := hFw b' hf
              omega)
            have hkp := stepT_keeps (Ds := Ds) (K := 2 * k + 1) (s := ⟨s1, s2, s3, s4, s5⟩) hI.len.2 hI.nodup
            have hI1 := hI.step hfs
            simp only [Stp.agg] at hdo
            rw [HLF.out] at hdo
            generalize stepT T Ds (2 * k + 1) ⟨s1, s2, s3, s4, s5⟩ = TD at *
            obtain ⟨T1, Ds1⟩ := TD
            simp only at hdo hkp hI1
            obtain ⟨k1, k2, k3, k4, k5⟩ := hkp
            rw [HM.out] at k3 k4
            have q1 : decide (T1.length < n) = false := by simp; omega
            have q2 : decide (T1.length > n + 1) = false := by simp; omega
            have q3 : decide (n + 1 < T1.length) = false := by simp; omega
            have q4 : decide ((T1.length : Int) > (n : Int) + 1) = false := by simp; omega
            have q5 : decide ((n : Int) + 1 < (T1.length : Int)) = false := by simp; omega
            clear hBo hrbA bx hI
            go_wp2_with (first
              | (go_at_call 20; refine hdo.mono ?_; rintro e w7 ⟨v7, rfl, F1, hB7, hc7, hF7⟩; obtain ⟨A7, c7, B7, c8, rfl, _, _⟩ := id hB7.rt; have hrb7 := (hc7.block rb (by omega) hnF).trans hrbr; have z0 := free_of_heap hrb7 0; have z1 := free_of_heap hrb7 1; have z2 := cell_of_heap hrb7 0 va rfl; have z3 := cell_of_heap hrb7 1 vb rfl; have hnF1 : ¬ F1 rb := (fun hf => by rcases hF7 rb hf with h | h; exact hnF h; omega); have hB8 := hB7.store hI1.ne hnF1 (.slice A7 T1.length c7) (.slice B7 Ds1.length c8); have hl8 := len_any hB8.tb)
              | (go_at_call 18; refine hl8.mono ?_; rintro e w5 ⟨rfl, hw5⟩; subst hw5))
            have hO8 : OwnT ((w7.setCell ⟨rb, 0, none⟩ (.slice A7 T1.length c7)).setCell ⟨rb, 1, none⟩ (.slice B7 Ds1.length c8)) V T := by
              refine hO.chg fun b hb hlt => ?_
              have h1 := hOb b hb
              rw [set2_other (by omega)]
              exact hc7.block b hlt (fun hf => by have := hBr.lt b hf; have h2 := hFb b hf; omega)
            have hb8 : Below w.heap.size w ((w7.setCell ⟨rb, 0, none⟩ (.slice A7 T1.length c7)).setCell ⟨rb, 1, none⟩ (.slice B7 Ds1.length c8)) := (hbwr.trans (hc7.below hbwr.size hFw)).setCell (p := ⟨rb, 0, none⟩) hrw _ |>.setCell (p := ⟨rb, 1, none⟩) hrw _
            have hrb8 := set2_heap hrb7 (.slice A7 T1.length c7) (.slice B7 Ds1.length c8)
            obtain ⟨w8, hw8⟩ : ∃ w8, w8 = (w7.setCell ⟨rb, 0, none⟩ (.slice A7 T1.length c7)).setCell ⟨rb, 1, none⟩ (.slice B7 Ds1.length c8) := ⟨_, rfl⟩
            rw [← hw8] at hO8 hb8 hrb8 hB8 ⊢
            clear hw8 hl8 hdo q1 q2 q3 q4 q5 z0 z1 z2 z3 m0 m1 m2 m3 m4 m5 m6
            go_loopw [67] (fun i wx => ∃ m : Nat, m ≤ T1.length ∧ i = .int .i64 m ∧ Below w8.heap.size w8 wx) (fun i _ => T1.length - (intOf i).toNat)
            case atStart => exact ⟨0, by omega, rfl, Below.refl _ _⟩
            case round =>
              obtain ⟨m, hm, rfl, hb9⟩ := hrel
              by_cases hlt3 : m < T1.length
              · have hx : T1[m]? = some T1[m] := by simp
                have hax : atT T1 (m : Int) = some T1[m] := atT_lt hx
                generalize T1[m] = x at hx hax
                have ha := at_any (hB8.tb.below hb9) (m : Int)
                rw [hax] at ha
                simp only [Option.getD_some, Option.isSome_some] at ha
                have HX := Lib.hid hx
                have hxT : m < n → T[m]? = some x := fun hmn => by
                  have h1 : T[m]? = some (T[m]'(by rw [HM.out]; exact hmn)) := by simp
                  have h2 := k5 m _ h1
                  rw [hx] at h2
                  injection h2 with h2
                  rw [h2]
                  exact h1
                clear hx hax
                obtain ⟨x1, x2, x3, x4⟩ := x
                have hneq : ∀ w, (binOp .neq 51 (Ty.agg ⟨x1, x2, x3, x4⟩) (Ty.agg ⟨x1, x2, x3, x4⟩)).run Tryd.prog w = .ok (.bool false) w := fun w => by rw [neq_ty, tyEq_self]; rfl
                simp only [Ty.agg] at ha hneq
                by_cases hmn : m < n
                · obtain ⟨bV, cV, hV, hbV, _⟩ := hO8.get m _ (hxT hmn)
                  rw [HM.out] at hV
                  subst hV
                  have hO9 := hO8.below hb9
                  have qm : decide (m < n) = true := by simpa using hmn
                  have qm2 : decide ((m : Int) < (n : Int)) = true := by simp; omega
                  go_wp2_with (first
                    | (go_at_call 19; refine ha.mono ?_; rintro e w9 ⟨rfl, hb9'⟩; obtain ⟨bV', cV', hV', _, v0, v1, v2, v3⟩ := ((hO9.below hb9').alloc (.cells #[.int .i64 x1, .int .i64 x2, .int .i64 x3, .string x4] 51)).get m _ (hxT hmn); rw [HM.out] at hV'; have hVe := hV'; clear hV'; injection hVe with hVe hVn hVc; clear hVn; subst hVc; injection hVe with hVe; injection hVe with hVe; subst hVe))
                  have hBB := hb9.trans (hb9'.mono hb9.size)
                  have hB9 := hBB.alloc hBB.size (.cells #[.int .i64 x1, .int .i64 x2, .int .i64 x3, .string x4] 51)
                  have bx9 := heap_alloc_new w9 (.cells #[.int .i64 x1, .int .i64 x2, .int .i64 x3, .string x4] 51)
                  obtain ⟨xb, hxb⟩ : ∃ xb, xb = w9.heap.size := ⟨_, rfl⟩
                  rw [← hxb] at bx9 ⊢
                  obtain ⟨wB, hwB⟩ : ∃ wB, wB = w9.alloc (.cells #[.int .i64 x1, .int .i64 x2, .int .i64 x3, .string x4] 51) := ⟨_, rfl⟩
                  rw [← hwB] at bx9 hB9 v0 v1 v2 v3 ⊢
                  have y0 := cell_of_heap bx9 0 (.int .i64 x1) rfl
                  have y1 := cell_of_heap bx9 1 (.int .i64 x2) rfl
                  have y2 := cell_of_heap bx9 2 (.int .i64 x3) rfl
                  have y3 := cell_of_heap bx9 3 (.string x4) rfl
                  clear hwB hxb
                  go_quiet (fail)
                  clear y0 y1 y2 y3
                  have hBq := below_drewN hB9 nq
                  have bxq : (wB.drewN nq).heap[xb]? = some (.cells #[.int .i64 x1, .int .i64 x2, .int .i64 x3, .string x4] 51 (0, 0)) := bx9
                  clear bx9 hB9
                  generalize wB.drewN nq = wq at *
                  go_wp2
                  go_loopw [88] (fun i wx => ∃ j : Nat, j ≤ m ∧ i = .int .i64 j ∧ Below wq.heap.size wq wx) (fun i _ => m - (intOf i).toNat)
                  case atStart => exact ⟨0, by omega, rfl, Below.refl _ _⟩
                  case round =>
                    obtain ⟨j, hj, rfl, hbj⟩ := hrel
                    by_cases hlt4 : j < m
                    · have hy : T1[j]? = some (T1[j]'(by omega)) := by simp
                      have hay : atT T1 (j : Int) = some (T1[j]'(by omega)) := atT_lt hy
                      have hne4 : T1[j]'(by omega) ≠ ⟨x1, x2, x3, x4⟩ := fun e => by
                        rw [e] at hy
                        have := k1 j m _ hy HX.out
                        omega
                      generalize T1[j]'(by omega) = y at hy hay hne4
                      have ha2 := at_any (hB8.tb.below (hBq.trans (hbj.mono hBq.size))) (j : Int)
                      rw [hay] at ha2
                      simp only [Option.getD_some, Option.isSome_some] at ha2
                      obtain ⟨y1, y2, y3, y4⟩ := y
                      have heql : ∀ w, (binOp .eql 51 (Ty.agg ⟨x1, x2, x3, x4⟩) (Ty.agg ⟨y1, y2, y3, y4⟩)).run Tryd.prog w = .ok (.bool false) w := fun w => by
                        rw [eql_ty, tyEq_dec, decide_eq_false (fun e => hne4 e.symm)]
                      simp only [Ty.agg] at ha2 heql
                      clear hy hay hne4
                      go_wp2_with (first
                        | (go_at_call 19; refine ha2.mono ?_; rintro e w6 ⟨rfl, hb6⟩; have bj := (hb6.block _ (Nat.lt_of_lt_of_le (Array.getElem?_eq_some_iff.1 bxq).1 hbj.size)).trans ((hbj.block _ (Array.getElem?_eq_some_iff.1 bxq).1).trans bxq); have bj2 := alloc_keeps bj (.cells #[.int .i64 y1, .int .i64 y2, .int .i64 y3, .string y4] 51); have c0 := cell_of_heap bj2 0 (.int .i64 x1) rfl; have c1 := cell_of_heap bj2 1 (.int .i64 x2) rfl; have c2 := cell_of_heap bj2 2 (.int .i64 x3) rfl; have c3' := cell_of_heap bj2 3 (.string x4) rfl))
                      exact ⟨⟨j + 1, by omega, by simp, hbj.trans ((hb6.alloc hb6.size _).mono hbj.size)⟩, by simp [intOf]; omega⟩
                    · obtain rfl : j = m := by omega
                      go_wp2
                      exact ⟨⟨j + 1, by omega, by simp, hBq.trans (hbj.mono hBq.size)⟩, by simp [intOf]; omega⟩
                · have qm : decide (m < n) = false := by simpa using hmn
                  have qm2 : decide ((m : Int) < (n : Int)) = false := by simp; omega
                  go_wp2_with (first
                    | (go_at_call 19; refine ha.mono ?_; rintro e w9 ⟨rfl, hb9'⟩))
                  have hBB := hb9.trans (hb9'.mono hb9.size)
                  have hB9 := hBB.alloc hBB.size (.cells #[.int .i64 x1, .int .i64 x2, .int .i64 x3, .string x4] 51)
                  have bx9 := heap_alloc_new w9 (.cells #[.int .i64 x1, .int .i64 x2, .int .i64 x3, .string x4] 51)
                  obtain ⟨xb, hxb⟩ : ∃ xb, xb = w9.heap.size := ⟨_, rfl⟩
                  rw [← hxb] at bx9 ⊢
                  obtain ⟨wB, hwB⟩ : ∃ wB, wB = w9.alloc (.cells #[.int .i64 x1, .int .i64 x2, .int .i64 x3, .string x4] 51) := ⟨_, rfl⟩
                  rw [← hwB] at bx9 hB9 ⊢
                  have y0 := cell_of_heap bx9 0 (.int .i64 x1) rfl
                  have y1 := cell_of_heap bx9 1 (.int .i64 x2) rfl
                  have y2 := cell_of_heap bx9 2 (.int .i64 x3) rfl
                  have y3 := cell_of_heap bx9 3 (.string x4) rfl
                  clear hwB hxb
                  go_quiet (fail)
                  clear y0 y1 y2 y3
                  have hBq := below_drewN hB9 nq
                  have bxq : (wB.drewN nq).heap[xb]? = some (.cells #[.int .i64 x1, .int .i64 x2, .int .i64 x3, .string x4] 51 (0, 0)) := bx9
                  clear bx9 hB9
                  generalize wB.drewN nq = wq at *
                  go_wp2
                  go_loopw [88] (fun i wx => ∃ j : Nat, j ≤ m ∧ i = .int .i64 j ∧ Below wq.heap.size wq wx) (fun i _ => m - (intOf i).toNat)
                  case atStart => exact ⟨0, by omega, rfl, Below.refl _ _⟩
                  case round =>
                    obtain ⟨j, hj, rfl, hbj⟩ := hrel
                    by_cases hlt4 : j < m
                    · have hy : T1[j]? = some (T1[j]'(by omega)) := by simp
                      have hay : atT T1 (j : Int) = some (T1[j]'(by omega)) := atT_lt hy
                      have hne4 : T1[j]'(by omega) ≠ ⟨x1, x2, x3, x4⟩ := fun e => by
                        rw [e] at hy
                        have := k1 j m _ hy HX.out
                        omega
                      generalize T1[j]'(by omega) = y at hy hay hne4
                      have ha2 := at_any (hB8.tb.below (hBq.trans (hbj.mono hBq.size))) (j : Int)
                      rw [hay] at ha2
                      simp only [Option.getD_some, Option.isSome_some] at ha2
                      obtain ⟨y1, y2, y3, y4⟩ := y
                      have heql : ∀ w, (binOp .eql 51 (Ty.agg ⟨x1, x2, x3, x4⟩) (Ty.agg ⟨y1, y2, y3, y4⟩)).run Tryd.prog w = .ok (.bool false) w := fun w => by
                        rw [eql_ty, tyEq_dec, decide_eq_false (fun e => hne4 e.symm)]
                      simp only [Ty.agg] at ha2 heql
                      clear hy hay hne4
                      go_wp2_with (first
                        | (go_at_call 19; refine ha2.mono ?_; rintro e w6 ⟨rfl, hb6⟩; have bj := (hb6.block _ (Nat.lt_of_lt_of_le (Array.getElem?_eq_some_iff.1 bxq).1 hbj.size)).trans ((hbj.block _ (Array.getElem?_eq_some_iff.1 bxq).1).trans bxq); have bj2 := alloc_keeps bj (.cells #[.int .i64 y1, .int .i64 y2, .int .i64 y3, .string y4] 51); have c0 := cell_of_heap bj2 0 (.int .i64 x1) rfl; have c1 := cell_of_heap bj2 1 (.int .i64 x2) rfl; have c2 := cell_of_heap bj2 2 (.int .i64 x3) rfl; have c3' := cell_of_heap bj2 3 (.string x4) rfl))
                      exact ⟨⟨j + 1, by omega, by simp, hbj.trans ((hb6.alloc hb6.size _).mono hbj.size)⟩, by simp [intOf]; omega⟩
                    · obtain rfl : j = m := by omega
                      go_wp2
                      exact ⟨⟨j + 1, by omega, by simp, hBq.trans (hbj.mono hBq.size)⟩, by simp [intOf]; omega⟩
              · obtain rfl : m = T1.length := by omega
                go_wp2
                exact ⟨⟨k + 1, by omega, by simp, T1, Ds1, _, _, F1, hB8.below hI1.ne hb9, hI1, (hb9.block rb (Array.getElem?_eq_some_iff.1 hrb8).1).trans hrb8, hnF1, hb8.trans (hb9.mono hb8.size), fun b hb => (hF7 b hb).elim (hFw b) (fun h => by have := hbwr.size; omega), hrw⟩, by simp [intOf]; omega⟩
      · have hkL : k = L := by omega
        subst hkL
        go_wp2_with (first
          | (go_at_call 9; refine (awake_any _ (hTab' _ hb)).mono ?_; rintro e w9 ⟨rfl, hb9⟩))
        go_returns
        exact ⟨rfl, hb.trans (hb9.mono hb.size)⟩
end Go.Proofs.YtdoeinccnfggiaaDoor
