import Derived.Test.YtgdbkoncaojmoaaDo
/- graph.Loop: the search backwards. -/
namespace Go.Proofs.Ytgdbkoncaojmoaa
open Go.RowKit Go.BigFrame

noncomputable def lp1 : Code := ((((Try.f24.body).map loopsOf).getD [])[0]?).getD .skip
def meas (N v : Nat) : Nat := (N + 1) * (N - v)
theorem meas_step {N v : Nat} (h : v < N) : meas N (v + 1) + (N + 1) = meas N v := by
  unfold meas
  obtain ⟨d, hd⟩ : ∃ d, N - v = d + 1 := ⟨N - v - 1, by omega⟩
  rw [hd, show N - (v + 1) = d by omega, Nat.mul_succ]
theorem meas_le {N : Nat} (v : Nat) (hN : N ≤ 8192) : meas N v ≤ 67117056 := by
  unfold meas
  exact Nat.le_trans (Nat.mul_le_mul (by omega : N + 1 ≤ 8193) (by omega : N - v ≤ 8192)) (by decide)
def CutQ (w wr : World) (g o : Nat) (T : List Nat) (s : Value) (wx : World) : Prop := ∃ A m c, s = .slice A m c ∧ (A = some ⟨g, o, none⟩ ∨ A = some ⟨g, o + 1, none⟩) ∧ OwnQ w (.slice A m c) (asI T) ∧ wr = wx
set_option maxRecDepth 1000000 in
set_option maxHeartbeats 16000000 in
theorem lp1_any {E : Nat → Nat → Prop} (we w0 : World) (e0 S1 S2 mb rb bb N h : Nat) (hN : N ≤ 8192) (V0 V90 : Value) (T0 : List Nat) (hT0 : T0.length ≤ N) (hM : LpM we w0 w0 e0 S1 S2 mb V0 V90 T0 [h] (oneAt h)) (hs : Srch E N h [h] T0 (oneAt h))
    (hR : Pre gB 1 4 w0 rb (bl N fun p => tb (R0 E p))) (hrb : Stay e0 S1 S2 rb) (hrows : RowsR w0 bb N fun n => upL N fun q => E q n) (hbb : Stay e0 S1 S2 bb) (hrf : ∀ j, j < N → ∀ A n c, w0.cell? ⟨bb, j, none⟩ = some (.slice A n c) → ∀ b o, A = some ⟨b, o, none⟩ → b < w0.heap.size → Stay e0 S1 S2 b)
    (hh : R0 E h) (hE : ∀ p q, E p q → p < N) (x0 x1 x2 x3 x4 x10 x11 x12 x13 x14 x15 x16 x17 x18 x19 x20 x21 x22 x23 x24 x25 x26 x27 x28 x29 x30 x31 x32 x33 x34 x35 x36 x37 x38 x39 x40 x41 x42 x43 x44 x45 x46 x47 x48 x49 x50 x51 x52 x53 x54 x55 x56 x57 x58 x59 x60 x61 x62 x63 x64 x65 x66 x67 x68 x69 x70 x71 x72 x73 x74 x75 x76 x77 x78 : Value) (Q : Exit → Act → World → Prop)
    (hexit : ∀ (y6 y9 y10 y44 y45 y46 y47 y48 y49 y50 y51 y52 y53 y54 y55 y56 y57 y58 y59 y60 y61 y62 y63 y64 y65 y66 y67 y68 y69 y70 y71 y72 y73 y74 y75 : Value) (w' : World) (Vs : List Nat) (cnt : Nat → Nat), LpM we w0 w' e0 S1 S2 mb y6 y9 [] Vs cnt → Srch E N h Vs [] cnt → Q (.exit 0) ⟨(x0 :: x1 :: x2 :: x3 :: x4 :: .slice (some ⟨rb, 0, none⟩) N N :: y6 :: .map (some mb) :: .slice (some ⟨bb, 0, none⟩) N N :: y9 :: y10 :: x11 :: x12 :: x13 :: x14 :: x15 :: x16 :: x17 :: x18 :: x19 :: x20 :: x21 :: x22 :: x23 :: x24 :: x25 :: x26 :: x27 :: x28 :: x29 :: x30 :: x31 :: x32 :: x33 :: x34 :: x35 :: x36 :: x37 :: x38 :: x39 :: x40 :: x41 :: x42 :: x43 :: y44 :: y45 :: y46 :: y47 :: y48 :: y49 :: y50 :: y51 :: y52 :: y53 :: y54 :: y55 :: y56 :: y57 :: y58 :: y59 :: y60 :: y61 :: y62 :: y63 :: y64 :: y65 :: y66 :: y67 :: y68 :: y69 :: y70 :: y71 :: y72 :: y73 :: y74 :: y75 :: x76 :: x77 :: x78 :: []).toArray, []⟩ w') :
    Code.wp Try.prog lp1 Q ⟨(x0 :: x1 :: x2 :: x3 :: x4 :: .slice (some ⟨rb, 0, none⟩) N N :: V0 :: .map (some mb) :: .slice (some ⟨bb, 0, none⟩) N N :: V90 :: x10 :: x11 :: x12 :: x13 :: x14 :: x15 :: x16 :: x17 :: x18 :: x19 :: x20 :: x21 :: x22 :: x23 :: x24 :: x25 :: x26 :: x27 :: x28 :: x29 :: x30 :: x31 :: x32 :: x33 :: x34 :: x35 :: x36 :: x37 :: x38 :: x39 :: x40 :: x41 :: x42 :: x43 :: x44 :: x45 :: x46 :: x47 :: x48 :: x49 :: x50 :: x51 :: x52 :: x53 :: x54 :: x55 :: x56 :: x57 :: x58 :: x59 :: x60 :: x61 :: x62 :: x63 :: x64 :: x65 :: x66 :: x67 :: x68 :: x69 :: x70 :: x71 :: x72 :: x73 :: x74 :: x75 :: x76 :: x77 :: x78 :: []).toArray, []⟩ w0 := by
  conv => arg 2; whnf
  have HE := Lib.hid hexit
  have HR := Lib.hid hR
  have HRB := Lib.hid hrb
  have HROWS := Lib.hid hrows
  have HBB := Lib.hid hbb
  have HRF := Lib.hid hrf
  have HH := Lib.hid hh
  have HEE := Lib.hid hE
  have H0 := Lib.hid (show LpM we w0 w0 e0 S1 S2 mb V0 V90 T0 [h] (oneAt h) ∧ Srch E N h [h] T0 (oneAt h) from ⟨hM, hs⟩)
  have hg0 : ∀ x, oneAt h x + (T0.length + meas N 1) ≤ 67200000 := fun x => by
    have h1 := meas_le 1 hN
    unfold oneAt
    split <;> omega
  have HG0 := Lib.hid hg0
  clear hexit hR hrb hrows hbb hrf hh hE hM hs hT0 hg0
  go_loopg [6, 9] (T0.length + meas N 1) (fun gk V V9 wr => ∃ (T Vs : List Nat) (cnt : Nat → Nat), gk = T.length + meas N Vs.length ∧ LpM we w0 wr e0 S1 S2 mb V V9 T Vs cnt ∧ Srch E N h Vs T cnt ∧ ∀ x, cnt x + gk ≤ 67200000)
  case atStart => exact ⟨T0, [h], oneAt h, rfl, H0.out.1, H0.out.2, HG0.out⟩
  case round =>
    obtain ⟨T, Vs, cnt, hgk, hm, hs, hc⟩ := hrel
    clear H0 HG0
    have HM := Lib.hid hm
    have HS := Lib.hid hs
    have HC := Lib.hid hc
    have HGK := Lib.hid hgk
    cases T with
    | nil =>
      obtain ⟨A, c, hV, _⟩ := hm.q
      simp only [asI, List.map_nil, List.length_nil] at hV
      subst hV
      have HX := fun (y10 y44 y45 y46 y47 y48 y49 y50 y51 y52 y53 y54 y55 y56 y57 y58 y59 y60 y61 y62 y63 y64 y65 y66 y67 y68 y69 y70 y71 y72 y73 y74 y75 : Value) => Lib.hid (HE.out (.slice A 0 c) u9 y10 y44 y45 y46 y47 y48 y49 y50 y51 y52 y53 y54 y55 y56 y57 y58 y59 y60 y61 y62 y63 y64 y65 y66 y67 y68 y69 y70 y71 y72 y73 y74 y75 wr Vs cnt hm hs)
      clear hm hs hc hgk HE
      go_wp2
      exact (HX _ _ _ _ _ _ _ _ _ _ _ _ _ _ _ _ _ _ _ _ _ _ _ _ _ _ _ _ _ _ _ _ _).out
    | cons n T =>
      obtain ⟨g, o, c, hV, hcl, hgl, hcell, hq⟩ := OwnQ.head (show OwnQ wr u6 ((n : Int) :: asI T) from hm.q)
      obtain ⟨t, ht⟩ : ∃ t, T.length = t := ⟨_, rfl⟩
      have hal : (asI T).length = t := by unfold asI; rw [List.length_map, ht]
      rw [hal] at hV hcl hq
      subst hV
      have hnN := (hs.td n (by simp)).1
      have htb : t ≤ 67200000 := by have h1 := hc n; rw [hgk] at h1; simp only [List.length_cons, ht] at h1; omega
      have hcnt : cnt n ≤ 67200000 := by have := hc n; omega
      have HQ := Lib.hid hq
      have HT := Lib.hid ht
      have hni : (n : Int) < N := by omega
      have hc1 : (1 : Int) ≤ (t : Int) + 1 := by omega
      have hc2 : (t : Int) + 1 ≤ c := by omega
      clear hm hs hc hgk hq hal ht
      go_upto_region 12 with fail
      go_cut [6] from 50 to 51 (fun s wx => CutQ wr wr g o T s wx)
      case first =>
        by_cases hc0 : c = 1
        · subst hc0
          obtain rfl : t = 0 := by omega
          have h1 := HQ.out
          rw [if_pos rfl] at h1
          have HQ2 : Hid (CutQ wr wr g o T (.slice (some ⟨g, o, none⟩) 0 0) wr) := Lib.hid ⟨_, _, _, rfl, Or.inl rfl, h1, rfl⟩
          clear h1
          go_wp2
          go_meet
          exact HQ2.out
        · have h1 := HQ.out
          rw [if_neg hc0] at h1
          have HQ2 : Hid (CutQ wr wr g o T (.slice (some ⟨g, o + 1, none⟩) t (c - 1)) wr) := Lib.hid ⟨_, _, _, rfl, Or.inr rfl, h1, rfl⟩
          clear h1
          go_wp2
          go_meet
          exact HQ2.out
      case rest =>
        obtain ⟨A, m, c', rfl, hA, hq, rfl⟩ := hcut
        have HM2 := Lib.hid (HM.out.pop hq hA)
        obtain ⟨A7, c7, hcr, hrw⟩ := HROWS.out n hnN
        obtain ⟨L, hLe, hLm⟩ := upN_is N fun q => E q n
        simp only at hcr hrw
        rw [hLe] at hcr hrw
        obtain ⟨Ln, hLn⟩ : ∃ Ln, L.length = Ln := ⟨_, rfl⟩
        have hLnN : Ln ≤ N := by
          have h1 := congrArg List.length hLe
          rw [List.length_map, hLn] at h1
          have := upL_len N fun q => E q n
          omega
        rw [List.length_map, hLn] at hcr
        have HCR := Lib.hid hcr
        have HRW := Lib.hid hrw
        have HLM := Lib.hid hLm
        have HLN := Lib.hid hLn
        have hcb : (cnt n : Int) ≤ 67200000 := by omega
        have HHQ := Lib.hid hA
        clear hq hA hcr hrw hLm hLn hLe
        have hbn : bump cnt n n = cnt n + 1 := by unfold bump; rw [if_pos rfl]
        go_upto_region 14 with (first
          | (show wpList Try.prog _ _ (⟨some 54, _, _, _, _, _⟩ :: _) _ _; refine wpList_lookup_map kvInt _ rfl (.tmp 52) (.tmp 53) 55 false rfl under_mii (zero_int _) mb _ rfl HM2.out.m (n : Int) rfl ?_; rw [if_neg (by simp), cntV_at])
          | (show wpList Try.prog _ _ (⟨none, .mapUpdate _ _ _ _, _, _, _, _⟩ :: _) _ _; refine wpList_update_map kvInt _ rfl (.tmp 52) (.tmp 53) (.tmp 55) 55 rfl under_mii mb _ rfl HM2.out.m (n : Int) (.int .i64 ((cnt n : Int) + 1)) rfl rfl ?_; intro w3 hm3 hg3 hz3; rw [cntV_bump] at hm3; have HM3 := Lib.hid (HM2.out.count hm3 hg3); clear hm3 hg3 hz3))
        have hR3 := HR.out.of_heap (HM3.out.st rb HRB.out)
        have hcr := PreB.cell hR3 (bl_get (m := fun p => tb (R0 E p)) hnN)
        have HSK : Hid ((0 < cnt n ∨ ¬ R0 E n) → ∃ (T' Vs' : List Nat) (cnt' : Nat → Nat), T.length + meas N Vs.length = T'.length + meas N Vs'.length ∧ LpM we w0 w3 e0 S1 S2 mb (.slice A m c') u9 T' Vs' cnt' ∧ Srch E N h Vs' T' cnt' ∧ ∀ x, cnt' x + (T.length + meas N Vs.length) ≤ 67200000) := Lib.hid fun hn => ⟨T, Vs, bump cnt n, rfl, HM3.out, HS.out.skip hn, fun x => by
          have h1 := HC.out x
          have h2 := HC.out n
          rw [HGK.out] at h1 h2
          simp only [List.length_cons] at h1 h2
          unfold bump
          split <;> omega⟩
        clear hR3
        by_cases hcn : cnt n = 0
        · by_cases hr : R0 E n
          · rw [tb_true.2 hr] at hcr
            have hb1 : ((bump cnt n n : Nat) : Int) = 1 := by rw [hbn, hcn]; rfl
            have HS2 := Lib.hid (HS.out.visit hcn hr (fun p => HLM.out p) HEE.out)
            have hvn := HS2.out.len
            have hVN : Vs.length < N := by rw [List.length_append] at hvn; simp at hvn; omega
            have HVN := Lib.hid hVN
            have hl0 : 0 < L.length := by
              obtain ⟨e, he⟩ := InL.pre HH.out (HS2.out.vi n (by simp)) (fun e => by
                have h1 := (HS.out.cn h).1 (List.mem_of_getElem? HS.out.vh)
                rw [← e] at h1
                omega)
              exact List.length_pos_of_mem ((HLM.out e).2 ⟨HEE.out e n he, he⟩)
            have HL0 := Lib.hid hl0
            clear hvn hVN hl0 hr hcn
            go_wp2_with (first
              | (show wpList Try.prog _ _ (⟨some 58, _, _, _, _, _⟩ :: _) _ _; refine wpList_lookup_map kvInt _ rfl (.tmp 56) (.tmp 57) 55 false rfl under_mii (zero_int _) mb _ rfl HM3.out.m (n : Int) rfl ?_; rw [if_neg (by simp), cntV_at, hb1])
              | (show wpList Try.prog _ _ (⟨some 69, _, _, _, _, _⟩ :: _) _ _; at_builtin; refine append_one rfl (.tmp 66) (.tmp 68) rfl u9 (asI Vs) rfl (HM3.out.o.alloc _) w3.heap.size n rfl (heap_alloc_new _ _) (by unfold asI; rw [List.length_map]; have := HVN.out; omega) ?_; intro V4 w4 ho4 hg4 hb4; have HM4 := Lib.hid (HM3.out.out ho4 hg4 hb4); clear ho4 hg4 hb4; have hcr4 := (World.cell?_of_block (a := ⟨bb, n, none⟩) (HM4.out.st bb HBB.out)).trans HCR.out; have HRW4 : Hid (RdN w4 A7 (asI L)) := Lib.hid (HRW.out.keepS2 HM4.out.st (fun b o e hb => HRF.out n hnN A7 Ln c7 HCR.out b o e hb)))
              | (show wpList Try.prog _ _ (⟨some 75, _, _, _, _, _⟩ :: _) _ _; at_builtin; refine append_queue rfl (.tmp 70) (.tmp 74) rfl (.slice A m c') (asI T) rfl HM4.out.q A7 (asI L) c7 (by unfold asI; rw [List.length_map, HLN.out]; rfl) HRW4.out (by unfold asI; rw [List.length_map]; exact HL0.out) (by unfold asI; rw [List.length_map, HLN.out]; omega) (by unfold asI; rw [List.length_map, List.length_map, HLN.out, HT.out]; omega) ?_; intro V5 w5 ho5 hg5 hb5; have HM5 := Lib.hid (HM4.out.more ho5 hg5 hb5); clear ho5 hg5 hb5))
            go_roundg ((T ++ L).length + meas N (Vs ++ [n]).length)
            case measure =>
              have h1 := meas_step HVN.out
              rw [HGK.out, List.length_append, List.length_append, HLN.out]
              simp only [List.length_cons, List.length_nil, Nat.zero_add]
              omega
            case rel =>
              refine ⟨T ++ L, Vs ++ [n], bump cnt n, rfl, HM5.out, HS2.out, fun x => ?_⟩
              have h1 := meas_step HVN.out
              have h2 := HC.out x
              have h3 := HC.out n
              rw [HGK.out] at h2 h3
              rw [List.length_append, List.length_append, HLN.out]
              simp only [List.length_cons, List.length_nil, Nat.zero_add] at h2 h3 ⊢
              unfold bump
              split <;> omega
          · rw [tb_false.2 hr] at hcr
            have hb1 : ((bump cnt n n : Nat) : Int) = 1 := by rw [hbn, hcn]; rfl
            have HK := Lib.hid (HSK.out (Or.inr hr))
            clear hr hcn
            go_wp2_with (first
              | (show wpList Try.prog _ _ (⟨some 58, _, _, _, _, _⟩ :: _) _ _; refine wpList_lookup_map kvInt _ rfl (.tmp 56) (.tmp 57) 55 false rfl under_mii (zero_int _) mb _ rfl HM3.out.m (n : Int) rfl ?_; rw [if_neg (by simp), cntV_at, hb1]))
            go_roundg (T.length + meas N Vs.length)
            case measure => rw [HGK.out, List.length_cons]; omega
            case rel => exact HK.out
        · have hb1 : ¬ (((bump cnt n n : Nat) : Int) = 1) := by rw [hbn]; omega
          have HK := Lib.hid (HSK.out (Or.inl (by omega)))
          obtain ⟨bv, hbv⟩ : ∃ bv, ((bump cnt n n : Nat) : Int) = bv := ⟨_, rfl⟩
          rw [hbv] at hb1
          clear hcn
          go_wp2_with (first
            | (show wpList Try.prog _ _ (⟨some 58, _, _, _, _, _⟩ :: _) _ _; refine wpList_lookup_map kvInt _ rfl (.tmp 56) (.tmp 57) 55 false rfl under_mii (zero_int _) mb _ rfl HM3.out.m (n : Int) rfl ?_; rw [if_neg (by simp), cntV_at, hbv]))
          go_roundg (T.length + meas N Vs.length)
          case measure => rw [HGK.out, List.length_cons]; omega
          case rel => exact HK.out
end Go.Proofs.Ytgdbkoncaojmoaa
