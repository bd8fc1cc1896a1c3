import Derived.Test.YtkcclefonmnpnaaLd
import Derived.Test.YtkcclefonmnpnaaMx
import Derived.Deep.CutBlock
import Derived.Test.YtkcclefonmnpnaaIu
import Derived.Test.YtkcclefonmnpnaaIv
import Derived.Test.YtkcclefonmnpnaaIp
import Derived.Test.YtkcclefonmnpnaaIn
import Derived.Test.YtkcclefonmnpnaaIm
import Derived.Test.YtkcclefonmnpnaaXe
import Derived.Test.YtkcclefonmnpnaaXb
import Derived.Test.YtkcclefonmnpnaaZf
import Derived.Test.YtkcclefonmnpnaaZfs
import Derived.Test.YtkcclefonmnpnaaZft
/- InlineCounts. -/
namespace Go.Proofs.Ytkcclefonmnpnaa
open Go.RowKit Go.BigFrame

set_option maxRecDepth 1000000 in
set_option maxHeartbeats 16000000 in
theorem InlineCounts_any (u : Un7) (F G : Option Addr) (cF cG : Nat) (k : Int) (W : World) (h : RdU W F G u) (hlf : u.funcs.length ≤ 9223372036854775807) (hlg : u.globs.length ≤ 9223372036854775807) (h9 : ∀ f ∈ u.funcs, f.code.length ≤ 9223372036854775807) :
    Calls Try.prog 12 #[unAgg u F G cF cG, .int .i64 k] W fun e w' => e = .returned (.bool true) ∧ Below W.heap.size W w' := by
  have hB := Below.one W (unObj u F G cF cG)
  have bx := heap_alloc_new W (unObj u F G cF cG)
  obtain ⟨W1, hW1⟩ : ∃ W1, W.alloc (unObj u F G cF cG) = W1 := ⟨_, rfl⟩
  rw [hW1] at hB bx
  have h1 := h.below hB
  have hfew := Few7_any u F G cF cG W1 h1 hlf hlg h9
  have hno := fun hn h1 h2 W' h => Of_no u F G cF cG k hn h1 h2 W' h
  have hyes := fun (K : Nat) (hK : k = (K : Int)) f a b c d W' h => Of_yes u F G cF cG K f a b c d W' h
  have hri := fun W' h a b => Right_any u F G cF cG W' h a b
  obtain ⟨N, hN⟩ : ∃ N, u.funcs.length = N := ⟨_, rfl⟩
  obtain ⟨M, hM⟩ : ∃ M, u.globs.length = M := ⟨_, rfl⟩
  have BX0 := Lib.hid bx
  simp only [unObj, unAgg] at bx hfew hno hyes hri hW1 ⊢
  rw [hN, hM] at bx hfew hW1 ⊢
  simp only [hN, hM] at hno hyes hri
  have u0 := cell_of_heap bx 0 (.slice F N cF) rfl
  have u1 := cell_of_heap bx 1 (.slice G M cG) rfl
  have u2 := cell_of_heap bx 2 (.int .i64 u.top) rfl
  have hlb := (Array.getElem?_eq_some_iff.1 bx).1
  have HB := Lib.hid hB
  have BX := Lib.hid bx
  have H1 := Lib.hid h1
  have HN := Lib.hid hN
  have HM := Lib.hid hM
  have HFEW := Lib.hid hfew
  have HNO := Lib.hid hno
  have HYES := Lib.hid hyes
  have HRI := Lib.hid hri
  clear hB bx h h1 hlf hlg h9 hfew hno hyes hri hN hM
  go_enter Try.func12, Try.ntmps12
  go_wp2_with fail
  (try rw [hW1])
  refine HFEW.out.mono ?_
  rintro e w2 ⟨⟨bv, rfl, hbv⟩, hb2⟩
  dsimp only
  have HBV := Lib.hid hbv
  have HB2 := Lib.hid (HB.out.trans (hb2.mono HB.out.size))
  have BX2 := Lib.hid ((hb2.block _ hlb).trans BX.out)
  have BY2 := Lib.hid ((hb2.block _ hlb).trans BX0.out)
  have H2 := Lib.hid (show RdU w2 F G u from ⟨H1.out.fs.below hb2, H1.out.gs.below hb2⟩)
  clear hb2 u0 u1 u2 hlb HB BX BX0 H1 HFEW hW1 hbv
  cases bv
  case false =>
    go_wp2_with fail
    refine (awake13_any _).mono ?_
    rintro e w9 ⟨rfl, hb9⟩
    dsimp only
    have HB9 := Lib.hid (HB2.out.trans (hb9.mono HB2.out.size))
    clear hb9
    go_wp2_with fail
    go_returns
    exact ⟨rfl, HB9.out⟩
  case true =>
    have hfw := HBV.out.1 rfl
    have hN6 : N ≤ 6 := by rw [← HN.out]; exact hfw.1
    have hM10 : M ≤ 10 := by rw [← HM.out]; exact hfw.2.1
    have HSM := Lib.hid hfw.2.2.1
    clear hfw HBV
    have hNi : N ≤ 100000 := by omega
    have hMi : M ≤ 100000 := by omega
    have u0 := cell_of_heap BX2.out 0 (.slice F N cF) rfl
    have u1 := cell_of_heap BX2.out 1 (.slice G M cG) rfl
    have u2 := cell_of_heap BX2.out 2 (.int .i64 u.top) rfl
    have hlb := (Array.getElem?_eq_some_iff.1 BX2.out).1
    by_cases hK : OkU u ∧ 0 ≤ k ∧ k < (N : Int)
    case neg =>
      have HOF := HNO.out hK hNi hMi w2 H2.out
      clear HNO HYES
      go_wp2_with fail
      refine HOF.mono ?_
      rintro e w3 ⟨rfl, hb3⟩
      dsimp only
      clear HOF
      have HB3 := Lib.hid (HB2.out.trans (hb3.mono HB2.out.size))
      have BX3 := Lib.hid ((hb3.block _ hlb).trans BX2.out)
      have H3 := Lib.hid (show RdU w3 F G u from ⟨H2.out.fs.below hb3, H2.out.gs.below hb3⟩)
      clear hb3 u0 u1 u2 hlb HB2 BX2 BY2 H2
      have HBa := Lib.hid (HB3.out.trans ((Below.one w3 (.cells #[.string ⟨#[]⟩, .int .i64 0, .int .i64 0, .int .i64 0, .slice none 0 0] 24)).mono HB3.out.size))
      have HXa := Lib.hid (heap_alloc_new w3 (.cells #[.string ⟨#[]⟩, .int .i64 0, .int .i64 0, .int .i64 0, .slice none 0 0] 24))
      have BXa := Lib.hid (alloc_keeps BX3.out (.cells #[.string ⟨#[]⟩, .int .i64 0, .int .i64 0, .int .i64 0, .slice none 0 0] 24))
      have Ha := Lib.hid (show RdU (w3.alloc (.cells #[.string ⟨#[]⟩, .int .i64 0, .int .i64 0, .int .i64 0, .slice none 0 0] 24)) F G u from ⟨H3.out.fs.below (Below.one _ _), H3.out.gs.below (Below.one _ _)⟩)
      go_upto_region 4 with fail
      obtain ⟨wa, hwa⟩ : ∃ wa, w3.alloc (.cells #[.string ⟨#[]⟩, .int .i64 0, .int .i64 0, .int .i64 0, .slice none 0 0] 24) = wa := ⟨_, rfl⟩
      obtain ⟨bf, hbf⟩ : ∃ bf, w3.heap.size = bf := ⟨_, rfl⟩
      rw [hwa] at HBa HXa BXa Ha ⊢
      rw [hbf] at HXa ⊢
      clear hwa hbf HB3 BX3 H3
      have u0 := cell_of_heap BXa.out 0 (.slice F N cF) rfl
      have u1 := cell_of_heap BXa.out 1 (.slice G M cG) rfl
      have u2 := cell_of_heap BXa.out 2 (.int .i64 u.top) rfl
      have hlb := (Array.getElem?_eq_some_iff.1 BXa.out).1
      have hlf := (Array.getElem?_eq_some_iff.1 HXa.out).1
      go_wp2_with fail
      refine (HRI.out wa Ha.out hNi hMi).mono ?_
      rintro e w4 ⟨⟨br, rfl, hbr⟩, hb4⟩
      dsimp only
      have HB4 := Lib.hid (HBa.out.trans (hb4.mono HBa.out.size))
      have BX4 := Lib.hid ((hb4.block _ hlb).trans BXa.out)
      have HX4 := Lib.hid ((hb4.block _ hlf).trans HXa.out)
      have HBR := Lib.hid hbr
      clear hb4 hbr u0 u1 u2 hlb hlf HBa BXa HXa Ha
      have u0 := cell_of_heap BX4.out 0 (.slice F N cF) rfl
      have f0 := cell_of_heap HX4.out 0 (.string ⟨#[]⟩) rfl
      have f1 := cell_of_heap HX4.out 1 (.int .i64 0) rfl
      have f2 := cell_of_heap HX4.out 2 (.int .i64 0) rfl
      have f3 := cell_of_heap HX4.out 3 (.int .i64 0) rfl
      have f4 := cell_of_heap HX4.out 4 (.slice none 0 0) rfl
      have hlb := (Array.getElem?_eq_some_iff.1 BX4.out).1
      have hlf := (Array.getElem?_eq_some_iff.1 HX4.out).1
      have HZ : Hid (∀ w, Calls Try.prog 21 #[.agg #[.string ⟨#[]⟩, .int .i64 0, .int .i64 0, .int .i64 0, .slice none 0 0], .agg #[.string ⟨#[]⟩, .int .i64 0, .int .i64 0, .int .i64 0, .slice none 0 0]] w fun e w' => e = .returned (.bool true) ∧ Below w.heap.size w w') := Lib.hid (fun w =>
        (Same_any ⟨⟨#[]⟩, 0, 0, 0, []⟩ ⟨⟨#[]⟩, 0, 0, 0, []⟩ none none 0 0 (by simp) (by simp) w (fun k i hi => by cases hi) (fun k i hi => by cases hi)).mono fun e w' hh => (⟨by obtain ⟨⟨bq, e1, e2⟩, _⟩ := hh; rw [e1, e2.2 rfl], hh.2⟩ : e = .returned (.bool true) ∧ Below w.heap.size w w'))
      cases br
      case false =>
        go_wp2_with fail
        refine (HZ.out _).mono ?_
        rintro e w5 ⟨rfl, hb5⟩
        dsimp only
        have HB5 := Lib.hid (HB4.out.trans (hb5.mono HB4.out.size))
        clear hb5
        go_wp2_with fail
        refine (awake13_any _).mono ?_
        rintro e w9 ⟨rfl, hb9⟩
        dsimp only
        have HB9 := Lib.hid (HB5.out.trans (hb9.mono HB5.out.size))
        clear hb9
        go_wp2_with fail
        go_returns
        exact ⟨rfl, HB9.out⟩
      case true =>
        have hU := HBR.out.1 rfl
        by_cases hk0 : k < 0
        · have p1 : decide (k < 0) = true := by simpa using hk0
          clear hU HBR
          go_wp2_with fail
          refine (HZ.out _).mono ?_
          rintro e w5 ⟨rfl, hb5⟩
          dsimp only
          have HB5 := Lib.hid (HB4.out.trans (hb5.mono HB4.out.size))
          clear hb5
          go_wp2_with fail
          refine (awake13_any _).mono ?_
          rintro e w9 ⟨rfl, hb9⟩
          dsimp only
          have HB9 := Lib.hid (HB5.out.trans (hb9.mono HB5.out.size))
          clear hb9
          go_wp2_with fail
          go_returns
          exact ⟨rfl, HB9.out⟩
        · have p1 : decide (k < 0) = false := by simpa using hk0
          have hk1 : (N : Int) ≤ k := by
            by_cases h : k < (N : Int)
            · exact absurd ⟨hU, by omega, h⟩ hK
            · omega
          have p2 : decide (k ≥ (N : Int)) = true := by simpa using hk1
          have p3 : decide ((N : Int) ≤ k) = true := by simpa using hk1
          clear hU HBR
          go_wp2_with fail
          refine (HZ.out _).mono ?_
          rintro e w5 ⟨rfl, hb5⟩
          dsimp only
          have HB5 := Lib.hid (HB4.out.trans (hb5.mono HB4.out.size))
          clear hb5
          go_wp2_with fail
          refine (awake13_any _).mono ?_
          rintro e w9 ⟨rfl, hb9⟩
          dsimp only
          have HB9 := Lib.hid (HB5.out.trans (hb9.mono HB5.out.size))
          clear hb9
          go_wp2_with fail
          go_returns
          exact ⟨rfl, HB9.out⟩
    case pos =>
      obtain ⟨hU, hk0, hkN⟩ := hK
      obtain ⟨K, rfl⟩ : ∃ K : Nat, k = (K : Int) := ⟨k.toNat, by omega⟩
      have hKN : K < N := by omega
      obtain ⟨f, hf⟩ : ∃ f, u.funcs[K]? = some f := ⟨_, List.getElem?_eq_getElem (by rw [HN.out]; exact hKN)⟩
      have hfm := List.mem_of_getElem? hf
      have hokf := hU.ok f hfm
      have hsmf := HSM.out f hfm
      have h40 : f.R ≤ 40 := by have h5 := hsmf.2.2.1; have h6 := hokf.R; omega
      have hI := InI.all hokf hsmf.2.1 h40 (sm_facts hU HSM.out (k := (K : Int)) hfm) f.code.length (Nat.le_refl _)
      have hlw := ic_left hU HSM.out hf
      have HOF := HYES.out K rfl f hU HSM.out hf hMi w2 H2.out
      clear HNO HYES
      obtain ⟨S, hS⟩ : ∃ S, ofS u K f = S := ⟨_, rfl⟩
      have hI2 : InI (smTo u.funcs (K : Int) u.funcs.length) f f.code.length S := by rw [← hS]; exact hI
      rw [hS] at HOF hlw
      obtain ⟨LC, hLC⟩ : ∃ LC, S.C.length = LC := ⟨_, rfl⟩
      obtain ⟨L, hL⟩ : ∃ L, f.code.length = L := ⟨_, rfl⟩
      simp only [funcAgg, hLC] at HOF
      have HU := Lib.hid hU
      have HF := Lib.hid hf
      have HFM := Lib.hid hfm
      have HI := Lib.hid hI2
      have HLW := Lib.hid hlw
      have HLC := Lib.hid hLC
      have HL := Lib.hid hL
      have HR40 := Lib.hid (show 0 ≤ f.R ∧ f.R ≤ 40 from ⟨by have := hokf.R; have := hokf.ps; omega, h40⟩)
      have HL60 := Lib.hid (show L ≤ 60 by rw [← hL]; exact hsmf.2.1)
      have HLC9 := Lib.hid (show LC ≤ 8192 by rw [← hLC]; exact hI2.ok.len.2)
      have HRF : Hid (∀ w nb cp, RdI w (some ⟨nb, 0, none⟩) S.C → Calls Try.prog 18 #[.agg #[.string f.nm, .int .i64 f.ps, .int .i64 S.R, .int .i64 f.Fr, .slice (some ⟨nb, 0, none⟩) LC cp]] w fun e w' => e = .returned (.bool true) ∧ Below w.heap.size w w') := Lib.hid (fun w nb cp hr => by
        have hh := refRightFunc_any ⟨f.nm, f.ps, S.R, f.Fr, S.C⟩ (some ⟨nb, 0, none⟩) cp w hr
        simp only [funcAgg, hLC] at hh
        exact hh.mono fun e w' hh => (⟨by obtain ⟨⟨bq, e1, e2⟩, _⟩ := hh; rw [e1, e2.2 hI2.ok], hh.2⟩ : e = .returned (.bool true) ∧ Below w.heap.size w w'))
      clear hU hf hfm hokf hsmf h40 hI hlw hI2 hLC hL hS
      go_wp2_with fail
      refine HOF.mono ?_
      rintro e w3 ⟨⟨nb, cp, rfl, hnb, hpre⟩, hb3⟩
      dsimp only
      clear HOF
      have HB3 := Lib.hid (HB2.out.trans (hb3.mono HB2.out.size))
      have BY3 := Lib.hid ((hb3.block _ hlb).trans BY2.out)
      have H3 := Lib.hid (show RdU w3 F G u from ⟨H2.out.fs.below hb3, H2.out.gs.below hb3⟩)
      have HP3 := Lib.hid hpre.read
      clear hb3 u0 u1 u2 hlb HB2 BX2 BY2 H2 hnb hpre
      have HBa := Lib.hid (HB3.out.trans ((Below.one w3 (.cells #[.string f.nm, .int .i64 f.ps, .int .i64 S.R, .int .i64 f.Fr, .slice (some ⟨nb, 0, none⟩) LC cp] 24)).mono HB3.out.size))
      have HXa := Lib.hid (heap_alloc_new w3 (.cells #[.string f.nm, .int .i64 f.ps, .int .i64 S.R, .int .i64 f.Fr, .slice (some ⟨nb, 0, none⟩) LC cp] 24))
      have BYa := Lib.hid (alloc_keeps BY3.out (.cells #[.string f.nm, .int .i64 f.ps, .int .i64 S.R, .int .i64 f.Fr, .slice (some ⟨nb, 0, none⟩) LC cp] 24))
      have HPa := Lib.hid (HP3.out.below (Below.one w3 (.cells #[.string f.nm, .int .i64 f.ps, .int .i64 S.R, .int .i64 f.Fr, .slice (some ⟨nb, 0, none⟩) LC cp] 24)))
      have Ha := Lib.hid (show RdU (w3.alloc (.cells #[.string f.nm, .int .i64 f.ps, .int .i64 S.R, .int .i64 f.Fr, .slice (some ⟨nb, 0, none⟩) LC cp] 24)) F G u from ⟨H3.out.fs.below (Below.one _ _), H3.out.gs.below (Below.one _ _)⟩)
      go_upto_region 4 with fail
      obtain ⟨wa, hwa⟩ : ∃ wa, w3.alloc (.cells #[.string f.nm, .int .i64 f.ps, .int .i64 S.R, .int .i64 f.Fr, .slice (some ⟨nb, 0, none⟩) LC cp] 24) = wa := ⟨_, rfl⟩
      obtain ⟨bf, hbf⟩ : ∃ bf, w3.heap.size = bf := ⟨_, rfl⟩
      rw [hwa] at HBa HXa BYa HPa Ha ⊢
      rw [hbf] at HXa ⊢
      clear hwa hbf HB3 BY3 H3 HP3
      have BXa : Hid (wa.heap[W.heap.size]? = some (.cells #[.slice F N cF, .slice G M cG, .int .i64 u.top] 43)) := Lib.hid (by rw [← HN.out, ← HM.out]; exact BYa.out)
      have u0 := cell_of_heap BXa.out 0 (.slice F N cF) rfl
      have u1 := cell_of_heap BXa.out 1 (.slice G M cG) rfl
      have u2 := cell_of_heap BXa.out 2 (.int .i64 u.top) rfl
      have hlb := (Array.getElem?_eq_some_iff.1 BXa.out).1
      have hlf := (Array.getElem?_eq_some_iff.1 HXa.out).1
      go_wp2_with fail
      refine (HRI.out wa Ha.out hNi hMi).mono ?_
      rintro e w4 ⟨⟨br, rfl, hbr⟩, hb4⟩
      dsimp only
      obtain rfl : br = true := hbr.2 HU.out
      have HB4 := Lib.hid (HBa.out.trans (hb4.mono HBa.out.size))
      have BY4 := Lib.hid ((hb4.block _ hlb).trans BYa.out)
      have HX4 := Lib.hid ((hb4.block _ hlf).trans HXa.out)
      have HP4 := Lib.hid (HPa.out.below hb4)
      have H4 := Lib.hid (show RdU w4 F G u from ⟨Ha.out.fs.below hb4, Ha.out.gs.below hb4⟩)
      clear hb4 hbr u0 u1 u2 hlb hlf HBa BXa BYa HXa Ha HPa
      have BX4 : Hid (w4.heap[W.heap.size]? = some (.cells #[.slice F N cF, .slice G M cG, .int .i64 u.top] 43)) := Lib.hid (by rw [← HN.out, ← HM.out]; exact BY4.out)
      have u0 := cell_of_heap BX4.out 0 (.slice F N cF) rfl
      have hlb := (Array.getElem?_eq_some_iff.1 BX4.out).1
      have p1 : decide ((K : Int) < 0) = false := by simp
      have p2 : decide ((K : Int) ≥ (N : Int)) = false := by simp; omega
      have p3 : decide ((N : Int) ≤ (K : Int)) = false := by simp; omega
      obtain ⟨fb, fo, C, cap, rfl, hblg, hcg, hrg⟩ := H4.out.fs K f HF.out
      obtain ⟨q0, q1, q2, q3, q4⟩ := fn_cells hcg
      rw [HL.out] at q4
      have HBg := Lib.hid (HB4.out.trans ((Below.one w4 (.cells #[.string f.nm, .int .i64 f.ps, .int .i64 f.R, .int .i64 f.Fr, .slice C L cap] 24)).mono HB4.out.size))
      have HXg := Lib.hid (alloc_keeps HX4.out (.cells #[.string f.nm, .int .i64 f.ps, .int .i64 f.R, .int .i64 f.Fr, .slice C L cap] 24))
      have HGg := Lib.hid (heap_alloc_new w4 (.cells #[.string f.nm, .int .i64 f.ps, .int .i64 f.R, .int .i64 f.Fr, .slice C L cap] 24))
      have BYg := Lib.hid (alloc_keeps BY4.out (.cells #[.string f.nm, .int .i64 f.ps, .int .i64 f.R, .int .i64 f.Fr, .slice C L cap] 24))
      have HPg := Lib.hid (HP4.out.below (Below.one w4 (.cells #[.string f.nm, .int .i64 f.ps, .int .i64 f.R, .int .i64 f.Fr, .slice C L cap] 24)))
      have HRg := Lib.hid (hrg.below (Below.one w4 (.cells #[.string f.nm, .int .i64 f.ps, .int .i64 f.R, .int .i64 f.Fr, .slice C L cap] 24)))
      have Hg := Lib.hid (show RdU (w4.alloc (.cells #[.string f.nm, .int .i64 f.ps, .int .i64 f.R, .int .i64 f.Fr, .slice C L cap] 24)) (some ⟨fb, fo, none⟩) G u from ⟨H4.out.fs.below (Below.one _ _), H4.out.gs.below (Below.one _ _)⟩)
      clear hcg hrg hk0
      go_upto_region 7 with fail
      obtain ⟨wg, hwg⟩ : ∃ wg, w4.alloc (.cells #[.string f.nm, .int .i64 f.ps, .int .i64 f.R, .int .i64 f.Fr, .slice C L cap] 24) = wg := ⟨_, rfl⟩
      obtain ⟨bg, hbg⟩ : ∃ bg, w4.heap.size = bg := ⟨_, rfl⟩
      rw [hwg] at HBg HXg HGg BYg HPg HRg Hg ⊢
      rw [hbg] at HGg ⊢
      clear hwg hbg u0 hlb q0 q1 q2 q3 q4 hblg HB4 BX4 BY4 HX4 HP4 H4 p1 p2 p3
      have g2 := cell_of_heap HGg.out 2 (.int .i64 f.R) rfl
      have g4 := cell_of_heap HGg.out 4 (.slice C L cap) rfl
      have hlg := (Array.getElem?_eq_some_iff.1 HGg.out).1
      have hlf := (Array.getElem?_eq_some_iff.1 HXg.out).1
      go_wp2_with fail
      go_quiet (fail)
      go_wp2_with fail
      have hbd := below_drewN (Below.refl wg.heap.size wg) nq
      obtain ⟨wh, hwh⟩ : ∃ wh, wg.drewN nq = wh := ⟨_, rfl⟩
      rw [hwh] at hbd ⊢
      have HBh := Lib.hid (HBg.out.trans (hbd.mono HBg.out.size))
      have HXh := Lib.hid ((hbd.block _ hlf).trans HXg.out)
      have HGh := Lib.hid ((hbd.block _ hlg).trans HGg.out)
      have BYh := Lib.hid ((hbd.block _ (Array.getElem?_eq_some_iff.1 BYg.out).1).trans BYg.out)
      have HPh := Lib.hid (HPg.out.below hbd)
      have HRh := Lib.hid (HRg.out.below hbd)
      have Hh := Lib.hid (show RdU wh (some ⟨fb, fo, none⟩) G u from ⟨Hg.out.fs.below hbd, Hg.out.gs.below hbd⟩)
      have hlfh := (Array.getElem?_eq_some_iff.1 HXh.out).1
      have hlgh := (Array.getElem?_eq_some_iff.1 HGh.out).1
      clear hbd hwh g2 g4 hlf hlg HBg HXg HGg BYg HPg HRg Hg
      refine ic_loopA u (some ⟨fb, fo, none⟩) G cF cG N M L cap W.heap.size (K : Int) f C wh HU.out HSM.out HFM.out HN.out HM.out hNi HL.out Hh.out HRh.out BYh.out HR40.out HL60.out _ ?_
      intros
      rename_i w6 c' r' l' hco hb6
      have HC1 : Hid (c' = S.n) := Lib.hid (by rw [hco.ce, HI.out.n, HL.out])
      have HC2 : Hid (r' = S.R) := Lib.hid (by rw [hco.re, HI.out.R, HL.out])
      have HC3 : Hid (l' = LC) := Lib.hid (by rw [hco.le, ← HLC.out, HI.out.len, HL.out])
      rw [HC1.out, HC2.out, HC3.out]
      have HB6 := Lib.hid (HBh.out.trans (hb6.mono HBh.out.size))
      have HX6 := Lib.hid ((hb6.block _ hlfh).trans HXh.out)
      have HG6 := Lib.hid ((hb6.block _ hlgh).trans HGh.out)
      have BY6 := Lib.hid ((hb6.block _ (Array.getElem?_eq_some_iff.1 BYh.out).1).trans BYh.out)
      have HP6 := Lib.hid (HPh.out.below hb6)
      have H6 := Lib.hid (show RdU w6 (some ⟨fb, fo, none⟩) G u from ⟨Hh.out.fs.below hb6, Hh.out.gs.below hb6⟩)
      clear hco hb6 hlfh hlgh HBh HXh HGh BYh HPh HRh Hh HC1 HC2 HC3
      (try simp only [Exit.inBlock])
      have f4 := cell_of_heap HX6.out 4 (.slice (some ⟨nb, 0, none⟩) LC cp) rfl
      have hlf := (Array.getElem?_eq_some_iff.1 HX6.out).1
      have hlg := (Array.getElem?_eq_some_iff.1 HG6.out).1
      go_wp2_with fail
      refine ic_loopC u (some ⟨fb, fo, none⟩) G cF cG N M LC cp W.heap.size (K : Int) S.C (some ⟨nb, 0, none⟩) w6 HLW.out HN.out HM.out hNi HLC.out HLC9.out H6.out HP6.out BY6.out _ ?_
      intros
      rename_i w7 hb7
      have HB7 := Lib.hid (HB6.out.trans (hb7.mono HB6.out.size))
      have HX7 := Lib.hid ((hb7.block _ hlf).trans HX6.out)
      have HG7 := Lib.hid ((hb7.block _ hlg).trans HG6.out)
      have HP7 := Lib.hid (HP6.out.below hb7)
      clear hb7 f4 hlf hlg HB6 HX6 HG6 BY6 HP6 H6
      (try simp only [Exit.inBlock])
      have x0 := cell_of_heap HX7.out 0 (.string f.nm) rfl
      have x1 := cell_of_heap HX7.out 1 (.int .i64 f.ps) rfl
      have x2 := cell_of_heap HX7.out 2 (.int .i64 S.R) rfl
      have x3 := cell_of_heap HX7.out 3 (.int .i64 f.Fr) rfl
      have x4 := cell_of_heap HX7.out 4 (.slice (some ⟨nb, 0, none⟩) LC cp) rfl
      have y0 := cell_of_heap HG7.out 0 (.string f.nm) rfl
      have y1 := cell_of_heap HG7.out 1 (.int .i64 f.ps) rfl
      have y3 := cell_of_heap HG7.out 3 (.int .i64 f.Fr) rfl
      have hlf := (Array.getElem?_eq_some_iff.1 HX7.out).1
      have hlg := (Array.getElem?_eq_some_iff.1 HG7.out).1
      have z1 : ((S.n : Int) == (S.n : Int)) = true := by simp
      have z2 : (S.R == S.R) = true := by simp
      have z3 : ((LC : Int) == (LC : Int)) = true := by simp
      have z5 : (f.ps == f.ps) = true := by simp
      have z6 : (f.Fr == f.Fr) = true := by simp
      go_wp2_with fail
      refine (HRF.out _ nb cp HP7.out).mono ?_
      rintro e w8 ⟨rfl, hb8⟩
      dsimp only
      have HB8 := Lib.hid (HB7.out.trans (hb8.mono HB7.out.size))
      have HX8 := Lib.hid ((hb8.block _ hlf).trans HX7.out)
      have HG8 := Lib.hid ((hb8.block _ hlg).trans HG7.out)
      clear hb8 x0 x1 x2 x3 x4 y0 y1 y3 hlf hlg HX7 HG7 HB7 HP7
      have x0 := cell_of_heap HX8.out 0 (.string f.nm) rfl
      have x1 := cell_of_heap HX8.out 1 (.int .i64 f.ps) rfl
      have x3 := cell_of_heap HX8.out 3 (.int .i64 f.Fr) rfl
      have y0 := cell_of_heap HG8.out 0 (.string f.nm) rfl
      have y1 := cell_of_heap HG8.out 1 (.int .i64 f.ps) rfl
      have y3 := cell_of_heap HG8.out 3 (.int .i64 f.Fr) rfl
      have hlf := (Array.getElem?_eq_some_iff.1 HX8.out).1
      have hlg := (Array.getElem?_eq_some_iff.1 HG8.out).1
      go_wp2_with fail
      refine (awake13_any _).mono ?_
      rintro e w9 ⟨rfl, hb9⟩
      dsimp only
      have HB9 := Lib.hid (HB8.out.trans (hb9.mono HB8.out.size))
      clear hb9 x0 x1 x3 y0 y1 y3 hlf hlg
      go_wp2_with fail
      go_returns
      exact ⟨rfl, HB9.out⟩
end Go.Proofs.Ytkcclefonmnpnaa
