import Derived.Test.YtkcclefonmnpnaaZl
import Derived.Test.YtkcclefonmnpnaaZm
import Derived.Test.YtkcclefonmnpnaaZg
/- ShareFirsts: plain, and the walk. -/
namespace Go.Proofs.Ytkcclefonmnpnaa
open Go.RowKit Go.BigFrame

def w0 (l : List Ins) (n : Nat) : Bool := decide (n = 0) || decide (11 ≤ (insD l (n - 1)).kind)
def wJ (l : List Ins) (n j : Nat) : Bool := w0 l n || (List.range j).any fun q => decide (11 ≤ (insD l q).kind) && decide ((n : Int) ∈ (insD l q).next q)
def wM (l : List Ins) (n j m : Nat) : Bool := wJ l n j || (((insD l j).next j).take m).any fun k => decide (k = (n : Int)) && decide (11 ≤ (insD l j).kind)
theorem wJ_zero (l : List Ins) (n : Nat) : wJ l n 0 = w0 l n := by simp [wJ]
theorem wM_zero (l : List Ins) (n j : Nat) : wM l n j 0 = wJ l n j := by simp [wM]
theorem wM_succ (l : List Ins) (n j m : Nat) (k : Int) (h : ((insD l j).next j)[m]? = some k) : wM l n j (m + 1) = (wM l n j m || (decide (k = (n : Int)) && decide (11 ≤ (insD l j).kind))) := by
  unfold wM
  rw [List.take_add_one, h]
  simp [Bool.or_assoc]
theorem wM_all (l : List Ins) (n j : Nat) : wM l n j ((insD l j).next j).length = wJ l n (j + 1) := by
  unfold wM wJ
  rw [List.take_length, List.range_succ, List.any_append, Bool.or_assoc]
  congr 1
  congr 1
  simp only [List.any_cons, List.any_nil, Bool.or_false]
  by_cases h : 11 ≤ (insD l j).kind
  · simp only [h, decide_true, Bool.and_true, Bool.true_and]
    rw [Bool.eq_iff_iff]
    simp
  · simp [h]
theorem wJ_all (l : List Ins) (n : Nat) (hn : n < l.length) : wJ l n l.length = first l n := by
  unfold wJ w0 first
  rw [Bool.eq_iff_iff]
  simp only [Bool.or_eq_true, decide_eq_true_eq, List.any_eq_true, List.mem_range, Bool.and_eq_true]
  constructor
  · rintro ((h | h) | ⟨q, h1, h2, h3⟩)
    · exact Or.inl h
    · by_cases h0 : n = 0
      · exact Or.inl h0
      · exact Or.inr ⟨n - 1, by omega, h, Or.inl (by omega)⟩
    · exact Or.inr ⟨q, h1, h2, Or.inr h3⟩
  · rintro (h | ⟨q, h1, h2, h3 | h3⟩)
    · exact Or.inl (Or.inl h)
    · refine Or.inl (Or.inr ?_)
      rw [← h3, Nat.add_sub_cancel]
      exact h2
    · exact Or.inr ⟨q, h1, h2, h3⟩

set_option maxRecDepth 1000000 in
set_option maxHeartbeats 8000000 in
theorem fs_few (f : Fn7) (hf : ¬ Few f) (C : Option Addr) (cap : Nat) (hl9 : f.code.length ≤ 9223372036854775807) (w : World) (hC : RdI w C f.code) :
    Calls Try.prog 3 #[funcAgg f.nm f.ps f.R f.Fr C f.code.length cap] w fun e w' => e = .returned (.bool true) ∧ Below w.heap.size w w' := by
  have hB := Below.one w (funcObj f.nm f.ps f.R f.Fr C f.code.length cap)
  have hF := few12_no f hf C cap hl9 _ (hC.below hB)
  have ha := fun W => awake12_any W
  simp only [funcObj, funcAgg] at hB hF ⊢
  have HF := Lib.hid hF
  have HA := Lib.hid ha
  clear hf hC hF ha hl9
  go_enter Try.func3, Try.ntmps3
  go_wp2_with (first
    | (refine HF.out.mono ?_; rintro e w3 ⟨rfl, hb3⟩)
    | (refine (HA.out _).mono ?_; rintro e w4 ⟨rfl, hb4⟩))
  go_returns
  exact ⟨rfl, hB.trans ((hb3.trans (hb4.mono hb3.size)).mono hB.size)⟩
set_option maxRecDepth 1000000 in
set_option maxHeartbeats 8000000 in
theorem fs_bad (f : Fn7) (hf : Few f) (hno : ¬ OkF f) (C : Option Addr) (cap : Nat) (hl9 : f.code.length ≤ 9223372036854775807) (w : World) (hC : RdI w C f.code) :
    Calls Try.prog 3 #[funcAgg f.nm f.ps f.R f.Fr C f.code.length cap] w fun e w' => e = .returned (.bool true) ∧ Below w.heap.size w w' := by
  have hB := Below.one w (funcObj f.nm f.ps f.R f.Fr C f.code.length cap)
  have bx := heap_alloc_new w (funcObj f.nm f.ps f.R f.Fr C f.code.length cap)
  have hC1 := hC.below hB
  have hF := few12_yes f hf C cap hl9 _ hC1
  have hD := fun W h => Firsts_no f hno C cap W h
  have hR := fun W h => refRight12_no f hno C cap W h
  have ha := fun W => awake12_any W
  obtain ⟨W, hW⟩ : ∃ W, w.alloc (funcObj f.nm f.ps f.R f.Fr C f.code.length cap) = W := ⟨_, rfl⟩
  rw [hW] at hB bx hC1 hF
  obtain ⟨N, hN⟩ : ∃ N, f.code.length = N := ⟨_, rfl⟩
  rw [hN] at hF hD hR bx hW ⊢
  have g0 := cell_of_heap bx 0 (.string f.nm) rfl
  have g1 := cell_of_heap bx 1 (.int .i64 f.ps) rfl
  have g2 := cell_of_heap bx 2 (.int .i64 f.R) rfl
  have g3 := cell_of_heap bx 3 (.int .i64 f.Fr) rfl
  have g4 := cell_of_heap bx 4 (.slice C N cap) rfl
  have hbl := (Array.getElem?_eq_some_iff.1 bx).1
  simp only [funcObj, funcAgg] at hF hD hR hW ⊢
  have HF := Lib.hid hF
  have HD := Lib.hid hD
  have HR := Lib.hid hR
  have HA := Lib.hid ha
  have HB := Lib.hid hB
  have HBX := Lib.hid bx
  have HC1 := Lib.hid hC1
  clear hf hno hC hF hD hR ha hl9 hB bx hC1 hN
  go_enter Try.func3, Try.ntmps3
  go_wp2_with fail
  refine HF.out.mono ?_
  rintro e w3 ⟨rfl, hb3⟩
  have c3 := (hb3.block _ hbl).trans HBX.out
  have h0 := cell_of_heap c3 0 (.string f.nm) rfl
  have h1 := cell_of_heap c3 1 (.int .i64 f.ps) rfl
  have h2 := cell_of_heap c3 2 (.int .i64 f.R) rfl
  have h3 := cell_of_heap c3 3 (.int .i64 f.Fr) rfl
  have h4 := cell_of_heap c3 4 (.slice C N cap) rfl
  have HB3 := Lib.hid hb3
  clear c3 hb3 hW g0 g1 g2 g3 g4
  go_wp2_with fail
  refine (HD.out _ (HC1.out.below HB3.out)).mono ?_
  rintro e w4 ⟨rfl, hb4⟩
  have hb34 := HB3.out.trans (hb4.mono HB3.out.size)
  have c4 := (hb34.block _ hbl).trans HBX.out
  have i0 := cell_of_heap c4 0 (.string f.nm) rfl
  have i1 := cell_of_heap c4 1 (.int .i64 f.ps) rfl
  have i2 := cell_of_heap c4 2 (.int .i64 f.R) rfl
  have i3 := cell_of_heap c4 3 (.int .i64 f.Fr) rfl
  have i4 := cell_of_heap c4 4 (.slice C N cap) rfl
  have HB4 := Lib.hid hb34
  clear hb4 hb34 h0 h1 h2 h3 h4 c4
  go_wp2_with fail
  refine (HR.out _ (HC1.out.below HB4.out)).mono ?_
  rintro e w6 ⟨rfl, hb6⟩
  have HB6 := Lib.hid (HB4.out.trans (hb6.mono HB4.out.size))
  clear hb6 i0 i1 i2 i3 i4
  go_wp2_with fail
  refine (HA.out _).mono ?_
  rintro e w8 ⟨rfl, hb8⟩
  go_wp2
  go_returns
  exact ⟨rfl, HB.out.trans ((HB6.out.trans (hb8.mono HB6.out.size)).mono HB.out.size)⟩
end Go.Proofs.Ytkcclefonmnpnaa

/- ShareFirsts: the walk, of a function that may be. -/
namespace Go.Proofs.Ytkcclefonmnpnaa
open Go.RowKit Go.BigFrame

set_option maxRecDepth 1000000 in
set_option maxHeartbeats 16000000 in
theorem fs_good (f : Fn7) (hf : Few f) (hok : OkF f) (C : Option Addr) (cap : Nat) (hl9 : f.code.length ≤ 9223372036854775807) (w : World) (hC : RdI w C f.code) :
    Calls Try.prog 3 #[funcAgg f.nm f.ps f.R f.Fr C f.code.length cap] w fun e w' => e = .returned (.bool true) ∧ Below w.heap.size w w' := by
  have hB := Below.one w (funcObj f.nm f.ps f.R f.Fr C f.code.length cap)
  have bx := heap_alloc_new w (funcObj f.nm f.ps f.R f.Fr C f.code.length cap)
  have hC1 := hC.below hB
  have hF := few12_yes f hf C cap hl9 _ hC1
  have hD := fun W h => Firsts_yes f hok C cap W h
  have hR := fun W h => refRight12_yes f hok C cap W h
  have ha := fun W => awake12_any W
  obtain ⟨W, hW⟩ : ∃ W, w.alloc (funcObj f.nm f.ps f.R f.Fr C f.code.length cap) = W := ⟨_, rfl⟩
  rw [hW] at hB bx hC1 hF
  obtain ⟨N, hN⟩ : ∃ N, f.code.length = N := ⟨_, rfl⟩
  rw [hN] at hF hD hR bx hW ⊢
  have g0 := cell_of_heap bx 0 (.string f.nm) rfl
  have g1 := cell_of_heap bx 1 (.int .i64 f.ps) rfl
  have g2 := cell_of_heap bx 2 (.int .i64 f.R) rfl
  have g3 := cell_of_heap bx 3 (.int .i64 f.Fr) rfl
  have g4 := cell_of_heap bx 4 (.slice C N cap) rfl
  have hbl := (Array.getElem?_eq_some_iff.1 bx).1
  have hN2 : N ≤ 8192 := by rw [← hN]; exact hok.len.2
  have hall := fun n (h : n < f.code.length) => wJ_all f.code n h
  rw [hN] at hall
  simp only [funcObj, funcAgg] at hF hD hR hW ⊢
  have HF := Lib.hid hF
  have HD := Lib.hid hD
  have HR := Lib.hid hR
  have HA := Lib.hid ha
  have HB := Lib.hid hB
  have HBX := Lib.hid bx
  have HC1 := Lib.hid hC1
  have HOK := Lib.hid hok
  have HN := Lib.hid hN
  have HALL := Lib.hid hall
  clear hf hok hC hF hD hR ha hl9 hB bx hC1 hN hall
  go_enter Try.func3, Try.ntmps3
  go_wp2_with fail
  refine HF.out.mono ?_
  rintro e w3 ⟨rfl, hb3⟩
  have c3 := (hb3.block _ hbl).trans HBX.out
  have h0 := cell_of_heap c3 0 (.string f.nm) rfl
  have h1 := cell_of_heap c3 1 (.int .i64 f.ps) rfl
  have h2 := cell_of_heap c3 2 (.int .i64 f.R) rfl
  have h3 := cell_of_heap c3 3 (.int .i64 f.Fr) rfl
  have h4 := cell_of_heap c3 4 (.slice C N cap) rfl
  have HB3 := Lib.hid hb3
  clear c3 hb3 hW g0 g1 g2 g3 g4
  go_wp2_with fail
  refine (HD.out _ (HC1.out.below HB3.out)).mono ?_
  rintro e w4 ⟨⟨ob, rfl, hob, hfi⟩, hb4⟩
  have hb34 := HB3.out.trans (hb4.mono HB3.out.size)
  have c4 := (hb34.block _ hbl).trans HBX.out
  have i0 := cell_of_heap c4 0 (.string f.nm) rfl
  have i1 := cell_of_heap c4 1 (.int .i64 f.ps) rfl
  have i2 := cell_of_heap c4 2 (.int .i64 f.R) rfl
  have i3 := cell_of_heap c4 3 (.int .i64 f.Fr) rfl
  have i4 := cell_of_heap c4 4 (.slice C N cap) rfl
  have HB4 := Lib.hid hb34
  have HFI := Lib.hid hfi
  have HX4 := Lib.hid c4
  have hl4 := (Array.getElem?_eq_some_iff.1 c4).1
  clear hb4 hb34 h0 h1 h2 h3 h4 c4 hob hfi
  go_wp2_with fail
  refine (HR.out _ (HC1.out.below HB4.out)).mono ?_
  rintro e w5 ⟨rfl, hb5⟩
  have c5 := (hb5.block _ hl4).trans HX4.out
  have j4 := cell_of_heap c5 4 (.slice C N cap) rfl
  have HX5 := Lib.hid c5
  have HB5 := Lib.hid (HB4.out.trans (hb5.mono HB4.out.size))
  have HFI5 := Lib.hid (Pre.later HFI.out hb5)
  have HC5 := Lib.hid (HC1.out.below HB5.out)
  have hl5 := (Array.getElem?_eq_some_iff.1 c5).1
  clear hb5 i0 i1 i2 i3 i4 c5 HFI HX4 hl4
  go_wp2_with fail
  clear j4
  go_loopw [34] (fun ix wr => ∃ k : Nat, k ≤ N ∧ ix = .int .i64 k ∧ Below w5.heap.size w5 wr) (fun ix _ => N - (intOf ix).toNat)
  case atStart => exact ⟨0, by omega, rfl, Below.refl _ _⟩
  case round =>
    obtain ⟨n, hk, rfl, hbr⟩ := hrel
    have HBR := Lib.hid hbr
    have hsr := hbr.size
    have cr := (hbr.block _ hl5).trans HX5.out
    have k4 := cell_of_heap cr 4 (.slice C N cap) rfl
    by_cases hlt : n < N
    · have hfst : ∃ b0 : Bool, w0 f.code n = b0 := ⟨_, rfl⟩
      obtain ⟨b0, hb0⟩ := hfst
      have HW0 := Lib.hid hb0
      clear hb0
      have hcut : True := trivial
      go_upto_region 11 with fail
      go_cut [5] from 37 to 48 (fun s5 wx => s5 = .bool b0 ∧ wx = wr)
      case first =>
        by_cases h0 : n = 0
        · subst h0
          obtain rfl : true = b0 := by rw [← HW0.out]; simp [w0]
          go_wp2_with fail
          go_meet
          exact ⟨rfl, rfl⟩
        · obtain ⟨p, rfl⟩ : ∃ p, n = p + 1 := ⟨n - 1, by omega⟩
          have hi := insD_in (show p < f.code.length by rw [HN.out]; omega)
          obtain ⟨bb, oo, rfl, hbl2, hcs⟩ := (HC5.out.below hbr) p _ hi
          obtain ⟨x0, x1, x2, x3, x4, x5, x6, x7, x8, x9, x10, x11, x12, x13, x14⟩ := RdI.load hcs
          have hbv : decide (11 ≤ (insD f.code p).kind) = b0 := by rw [← HW0.out]; simp [w0]
          have q1 : decide (((p + 1 : Nat) : Int) = 0) = false := by simp; omega
          clear hi hcs hbr cr
          go_wp2_with fail
          go_meet
          exact ⟨rfl, rfl⟩
      case rest =>
        obtain ⟨rfl, rfl⟩ := hcut
        clear hbr cr
        go_wp2_with fail
        go_loopw [5, 52] (fun wb ix wq => ∃ j : Nat, j ≤ N ∧ ix = .int .i64 j ∧ wb = .bool (wJ f.code n j) ∧ Below w5.heap.size w5 wq) (fun wb ix _ => N - (intOf ix).toNat)
        case atStart => exact ⟨0, by omega, rfl, by rw [wJ_zero, HW0.out], HBR.out⟩
        case round =>
          obtain ⟨j, hj, rfl, rfl, hbq⟩ := hrel
          have HBQ := Lib.hid hbq
          have hsq := hbq.size
          clear hbq
          by_cases hltj : j < N
          · have hi := insD_in (show j < f.code.length by rw [HN.out]; exact hltj)
            have hrI := HC5.out.below HBQ.out
            obtain ⟨bb, oo, rfl, hbl2, hcs⟩ := hrI j _ hi
            obtain ⟨x0, x1, x2, x3, x4, x5, x6, x7, x8, x9, x10, x11, x12, x13, x14⟩ := RdI.load hcs
            have hze := wM_zero f.code n j
            have hsc := wM_succ f.code n j
            have hall := wM_all f.code n j
            obtain ⟨wj, hwj⟩ : ∃ wj, wJ f.code n j = wj := ⟨_, rfl⟩
            rw [hwj] at hze ⊢
            have kx := heap_alloc_new wr (insD f.code j).obj
            have hnx := fun W => refNext_fr (insD f.code j) j (by omega) W
            have hnl := Ins.next_len (insD f.code j) j
            have HKX := Lib.hid kx
            obtain ⟨nx, hnxe⟩ : ∃ nx, (insD f.code j).next j = nx := ⟨_, rfl⟩
            rw [hnxe] at hnx hnl hsc hall
            have ⟨d0, d1, d2, d3, d4, d5, d6, d7, d8, d9, d10, d11, d12, d13, d14⟩ := Ins.cells kx
            simp only [Ins.obj, Ins.agg] at x0 x1 x2 x3 x4 x5 x6 x7 x8 x9 x10 x11 x12 x13 x14 d0 d1 d2 d3 d4 d5 d6 d7 d8 d9 d10 d11 d12 d13 d14 hnx
            have HNX := Lib.hid hnx
            have HSC := Lib.hid hsc
            have HZE := Lib.hid hze
            have HALW := Lib.hid hall
            have HBK := Lib.hid ((Below.one wr (insD f.code j).obj))
            clear hnx hi hcs hrI kx hnxe hsc hze hall hwj
            go_wp2_with fail
            refine (HNX.out _).mono ?_
            rintro e w6 ⟨⟨A, cp, rfl, hrd, hfr⟩, hb6⟩
            obtain ⟨nn, hnn⟩ : ∃ nn, nx.length = nn := ⟨_, rfl⟩
            rw [hnn]
            have hs1 : wr.heap.size < (wr.alloc (insD f.code j).obj).heap.size := by simp
            have HB6 := Lib.hid (HBQ.out.trans ((HBK.out.trans (hb6.mono HBK.out.size)).mono hsq))
            have hk6 := (hb6.block _ hs1).trans HKX.out
            have hkl6 := (Array.getElem?_eq_some_iff.1 hk6).1
            have HK6 := Lib.hid hk6
            have HRD6 := Lib.hid hrd
            have HNN := Lib.hid hnn
            have hn2 : nn ≤ 2 := by rw [← hnn]; exact hnl
            clear hrd hfr hb6 hnn hk6 d0 d1 d2 d3 d4 d5 d6 d7 d8 d9 d10 d11 d12 d13 d14 x0 x1 x2 x3 x4 x5 x6 x7 x8 x9 x10 x11 x12 x13 x14
            obtain ⟨kb, hkb⟩ : ∃ kb, wr.heap.size = kb := ⟨_, rfl⟩
            rw [hkb] at hkl6 HK6 ⊢
            obtain ⟨kk, hkk⟩ : ∃ kk, (insD f.code j).kind = kk := ⟨_, rfl⟩
            have HKK := Lib.hid hkk
            clear hkk hkb
            go_wp2_with fail
            go_loopw [5, 61] (fun wb ix wq => ∃ m : Nat, m ≤ nn ∧ ix = .int .i64 m ∧ wb = .bool (wM f.code n j m) ∧ Below w6.heap.size w6 wq) (fun wb ix _ => nn - (intOf ix).toNat)
            case atStart => exact ⟨0, by omega, rfl, by rw [HZE.out], Below.refl _ _⟩
            case round =>
              obtain ⟨m, hm, rfl, rfl, hbb⟩ := hrel
              have HBB := Lib.hid hbb
              by_cases hltm : m < nn
              · obtain ⟨v, hv⟩ : ∃ v, nx[m]? = some v := ⟨_, List.getElem?_eq_getElem (by rw [HNN.out]; exact hltm)⟩
                obtain ⟨b, o, rfl, hbl, hcu⟩ := (HRD6.out.below hbb) m _ hv
                have hsuc := HSC.out m v hv
                have kc := cell_of_heap ((hbb.block _ hkl6).trans HK6.out) 0 (.int .i64 (insD f.code j).kind) rfl
                rw [HKK.out] at hsuc kc
                obtain ⟨b0, hb0⟩ : ∃ b0, wM f.code n j m = b0 := ⟨_, rfl⟩
                obtain ⟨b1, hb1⟩ : ∃ b1, decide (v = (n : Int)) = b1 := ⟨_, rfl⟩
                obtain ⟨b2, hb2⟩ : ∃ b2, decide (11 ≤ kk) = b2 := ⟨_, rfl⟩
                have hb3 : (v == (n : Int)) = b1 := by rw [← hb1]; by_cases e : v = (n : Int) <;> simp [e]
                have hb4 : decide (kk ≥ 11) = b2 := hb2
                rw [hb0, hb1, hb2] at hsuc
                rw [hb0]
                have HSUC := Lib.hid hsuc
                clear hsuc hv hbb hb0
                cases b0
                case true =>
                  go_wp2
                  exact ⟨⟨m + 1, by omega, by go_num, by rw [HSUC.out]; rfl, HBB.out⟩, by simp [intOf]; omega⟩
                case false =>
                  cases b1
                  case false =>
                    go_wp2
                    all_goals exact ⟨⟨m + 1, by omega, by go_num, by rw [HSUC.out]; rfl, HBB.out⟩, by simp [intOf]; omega⟩
                  case true =>
                    obtain rfl : v = (n : Int) := by simpa using hb1
                    clear hb1 hb3
                    cases b2
                    all_goals
                      go_wp2
                      exact ⟨⟨m + 1, by omega, by go_num, by rw [HSUC.out]; rfl, HBB.out⟩, by simp [intOf]; omega⟩
              · obtain rfl : m = nn := by omega
                have hfin := HALW.out
                rw [HNN.out] at hfin
                rw [hfin]
                clear hbb
                go_wp2
                exact ⟨⟨j + 1, by omega, by go_num, rfl, HB6.out.trans (HBB.out.mono HB6.out.size)⟩, by simp [intOf]; omega⟩
          · obtain rfl : j = N := by omega
            have hfin := HALL.out n hlt
            rw [hfin]
            have hmc := PreB.cell (Pre.later HFI5.out HBQ.out) (bl_get (m := first f.code) hlt)
            have hml := Pre.lt (Pre.later HFI5.out HBQ.out)
            go_wp2
            exact ⟨⟨n + 1, by omega, by go_num, HBQ.out⟩, by simp [intOf]; omega⟩
    · obtain rfl : n = N := by omega
      clear hbr cr
      go_wp2_with fail
      refine (HA.out _).mono ?_
      rintro e w8 ⟨rfl, hb8⟩
      go_wp2
      go_returns
      exact ⟨rfl, HB.out.trans ((HB5.out.trans ((HBR.out.trans (hb8.mono hsr)).mono HB5.out.size)).mono HB.out.size)⟩
theorem ShareFirsts_any (f : Fn7) (C : Option Addr) (cap : Nat) (hl9 : f.code.length ≤ 9223372036854775807) (w : World) (hC : RdI w C f.code) :
    Calls Try.prog 3 #[funcAgg f.nm f.ps f.R f.Fr C f.code.length cap] w fun e w' => e = .returned (.bool true) ∧ Below w.heap.size w w' := by
  by_cases hf : Few f
  · by_cases hok : OkF f
    · exact fs_good f hf hok C cap hl9 w hC
    · exact fs_bad f hf hok C cap hl9 w hC
  · exact fs_few f hf C cap hl9 w hC
end Go.Proofs.Ytkcclefonmnpnaa
