import Derived.Test.YtgdbkoncaojmoaaDl
/- graph.Heads. -/
namespace Go.Proofs.Ytgdbkoncaojmoaa
open Go.RowKit Go.BigFrame

set_option maxHeartbeats 4000000 in
theorem gHeads_no (f : Fn7) (hf : ¬ OkF f) (C : Option Addr) (cap : Nat) (w : World) (hC : RdI w C f.code) :
    Calls Try.prog 23 #[funcAgg f.nm f.ps f.R f.Fr C f.code.length cap] w fun e w' => e = .returned (.slice none 0 0) ∧ Below w.heap.size w w' := by
  have hB := Below.one w (funcObj f.nm f.ps f.R f.Fr C f.code.length cap)
  have bx := heap_alloc_new w (funcObj f.nm f.ps f.R f.Fr C f.code.length cap)
  have hC1 := hC.below hB
  have hA := fun W h => gAbove_no f hf C cap W h
  have hR := fun W h => gReached_no f hf C cap W h
  obtain ⟨N, hN⟩ : ∃ N, f.code.length = N := ⟨_, rfl⟩
  rw [hN] at hA hR hB bx hC1 ⊢
  simp only [funcObj, funcAgg] at hA hR hB bx hC1 ⊢
  have HA := Lib.hid hA
  have HR := Lib.hid hR
  have HC1 := Lib.hid hC1
  obtain ⟨W, hW⟩ : ∃ W, w.alloc (.cells #[.string f.nm, .int .i64 f.ps, .int .i64 f.R, .int .i64 f.Fr, .slice C N cap] 24) = W := ⟨_, rfl⟩
  rw [hW] at bx HC1 hB
  have HB := Lib.hid hB
  have HBX := Lib.hid bx
  have hBl := (Array.getElem?_eq_some_iff.1 bx).1
  have g0 := cell_of_heap bx 0 _ rfl
  have g1 := cell_of_heap bx 1 _ rfl
  have g2 := cell_of_heap bx 2 _ rfl
  have g3 := cell_of_heap bx 3 _ rfl
  have g4 := cell_of_heap bx 4 _ rfl
  clear hf hN hC hA hR hC1 bx hB
  go_enter Try.func23, Try.ntmps23
  go_upto_region 2 with fail
  clear hW
  go_cut [4, 5] from 8 to 11 (fun s t wx => NilS t ∧ Below W.heap.size W wx)
  case first =>
    refine wp_region_noPanic ?_
    have hd0 : Below W.heap.size W W.drew := (Below.refl _ _).drew
    have HD0 := Lib.hid hd0
    clear hd0
    go_region_with (first
      | (go_at_call 19; refine (HA.out _ (HC1.out.below (by first | exact HD0.out | exact hbB))).mono ?_; rintro e wA ⟨rfl, hbA'⟩; have hbA : Below W.heap.size W wA := (by first | exact HD0.out.trans hbA' | exact hbB.trans (hbA'.mono hbB.size)); have hxA := (hbA.block _ hBl).trans HBX.out; have h0 := cell_of_heap hxA 0 _ rfl; have h1 := cell_of_heap hxA 1 _ rfl; have h2 := cell_of_heap hxA 2 _ rfl; have h3 := cell_of_heap hxA 3 _ rfl; have h4 := cell_of_heap hxA 4 _ rfl; clear hxA)
      | (go_at_call 12; refine (HR.out _ (HC1.out.below (by first | exact HD0.out | exact hbA))).mono ?_; rintro e wB ⟨rfl, hbB'⟩; have hbB : Below W.heap.size W wB := (by first | exact HD0.out.trans hbB' | exact hbA.trans (hbB'.mono hbA.size)); have hxB := (hbB.block _ hBl).trans HBX.out; have h0 := cell_of_heap hxB 0 _ rfl; have h1 := cell_of_heap hxB 1 _ rfl; have h2 := cell_of_heap hxB 2 _ rfl; have h3 := cell_of_heap hxB 3 _ rfl; have h4 := cell_of_heap hxB 4 _ rfl; clear hxB))
    all_goals
      have HQ : NilS (.slice none 0 0) ∧ Below W.heap.size W _ := ⟨rfl, (by first | exact hbB | exact hbA)⟩
      refine NoPanic.normal ?_
      go_wp2
      go_meet
      exact HQ
  case rest =>
    obtain ⟨rfl, hbc⟩ := hcut
    have HQ := Lib.hid (HB.out.trans (hbc.mono HB.out.size))
    clear hbc
    go_wp2
    refine wp_loop_rounds 1 ?_
    rw [rounds_succ]
    go_wp2
    go_returns
    exact ⟨rfl, HQ.out⟩
/-- both are told -/
def HdA (f : Fn7) (N : Nat) (W : World) (s t : Value) (wx : World) : Prop := ∃ ob rb up O, s = .slice (some ⟨ob, 0, none⟩) N N ∧ W.heap.size ≤ ob ∧ Pre gN 1 3 wx ob (abL N up) ∧ OrdIs f O ∧ UpT (Eg f.code) (fun n => O.idxOf n) up ∧ t = .slice (some ⟨rb, 0, none⟩) N N ∧ W.heap.size ≤ rb ∧ Pre gB 1 4 wx rb (bl N fun p => tb (R0 (Eg f.code) p)) ∧ Below W.heap.size W wx
def IsHd (E : Nat → Nat → Prop) (h : Nat) : Prop := R0 E h ∧ ∃ e, Bk E h e
set_option maxRecDepth 1000000 in
set_option maxHeartbeats 16000000 in
theorem gHeads_yes (f : Fn7) (hf : OkF f) (C : Option Addr) (cap : Nat) (w : World) (hC : RdI w C f.code) :
    Calls Try.prog 23 #[funcAgg f.nm f.ps f.R f.Fr C f.code.length cap] w fun e w' => OwT w.heap.size (upL f.code.length (IsHd (Eg f.code))) e w' ∧ Below w.heap.size w w' := by
  have hB := Below.one w (funcObj f.nm f.ps f.R f.Fr C f.code.length cap)
  have bx := heap_alloc_new w (funcObj f.nm f.ps f.R f.Fr C f.code.length cap)
  have hC1 := hC.below hB
  have hA := fun W h => gAbove_yes f hf C cap W h
  have hR := fun W h => gReached_yes f hf C cap W h
  have hE := fun h A2 c2 rb O up (hU : UpT (Eg f.code) (fun n => List.idxOf n O) up) W h1 h2 h3 => ends_any f hf h C cap A2 c2 rb hU W h1 h2 h3
  have hlt : ∀ p, R0 (Eg f.code) p → p < f.code.length := fun p h => h.ltN hf
  obtain ⟨N, hN⟩ : ∃ N, f.code.length = N := ⟨_, rfl⟩
  have hN2 : N ≤ 8192 := by rw [← hN]; exact hf.len.2
  rw [hN] at hA hR hB bx hC1 hE hlt ⊢
  simp only [funcObj, funcAgg] at hA hR hB bx hC1 hE ⊢
  have HA := Lib.hid hA
  have HR := Lib.hid hR
  have HE := Lib.hid hE
  have HC1 := Lib.hid hC1
  have HLT := Lib.hid hlt
  obtain ⟨W, hW⟩ : ∃ W, w.alloc (.cells #[.string f.nm, .int .i64 f.ps, .int .i64 f.R, .int .i64 f.Fr, .slice C N cap] 24) = W := ⟨_, rfl⟩
  rw [hW] at bx HC1 hB
  have HB := Lib.hid hB
  have HBX := Lib.hid bx
  have hBl := (Array.getElem?_eq_some_iff.1 bx).1
  have g0 := cell_of_heap bx 0 _ rfl
  have g1 := cell_of_heap bx 1 _ rfl
  have g2 := cell_of_heap bx 2 _ rfl
  have g3 := cell_of_heap bx 3 _ rfl
  have g4 := cell_of_heap bx 4 _ rfl
  clear hf hN hC hA hR hE hC1 bx hB hlt
  go_enter Try.func23, Try.ntmps23
  go_upto_region 2 with fail
  clear hW
  go_cut [4, 5] from 8 to 11 (fun s t wx => HdA f N W s t wx)
  case first =>
    refine wp_region_noPanic ?_
    have hd0 : Below W.heap.size W W.drew := (Below.refl _ _).drew
    have HD0 := Lib.hid hd0
    clear hd0
    go_region_with (first
      | (go_at_call 19; refine (HA.out _ (HC1.out.below (by first | exact HD0.out | exact hbB))).mono ?_; rintro e wA ⟨⟨ob, up, O, rfl, hob, hpo, hOI, hU⟩, hbA'⟩; have hbA : Below W.heap.size W wA := (by first | exact HD0.out.trans hbA' | exact hbB.trans (hbA'.mono hbB.size)); have hxA := (hbA.block _ hBl).trans HBX.out; have h0 := cell_of_heap hxA 0 _ rfl; have h1 := cell_of_heap hxA 1 _ rfl; have h2 := cell_of_heap hxA 2 _ rfl; have h3 := cell_of_heap hxA 3 _ rfl; have h4 := cell_of_heap hxA 4 _ rfl; have HPO := Lib.hid hpo; have HOI := Lib.hid hOI; have HUU := Lib.hid hU; have HOB1 : Hid (W.heap.size ≤ ob) := Lib.hid (by first | exact Nat.le_trans hbB.size hob | exact Nat.le_trans HD0.out.size hob); clear hxA hpo hOI hU hob)
      | (go_at_call 12; refine (HR.out _ (HC1.out.below (by first | exact HD0.out | exact hbA))).mono ?_; rintro e wB ⟨⟨rb, rfl, hrb, hpr⟩, hbB'⟩; have hbB : Below W.heap.size W wB := (by first | exact HD0.out.trans hbB' | exact hbA.trans (hbB'.mono hbA.size)); have hxB := (hbB.block _ hBl).trans HBX.out; have h0 := cell_of_heap hxB 0 _ rfl; have h1 := cell_of_heap hxB 1 _ rfl; have h2 := cell_of_heap hxB 2 _ rfl; have h3 := cell_of_heap hxB 3 _ rfl; have h4 := cell_of_heap hxB 4 _ rfl; have HPR := Lib.hid hpr; have HRB1 : Hid (W.heap.size ≤ rb) := Lib.hid (by first | exact Nat.le_trans hbA.size hrb | exact Nat.le_trans HD0.out.size hrb); clear hxB hpr hrb))
    all_goals
      have HQ : HdA f N W (.slice (some ⟨ob, 0, none⟩) N N) (.slice (some ⟨rb, 0, none⟩) N N) _ := ⟨ob, rb, up, O, rfl, (by first | exact HOB1.out | exact HOB2.out), (by first | exact Pre.later HPO.out hbB' | exact HPO.out), HOI.out, HUU.out, rfl, (by first | exact HRB1.out | exact HRB2.out), (by first | exact Pre.later HPR.out hbA' | exact HPR.out), (by first | exact hbB | exact hbA)⟩
      refine NoPanic.normal ?_
      go_wp2
      go_meet
      exact HQ
  case rest =>
    obtain ⟨ob, rb, up, O, rfl, hob, hpo, hOI, hU, rfl, hrb, hpr, hbc⟩ := hcut
    have hxc := (hbc.block _ hBl).trans HBX.out
    have hlc := (Array.getElem?_eq_some_iff.1 hxc).1
    have HXC := Lib.hid hxc
    have HBC := Lib.hid hbc
    have HPO := Lib.hid hpo
    have HPR := Lib.hid hpr
    have HUU := Lib.hid hU
    have hWc := hbc.size
    clear hxc hbc hpo hOI hU hpr hob hrb g0 g1 g2 g3 g4
    go_wp2
    go_loopw [3, 14] (fun V ix wr => ∃ k : Nat, k ≤ N ∧ ix = .int .i64 k ∧ OwnN wr V (upL k (IsHd (Eg f.code))) ∧ (∀ x, V.ownBlock = some x → wc.heap.size ≤ x) ∧ Below wc.heap.size wc wr) (fun _ ix _ => N - (intOf ix).toNat)
    case atStart => exact ⟨0, by omega, rfl, OwnN.nil _, (fun x hx => by simp [Value.ownBlock] at hx), Below.refl _ _⟩
    case round =>
      obtain ⟨k, hk, rfl, hown, hV, hb⟩ := hrel
      have HOWN := Lib.hid hown
      have HV := Lib.hid hV
      have HBB := Lib.hid hb
      by_cases hlt : k < N
      · have hcr := PreB.cell (Pre.later HPR.out hb) (bl_get (m := fun p => tb (R0 (Eg f.code) p)) hlt)
        have hki : (k : Int) < N := by omega
        have hsz := hb.size
        have hll := upL_len k (IsHd (Eg f.code))
        have HLL := Lib.hid hll
        have HSK : Hid (¬ IsHd (Eg f.code) k → ∀ w6, Below wr.heap.size wr w6 → ∃ k' : Nat, k' ≤ N ∧ Value.int IntKind.i64 ((k : Int) + 1) = .int .i64 k' ∧ OwnN w6 u3 (upL k' (IsHd (Eg f.code))) ∧ (∀ x, u3.ownBlock = some x → wc.heap.size ≤ x) ∧ Below wc.heap.size wc w6) := Lib.hid fun hno w6 h6 => ⟨k + 1, by omega, by go_num, by
          rw [upL_skip k _ hno]
          exact HOWN.out.later h6, HV.out, HBB.out.trans (h6.mono hsz)⟩
        by_cases hr : R0 (Eg f.code) k
        · rw [tb_true.2 hr] at hcr
          have HRR := Lib.hid hr
          have hx3 := (hb.block _ hlc).trans HXC.out
          have h0 := cell_of_heap hx3 0 _ rfl
          have h1 := cell_of_heap hx3 1 _ rfl
          have h2 := cell_of_heap hx3 2 _ rfl
          have h3 := cell_of_heap hx3 3 _ rfl
          have h4 := cell_of_heap hx3 4 _ rfl
          have hl3 := (Array.getElem?_eq_some_iff.1 hx3).1
          have HEK := Lib.hid (HE.out k (some ⟨ob, 0, none⟩) N rb O up HUU.out wr ((HC1.out.below HBC.out).below hb) ((PreN.rd HPO.out).below hb) (Pre.later HPR.out hb))
          obtain ⟨L, hL⟩ : ∃ L, upL N (Bk (Eg f.code) k) = L := ⟨_, rfl⟩
          rw [hL] at HEK
          have HLI : Hid (∀ x, x ∈ L ↔ ∃ n : Nat, x = n ∧ n < N ∧ Bk (Eg f.code) k n) := Lib.hid fun x => by rw [← hL]; exact upL_mem
          clear hown hV hb hr hll hx3 hL
          by_cases hLe : L.length = 0
          · have HNO : Hid (¬ IsHd (Eg f.code) k) := Lib.hid fun ⟨_, e, he⟩ => by
              have := (HLI.out (e : Int)).2 ⟨e, rfl, HLT.out e he.1, he⟩
              rw [List.eq_nil_of_length_eq_zero hLe] at this
              cases this
            obtain rfl := List.eq_nil_of_length_eq_zero hLe
            clear hLe
            go_wp2_with (first
              | (refine HEK.out.mono ?_; rintro e w6 ⟨⟨V6, rfl, ho6, hv6⟩, hb6⟩; obtain ⟨A6, c6, e6, _, _⟩ := ho6.form; subst e6; simp only [List.length_nil]))
            exact ⟨HSK.out HNO.out _ hb6, by simp [intOf]; omega⟩
          · have HYES : Hid (IsHd (Eg f.code) k) := Lib.hid (by
              obtain ⟨x, hx⟩ := List.exists_mem_of_ne_nil L (fun e => hLe (by rw [e]; rfl))
              obtain ⟨n, _, _, hn⟩ := (HLI.out x).1 hx
              exact ⟨HRR.out, n, hn⟩)
            obtain ⟨m, hm⟩ : ∃ m, L.length = m := ⟨_, rfl⟩
            have hm0 : (0 : Int) < (m : Int) := by omega
            have HM := Lib.hid hm
            clear hLe hm
            go_wp2_with (first
              | (refine HEK.out.mono ?_; rintro e w6 ⟨⟨V6, rfl, ho6, hv6⟩, hb6⟩; obtain ⟨A6, c6, e6, _, _⟩ := ho6.form; rw [HM.out] at e6; subst e6; have HW6 := Lib.hid hb6; clear ho6 hv6)
              | (at_builtin; refine append_one rfl (.tmp 29) (.tmp 31) rfl u3 (upL k (IsHd (Eg f.code))) rfl ((HOWN.out.later HW6.out).alloc _) w6.heap.size k rfl (heap_alloc_new _ _) (by have := HLL.out; omega) ?_; intro V' w9 ho9 hg9 hb9))
            have hs6 := HW6.out.size
            refine ⟨⟨k + 1, by omega, by go_num, ?_, fun x hx => ?_, ?_⟩, by simp [intOf]; omega⟩
            · rw [upL_next k _ HYES.out]
              exact ho9
            · rcases hb9 with e | e
              · rw [e] at hx; exact HV.out x hx
              · rw [e] at hx; injection hx with hx; simp at hx; omega
            · exact Below.grown ((HBB.out.trans (HW6.out.mono hsz)).alloc (by omega) _) hg9 (by simp; omega) (fun x hx => HV.out x hx)
        · rw [tb_false.2 hr] at hcr
          have HRR := Lib.hid hr
          clear hown hV hb hr hll
          go_wp2
          exact ⟨HSK.out (fun g => HRR.out g.1) _ (Below.refl _ _), by simp [intOf]; omega⟩
      · obtain rfl : k = N := by omega
        have hws : w.heap.size ≤ wc.heap.size := Nat.le_trans HB.out.size hWc
        have HQ : Hid (OwT w.heap.size (upL k (IsHd (Eg f.code))) (.returned u3) wr ∧ Below w.heap.size w wr) := Lib.hid ⟨⟨u3, rfl, hown, fun b e => Nat.le_trans hws (hV b e)⟩, HB.out.trans ((HBC.out.mono HB.out.size).trans (hb.mono hws))⟩
        clear hown hV hb
        go_wp2
        go_returns
        exact HQ.out
end Go.Proofs.Ytgdbkoncaojmoaa
