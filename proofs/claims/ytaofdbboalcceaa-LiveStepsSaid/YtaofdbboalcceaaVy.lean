import Derived.Test.YtaofdbboalcceaaVx
import Derived.Deep.CutRange
import Derived.Deep.RegionWith
/- LiveRegisters: the walk. -/
namespace Go.Proofs.Ytaofdbboalcceaa
open Go.RowKit Go.BigFrame

set_option maxRecDepth 1000000 in
set_option maxHeartbeats 8000000 in
theorem reg_few (f : Fn7) (hf : ¬ Few f) (C : Option Addr) (cap : Nat) (hl9 : f.code.length ≤ 9223372036854775807) (w : World) (hC : RdI w C f.code) :
    Calls Try.prog 11 #[funcAgg f.nm f.ps f.R f.Fr C f.code.length cap] w fun e w' => e = .returned (.bool true) ∧ Below w.heap.size w w' := by
  have hB := Below.one w (funcObj f.nm f.ps f.R f.Fr C f.code.length cap)
  have hF := few10_no f hf C cap hl9 _ (hC.below hB)
  have ha := fun W => awake10_any W
  simp only [funcObj, funcAgg] at hB hF ⊢
  have HF := Lib.hid hF
  have HA := Lib.hid ha
  clear hf hC hF ha hl9
  go_enter Try.func11, Try.ntmps11
  go_wp2_with (first
    | (refine HF.out.mono ?_; rintro e w3 ⟨rfl, hb3⟩)
    | (refine (HA.out _).mono ?_; rintro e w4 ⟨rfl, hb4⟩))
  go_returns
  exact ⟨rfl, hB.trans ((hb3.trans (hb4.mono hb3.size)).mono hB.size)⟩
set_option maxRecDepth 1000000 in
set_option maxHeartbeats 8000000 in
theorem reg_bad (f : Fn7) (hf : Few f) (hno : ¬ OkF f) (C : Option Addr) (cap : Nat) (hl9 : f.code.length ≤ 9223372036854775807) (w : World) (hC : RdI w C f.code) :
    Calls Try.prog 11 #[funcAgg f.nm f.ps f.R f.Fr C f.code.length cap] w fun e w' => e = .returned (.bool true) ∧ Below w.heap.size w w' := by
  have hB := Below.one w (funcObj f.nm f.ps f.R f.Fr C f.code.length cap)
  have bx := heap_alloc_new w (funcObj f.nm f.ps f.R f.Fr C f.code.length cap)
  have hC1 := hC.below hB
  have hF := few10_yes f hf C cap hl9 _ hC1
  have hD := fun W h => Ahead_no f hno C cap W h
  have hE := fun W h => Behind_no f hno C cap W h
  have hR := fun W h => refRight_no f hno C cap W h
  have ha := fun W => awake10_any W
  simp only [funcObj, funcAgg] at hB hF bx hC1 hD hE hR ⊢
  have HF := Lib.hid hF
  have HA := Lib.hid ha
  have HD := Lib.hid hD
  have HE := Lib.hid hE
  have HR := Lib.hid hR
  have HC1 := Lib.hid hC1
  obtain ⟨W, hW⟩ : ∃ W, w.alloc (.cells #[.string f.nm, .int .i64 f.ps, .int .i64 f.R, .int .i64 f.Fr, .slice C f.code.length cap] 24) = W := ⟨_, rfl⟩
  rw [hW] at bx HC1 HF
  have HB := Lib.hid (show Below w.heap.size w W by rw [← hW]; exact hB)
  have HBX := Lib.hid bx
  have hBl := (Array.getElem?_eq_some_iff.1 bx).1
  have g0 := cell_of_heap bx 0 _ rfl
  have g1 := cell_of_heap bx 1 _ rfl
  have g2 := cell_of_heap bx 2 _ rfl
  have g3 := cell_of_heap bx 3 _ rfl
  have g4 := cell_of_heap bx 4 _ rfl
  clear hf hC hF ha hl9 hD hE hR hC1 bx hB hno
  go_enter Try.func11, Try.ntmps11
  go_wp2_with (first
    | (refine HF.out.mono ?_; rintro e w3 ⟨rfl, hb3⟩))
  have hx3 := (hb3.block _ hBl).trans HBX.out
  have h0 := cell_of_heap hx3 0 _ rfl
  have h1 := cell_of_heap hx3 1 _ rfl
  have h2 := cell_of_heap hx3 2 _ rfl
  have h3 := cell_of_heap hx3 3 _ rfl
  have h4 := cell_of_heap hx3 4 _ rfl
  have lc := fun s : Later w3 => And.intro (Later.cell h0 s) (And.intro (Later.cell h1 s) (And.intro (Later.cell h2 s) (And.intro (Later.cell h3 s) (Later.cell h4 s))))
  have HC3 := Lib.hid (HC1.out.below hb3)
  clear g0 g1 g2 g3 g4 hW hx3
  refine wp_region_later (by kernel_rfl) (by kernel_rfl) ?_
  repeat (go_big_quiet_step ((first | (go_at_call 39; exact Calls.later (HD.out _ (HC3.out.below (Later.h _)))) | (go_at_call 40; exact Calls.later (HE.out _ (HC3.out.below (Later.h _)))))))
  refine wpQuiet_nil ?_
  rintro w5 ⟨s', rfl⟩
  have hb5 := hb3.trans (s'.h.mono hb3.size)
  have hx5 := (hb5.block _ hBl).trans HBX.out
  clear lc h0 h1 h2 h3 h4
  have h0 := cell_of_heap hx5 0 _ rfl
  have h1 := cell_of_heap hx5 1 _ rfl
  have h2 := cell_of_heap hx5 2 _ rfl
  have h3 := cell_of_heap hx5 3 _ rfl
  have h4 := cell_of_heap hx5 4 _ rfl
  clear hb3 hx5
  generalize s'.w = w5 at *
  go_wp2_with (first
    | (refine (HR.out _ (HC1.out.below hb5)).mono ?_; rintro e w6 ⟨rfl, hb6⟩)
    | (refine (HA.out _).mono ?_; rintro e w7 ⟨rfl, hb7⟩))
  go_returns
  exact ⟨rfl, HB.out.trans (((hb5.trans (hb6.mono hb5.size)).trans (hb7.mono (Nat.le_trans hb5.size hb6.size))).mono HB.out.size)⟩
/-- both answers stand -/
def Both10 (f : Fn7) (N : Nat) (w0 : World) (s t : Value) (w : World) : Prop := ∃ oa ob, s = .slice (some ⟨oa, 0, none⟩) N N ∧ t = .slice (some ⟨ob, 0, none⟩) N N ∧ RowsK w oa N N (Lv f.code) ∧ RowsK w ob N N (Bh f.code) ∧ Below w0.heap.size w0 w
set_option maxRecDepth 1000000 in
set_option maxHeartbeats 16000000 in
theorem reg_good (f : Fn7) (hf : Few f) (hok : OkF f) (C : Option Addr) (cap : Nat) (hl9 : f.code.length ≤ 9223372036854775807) (w : World) (hC : RdI w C f.code) :
    Calls Try.prog 11 #[funcAgg f.nm f.ps f.R f.Fr C f.code.length cap] w fun e w' => e = .returned (.bool true) ∧ Below w.heap.size w w' := by
  obtain ⟨N, hN⟩ : ∃ N, f.code.length = N := ⟨_, rfl⟩
  have hN2 : N ≤ 8192 := by rw [← hN]; exact hok.len.2
  have hR0 : 0 ≤ f.R ∧ f.R ≤ 4096 := by have := hok.R; have := hok.ps; omega
  have hB := Below.one w (funcObj f.nm f.ps f.R f.Fr C f.code.length cap)
  have bx := heap_alloc_new w (funcObj f.nm f.ps f.R f.Fr C f.code.length cap)
  have hC1 := hC.below hB
  have hF := few10_yes f hf C cap hl9 _ hC1
  have hD := fun W h => Ahead_yes f hok C cap W h
  have hE := fun W h => Behind_yes f hok C cap W h
  have hR := fun W h => refRight_yes f hok C cap W h
  have hRA := fun (m : Nat) (hm : m < f.code.length) r W h => refAhead_any f hok m hm r C cap W h
  have hRB := fun (m : Nat) (hm : m < f.code.length) r W h => refBehind_any f hok m hm r C cap W h
  have ha := fun W => awake10_any W
  rw [hN] at hB hF bx hC1 hD hE hR hRA hRB ⊢
  have HBX0 := Lib.hid bx
  have HRA := Lib.hid hRA
  have HRB := Lib.hid hRB
  simp only [funcObj, funcAgg] at hB hF bx hC1 hD hE hR ⊢
  have HF := Lib.hid hF
  have HA := Lib.hid ha
  have HD := Lib.hid hD
  have HE := Lib.hid hE
  have HR := Lib.hid hR
  have HC1 := Lib.hid hC1
  have HOK := Lib.hid hok
  have HN := Lib.hid hN
  obtain ⟨W, hW⟩ : ∃ W, w.alloc (.cells #[.string f.nm, .int .i64 f.ps, .int .i64 f.R, .int .i64 f.Fr, .slice C N cap] 24) = W := ⟨_, rfl⟩
  rw [hW] at bx HC1 HF
  have HB := Lib.hid (show Below w.heap.size w W by rw [← hW]; exact hB)
  have HBX := Lib.hid bx
  have hBl := (Array.getElem?_eq_some_iff.1 bx).1
  have g0 := cell_of_heap bx 0 _ rfl
  have g1 := cell_of_heap bx 1 _ rfl
  have g2 := cell_of_heap bx 2 _ rfl
  have g3 := cell_of_heap bx 3 _ rfl
  have g4 := cell_of_heap bx 4 _ rfl
  clear hf hC hF ha hl9 hD hE hR hC1 bx hB hok hN hRA hRB
  go_enter Try.func11, Try.ntmps11
  go_wp2_with (first
    | (refine HF.out.mono ?_; rintro e w3 ⟨rfl, hb3⟩))
  have hx3 := (hb3.block _ hBl).trans HBX.out
  have h0 := cell_of_heap hx3 0 _ rfl
  have h1 := cell_of_heap hx3 1 _ rfl
  have h2 := cell_of_heap hx3 2 _ rfl
  have h3 := cell_of_heap hx3 3 _ rfl
  have h4 := cell_of_heap hx3 4 _ rfl
  have HX3 := Lib.hid hx3
  have hl3 := (Array.getElem?_eq_some_iff.1 hx3).1
  have HC3 := Lib.hid (HC1.out.below hb3)
  have HB3 := Lib.hid hb3
  clear g0 g1 g2 g3 g4 hW hx3 hb3
  go_cut [3, 4] from 13 to 16 (fun s t wx => Both10 f N w3 s t wx)
  case first =>
    refine wp_region_noPanic ?_
    have hd0 : Below w3.heap.size w3 w3.drew := (Below.refl _ _).drew
    have HD0 := Lib.hid hd0
    clear hd0
    go_region_with (first
      | (go_at_call 39; refine (HD.out _ (HC3.out.below (by first | exact HD0.out | exact hbB))).mono ?_; rintro e wA ⟨⟨oa, rfl, hrkA⟩, hbA'⟩; have hbA : Below w3.heap.size w3 wA := (by first | exact HD0.out.trans hbA' | exact hbB.trans (hbA'.mono hbB.size)); have HKA := Lib.hid hrkA; have hxA := (hbA.block _ hl3).trans HX3.out; have h0 := cell_of_heap hxA 0 _ rfl; have h1 := cell_of_heap hxA 1 _ rfl; have h2 := cell_of_heap hxA 2 _ rfl; have h3 := cell_of_heap hxA 3 _ rfl; have h4 := cell_of_heap hxA 4 _ rfl; clear hxA hrkA)
      | (go_at_call 40; refine (HE.out _ (HC3.out.below (by first | exact HD0.out | exact hbA))).mono ?_; rintro e wB ⟨⟨ob, rfl, hrkB⟩, hbB'⟩; have hbB : Below w3.heap.size w3 wB := (by first | exact HD0.out.trans hbB' | exact hbA.trans (hbB'.mono hbA.size)); have HKB := Lib.hid hrkB; have hxB := (hbB.block _ hl3).trans HX3.out; have h0 := cell_of_heap hxB 0 _ rfl; have h1 := cell_of_heap hxB 1 _ rfl; have h2 := cell_of_heap hxB 2 _ rfl; have h3 := cell_of_heap hxB 3 _ rfl; have h4 := cell_of_heap hxB 4 _ rfl; clear hxB hrkB))
    all_goals
      have HQ : Both10 f N w3 (.slice (some ⟨oa, 0, none⟩) N N) (.slice (some ⟨ob, 0, none⟩) N N) _ := ⟨oa, ob, rfl, rfl, (by first | exact HKA.out.later (hbB'.mono (by first | exact Nat.le_refl _ | omega)) | exact HKA.out), (by first | exact HKB.out | exact HKB.out.later hbA'), (by first | exact hbB | exact hbA)⟩
      refine NoPanic.normal ?_
      go_wp2
      go_meet
      exact HQ
  case rest =>
    obtain ⟨oa, ob, rfl, rfl, hka, hkb, hbc⟩ := hcut
    have hbW := HB3.out.trans (hbc.mono HB3.out.size)
    have hxc := (hbW.block _ hBl).trans HBX.out
    have c0 := cell_of_heap hxc 0 _ rfl
    have c1 := cell_of_heap hxc 1 _ rfl
    have c2 := cell_of_heap hxc 2 _ rfl
    have c3 := cell_of_heap hxc 3 _ rfl
    have c4 := cell_of_heap hxc 4 _ rfl
    have hrc := Lib.hid (HC1.out.below hbW)
    have HKA := Lib.hid hka
    have HKB := Lib.hid hkb
    have HBW := Lib.hid hbW
    have hlc := (Array.getElem?_eq_some_iff.1 hxc).1
    have HXC := Lib.hid hxc
    clear hka hkb hbW hxc hbc h0 h1 h2 h3 h4
    go_wp2_with (first
      | (refine (HR.out _ hrc.out).mono ?_; rintro e w6 ⟨rfl, hb6⟩; have hx6 := (hb6.block _ hlc).trans HXC.out; have k0 := cell_of_heap hx6 0 _ rfl; have k1 := cell_of_heap hx6 1 _ rfl; have k2 := cell_of_heap hx6 2 _ rfl; have k3 := cell_of_heap hx6 3 _ rfl; have k4 := cell_of_heap hx6 4 _ rfl; have HX6 := Lib.hid hx6; clear hx6))
    have HB6 := Lib.hid (HBW.out.trans (hb6.mono HBW.out.size))
    have HKA6 := Lib.hid (HKA.out.later hb6)
    have HKB6 := Lib.hid (HKB.out.later hb6)
    have hl6 := (Array.getElem?_eq_some_iff.1 HX6.out).1
    clear c0 c1 c2 c3 c4 k0 k1 k2 k3 k4 hb6 HKA HKB hrc
    go_loopw [46] (fun ix wr => ∃ k : Nat, k ≤ N ∧ ix = .int .i64 k ∧ Below w6.heap.size w6 wr) (fun ix _ => N - (intOf ix).toNat)
    case atStart => exact ⟨0, by omega, rfl, Below.refl _ _⟩
    case round =>
      obtain ⟨k, hk, rfl, hb⟩ := hrel
      have hbW := HB6.out.trans (hb.mono HB6.out.size)
      by_cases hlt : k < N
      · have hx := (hb.block _ hl6).trans HX6.out
        have g2 := cell_of_heap hx 2 _ rfl
        have HX := Lib.hid hx
        have HRC := Lib.hid (HC1.out.below hbW)
        have HBB := Lib.hid hb
        have HBW2 := Lib.hid hbW
        have HRA2 := Lib.hid (HRA.out k hlt)
        have HRB2 := Lib.hid (HRB.out k hlt)
        clear hx hb hbW
        go_wp2
        refine lr2_any f f.R.toNat (Int.toNat_of_nonneg hR0.1).symm (by omega) N k C cap w.heap.size wr wr HX.out HRC.out (Below.refl _ _) HRA2.out HRB2.out _ _ _ _ _ _ _ _ _ _ _ _ _ _ _ _ _ _ _ _ _ _ _ _ _ _ _ _ _ _ _ _ _ _ _ _ _ _ _ _ _ _ _ _ _ _ _ _ _ _ _ _ _ _ _ _ _ _ _ _ _ _ _ _ _ _ _ _ _ _ _ _ _ _ _ _ _ _ _ _ _ _ _ _ ?_
        intro z6 z7 z8 z52 z53 z54 z55 z56 z57 z58 z59 z60 z61 z62 z63 z64 z65 z66 z67 z68 z69 z70 w8 ht
        have hl := fun p r (h : Lv f.code p r) => (show 0 ≤ r ∧ r < (f.R.toNat : Int) from by have := (h.bound HOK.out).1; omega)
        have hb68 := HBB.out.trans (ht.b.mono HBB.out.size)
        have hka8 := HKA6.out.later hb68
        have hkb8 := HKB6.out.later hb68
        obtain ⟨va, hca, A1, l1, q1, rfl, hrd1, hpw1, hm1⟩ := hka8.done hlt
        obtain rfl := row_sel hpw1 hm1 (fun x hx => hl k x hx)
        obtain ⟨A2, q2, hV6, _, hrd2⟩ := ht.o1.form
        obtain ⟨A4, q4, hV7, _, hrd4⟩ := ht.o2.form
        have hn1 : (selK (Lv f.code k) f.R.toNat).length ≤ 100000 := by have := selK_len (Lv f.code k) f.R.toNat; omega
        have hn2 : (selK (Bh f.code k) f.R.toNat).length ≤ 100000 := by have := selK_len (Bh f.code k) f.R.toNat; omega
        have hs1 := same_self A1 A2 _ q1 q2 w8 hrd1 hrd2 hn1
        have HB8 := Lib.hid ht.b
        have HKB8 := Lib.hid hkb8
        have HRD4 := Lib.hid hrd4
        have hs2 := fun A3 q3 W h h' => same_self A3 A4 (selK (Bh f.code k) f.R.toNat) q3 q4 W h h' hn2
        have HRS := Lib.hid (fun (l : List Int) (h1 : l.Pairwise (· < ·)) (h2 : ∀ x, x ∈ l ↔ Bh f.code k x) => row_sel h1 h2 (fun x ⟨_, _, n, _, h5⟩ => hl _ x h5))
        clear hrd1 hrd2 hrd4 hpw1 hm1 ht hka8 hkb8 hn1 hn2 hl hb68
        generalize selK (Lv f.code k) f.R.toNat = S1 at *
        generalize selK (Bh f.code k) f.R.toNat = S2 at *
        obtain ⟨n1, hn1⟩ : ∃ n1, S1.length = n1 := ⟨_, rfl⟩
        obtain ⟨n2, hn2⟩ : ∃ n2, S2.length = n2 := ⟨_, rfl⟩
        rw [hn1] at hs1 hV6 hca
        rw [hn2] at hs2 hV7
        have HN2 := Lib.hid hn2
        subst hV6 hV7
        have HS1 := Lib.hid hs1
        have HS2 := Lib.hid hs2
        clear hs1 hs2 hn1 hn2
        go_wp2_with fail
        refine HS1.out.mono ?_
        rintro e w9 ⟨rfl, hb9⟩
        obtain ⟨vb, hcb, A3, l3, q3, hvb, hrd3, hpw3, hm3⟩ := (HKB8.out.later hb9).done hlt
        have hl3 := HRS.out l3 hpw3 hm3
        rw [hl3] at hvb hrd3
        rw [HN2.out] at hvb
        rw [hvb] at hcb
        have HS3 := Lib.hid (HS2.out A3 q3 w9 hrd3 (HRD4.out.below hb9))
        clear hvb hrd3 hpw3 hm3 hl3
        go_wp2_with fail
        refine HS3.out.mono ?_
        rintro e w10 ⟨rfl, hb10⟩
        go_wp2
        have hb89 := HBB.out.trans ((HB8.out.trans ((hb9.trans (hb10.mono hb9.size)).mono HB8.out.size)).mono HBB.out.size)
        exact ⟨⟨k + 1, by omega, by go_num, hb89⟩, by simp [intOf]; omega⟩
      · obtain rfl : k = N := by omega
        have HBW2 := Lib.hid hbW
        clear hb hbW
        go_wp2_with (first
          | (refine (HA.out _).mono ?_; rintro e w7 ⟨rfl, hb7⟩))
        go_returns
        exact ⟨rfl, HB.out.trans ((HBW2.out.trans (hb7.mono HBW2.out.size)).mono HB.out.size)⟩
theorem LiveRegisters_any (f : Fn7) (C : Option Addr) (cap : Nat) (hl9 : f.code.length ≤ 9223372036854775807) (w : World) (hC : RdI w C f.code) :
    Calls Try.prog 11 #[funcAgg f.nm f.ps f.R f.Fr C f.code.length cap] w fun e w' => e = .returned (.bool true) ∧ Below w.heap.size w w' := by
  by_cases hf : Few f
  · by_cases hok : OkF f
    · exact reg_good f hf hok C cap hl9 w hC
    · exact reg_bad f hf hok C cap hl9 w hC
  · exact reg_few f hf C cap hl9 w hC
end Go.Proofs.Ytaofdbboalcceaa
