import Derived.Test.YtaofdbboalcceaaUl
import Derived.Test.YtaofdbboalcceaaUg
import Derived.Test.YtaofdbboalcceaaVr
import Derived.Test.YtaofdbboalcceaaLd
/- What Sweep leaves (plain, for LiveStays). -/
namespace Go.Proofs.Ytaofdbboalcceaa

def npc (l : List Ins) : Nat := (l.filter fun i => !pur i).length
noncomputable def kpc (f : Fn7) : Nat := ((List.range f.code.length).filter fun p => tb (Rch f.code p) && !pur (insD f.code p)).length
theorem npc_wout (G : Nat → Bool) (l : List Ins) : npc (wout G l) = ((List.range l.length).filter fun p => !G p && !pur (insD l p)).length := by
  unfold npc wout kl
  rw [List.filter_map, List.length_map, List.filter_filter]
  congr 1
  apply List.filter_congr
  intro p hp
  simp only [Function.comp, fixI_pur]
  exact Bool.and_comm _ _
theorem npc_u (f : Fn7) : npc (uF f).code = kpc f := by
  show npc (wout _ _) = _
  rw [npc_wout]
  unfold kpc GU
  simp
theorem npc_range (l : List Ins) : npc l = ((List.range l.length).filter fun p => !pur (insD l p)).length := by
  have h : l = (List.range l.length).map (insD l) := by
    apply List.ext_getElem?
    intro p
    by_cases hp : p < l.length
    · rw [insD_in hp]; simp [hp]
    · rw [List.getElem?_eq_none (by omega), List.getElem?_eq_none (by simp; omega)]
  unfold npc
  conv => lhs; rw [h]
  rw [List.filter_map, List.length_map]
  rfl
theorem npc_d (u : Fn7) : npc (dF u).code = npc u.code := by
  show npc (wout _ _) = _
  rw [npc_wout, npc_range]
  congr 1
  apply List.filter_congr
  intro p hp
  have hp := List.mem_range.1 hp
  cases hd : deadB u.code p with
  | false => simp
  | true =>
    have h1 := ((deadB_iff (insD_in hp)).1 hd).1
    simp [h1]
theorem kpc_all {u : Fn7} (h : AllRch u) : kpc u = npc u.code := by
  rw [npc_range]
  unfold kpc
  congr 1
  apply List.filter_congr
  intro p hp
  rw [tb_true.2 (h p (List.mem_range.1 hp))]
  simp
theorem Swp.kept {f g : Fn7} (h : Swp f g) (hf : OkF f) : npc g.code = kpc f := by
  induction h with
  | @done f h => exact npc_u f
  | @more f g h hs ih =>
    rw [ih (dF_ok (uF_ok hf)), kpc_all (dF_all (uF_ok hf) (GU_all hf)), npc_d, npc_u]
theorem Swp.few {f g : Fn7} (h : Swp f g) (hf : OkF f) : g.code.length ≤ ((List.range f.code.length).filter fun p => tb (Rch f.code p)).length := by
  have hu : ∀ f : Fn7, (uF f).code.length = ((List.range f.code.length).filter fun p => tb (Rch f.code p)).length := fun f => by
    show (wout _ _).length = _
    simp [wout, kl, GU]
  cases h with
  | done h => exact Nat.le_of_eq (hu f)
  | more h hs =>
    have h1 := (hs.end_ (dF_ok (uF_ok hf))).2.2.2.2.2.2.2
    have h2 : (dF (uF f)).code.length ≤ (uF f).code.length := by show (wout _ _).length ≤ _; rw [wout_len]; exact toI_le _ _
    have := hu f
    omega
theorem npc_le (l : List Ins) : npc l ≤ l.length := List.length_filter_le _ _
theorem Swp.nothing {f g : Fn7} (h : Swp f g) (hf : OkF f) (ha : AllRch f) (hp : ∀ (p : Nat) i, f.code[p]? = some i → pur i = false) : g = f := by
  refine Swp.again h hf ?_ ha
  unfold deadL deadK
  rw [List.map_eq_nil_iff, List.filter_eq_nil_iff]
  intro p hpm hd
  have hi := insD_in (List.mem_range.1 hpm)
  have h1 := ((deadB_iff hi).1 hd).1
  rw [hp p _ hi] at h1
  cases h1
end Go.Proofs.Ytaofdbboalcceaa

/- how many of the first k are not reached, pure, kept -/
namespace Go.Proofs.Ytaofdbboalcceaa
noncomputable def cG (f : Fn7) (k : Nat) : Nat := ((List.range k).filter fun p => !tb (Rch f.code p)).length
noncomputable def cP (f : Fn7) (k : Nat) : Nat := ((List.range k).filter fun p => tb (Rch f.code p) && pur (insD f.code p)).length
noncomputable def cK (f : Fn7) (k : Nat) : Nat := ((List.range k).filter fun p => tb (Rch f.code p) && !pur (insD f.code p)).length
theorem cG_succ (f : Fn7) (k : Nat) : cG f (k + 1) = if tb (Rch f.code k) = true then cG f k else cG f k + 1 := by
  unfold cG
  rw [List.range_succ, List.filter_append, List.length_append]
  by_cases h : tb (Rch f.code k) = true <;> simp [h]
theorem cP_succ (f : Fn7) (k : Nat) : cP f (k + 1) = if tb (Rch f.code k) = true ∧ pur (insD f.code k) = true then cP f k + 1 else cP f k := by
  unfold cP
  rw [List.range_succ, List.filter_append, List.length_append]
  cases h : tb (Rch f.code k) <;> cases h2 : pur (insD f.code k) <;> simp [h, h2]
theorem cK_succ (f : Fn7) (k : Nat) : cK f (k + 1) = if tb (Rch f.code k) = true ∧ pur (insD f.code k) = false then cK f k + 1 else cK f k := by
  unfold cK
  rw [List.range_succ, List.filter_append, List.length_append]
  cases h : tb (Rch f.code k) <;> cases h2 : pur (insD f.code k) <;> simp [h, h2]
theorem c_all (f : Fn7) (k : Nat) : cG f k + cP f k + cK f k = k := by
  induction k with
  | zero => simp [cG, cP, cK]
  | succ k ih =>
    rw [cG_succ, cP_succ, cK_succ]
    cases h : tb (Rch f.code k) <;> cases h2 : pur (insD f.code k) <;> simp <;> omega
theorem cR (f : Fn7) (k : Nat) : cG f k + ((List.range k).filter fun p => tb (Rch f.code p)).length = k := by
  induction k with
  | zero => simp [cG]
  | succ k ih =>
    rw [cG_succ, List.range_succ, List.filter_append, List.length_append]
    cases h : tb (Rch f.code k) <;> simp [h] <;> omega
theorem npc_take (l : List Ins) (k : Nat) (i : Ins) (hi : l[k]? = some i) : npc (l.take (k + 1)) = if pur i = true then npc (l.take k) else npc (l.take k) + 1 := by
  unfold npc
  rw [List.take_add_one, hi, Option.toList_some, List.filter_append, List.length_append]
  cases h : pur i <;> simp [h]
theorem npc_take_le (l : List Ins) (k : Nat) : npc (l.take k) ≤ k := Nat.le_trans (npc_le _) (by simp; omega)
/-- what the law asks of the counts -/
theorem Swp.counts {f g : Fn7} (h : Swp f g) (hf : OkF f) : npc g.code = cK f f.code.length ∧ cG f f.code.length + g.code.length ≤ f.code.length ∧ f.code.length ≤ g.code.length + cG f f.code.length + cP f f.code.length ∧ (cG f f.code.length = 0 → cP f f.code.length = 0 → g = f) := by
  have h1 := h.kept hf
  have h2 := h.few hf
  have h3 := cR f f.code.length
  have h4 := c_all f f.code.length
  have h5 := npc_le g.code
  have h6 : kpc f = cK f f.code.length := rfl
  refine ⟨by omega, by omega, by omega, fun hg hp => ?_⟩
  have hR : AllRch f := fun p hp => by
    have h7 := List.eq_nil_of_length_eq_zero hg
    rw [List.filter_eq_nil_iff] at h7
    exact tb_true.1 (by simpa using h7 p (List.mem_range.2 hp))
  refine h.nothing hf hR fun p i hi => ?_
  have hlt := (List.getElem?_eq_some_iff.1 hi).1
  have h7 := List.eq_nil_of_length_eq_zero hp
  rw [List.filter_eq_nil_iff] at h7
  have h8 := h7 p (List.mem_range.2 hlt)
  rw [tb_true.2 (hR p hlt)] at h8
  have : insD f.code p = i := by
    have := insD_in hlt
    rw [hi] at this
    exact (Option.some.inj this).symm
  rw [this] at h8
  simpa using h8
end Go.Proofs.Ytaofdbboalcceaa
/- LiveStays: the walk, of a function that is not gone through, or may not be. -/
namespace Go.Proofs.Ytaofdbboalcceaa
open Go.RowKit Go.BigFrame

set_option maxRecDepth 1000000 in
set_option maxHeartbeats 8000000 in
theorem st_few (f : Fn7) (hf : ¬ Few f) (C : Option Addr) (cap : Nat) (hl9 : f.code.length ≤ 9223372036854775807) (w : World) (hC : RdI w C f.code) :
    Calls Try.prog 14 #[funcAgg f.nm f.ps f.R f.Fr C f.code.length cap] w fun e w' => e = .returned (.bool true) ∧ Below w.heap.size w w' := by
  have hB := Below.one w (funcObj f.nm f.ps f.R f.Fr C f.code.length cap)
  have hF := few10_no f hf C cap hl9 _ (hC.below hB)
  have ha := fun W => awake10_any W
  simp only [funcObj, funcAgg] at hB hF ⊢
  have HF := Lib.hid hF
  have HA := Lib.hid ha
  clear hf hC hF ha hl9
  go_enter Try.func14, Try.ntmps14
  go_wp2_with (first
    | (refine HF.out.mono ?_; rintro e w3 ⟨rfl, hb3⟩)
    | (refine (HA.out _).mono ?_; rintro e w4 ⟨rfl, hb4⟩))
  go_returns
  exact ⟨rfl, hB.trans ((hb3.trans (hb4.mono hb3.size)).mono hB.size)⟩
set_option maxRecDepth 1000000 in
set_option maxHeartbeats 8000000 in
theorem st_bad (f : Fn7) (hf : Few f) (hno : ¬ OkF f) (C : Option Addr) (cap : Nat) (hl9 : f.code.length ≤ 9223372036854775807) (w : World) (hC : RdI w C f.code) :
    Calls Try.prog 14 #[funcAgg f.nm f.ps f.R f.Fr C f.code.length cap] w fun e w' => e = .returned (.bool true) ∧ Below w.heap.size w w' := by
  have hB := Below.one w (funcObj f.nm f.ps f.R f.Fr C f.code.length cap)
  have bx := heap_alloc_new w (funcObj f.nm f.ps f.R f.Fr C f.code.length cap)
  have hC1 := hC.below hB
  have hF := few10_yes f hf C cap hl9 _ hC1
  have hR := fun W h => refRight_no f hno C cap W h
  have ha := fun W => awake10_any W
  obtain ⟨W, hW⟩ : ∃ W, w.alloc (funcObj f.nm f.ps f.R f.Fr C f.code.length cap) = W := ⟨_, rfl⟩
  rw [hW] at hB bx hC1 hF
  obtain ⟨N, hN⟩ : ∃ N, f.code.length = N := ⟨_, rfl⟩
  rw [hN] at hF hR bx hW ⊢
  have g0 := cell_of_heap bx 0 (.string f.nm) rfl
  have g1 := cell_of_heap bx 1 (.int .i64 f.ps) rfl
  have g2 := cell_of_heap bx 2 (.int .i64 f.R) rfl
  have g3 := cell_of_heap bx 3 (.int .i64 f.Fr) rfl
  have g4 := cell_of_heap bx 4 (.slice C N cap) rfl
  have hbl := (Array.getElem?_eq_some_iff.1 bx).1
  simp only [funcObj, funcAgg] at hF hR hW ⊢
  have HF := Lib.hid hF
  have HR := Lib.hid hR
  have HA := Lib.hid ha
  have HB := Lib.hid hB
  have HBX := Lib.hid bx
  have HC1 := Lib.hid hC1
  clear hf hno hC hF hR ha hl9 hB bx hC1 hN
  go_enter Try.func14, Try.ntmps14
  go_wp2_with fail
  refine HF.out.mono ?_
  rintro e w3 ⟨rfl, hb3⟩
  have c3 := (hb3.block _ hbl).trans HBX.out
  have h0 := cell_of_heap c3 0 (.string f.nm) rfl
  have h1 := cell_of_heap c3 1 (.int .i64 f.ps) rfl
  have h2 := cell_of_heap c3 2 (.int .i64 f.R) rfl
  have h3 := cell_of_heap c3 3 (.int .i64 f.Fr) rfl
  have h4 := cell_of_heap c3 4 (.slice C N cap) rfl
  have HB3 := Lib.hid hb3
  clear c3 hb3 hW g0 g1 g2 g3 g4
  go_wp2_with fail
  refine (HR.out _ (HC1.out.below HB3.out)).mono ?_
  rintro e w4 ⟨rfl, hb4⟩
  clear h0 h1 h2 h3 h4
  go_wp2_with fail
  refine (HA.out _).mono ?_
  rintro e w5 ⟨rfl, hb5⟩
  go_wp2
  go_returns
  exact ⟨rfl, HB.out.trans ((HB3.out.trans ((hb4.trans (hb5.mono hb4.size)).mono HB3.out.size)).mono HB.out.size)⟩
end Go.Proofs.Ytaofdbboalcceaa

/- LiveStays: the walk, of a function that may be. -/
namespace Go.Proofs.Ytaofdbboalcceaa
open Go.RowKit Go.BigFrame

set_option maxRecDepth 1000000 in
set_option maxHeartbeats 16000000 in
theorem st_good (f : Fn7) (hf : Few f) (hok : OkF f) (C : Option Addr) (cap : Nat) (hl9 : f.code.length ≤ 9223372036854775807) (w : World) (hC : RdI w C f.code) :
    Calls Try.prog 14 #[funcAgg f.nm f.ps f.R f.Fr C f.code.length cap] w fun e w' => e = .returned (.bool true) ∧ Below w.heap.size w w' := by
  have hB := Below.one w (funcObj f.nm f.ps f.R f.Fr C f.code.length cap)
  have bx := heap_alloc_new w (funcObj f.nm f.ps f.R f.Fr C f.code.length cap)
  have hC1 := hC.below hB
  have hF := few10_yes f hf C cap hl9 _ hC1
  have hD := fun W h => Sweep_yes f hok C cap W h
  have hR := fun W h => refRight_yes f hok C cap W h
  have hRe := fun n W h => Reached_any f hok n C cap W h
  have hPu := fun i W => refPure_any i W
  have ha := fun W => awake10_any W
  obtain ⟨W, hW⟩ : ∃ W, w.alloc (funcObj f.nm f.ps f.R f.Fr C f.code.length cap) = W := ⟨_, rfl⟩
  rw [hW] at hB bx hC1 hF
  obtain ⟨N, hN⟩ : ∃ N, f.code.length = N := ⟨_, rfl⟩
  rw [hN] at hF hD hR hRe bx hW ⊢
  have g0 := cell_of_heap bx 0 (.string f.nm) rfl
  have g1 := cell_of_heap bx 1 (.int .i64 f.ps) rfl
  have g2 := cell_of_heap bx 2 (.int .i64 f.R) rfl
  have g3 := cell_of_heap bx 3 (.int .i64 f.Fr) rfl
  have g4 := cell_of_heap bx 4 (.slice C N cap) rfl
  have hbl := (Array.getElem?_eq_some_iff.1 bx).1
  have hN2 : N ≤ 8192 := by rw [← hN]; exact hok.len.2
  simp only [funcObj, funcAgg] at hF hD hR hRe hW ⊢
  have HF := Lib.hid hF
  have HD := Lib.hid hD
  have HR := Lib.hid hR
  have HRE := Lib.hid hRe
  have HPU := Lib.hid hPu
  have HA := Lib.hid ha
  have HB := Lib.hid hB
  have HBX := Lib.hid bx
  have HC1 := Lib.hid hC1
  have HOK := Lib.hid hok
  have HN := Lib.hid hN
  clear hf hok hC hF hD hR hRe hPu ha hl9 hB bx hC1 hN
  go_enter Try.func14, Try.ntmps14
  go_wp2_with fail
  refine HF.out.mono ?_
  rintro e w3 ⟨rfl, hb3⟩
  have c3 := (hb3.block _ hbl).trans HBX.out
  have h0 := cell_of_heap c3 0 (.string f.nm) rfl
  have h1 := cell_of_heap c3 1 (.int .i64 f.ps) rfl
  have h2 := cell_of_heap c3 2 (.int .i64 f.R) rfl
  have h3 := cell_of_heap c3 3 (.int .i64 f.Fr) rfl
  have h4 := cell_of_heap c3 4 (.slice C N cap) rfl
  have HB3 := Lib.hid hb3
  clear c3 hb3 hW g0 g1 g2 g3 g4
  go_wp2_with fail
  refine (HR.out _ (HC1.out.below HB3.out)).mono ?_
  rintro e w4 ⟨rfl, hb4⟩
  have hb34 := HB3.out.trans (hb4.mono HB3.out.size)
  have c4 := (hb34.block _ hbl).trans HBX.out
  have i0 := cell_of_heap c4 0 (.string f.nm) rfl
  have i1 := cell_of_heap c4 1 (.int .i64 f.ps) rfl
  have i2 := cell_of_heap c4 2 (.int .i64 f.R) rfl
  have i3 := cell_of_heap c4 3 (.int .i64 f.Fr) rfl
  have i4 := cell_of_heap c4 4 (.slice C N cap) rfl
  have HB4 := Lib.hid hb34
  clear c4 hb4 hb34 h0 h1 h2 h3 h4
  go_wp2_with fail
  refine (HD.out _ (HC1.out.below HB4.out)).mono ?_
  rintro e w5 ⟨⟨G, gb, cg, hsw, rfl, hgb, hPG⟩, hb5⟩
  obtain ⟨hGok, hGd, hGa, hGn, hGp, hGR, hGF, hGl⟩ := hsw.end_ HOK.out
  obtain ⟨hc1, hc2, hc3, hc4⟩ := hsw.counts HOK.out
  obtain ⟨M, hM⟩ : ∃ M, G.code.length = M := ⟨_, rfl⟩
  rw [HN.out] at hc1 hc2 hc3 hc4
  rw [hM] at hc2 hc3
  simp only [hM, HN.out, funcAgg]
  have hSA := fun W h h' => Same_any f G C (some ⟨gb, 0, none⟩) cap cg (by rw [HN.out]; omega) (by rw [hM]; omega) W h h'
  rw [hGn, hGp, hGR, hGF, hM, HN.out] at hSA
  simp only [funcAgg] at hSA
  have HSA := Lib.hid hSA
  have HM := Lib.hid hM
  have HPG := Lib.hid (PreI.read hPG)
  have HCN := Lib.hid (And.intro hc1 (And.intro hc2 (And.intro hc3 hc4)))
  have hb35 := HB4.out.trans (hb5.mono HB4.out.size)
  have c5 := (hb35.block _ hbl).trans HBX.out
  have HB5 := Lib.hid hb35
  have hs5 := HB5.out.size
  obtain ⟨w6, hw6⟩ : ∃ w6, w5.alloc (.cells #[.string f.nm, .int .i64 f.ps, .int .i64 f.R, .int .i64 f.Fr, .slice (some ⟨gb, 0, none⟩) M cg] 24) = w6 := ⟨_, rfl⟩
  have hb6 : Below w5.heap.size w5 w6 := by rw [← hw6]; exact Below.one _ _
  have hg6 : w6.heap[w5.heap.size]? = some (.cells #[.string f.nm, .int .i64 f.ps, .int .i64 f.R, .int .i64 f.Fr, .slice (some ⟨gb, 0, none⟩) M cg] 24) := by rw [← hw6]; exact heap_alloc_new _ _
  have c6 := (hb6.block _ (by omega)).trans c5
  have j0 := cell_of_heap c6 0 (.string f.nm) rfl
  have j1 := cell_of_heap c6 1 (.int .i64 f.ps) rfl
  have j2 := cell_of_heap c6 2 (.int .i64 f.R) rfl
  have j3 := cell_of_heap c6 3 (.int .i64 f.Fr) rfl
  have j4 := cell_of_heap c6 4 (.slice C N cap) rfl
  have HB6 := Lib.hid (HB5.out.trans (hb6.mono hs5))
  have HX6 := Lib.hid c6
  have HG6 := Lib.hid hg6
  have HPG6 := Lib.hid (HPG.out.below hb6)
  clear c5 c6 hg6 hb6 i0 i1 i2 i3 i4 hb5 hb35 hsw hGok hGd hGa hGn hGp hGR hGF hGl hPG hSA hc1 hc2 hc3 hc4 hM
  go_wp2_with fail
  clear j0 j1 j2 j3 j4
  have hs6 := HB6.out.size
  go_loopw [5, 6, 7, 29] (fun vp vg vk ix wr => ∃ k : Nat, k ≤ N ∧ ix = .int .i64 k ∧ vp = .int .i64 (cP f k : Int) ∧ vg = .int .i64 (cG f k : Int) ∧ vk = .int .i64 (cK f k : Int) ∧ Below w6.heap.size w6 wr) (fun _ _ _ ix _ => N - (intOf ix).toNat)
  case atStart => exact ⟨0, by omega, rfl, rfl, rfl, rfl, Below.refl _ _⟩
  case round =>
    obtain ⟨k, hk, rfl, rfl, rfl, rfl, hbr⟩ := hrel
    have hall := c_all f k
    have hsr := hbr.size
    have cgr := (hbr.block _ (Array.getElem?_eq_some_iff.1 HX6.out).1).trans HX6.out
    have m0 := cell_of_heap cgr 0 (.string f.nm) rfl
    have m1 := cell_of_heap cgr 1 (.int .i64 f.ps) rfl
    have m2 := cell_of_heap cgr 2 (.int .i64 f.R) rfl
    have m3 := cell_of_heap cgr 3 (.int .i64 f.Fr) rfl
    have m4 := cell_of_heap cgr 4 (.slice C N cap) rfl
    have HCGR := Lib.hid cgr
    have HBR := Lib.hid hbr
    have hbl3 := (Array.getElem?_eq_some_iff.1 cgr).1
    clear cgr hbr
    by_cases hlt : k < N
    · have hi := insD_in (show k < f.code.length by rw [HN.out]; exact hlt)
      have hWr := HB6.out.trans (HBR.out.mono hs6)
      have hrI := HC1.out.below hWr
      obtain ⟨bb, oo, rfl, hbl2, hcs⟩ := hrI k _ hi
      obtain ⟨x0, x1, x2, x3, x4, x5, x6, x7, x8, x9, x10, x11, x12, x13, x14⟩ := RdI.load hcs
      have kx := heap_alloc_new wr (insD f.code k).obj
      have hre := HRE.out k (wr.alloc (insD f.code k).obj) (hrI.below (Below.one _ _))
      have hpu := HPU.out (insD f.code k)
      have hc1 := cG_succ f k
      have hc2 := cP_succ f k
      have hc3 := cK_succ f k
      obtain ⟨z, hz⟩ : ∃ z, tb (Rch f.code k) = z := ⟨_, rfl⟩
      obtain ⟨y, hy⟩ : ∃ y, pur (insD f.code k) = y := ⟨_, rfl⟩
      rw [hz] at hre hc1 hc2 hc3
      rw [hy] at hpu hc2 hc3
      generalize insD f.code k = i at *
      obtain ⟨kk, op', dst', a', b', n', text', q0, q1, q2, q3, q4, q5, to', els'⟩ := i
      have ⟨d0, d1, d2, d3, d4, d5, d6, d7, d8, d9, d10, d11, d12, d13, d14⟩ := Ins.cells (i := ⟨kk, op', dst', a', b', n', text', q0, q1, q2, q3, q4, q5, to', els'⟩) kx
      simp only [Ins.agg, Ins.obj] at x0 x1 x2 x3 x4 x5 x6 x7 x8 x9 x10 x11 x12 x13 x14 d0 d1 d2 d3 d4 d5 d6 d7 d8 d9 d10 d11 d12 d13 d14 hpu hre kx
      have HRR := Lib.hid hre
      have HPP := Lib.hid hpu
      have HC := Lib.hid (And.intro hc1 (And.intro hc2 hc3))
      have HKX := Lib.hid kx
      clear hre hpu hi hcs hrI hWr hz hy hc1 hc2 hc3 kx
      cases z with
      | false =>
        go_wp2_with fail
        refine HRR.out.mono ?_
        rintro e w9 ⟨rfl, hb9⟩
        go_wp2
        obtain ⟨e1, e2, e3⟩ := HC.out
        simp at e1 e2 e3
        exact ⟨⟨k + 1, by omega, by go_num, by rw [e2], by rw [e1]; go_num, by rw [e3], HBR.out.trans (((Below.one wr _).trans (hb9.mono (by simp))).mono hsr)⟩, by simp [intOf]; omega⟩
      | true =>
        go_wp2_with fail
        refine HRR.out.mono ?_
        rintro e w9 ⟨rfl, hb9⟩
        have hk9 := (hb9.block _ (Array.getElem?_eq_some_iff.1 HKX.out).1).trans HKX.out
        have ⟨d0, d1, d2, d3, d4, d5, d6, d7, d8, d9, d10, d11, d12, d13, d14⟩ := Ins.cells (i := ⟨kk, op', dst', a', b', n', text', q0, q1, q2, q3, q4, q5, to', els'⟩) hk9
        simp only at d0 d1 d2 d3 d4 d5 d6 d7 d8 d9 d10 d11 d12 d13 d14
        have HB9 := Lib.hid ((Below.one wr _).trans (hb9.mono (by simp)))
        clear hk9 hb9
        go_wp2_with fail
        refine (HPP.out _).mono ?_
        rintro e w10 ⟨rfl, hb10⟩
        have HB10 := Lib.hid (HBR.out.trans ((HB9.out.trans (hb10.mono HB9.out.size)).mono hsr))
        clear hb10
        obtain ⟨e1, e2, e3⟩ := HC.out
        cases y
        · go_wp2
          simp at e1 e2 e3
          exact ⟨⟨k + 1, by omega, by go_num, by rw [e2], by rw [e1], by rw [e3]; go_num, HB10.out⟩, by simp [intOf]; omega⟩
        · go_wp2
          simp at e1 e2 e3
          exact ⟨⟨k + 1, by omega, by go_num, by rw [e2]; go_num, by rw [e1], by rw [e3], HB10.out⟩, by simp [intOf]; omega⟩
    · obtain rfl : k = N := by omega
      have cg7 := (HBR.out.block _ (Array.getElem?_eq_some_iff.1 HG6.out).1).trans HG6.out
      have HPG7 := Lib.hid (HPG6.out.below HBR.out)
      have HG7 := Lib.hid cg7
      have hbl4 := (Array.getElem?_eq_some_iff.1 cg7).1
      have s0 := cell_of_heap cg7 0 (.string f.nm) rfl
      have s1 := cell_of_heap cg7 1 (.int .i64 f.ps) rfl
      have s2 := cell_of_heap cg7 2 (.int .i64 f.R) rfl
      have s3 := cell_of_heap cg7 3 (.int .i64 f.Fr) rfl
      have s4 := cell_of_heap cg7 4 (.slice (some ⟨gb, 0, none⟩) M cg) rfl
      clear cg7
      go_wp2_with fail
      clear m0 m1 m2 m3 m4 s0 s1 s2 s3 s4
      have hM2 : M ≤ 8192 := by have := HCN.out.2.1; omega
      obtain ⟨w8, rfl⟩ : ∃ w8 : World, w8 = wr := ⟨_, rfl⟩
      have HF7 := Lib.hid hbl3
      clear hall hbl4 hbl3 hsr
      go_loopw [7, 50] (fun vk ix w' => ∃ j : Nat, j ≤ M ∧ ix = .int .i64 j ∧ vk = .int .i64 ((cK f k : Int) - npc (G.code.take j)) ∧ Below w8.heap.size w8 w') (fun _ ix _ => M - (intOf ix).toNat)
      case atStart => exact ⟨0, by omega, rfl, by simp [npc], Below.refl _ _⟩
      case round =>
        obtain ⟨j, hj, rfl, rfl, hbr⟩ := hrel
        have hsr := hbr.size
        have hcl : cK f k ≤ 8192 := by have := c_all f k; omega
        by_cases hjm : j < M
        · have hi := insD_in (show j < G.code.length by rw [HM.out]; exact hjm)
          have hrI := HPG7.out.below hbr
          obtain ⟨bb, oo, hbo, hbl2, hcs⟩ := hrI j _ hi
          simp only [Option.some.injEq, Addr.mk.injEq, and_true] at hbo
          obtain ⟨rfl, rfl⟩ := hbo
          obtain ⟨x0, x1, x2, x3, x4, x5, x6, x7, x8, x9, x10, x11, x12, x13, x14⟩ := RdI.load hcs
          have kx := heap_alloc_new wr (insD G.code j).obj
          have hpu := HPU.out (insD G.code j)
          have hnt := npc_take G.code j _ hi
          have hnl := npc_take_le G.code j
          obtain ⟨y, hy⟩ : ∃ y, pur (insD G.code j) = y := ⟨_, rfl⟩
          rw [hy] at hpu hnt
          generalize insD G.code j = i at *
          obtain ⟨kk, op', dst', a', b', n', text', q0, q1, q2, q3, q4, q5, to', els'⟩ := i
          have ⟨d0, d1, d2, d3, d4, d5, d6, d7, d8, d9, d10, d11, d12, d13, d14⟩ := Ins.cells (i := ⟨kk, op', dst', a', b', n', text', q0, q1, q2, q3, q4, q5, to', els'⟩) kx
          simp only [Ins.agg, Ins.obj, Nat.zero_add] at x0 x1 x2 x3 x4 x5 x6 x7 x8 x9 x10 x11 x12 x13 x14 d0 d1 d2 d3 d4 d5 d6 d7 d8 d9 d10 d11 d12 d13 d14 hpu kx
          have HPP := Lib.hid hpu
          have HBR2 := Lib.hid hbr
          have HNT := Lib.hid hnt
          clear hpu hi hcs hrI hy hnt hbr kx
          go_wp2_with fail
          refine (HPP.out _).mono ?_
          rintro e w9 ⟨rfl, hb9⟩
          have HB9 := Lib.hid (HBR2.out.trans (((Below.one wr _).trans (hb9.mono (by simp))).mono hsr))
          clear hb9
          have e1 := HNT.out
          cases y
          · go_wp2
            simp at e1
            exact ⟨⟨j + 1, by omega, by go_num, by rw [e1]; go_num, HB9.out⟩, by simp [intOf]; omega⟩
          · go_wp2
            simp at e1
            exact ⟨⟨j + 1, by omega, by go_num, by rw [e1], HB9.out⟩, by simp [intOf]; omega⟩
        · obtain rfl : j = M := by omega
          have hc := HCN.out
          have hall := c_all f k
          have htk : G.code.take j = G.code := List.take_of_length_le (by rw [HM.out]; omega)
          rw [htk, hc.1, Int.sub_self]
          have HB8 := Lib.hid (HB6.out.trans ((HBR.out.trans (hbr.mono HBR.out.size)).mono hs6))
          have hgx := (hbr.block _ (Array.getElem?_eq_some_iff.1 HG7.out).1).trans HG7.out
          have hfx := (hbr.block _ HF7.out).trans HCGR.out
          have s0 := cell_of_heap hgx 0 (.string f.nm) rfl
          have s1 := cell_of_heap hgx 1 (.int .i64 f.ps) rfl
          have s2 := cell_of_heap hgx 2 (.int .i64 f.R) rfl
          have s3 := cell_of_heap hgx 3 (.int .i64 f.Fr) rfl
          have s4 := cell_of_heap hgx 4 (.slice (some ⟨gb, 0, none⟩) j cg) rfl
          have m0 := cell_of_heap hfx 0 (.string f.nm) rfl
          have m1 := cell_of_heap hfx 1 (.int .i64 f.ps) rfl
          have m2 := cell_of_heap hfx 2 (.int .i64 f.R) rfl
          have m3 := cell_of_heap hfx 3 (.int .i64 f.Fr) rfl
          have m4 := cell_of_heap hfx 4 (.slice C k cap) rfl
          have HS2 := Lib.hid (HSA.out wr (HC1.out.below HB8.out) (HPG7.out.below hbr))
          clear hgx hfx hbr htk
          have p1 : (decide ((k : Int) - j ≥ cG f k)) = true := by rw [decide_eq_true_eq]; omega
          have p2 : (decide ((k : Int) - j ≤ cG f k + cP f k)) = true := by rw [decide_eq_true_eq]; omega
          by_cases hz : cP f k + cG f k = 0
          · have p3 : (decide ((cP f k : Int) + cG f k > 0)) = false := by rw [decide_eq_false_iff_not]; omega
            have HSM : Hid (SameF f G) := Lib.hid (by rw [hc.2.2.2 (by omega) (by omega)]; rfl)
            clear hc
            go_wp2_with fail
            refine HS2.out.mono ?_
            rintro e w9 ⟨⟨b, rfl, hbb⟩, hb9⟩
            obtain rfl : b = true := hbb.2 HSM.out
            have HB9 := Lib.hid (HB8.out.trans (hb9.mono HB8.out.size))
            clear hb9 hbb s0 s1 s2 s3 s4 m0 m1 m2 m3 m4
            go_wp2_with fail
            refine (HA.out _).mono ?_
            rintro e w10 ⟨rfl, hb10⟩
            go_wp2
            go_returns
            exact ⟨rfl, HB.out.trans ((HB9.out.trans (hb10.mono HB9.out.size)).mono HB.out.size)⟩
          · have p3 : (decide ((cP f k : Int) + cG f k > 0)) = true := by rw [decide_eq_true_eq]; omega
            clear hc
            go_wp2_with fail
            refine (HA.out _).mono ?_
            rintro e w10 ⟨rfl, hb10⟩
            go_wp2
            go_returns
            exact ⟨rfl, HB.out.trans ((HB8.out.trans (hb10.mono HB8.out.size)).mono HB.out.size)⟩
theorem LiveStays_any (f : Fn7) (C : Option Addr) (cap : Nat) (hl9 : f.code.length ≤ 9223372036854775807) (w : World) (hC : RdI w C f.code) :
    Calls Try.prog 14 #[funcAgg f.nm f.ps f.R f.Fr C f.code.length cap] w fun e w' => e = .returned (.bool true) ∧ Below w.heap.size w w' := by
  by_cases hf : Few f
  · by_cases hok : OkF f
    · exact st_good f hf hok C cap hl9 w hC
    · exact st_bad f hf hok C cap hl9 w hC
  · exact st_few f hf C cap hl9 w hC
end Go.Proofs.Ytaofdbboalcceaa
