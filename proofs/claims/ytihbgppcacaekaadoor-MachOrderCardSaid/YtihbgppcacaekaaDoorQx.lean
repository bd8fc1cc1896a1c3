import Derived.Test.YtihbgppcacaekaaDoorQw
/- law15.Few. -/
namespace Go.Proofs.YtihbgppcacaekaaDoor
open Go.RowKit Go.BigFrame

def Tru (p : Prop) (e : Ending) : Prop := ∃ b : Bool, e = .returned (.bool b) ∧ (b = true ↔ p)
theorem Tru.no {p : Prop} (h : ¬ p) : Tru p (.returned (.bool false)) := ⟨_, rfl, by simp [h]⟩
/-- an object, an image that is gone through -/
def FewO (o : Ob) : Prop := o.name.size ≤ 50 ∧ o.lines.length ≤ 80 ∧ ∀ l ∈ o.lines, l.text.size ≤ 50
def FewM (u : Im) : Prop := u.objs.length ≤ 6 ∧ u.globs.length ≤ 10 ∧ ∀ o ∈ u.objs, FewO o
set_option maxRecDepth 1000000 in
set_option maxHeartbeats 8000000 in
theorem Few_any (u : Im) (F G : Option Addr) (cF cG : Nat) (w : World) (h : RdU w F G u) :
    Calls Tryd.prog 11 #[imAgg u F G cF cG] w fun e w' => Tru (FewM u) e ∧ Below w.heap.size w w' := by
  have hB := Below.one w (imObj u F G cF cG)
  have bx := heap_alloc_new w (imObj u F G cF cG)
  have h1 := h.below hB
  obtain ⟨W, hW⟩ : ∃ W, w.alloc (imObj u F G cF cG) = W := ⟨_, rfl⟩
  rw [hW] at hB bx h1
  obtain ⟨N, hN⟩ : ∃ N, u.objs.length = N := ⟨_, rfl⟩
  obtain ⟨M, hM⟩ : ∃ M, u.globs.length = M := ⟨_, rfl⟩
  simp only [imObj, imAgg] at bx hW ⊢
  rw [hN, hM] at bx hW ⊢
  have HB := Lib.hid hB
  have H1 := Lib.hid h1
  have HN := Lib.hid hN
  have HM := Lib.hid hM
  have HBX := Lib.hid bx
  have hbl := (Array.getElem?_eq_some_iff.1 bx).1
  clear h hB h1 hN hM bx
  go_enter Tryd.func11, Tryd.ntmps11
  go_wp2
  go_loopw [3] (fun ix wr => ∃ k : Nat, k ≤ N ∧ k ≤ 7 ∧ ix = .int .i64 k ∧ Below W.heap.size W wr ∧ ∀ (j : Nat) f, j < k → u.objs[j]? = some f → FewO f) (fun ix _ => 7 - (intOf ix).toNat)
  case atStart => exact ⟨0, by omega, by omega, rfl, Below.refl _ _, fun j f hj => by omega⟩
  case round =>
    obtain ⟨k, hk, hk7, rfl, hb, hS⟩ := hrel
    have hx := (hb.block _ hbl).trans HBX.out
    have g0 := cell_of_heap hx 0 (.slice F N cF) rfl
    have g1 := cell_of_heap hx 1 (.slice G M cG) rfl
    have HBB := Lib.hid hb
    have HSS := Lib.hid hS
    have HX := Lib.hid hx
    have hblr := (Array.getElem?_eq_some_iff.1 hx).1
    clear hb hS hx
    by_cases hlt : k < N ∧ k ≤ 6
    · obtain ⟨hlt, h6⟩ := hlt
      have q1 : decide ((k : Int) ≤ 6) = true := by simp; omega
      obtain ⟨f, hf⟩ : ∃ f, u.objs[k]? = some f := ⟨_, List.getElem?_eq_getElem (by rw [HN.out]; exact hlt)⟩
      have hmem := List.mem_of_getElem? hf
      obtain ⟨b, o, C, cap, rfl, hbl2, hcs, hrd⟩ := (H1.out.fs.below HBB.out) k f hf
      obtain ⟨x0, x1, x2, x3⟩ := ob_cells hcs
      have HF := Lib.hid hf
      have HMEM := Lib.hid hmem
      have HRD := Lib.hid hrd
      have HBO := Lib.hid (Below.one wr (obObj f C cap))
      have HBOX := Lib.hid (heap_alloc_new wr (obObj f C cap))
      clear hcs hf hmem hrd
      simp only [obObj] at HBO HBOX
      obtain ⟨L, hL⟩ : ∃ L, f.lines.length = L := ⟨_, rfl⟩
      rw [hL] at x3 HBO HBOX
      have HL := Lib.hid hL
      clear hL
      by_cases d1 : f.name.size ≤ 50
      case neg =>
        have p2 : decide ((f.name.size : Int) > 50) = true := by simp; omega
        have p3 : decide ((50 : Int) < f.name.size) = true := by simp; omega
        have HT := Lib.hid (Tru.no (fun hU : FewM u => d1 (hU.2.2 f HMEM.out).1))
        clear d1
        go_wp2
        go_returns
        exact ⟨HT.out, HB.out.trans ((HBB.out.trans (HBO.out.mono HBB.out.size)).mono HB.out.size)⟩
      have p2 : decide ((f.name.size : Int) > 50) = false := by simp; omega
      have p3 : decide ((50 : Int) < f.name.size) = false := by simp; omega
      by_cases d2 : L ≤ 80
      case neg =>
        have p4 : decide ((L : Int) > 80) = true := by simp; omega
        have p5 : decide ((80 : Int) < L) = true := by simp; omega
        have HT := Lib.hid (Tru.no (fun hU : FewM u => d2 (by rw [← HL.out]; exact (hU.2.2 f HMEM.out).2.1)))
        clear d2
        go_wp2
        go_returns
        exact ⟨HT.out, HB.out.trans ((HBB.out.trans (HBO.out.mono HBB.out.size)).mono HB.out.size)⟩
      have p4 : decide ((L : Int) > 80) = false := by simp; omega
      have p5 : decide ((80 : Int) < L) = false := by simp; omega
      have HD1 := Lib.hid d1
      clear d1
      go_wp2
      obtain ⟨W3, hW3⟩ : ∃ W3, W3 = wr.alloc (.cells #[.string f.name, .int .i64 f.slots, .int .i64 f.frame, .slice C L cap] 39 (0, 0)) := ⟨_, rfl⟩
      rw [← hW3] at HBO ⊢
      have HRD3 := Lib.hid (HRD.out.below HBO.out)
      clear hW3 x0 x1 x2 x3 g0 g1 p2 p3 p4 p5 q1
      go_loopw [36] (fun ix wq => ∃ m : Nat, m ≤ L ∧ ix = .int .i64 m ∧ Below W3.heap.size W3 wq ∧ ∀ (j : Nat) g, j < m → f.lines[j]? = some g → g.text.size ≤ 50) (fun ix _ => L - (intOf ix).toNat)
      case atStart => exact ⟨0, by omega, rfl, Below.refl _ _, fun j g hj => by omega⟩
      case round =>
        obtain ⟨m, hm, rfl, hbm, hG⟩ := hrel
        have HGG := Lib.hid hG
        have HBM := Lib.hid hbm
        clear hG hbm
        by_cases hltm : m < L
        · obtain ⟨g, hg⟩ : ∃ g, f.lines[m]? = some g := ⟨_, List.getElem?_eq_getElem (by rw [HL.out]; exact hltm)⟩
          have hmem := List.mem_of_getElem? hg
          obtain ⟨b3, o3, rfl, hbl3, hcs⟩ := (HRD3.out.below HBM.out) m g hg
          obtain ⟨y0, y1, y2, y3, y4, y5⟩ := RdL.load hcs
          have HGM := Lib.hid hg
          have HMEMG := Lib.hid hmem
          have HBL := Lib.hid (Below.one wr (g.obj))
          simp only [Ln.obj] at HBL
          clear hcs hg hmem
          by_cases hs : g.text.size ≤ 50
          · have p2 : decide ((g.text.size : Int) > 50) = false := by simp; omega
            have p3 : decide ((50 : Int) < g.text.size) = false := by simp; omega
            have HS := Lib.hid hs
            clear hs
            go_wp2
            exact ⟨⟨m + 1, by omega, by go_num, HBM.out.trans (HBL.out.mono HBM.out.size), fun j g' hj hg' => by
              by_cases hjk : j = m
              · subst hjk
                have := HGM.out.symm.trans hg'
                injection this with this
                rw [← this]
                exact HS.out
              · exact HGG.out j g' (by omega) hg'⟩, by simp [intOf]; omega⟩
          · have p2 : decide ((g.text.size : Int) > 50) = true := by simp; omega
            have p3 : decide ((50 : Int) < g.text.size) = true := by simp; omega
            have HT := Lib.hid (Tru.no (fun hU : FewM u => hs ((hU.2.2 f HMEM.out).2.2 g HMEMG.out)))
            clear hs
            go_wp2
            go_returns
            exact ⟨HT.out, HB.out.trans ((((HBB.out.trans (HBO.out.mono HBB.out.size)).trans ((HBM.out.mono (Nat.le_trans HBB.out.size HBO.out.size)))).trans (HBL.out.mono (Nat.le_trans (Nat.le_trans HBB.out.size HBO.out.size) HBM.out.size))).mono HB.out.size)⟩
        · obtain rfl : m = L := by omega
          have HFO : Hid (FewO f) := Lib.hid ⟨HD1.out, by rw [HL.out]; exact d2, fun l hl => by
            obtain ⟨j, hj⟩ := List.mem_iff_getElem?.1 hl
            exact HGG.out j l (by rw [← HL.out]; exact (List.getElem?_eq_some_iff.1 hj).1) hj⟩
          go_wp2
          exact ⟨⟨k + 1, by omega, by omega, by go_num, HBB.out.trans ((HBO.out.mono HBB.out.size).trans (HBM.out.mono (Nat.le_trans HBB.out.size HBO.out.size))), fun j f' hj hf' => by
            by_cases hjk : j = k
            · subst hjk
              have := HF.out.symm.trans hf'
              injection this with this
              rw [← this]
              exact HFO.out
            · exact HSS.out j f' (by omega) hf'⟩, by simp [intOf]; omega⟩
    · have hq : decide ((k : Int) < N) = decide (k < N) := by simp
      have HEX : Hid (N ≤ 6 → k = N) := Lib.hid (fun h => by omega)
      have HT : Hid (Tru (FewM u) (.returned (.bool (decide (N ≤ 6) && decide (M ≤ 10))))) := Lib.hid ⟨_, rfl, by
        rw [Bool.and_eq_true, decide_eq_true_eq, decide_eq_true_eq]
        constructor
        · rintro ⟨h6, h10⟩
          obtain rfl := HEX.out h6
          refine ⟨by rw [HN.out]; exact h6, by rw [HM.out]; exact h10, fun f hf => ?_⟩
          obtain ⟨j, hj⟩ := List.mem_iff_getElem?.1 hf
          exact HSS.out j f (by rw [← HN.out]; exact (List.getElem?_eq_some_iff.1 hj).1) hj
        · intro hU
          exact ⟨by rw [← HN.out]; exact hU.1, by rw [← HM.out]; exact hU.2.1⟩⟩
      have r1 : decide ((N : Int) ≤ 6) = decide (N ≤ 6) := by simp; omega
      have r2 : decide ((M : Int) ≤ 10) = decide (M ≤ 10) := by simp; omega
      by_cases hlt2 : k < N
      all_goals
        (try (have q1 : decide ((k : Int) ≤ 6) = false := by simp; omega))
        obtain ⟨c1, hc1⟩ : ∃ c1, decide (N ≤ 6) = c1 := ⟨_, rfl⟩
        obtain ⟨c2, hc2⟩ : ∃ c2, decide (M ≤ 10) = c2 := ⟨_, rfl⟩
        rw [hc1] at r1
        rw [hc2] at r2
        rw [hc1, hc2] at HT
        clear hc1 hc2
        cases c1 <;> cases c2
        all_goals
          go_wp2
          go_returns
          exact ⟨HT.out, HB.out.trans (HBB.out.mono HB.out.size)⟩
end Go.Proofs.YtihbgppcacaekaaDoor
