import Derived.Test.YtihbgppcacaekaaDoorQv0
/- Run. -/
namespace Go.Proofs.YtihbgppcacaekaaDoor
open Go.RowKit Go.BigFrame

/-- the objects by name, in memory -/
def GvK (W : World) (l : List Ob) (g : ByteArray → Option Value) : Prop :=
  (∀ s, s ∉ l.map (·.name) → g s = none) ∧ ∀ s, s ∈ l.map (·.name) → ∃ o ∈ l, o.name = s ∧ ∃ C cap, g s = some (obAgg o C cap) ∧ RdL W C o.lines
theorem GvK.nil (W : World) : GvK W [] (fun _ => none) := ⟨fun _ _ => rfl, fun s hs => by simp at hs⟩
theorem GvK.snoc {W : World} {l : List Ob} {g : ByteArray → Option Value} (h : GvK W l g) (o : Ob) (C : Option Addr) (cap : Nat) (hr : RdL W C o.lines) : GvK W (l ++ [o]) (updK g o.name (some (obAgg o C cap))) := by
  refine ⟨fun s hs => ?_, fun s hs => ?_⟩
  · simp at hs
    unfold updK
    rw [if_neg hs.2]
    exact h.1 s (by simpa using hs.1)
  · unfold updK
    by_cases e : s = o.name
    · rw [if_pos e]
      exact ⟨o, by simp, e.symm, C, cap, rfl, hr⟩
    · rw [if_neg e]
      have : s ∈ l.map (·.name) := by
        rw [List.map_append, List.mem_append] at hs
        rcases hs with hs | hs
        · exact hs
        · simp at hs; exact absurd hs e
      obtain ⟨o', h1, h2, h3⟩ := h.2 s this
      exact ⟨o', List.mem_append_left _ h1, h2, h3⟩
theorem u_mso : Tryd.prog.underlying 59 = some (.map 9 39) := by kernel_rfl
theorem zero_ob (w : World) : (zeroValue 39).run Tryd.prog w = .ok (.agg #[.string ⟨#[]⟩, .int .i64 0, .int .i64 0, .slice none 0 0]) w := by kernel_rfl
def RdBc (w : World) (A : Option Addr) (l : List Int) (cap : Nat) : Prop := RdB w A l ∧ l.length ≤ cap
theorem RdBc.below {w w' : World} {A : Option Addr} {l : List Int} {cap : Nat} (h : RdBc w A l cap) (hb : Below w.heap.size w w') : RdBc w' A l cap := ⟨h.1.below hb, h.2⟩
theorem GvK.none_of {W : World} {m : Im} {g : ByteArray → Option Value} (h : GvK W m.objs g) {s : ByteArray} (hn : g s = none) : byName m s = none := by
  unfold byName
  rw [List.find?_eq_none]
  intro o ho e
  have e2 : o.name = s := of_decide_eq_true e
  obtain ⟨o', _, _, C, cap, h3, _⟩ := h.2 s (List.mem_map.2 ⟨o, ho, e2⟩)
  rw [hn] at h3
  cases h3
theorem GvK.some_of {W : World} {m : Im} {g : ByteArray → Option Value} (h : GvK W m.objs g) (hnd : (m.objs.map (·.name)).Nodup) {s : ByteArray} {o : Ob} (hs : byName m s = some o) : ∃ C cap, g s = some (obAgg o C cap) ∧ RdL W C o.lines := by
  unfold byName at hs
  have h1 := List.find?_some hs
  have h2 := List.mem_of_find?_eq_some hs
  have e2 : o.name = s := of_decide_eq_true h1
  obtain ⟨o', h3, h4, h5⟩ := h.2 s (List.mem_map.2 ⟨o, h2, e2⟩)
  have : o' = o := by
    obtain ⟨i, hi⟩ := List.mem_iff_getElem?.1 h3
    obtain ⟨j, hj⟩ := List.mem_iff_getElem?.1 h2
    have hil := (List.getElem?_eq_some_iff.1 hi).1
    have hjl := (List.getElem?_eq_some_iff.1 hj).1
    have hij : i = j := (List.getElem_inj (i := i) (j := j) (h₀ := by simpa using hil) (h₁ := by simpa using hjl) hnd).1 (by
      rw [List.getElem_map, List.getElem_map, (List.getElem?_eq_some_iff.1 hi).2, (List.getElem?_eq_some_iff.1 hj).2, h4, e2])
    subst hij
    rw [hi] at hj
    exact Option.some.inj hj
  rw [← this]
  exact h5
theorem runM_no {m : Im} {inp : List Int} {fuel : Int} (h : rightM m = false ∨ byName m mainB = none) : runM m inp fuel = ⟨4, 0, []⟩ := by
  unfold runM
  rcases h with h | h
  · rw [h]; rfl
  · rw [h]
    split <;> rfl
/-- what Run tells -/
def RunT (r : Rs) (e : Ending) (w : World) : Prop := ∃ A cap, e = .returned (.agg #[.int .i64 r.how, .int .i64 r.code, .slice A r.outp.length cap]) ∧ RdBc w A r.outp cap
theorem zero_re (w : World) : (Instr.alloc 30 true (.tuple #[])).run Tryd.prog w = .ok (.pointer (some ⟨w.heap.size, 0, none⟩)) (w.alloc (.cells #[.int .i64 0, .int .i64 0, .slice none 0 0] 30 (0, 0))) := by kernel_rfl
set_option maxRecDepth 1000000 in
set_option maxHeartbeats 16000000 in
theorem Run_any (u : Im) (F G : Option Addr) (cF cG : Nat) (I : Option Addr) (icap : Nat) (inp : List Int) (fuel : Int) (w : World) (hT : Tabs w) (h : RdU w F G u) (hI : RdB w I inp) (hic : inp.length ≤ icap) (hby : ∀ a ∈ inp, 0 ≤ a ∧ a ≤ 255)
    (hlf : u.objs.length ≤ 100000) (hlg : u.globs.length ≤ 100000) (hll : ∀ o ∈ u.objs, o.lines.length ≤ 1000000) (htop : u.top ≤ 9223372036854775807) (hfu : fuel ≤ 70000) :
    Calls Tryd.prog 13 #[imAgg u F G cF cG, .slice I inp.length icap, .int .i64 fuel] w fun e w' => RunT (runM u inp fuel) e w' ∧ Below w.heap.size w w' := by
  obtain ⟨N, hN⟩ : ∃ N, u.objs.length = N := ⟨_, rfl⟩
  obtain ⟨M, hM⟩ : ∃ M, u.globs.length = M := ⟨_, rfl⟩
  obtain ⟨n, hn⟩ : ∃ n, inp.length = n := ⟨_, rfl⟩
  have hB := (Below.one w (imObj u F G cF cG)).alloc (by simp) (.cells #[.int .i64 0, .int .i64 0, .slice none 0 0] 30 (0, 0))
  have bx := alloc_keeps (heap_alloc_new w (imObj u F G cF cG)) (.cells #[.int .i64 0, .int .i64 0, .slice none 0 0] 30 (0, 0))
  have br := heap_alloc_new (w.alloc (imObj u F G cF cG)) (.cells #[.int .i64 0, .int .i64 0, .slice none 0 0] 30 (0, 0))
  rw [show (w.alloc (imObj u F G cF cG)).heap.size = w.heap.size + 1 by simp] at br
  have hs2 : ((w.alloc (imObj u F G cF cG)).alloc (.cells #[.int .i64 0, .int .i64 0, .slice none 0 0] 30 (0, 0))).heap.size = w.heap.size + 2 := by simp
  simp only [imObj, imAgg, hN, hM, hn] at bx br hB hs2 ⊢
  obtain ⟨W, hW⟩ : ∃ W, (w.alloc (.cells #[.slice F N cF, .slice G M cG, .int .i64 u.top] 25 (0, 0))).alloc (.cells #[.int .i64 0, .int .i64 0, .slice none 0 0] 30 (0, 0)) = W := ⟨_, rfl⟩
  rw [hW] at hB bx br hs2
  have H1 := Lib.hid (h.below hB)
  have HT1 := Lib.hid (hT.below hB)
  have HI1 := Lib.hid (hI.below hB)
  have HB := Lib.hid hB
  have HN := Lib.hid hN
  have HM := Lib.hid hM
  have HNI := Lib.hid hn
  have HBX := Lib.hid bx
  have HBR := Lib.hid br
  have HLL := Lib.hid hll
  have HBY := Lib.hid hby
  have HS2 := Lib.hid hs2
  have hbl := (Array.getElem?_eq_some_iff.1 bx).1
  have hbr := (Array.getElem?_eq_some_iff.1 br).1
  rw [hN] at hlf
  rw [hM] at hlg
  rw [hn] at hic
  clear h hT hI hB hN hM hn bx br hll hby
  have hzr := zero_re
  go_enter Tryd.func13, Tryd.ntmps13
  go_upto_region 1 with fail
  clear hzr hW
  refine wp_region_noPanic ?_
  refine wp_region_grown 7 (IG W.drew (RnG W.heap.size w.heap.size u.top (.slice I n icap))) (by kernel_rfl) (by kernel_rfl) ?_ ?_ ?_
  · exact ⟨Below.refl _ _, fun i v h => by cases h⟩
  · intro i op s wr hi ho hI hsi hdep
    have hb : Below W.heap.size W wr := ((Below.refl _ W).drew).trans hI.b
    have cim := (hb.block _ hbl).trans HBX.out
    have hr := Below.refl wr.heap.size wr
    rcases (by omega : i = 0 ∨ i = 1 ∨ i = 2 ∨ i = 3 ∨ i = 4 ∨ i = 5 ∨ i = 6) with rfl | rfl | rfl | rfl | rfl | rfl | rfl
    all_goals (simp only [List.getElem?_cons_zero, List.getElem?_cons_succ] at ho; obtain rfl := Option.some.inj ho)
    · exact Or.inl ⟨_, _, mmT _ rfl (make_mso wr), hI.step RnG.grow (Below.one wr _) 0 _ ⟨_, rfl, hb.size, heap_alloc_new wr _⟩⟩
    · exact Or.inl ⟨_, _, mkT _ _ _ rfl _ _ rfl rfl (make_4096 wr), hI.step RnG.grow (Below.one wr _) 1 _ ⟨_, rfl, hb.size, heap_alloc_new wr _⟩⟩
    · exact Or.inl ⟨_, _, fldT _ 2 (.tmp 3) rfl _ (by rw [evalT_old (by kernel_rfl)]; rfl) (fa_i2 _ _), hI.step RnG.grow hr 2 _ rfl⟩
    · obtain ⟨v2, e2⟩ := some_of (hdep ⟨2, .data⟩ (by simp) rfl)
      have q2 := hI.g 2 _ e2
      simp only [RnG] at q2
      subst q2
      exact Or.inl ⟨_, _, ldT _ (.tmp 16) rfl _ _ (evalT_told 2 (by kernel_rfl) e2) (cell_of_heap cim 2 _ rfl) (na3 _), hI.step RnG.grow hr 3 _ rfl⟩
    · exact Or.inl ⟨_, _, (runT_move (.tmp 1) rfl).trans (by rw [evalT_old (by kernel_rfl)]; rfl), hI.step RnG.grow hr 4 _ rfl⟩
    · obtain ⟨v0, e0⟩ := some_of (hdep ⟨0, .data⟩ (by simp) rfl)
      obtain ⟨v1, e1⟩ := some_of (hdep ⟨1, .data⟩ (by simp) rfl)
      obtain ⟨v3, e3⟩ := some_of (hdep ⟨3, .data⟩ (by simp) rfl)
      obtain ⟨v4, e4⟩ := some_of (hdep ⟨4, .data⟩ (by simp) rfl)
      obtain ⟨mp, rfl, p1, p2⟩ := hI.g 0 _ e0
      obtain ⟨mb, rfl, p3, p4⟩ := hI.g 1 _ e1
      have q3 := hI.g 3 _ e3
      have q4 := hI.g 4 _ e4
      simp only [RnG] at q3 q4
      subst q3 q4
      refine Or.inl ⟨_, _, bldT _ _ rfl _ ?_ (bld_x wr mp mb u.top I n icap), hI.step RnG.grow hr 5 _ ⟨mp, mb, rfl, ⟨p1, p3⟩, p2, p4⟩⟩
      simp only [List.map_toArray, List.map_cons, List.map_nil]
      rw [evalT_told 0 (by kernel_rfl) e0, evalT_told 1 (by kernel_rfl) e1, evalT_told 3 (by kernel_rfl) e3, evalT_told 4 (by kernel_rfl) e4]
    · obtain ⟨v5, e5⟩ := some_of (hdep ⟨5, .data⟩ (by simp) rfl)
      obtain ⟨mp, mb, rfl, p1, p2, p3⟩ := hI.g 5 _ e5
      exact Or.inl ⟨_, _, boxT _ (.tmp 19) rfl _ (evalT_told 5 (by kernel_rfl) e5) (box_x wr mp mb u.top I n icap), hI.step RnG.grow (Below.one wr _) 6 _ ⟨wr.heap.size, mp, mb, rfl, ⟨hb.size, p1.1, p1.2⟩, heap_alloc_new wr _, keepB (Below.one wr _) p2, keepB (Below.one wr _) p3⟩⟩
  · intro s wr hI hsome
    obtain ⟨v0, e0⟩ := some_of (hsome 0 (by omega))
    obtain ⟨v1, e1⟩ := some_of (hsome 1 (by omega))
    obtain ⟨v2, e2⟩ := some_of (hsome 2 (by omega))
    obtain ⟨v3, e3⟩ := some_of (hsome 3 (by omega))
    obtain ⟨v4, e4⟩ := some_of (hsome 4 (by omega))
    obtain ⟨v5, e5⟩ := some_of (hsome 5 (by omega))
    obtain ⟨v6, e6⟩ := some_of (hsome 6 (by omega))
    obtain ⟨xb, mp, mb, rfl, ⟨bX, bM, bB⟩, hX, hMp, hMb⟩ := hI.g 6 _ e6
    have HBW := Lib.hid (((Below.refl _ W).drew).trans hI.b)
    simp only [List.take_succ_cons, List.take_zero, List.drop_succ_cons, List.drop_zero, putsT, e0, e1, e2, e3, e4, e5, e6, Option.getD_some]
    clear hI hsome e0 e1 e2 e3 e4 e5 e6
    go_frame
    go_wp2_with fail
    refine NoPanic.normal ?_
    obtain ⟨w1, hw1⟩ : ∃ w1, w1 = wr := ⟨_, rfl⟩
    subst hw1
    have hx := (HBW.out.block _ hbl).trans HBX.out
    have g0 := cell_of_heap hx 0 (.slice F N cF) rfl
    have HX0 := Lib.hid hX
    have HMB0 := Lib.hid hMb
    have HMP0 : Hid (MapK kS w1 mp (fun _ => none)) := Lib.hid ⟨#[], 0, hMp, by simp, by simp, by simp, by simp⟩
    clear hx hX hMp hMb
    go_wp2
    clear g0
    have hmx : mp ≠ xb := map_ne HMP0.out HX0.out
    have hmm : mp ≠ mb := map_ne HMP0.out HMB0.out
    go_loopw [24] (fun ix wq => ∃ (k : Nat) (g : ByteArray → Option Value), k ≤ N ∧ ix = .int .i64 k ∧ Below W.heap.size W wq ∧ wq.heap[xb]? = some (.cells (rowX mp mb u.top (.slice I n icap)) 64 (0, 0)) ∧ wq.heap[mb]? = some memO ∧ MapK kS wq mp g ∧ GvK W (u.objs.take k) g) (fun ix _ => N - (intOf ix).toNat)
    case atStart => exact ⟨0, _, by omega, rfl, HBW.out, HX0.out, HMB0.out, HMP0.out, GvK.nil W⟩
    case round =>
      obtain ⟨k, g, hk, rfl, hb, hX, hMb, hMp, hGv⟩ := hrel
      have hx := (hb.block _ hbl).trans HBX.out
      have g0 := cell_of_heap hx 0 (.slice F N cF) rfl
      have hblr := (Array.getElem?_eq_some_iff.1 hx).1
      have HBB := Lib.hid hb
      have HX1 := Lib.hid hX
      have HMB1 := Lib.hid hMb
      have HMP1 := Lib.hid hMp
      have HGV := Lib.hid hGv
      clear hx hX hMb hMp hGv
      by_cases hlt : k < N
      · obtain ⟨f, hf⟩ : ∃ f, u.objs[k]? = some f := ⟨_, List.getElem?_eq_getElem (by rw [HN.out]; exact hlt)⟩
        obtain ⟨b, o, C, cap, rfl, hbl2, hcs0, hrd⟩ := H1.out.fs k f hf
        have hcs : ∀ j, j < 4 → wr.cell? ⟨b, o + (k * 4 + j), none⟩ = (obL f C cap)[j]? := fun j hj => (hb.cell (p := ⟨b, o + (k * 4 + j), none⟩) hbl2).trans (hcs0 j hj)
        obtain ⟨x0, x1, x2, x3⟩ := ob_cells hcs
        have HF := Lib.hid hf
        have HRD := Lib.hid hrd
        clear hcs hcs0 hrd hf hb
        go_wp2
        obtain ⟨Wx, hWx⟩ : ∃ Wx, Wx = wr.alloc (obObj f C cap) := ⟨_, rfl⟩
        have hbo : Wx.heap[wr.heap.size]? = some (obObj f C cap) := by rw [hWx]; exact heap_alloc_new wr _
        have hbx : Below wr.heap.size wr Wx := by rw [hWx]; exact Below.one wr _
        have hxx := keepB hbx HX1.out
        have hmp2 := HMP1.out.below hbx HMP1.out.lt
        have hmb2 := keepB hbx HMB1.out
        have hbW := HBB.out.trans (hbx.mono HBB.out.size)
        simp only [obObj] at hWx hbo
        rw [← hWx]
        have z0 := cell_of_heap hbo 0 (.string f.name) rfl
        have z1 := cell_of_heap hbo 1 (.int .i64 f.slots) rfl
        have z2 := cell_of_heap hbo 2 (.int .i64 f.frame) rfl
        have z3 := cell_of_heap hbo 3 (.slice C f.lines.length cap) rfl
        have c0 := cell_of_heap hxx 0 (.map (some mp)) rfl
        have hmpd : MapK kS Wx.drew mp g := hmp2.of_block rfl
        obtain ⟨w2, hup, hm2, hg2, hs2⟩ := MapK.update kvStr hmpd u_mso f.name (obAgg f C cap)
        simp only [obAgg] at hup
        have hx2 := (hg2.block xb (Array.getElem?_eq_some_iff.1 hxx).1 (by intro e; injection e with e; exact hmx e.symm)).trans hxx
        have hb2 := (hg2.block mb (Array.getElem?_eq_some_iff.1 hmb2).1 (by intro e; injection e with e; exact hmm e.symm)).trans hmb2
        have hbW2 : Below W.heap.size W w2 := below_grown (hbW.drew) bM hmpd.lt hg2
        have HX2 := Lib.hid hx2
        have HB2 := Lib.hid hb2
        have HM2 := Lib.hid hm2
        have HBW2 := Lib.hid hbW2
        clear hx2 hb2 hm2 hbW2 hg2 hmpd hbW hmb2 hmp2 hxx hbx hbo hWx x0 x1 x2 x3 g0
        go_still_tail 7, (by kernel_rfl)
        go_wp2
        exact ⟨⟨k + 1, _, by omega, by go_num, HBW2.out, HX2.out, HB2.out, HM2.out, by rw [List.take_add_one, HF.out]; exact HGV.out.snoc f C cap HRD.out⟩, by simp [intOf]; omega⟩
      · obtain rfl : k = N := by omega
        rw [show u.objs.take k = u.objs from List.take_of_length_le (by rw [HN.out]; exact Nat.le_refl _)] at HGV
        have c0 := cell_of_heap HX1.out 0 (.map (some mp)) rfl
        have hlk := MapK.lookup kvStr HMP1.out u_mso (zero_ob wr) mainB true
        have hrb := keepB hb HBR.out
        clear hb hlt hk
        cases hgm : g mainB with
        | none =>
          rw [hgm] at hlk
          simp only [if_true, Option.getD_none, Option.isSome_none] at hlk
          have HRES := Lib.hid (runM_no (inp := inp) (fuel := fuel) (Or.inr (HGV.out.none_of hgm)))
          have hbz := Below.one wr (.cells #[.string ⟨#[]⟩, .int .i64 0, .int .i64 0, .slice none 0 0] 39 (0, 0))
          have hbW := HBB.out.trans (hbz.mono HBB.out.size)
          have hcall := Right_any u F G cF cG _ (HT1.out.below hbW) (H1.out.below hbW) (by rw [HN.out]; exact hlf) (by rw [HM.out]; exact hlg) HLL.out htop
          simp only [imAgg, HN.out, HM.out] at hcall
          have HC := Lib.hid hcall
          have HBWz := Lib.hid hbW
          have g1 := cell_of_heap ((HBB.out.block _ hbl).trans HBX.out) 1 (.slice G M cG) rfl
          have g2 := cell_of_heap ((HBB.out.block _ hbl).trans HBX.out) 2 (.int .i64 u.top) rfl
          have hrbz := keepB hbz hrb
          have HRBZ := Lib.hid hrbz
          clear hcall hbW hbz hrb hrbz hgm
          simp only [mainB] at hlk
          go_wp2_with fail
          refine HC.out.mono ?_
          rintro e w5 ⟨rfl, hb5⟩
          have hr5 := keepB hb5 HRBZ.out
          have HB5 : Hid (Below W.heap.size W w5) := Lib.hid (HBWz.out.trans (hb5.mono HBWz.out.size))
          have r0 := cell_of_heap hr5 0 (.int .i64 0) rfl
          have r1 := cell_of_heap hr5 1 (.int .i64 0) rfl
          have r2 := cell_of_heap hr5 2 (.slice none 0 0) rfl
          have f0 := free_of_heap hr5 0
          have f1 := free_of_heap hr5 1
          have f2 := free_of_heap hr5 2
          have HR5 := Lib.hid hr5
          clear hb5 hr5 g0 g1 g2 c0 hlk
          cases rightM u
          all_goals
            go_wp2
            have hr6 := heap_setCell (j := 2) (heap_setCell (j := 1) (heap_setCell (j := 0) HR5.out (.int .i64 4)) (.int .i64 0)) (.slice none 0 0)
            have e0 := cell_of_heap hr6 0 (.int .i64 4) rfl
            have e1 := cell_of_heap hr6 1 (.int .i64 0) rfl
            have e2 := cell_of_heap hr6 2 (.slice none 0 0) rfl
            have HBE := Lib.hid ((((HB.out.trans (HB5.out.mono HB.out.size)).setCell (p := ⟨w.heap.size + 1, 0, none⟩) (by show w.heap.size ≤ w.heap.size + 1; omega) (.int .i64 4)).setCell (p := ⟨w.heap.size + 1, 1, none⟩) (by show w.heap.size ≤ w.heap.size + 1; omega) (.int .i64 0)).setCell (p := ⟨w.heap.size + 1, 2, none⟩) (by show w.heap.size ≤ w.heap.size + 1; omega) (.slice none 0 0))
            clear hr6 r0 r1 r2 f0 f1 f2
            (try simp only [Exit.inBlock, Exit.then])
            refine bodyPost_ret (by simp [results, Tryd.results13, go_sem, e0, e1, e2]; try rfl) rfl ?_
            rw [HRES.out]
            exact ⟨⟨none, 0, rfl, fun j n hj => by simp at hj, Nat.le_refl _⟩, HBE.out⟩
        | some v =>
          obtain ⟨o, hmo, hon, C, cap, hgo, hrd⟩ := HGV.out.2 mainB (Classical.byContradiction fun hc => by rw [HGV.out.1 _ hc] at hgm; cases hgm)
          rw [hgo] at hlk
          simp only [if_true, Option.getD_some, Option.isSome_some] at hlk
          have hbz := Below.one wr (obObj o C cap)
          have hbW := HBB.out.trans (hbz.mono HBB.out.size)
          have hcall := Right_any u F G cF cG _ (HT1.out.below hbW) (H1.out.below hbW) (by rw [HN.out]; exact hlf) (by rw [HM.out]; exact hlg) HLL.out htop
          simp only [imAgg, HN.out, HM.out] at hcall
          have hbo := heap_alloc_new wr (obObj o C cap)
          have hx8 := keepB hbz HX1.out
          have hm8 := keepB hbz HMB1.out
          have hp8 := HMP1.out.below hbz HMP1.out.lt
          have hi8 := keepB hbz ((HBB.out.block _ hbl).trans HBX.out)
          have hrbz := keepB hbz hrb
          simp only [obObj, obAgg, mainB] at hbz hbW hcall hbo hx8 hm8 hp8 hi8 hrbz hlk
          have hi7 := (HBB.out.block _ hbl).trans HBX.out
          have HC := Lib.hid hcall
          have HBWz := Lib.hid hbW
          have HRBZ := Lib.hid hrbz
          have HX8 := Lib.hid hx8
          have HM8 := Lib.hid hm8
          have HP8 := Lib.hid hp8
          have HO8 := Lib.hid hbo
          have HOI := Lib.hid hmo
          have HON := Lib.hid hon
          have HGO := Lib.hid hgo
          have HRD := Lib.hid hrd
          have g1 := cell_of_heap hi7 1 (.slice G M cG) rfl
          have g2 := cell_of_heap hi7 2 (.int .i64 u.top) rfl
          have HI8 := Lib.hid hi8
          clear hcall hbW hbz hrb hrbz hgm hbo hx8 hm8 hp8 hi8 hmo hon hgo hrd hi7
          go_wp2_with fail
          refine HC.out.mono ?_
          rintro e w5 ⟨rfl, hb5⟩
          have HB5 : Hid (Below W.heap.size W w5) := Lib.hid (HBWz.out.trans (hb5.mono HBWz.out.size))
          have HR5 := Lib.hid (keepB hb5 HRBZ.out)
          have HX5 := Lib.hid (keepB hb5 HX8.out)
          have HM5 := Lib.hid (keepB hb5 HM8.out)
          have HP5 := Lib.hid (HP8.out.below hb5 HP8.out.lt)
          have HO5 := Lib.hid (keepB hb5 HO8.out)
          have HI5 := Lib.hid (keepB hb5 HI8.out)
          obtain ⟨cb, hcb⟩ : ∃ cb, cb = wr.heap.size := ⟨_, rfl⟩
          rw [← hcb] at HO5
          rw [← hcb]
          clear hb5 g1 g2 c0 hlk HC HBWz HX8 HM8 HP8 HO8 HRBZ HI8 HX1 HMB1 HMP1 HBB hblr hcb
          cases hrm : rightM u with
          | false =>
            have HRES := Lib.hid (runM_no (inp := inp) (fuel := fuel) (Or.inl hrm))
            have r0 := cell_of_heap HR5.out 0 (.int .i64 0) rfl
            have r1 := cell_of_heap HR5.out 1 (.int .i64 0) rfl
            have r2 := cell_of_heap HR5.out 2 (.slice none 0 0) rfl
            have f0 := free_of_heap HR5.out 0
            have f1 := free_of_heap HR5.out 1
            have f2 := free_of_heap HR5.out 2
            clear hrm
            go_wp2
            have hr6 := heap_setCell (j := 2) (heap_setCell (j := 1) (heap_setCell (j := 0) HR5.out (.int .i64 4)) (.int .i64 0)) (.slice none 0 0)
            have e0 := cell_of_heap hr6 0 (.int .i64 4) rfl
            have e1 := cell_of_heap hr6 1 (.int .i64 0) rfl
            have e2 := cell_of_heap hr6 2 (.slice none 0 0) rfl
            have HBE := Lib.hid ((((HB.out.trans (HB5.out.mono HB.out.size)).setCell (p := ⟨w.heap.size + 1, 0, none⟩) (by show w.heap.size ≤ w.heap.size + 1; omega) (.int .i64 4)).setCell (p := ⟨w.heap.size + 1, 1, none⟩) (by show w.heap.size ≤ w.heap.size + 1; omega) (.int .i64 0)).setCell (p := ⟨w.heap.size + 1, 2, none⟩) (by show w.heap.size ≤ w.heap.size + 1; omega) (.slice none 0 0))
            clear hr6 r0 r1 r2 f0 f1 f2
            (try simp only [Exit.inBlock, Exit.then])
            refine bodyPost_ret (by simp [results, Tryd.results13, go_sem, e0, e1, e2]; try rfl) rfl ?_
            rw [HRES.out]
            exact ⟨⟨none, 0, rfl, fun j n hj => by simp at hj, Nat.le_refl _⟩, HBE.out⟩
          | true =>
            have HRM := Lib.hid hrm
            have i1 := cell_of_heap HI5.out 1 (.slice G M cG) rfl
            clear hrm
            go_wp2
            have HS0 : Hid (XS W w5 xb mb mp g (rnJ u inp (memOf (u.globs.take 0))) (.slice I n icap) (.slice none 0 0) (.slice none 0 0) []) := Lib.hid
              ⟨HX5.out.trans (congrArg (fun z => some (Obj.cells z 64 (0, 0))) (rowX_is u inp mp mb (memOf (u.globs.take 0)) (.slice I n icap))), bX, rfl, rfl,
               ⟨HB5.out, by rw [HM5.out, memO_is]; rfl, memOf_len _, bB, HP5.out, ⟨I, icap, (show Value.slice I n icap = .slice I inp.length icap by rw [HNI.out]), HI1.out, (show inp.length ≤ icap by rw [HNI.out]; exact hic), HBY.out⟩, ⟨rfl, Or.inl ⟨rfl, rfl⟩⟩, ⟨rfl, Or.inl ⟨rfl, rfl⟩⟩, fun x hx => by simp at hx, by simp, by simp⟩⟩
            clear i1
            go_loopw [55] (fun ix wq => ∃ (j : Nat), j ≤ M ∧ ix = .int .i64 j ∧ XS W wq xb mb mp g (rnJ u inp (memOf (u.globs.take j))) (.slice I n icap) (.slice none 0 0) (.slice none 0 0) [] ∧ wq.heap[cb]? = some (.cells #[.string o.name, .int .i64 o.slots, .int .i64 o.frame, .slice C o.lines.length cap] 39 (0, 0))) (fun ix _ => M - (intOf ix).toNat)
            case atStart => exact ⟨0, by omega, rfl, HS0.out, HO5.out⟩
            case round =>
              obtain ⟨j, hj, rfl, hXS, hco⟩ := hrel
              have HXS := Lib.hid hXS
              have HCO := Lib.hid hco
              clear hXS hco HS0
              by_cases hlt : j < M
              · obtain ⟨gl, hgl⟩ : ∃ gl, u.globs[j]? = some gl := ⟨_, List.getElem?_eq_getElem (by rw [HM.out]; exact hlt)⟩
                obtain ⟨b, o2, rfl, hbl2, hcs⟩ := (H1.out.gs.below HXS.out.M.b) j gl hgl
                obtain ⟨x0, x1, x2, x3⟩ := gl_cells hcs
                have hgo : globOk u.top gl = true := ((rightM_iff u).1 HRM.out).2.2.2.1 gl (List.mem_of_getElem? hgl)
                have hga : 1 ≤ gl.at_ := by
                  unfold globOk at hgo
                  simp only [Bool.and_eq_true, decide_eq_true_eq] at hgo
                  exact hgo.1.1
                have hgs := memOf_snoc (u.globs.take j) gl
                rw [show u.globs.take j ++ [gl] = u.globs.take (j + 1) by rw [List.take_add_one, hgl]; rfl] at hgs
                have HGS := Lib.hid hgs
                obtain ⟨ga, hga2⟩ : ∃ ga : Nat, gl.at_ = ga := ⟨gl.at_.toNat, by omega⟩
                rw [hga2] at HGS x1
                have hB2 := Below.one wr (.cells #[.string gl.name, .int .i64 ga, .int .i64 gl.size, .int .i64 gl.init] 52 (0, 0))
                have HX2 := Lib.hid (HXS.out.later hB2)
                have HC2 := Lib.hid (keepB hB2 HCO.out)
                have hga1 : 1 ≤ ga := by omega
                clear hcs hgl hgo hgs hga hga2 hB2
                go_wp2
                have m1 := HX2.out.cell 1 (.slice (some ⟨mb, 0, none⟩) 4096 4096) rfl
                have fm := free_of_heap HX2.out.M.mem ga
                obtain ⟨Wg, hWg⟩ : ∃ Wg, Wg = wr.alloc (.cells #[.string gl.name, .int .i64 ga, .int .i64 gl.size, .int .i64 gl.init] 52 (0, 0)) := ⟨_, rfl⟩
                have hbg : Wg.heap[wr.heap.size]? = some (.cells #[.string gl.name, .int .i64 ga, .int .i64 gl.size, .int .i64 gl.init] 52 (0, 0)) := by rw [hWg]; exact heap_alloc_new wr _
                rw [← hWg] at HX2 HC2 m1 fm ⊢
                have y1 := cell_of_heap hbg 1 (.int .i64 ga) rfl
                have y3 := cell_of_heap hbg 3 (.int .i64 gl.init) rfl
                have m2 : ga < 4096 → Wg.cell? ⟨mb, ga, none⟩ = some (.int .i64 ((memOf (u.globs.take j)).getD ga 0)) := fun hh => regs_cell HX2.out.M.mem (by rw [HX2.out.M.ml]; exact hh)
                clear hWg hbg x0 x1 x2 x3
                by_cases hlt4 : ga < 4096
                · have m2 := m2 hlt4
                  have q4 : decide ((ga : Int) < 4096) = true := by simp; omega
                  rw [if_pos (by omega)] at HGS
                  go_region
                  go_wp2
                  go_region
                  go_wp2
                  refine ⟨⟨j + 1, by omega, by go_num, ?_, (heap_setCell_other Wg ⟨mb, ga, none⟩ cb _ (ty_ne HC2.out HX2.out.M.mem (by decide))).trans HC2.out⟩, by simp [intOf]; omega⟩
                  have hX := (HX2.out.set_mem ga gl.init).drew.drew
                  rw [HGS.out]
                  exact hX
                · have q4 : decide ((ga : Int) < 4096) = false := by simp; omega
                  rw [if_neg (by omega)] at HGS
                  go_region
                  go_wp2
                  refine ⟨⟨j + 1, by omega, by go_num, ?_, HC2.out⟩, by simp [intOf]; omega⟩
                  rw [HGS.out]
                  exact HX2.out.drew
              · obtain rfl : j = M := by omega
                rw [show u.globs.take j = u.globs from List.take_of_length_le (by rw [HM.out]; exact Nat.le_refl _), rnJ_is] at HXS
                have htp := top_of HRM.out
                have hbs := bySo_of HRM.out
                obtain ⟨o', ho'⟩ := byName_some (m := u) (s := mainB) (by rw [← HON.out]; exact List.mem_map.2 ⟨o, HOI.out, rfl⟩)
                obtain ⟨C', cap', hg1, hg2⟩ := HGV.out.some_of ((rightM_iff u).1 HRM.out).2.1 ho'
                have hoo : o' = o := eq_of_name ((rightM_iff u).1 HRM.out).2.1 (byName_name ho').1 HOI.out ((byName_name ho').2.trans HON.out.symm)
                subst hoo
                have hpo := rightO_parts (hbs.right _ _ ho')
                have hro := ROk.start (inp := inp) HRM.out ho'
                have hen := enter_any HXS.out o' C cap 0 0 0 0 0 0 HRD.out hpo.1 hpo.2.1 (show 0 ≤ u.top ∧ u.top ≤ 4096 by omega) (by simp)
                simp only [obAgg, inAgg] at hen
                have HEN := Lib.hid hen
                have HRO := Lib.hid hro
                have HBS := Lib.hid hbs
                have HTP := Lib.hid htp
                have HRES : Hid (runM u inp fuel = (((rn0 u inp).enter o' zero6).iter (byName u) (clip fuel)).res) := Lib.hid (by unfold runM; rw [HRM.out, ho']; rfl)
                have y0 := cell_of_heap HCO.out 0 (.string o'.name) rfl
                have y1 := cell_of_heap HCO.out 1 (.int .i64 o'.slots) rfl
                have y2 := cell_of_heap HCO.out 2 (.int .i64 o'.frame) rfl
                have y3 := cell_of_heap HCO.out 3 (.slice C o'.lines.length cap) rfl
                clear ho' hg1 hg2 hpo hro hen hbs htp hlt hj
                go_wp2_with (first
                  | (go_at_call 23; refine (HEN.out).mono ?_; rintro e w6 ⟨rfl, sv, l, hX6⟩))
                obtain ⟨q, hq⟩ : ∃ q : Nat, min (max fuel 0) 1000000 = (q : Int) := ⟨(min (max fuel 0) 1000000).toNat, by omega⟩
                have hq7 : q ≤ 70000 := by omega
                have hcl : clip fuel = q := by unfold clip; omega
                rw [hcl] at HRES
                rw [hq]
                obtain ⟨R0, hR0⟩ : ∃ R0, (rn0 u inp).enter o' zero6 = R0 := ⟨_, rfl⟩
                rw [hR0] at HRES HRO
                have hX6 : XS W w6 xb mb mp g R0 (.slice I n icap) sv (.slice none 0 0) l := by rw [← hR0]; exact hX6
                have HX6 := Lib.hid hX6
                have HGS : Hid (∀ s o, byName u s = some o → ∃ C cap, g s = some (obAgg o C cap) ∧ RdL W C o.lines) := Lib.hid fun s o h => HGV.out.some_of ((rightM_iff u).1 HRM.out).2.1 h
                clear hq hcl hR0 hX6 y0 y1 y2 y3 HEN
                go_loopw [2] (fun ix wq => ∃ (z : Nat) (R : Rn) (iv sv ov : Value) (l : List Fb), z ≤ q ∧ ix = .int .i64 z ∧ XS W wq xb mb mp g R iv sv ov l ∧ R.iter (byName u) z = R0.iter (byName u) q ∧ ROk (byName u) u.top (q - z) R) (fun ix _ => (intOf ix).toNat)
                case atStart => exact ⟨q, R0, _, _, _, _, Nat.le_refl _, rfl, HX6.out, rfl, by rw [Nat.sub_self]; exact HRO.out⟩
                case round =>
                  obtain ⟨z, R, iv, sv, ov, l, hz, rfl, hX, hit, hro⟩ := hrel
                  have HX := Lib.hid hX
                  have HIT := Lib.hid hit
                  have HRK := Lib.hid hro
                  have hbl3 : w.heap.size + 1 < wr.heap.size := Nat.lt_of_lt_of_le hbr HX.out.M.b.size
                  clear hX hit hro HX6
                  cases hov : R.over
                  · have g14 : wr.cell? ⟨xb, 14, none⟩ = some (.bool false) := HX.out.c_hi 4 _ (by simp [xTl, hov])
                    have HOV := Lib.hid hov
                    clear hov
                    by_cases hz0 : 0 < z
                    · have q0 : decide ((z : Int) > 0) = true := by simp; omega
                      have q1 : decide (0 < (z : Int)) = true := by simp; omega
                      have hst := step_any HBS.out (by have := HTP.out; omega) HGS.out HX.out HRK.out HOV.out (by omega)
                      have HST := Lib.hid hst
                      clear hst
                      go_wp2_with (first
                        | (go_at_call 24; refine (HST.out).mono ?_; rintro e w7 ⟨rfl, iv7, sv7, ov7, l7, hX7⟩))
                      refine ⟨⟨z - 1, _, _, _, _, _, by omega, by rw [show ((z : Int) - 1) = ((z - 1 : Nat) : Int) by omega], hX7, ?_, ?_⟩, by simp [intOf]; omega⟩
                      · rw [← HIT.out]
                        obtain ⟨z', rfl⟩ : ∃ z', z = z' + 1 := ⟨z - 1, by omega⟩
                        rw [iter_step HOV.out]
                        rfl
                      · rw [show q - (z - 1) = q - z + 1 by omega]
                        exact HRK.out.step HBS.out HOV.out
                    · obtain rfl : z = 0 := by omega
                      obtain ⟨A, ac, rfl, hA, hA2⟩ := out_read2 HX.out.M.out
                      have HRS : Hid (runM u inp fuel = ⟨4, 0, R.outp⟩) := Lib.hid (by
                        rw [HRES.out, ← HIT.out]
                        show R.res = _
                        unfold Rn.res
                        rw [HOV.out]
                        rfl)
                      have HAA := Lib.hid hA
                      have HA2 := Lib.hid hA2
                      clear hA hA2 HIT
                      have hend := end_x HX.out 4 0
                      have HE := Lib.hid hend
                      clear hend hz0
                      go_wp2_with (first
                        | (go_at_call 25; refine (HE.out).mono ?_; rintro e w7 ⟨rfl, hX7⟩;
                           have HX7 := Lib.hid hX7; clear hX7;
                           have HR7 := Lib.hid (keepB HX7.out.M.b HBR.out);
                           have k1 : w7.cell? ⟨xb, 15, none⟩ = some (.int .i64 4) := HX7.out.c_hi 5 _ rfl;
                           have k2 : w7.cell? ⟨xb, 16, none⟩ = some (.int .i64 0) := HX7.out.c_hi 6 _ rfl;
                           have k3 : w7.cell? ⟨xb, 17, none⟩ = some (.slice A R.outp.length ac) := HX7.out.c_hi 7 _ rfl;
                           have r0 := cell_of_heap HR7.out 0 (.int .i64 0) rfl;
                           have r1 := cell_of_heap HR7.out 1 (.int .i64 0) rfl;
                           have r2 := cell_of_heap HR7.out 2 (.slice none 0 0) rfl;
                           have f0 := free_of_heap HR7.out 0;
                           have f1 := free_of_heap HR7.out 1;
                           have f2 := free_of_heap HR7.out 2;
                           clear g14))
                      (try simp only [Exit.inBlock, Exit.then])
                      generalize hwf : ((World.setCell (World.setCell (World.setCell w7 ⟨w.heap.size + 1, 0, none⟩ (.int .i64 4)) ⟨w.heap.size + 1, 1, none⟩ (.int .i64 0)) ⟨w.heap.size + 1, 2, none⟩ (.slice A R.outp.length ac))) = wf
                      obtain ⟨e0, e1, e2, e3, e4⟩ := fin3 (w := w) (W := W) (ac:=ac) 4 0 HR7.out (Nat.le_succ _) hbr (rdb_own HX7.out.M.out) HA2.out (HB.out.trans (HX7.out.M.b.mono HB.out.size)) wf hwf.symm
                      clear r0 r1 r2 f0 f1 f2
                      refine bodyPost_ret (by simp [results, Tryd.results13, go_sem, e0, e1, e2]; try rfl) rfl ?_
                      rw [HRS.out]
                      exact ⟨⟨A, ac, rfl, e3, HAA.out.2⟩, e4⟩
                  · have HOV := Lib.hid hov
                    have g14 : wr.cell? ⟨xb, 14, none⟩ = some (.bool true) := HX.out.c_hi 4 _ (by simp [xTl, hov])
                    clear hov
                    obtain ⟨A, ac, rfl, hA, hA2⟩ := out_read2 HX.out.M.out
                    have HRS : Hid (runM u inp fuel = ⟨R.how, R.code, R.outp⟩) := Lib.hid (by
                      rw [HRES.out, ← HIT.out, iter_over HOV.out]
                      unfold Rn.res
                      rw [HOV.out]
                      rfl)
                    have HAA := Lib.hid hA
                    have HA2 := Lib.hid hA2
                    have HR7 := Lib.hid (keepB HX.out.M.b HBR.out)
                    have k1 : wr.cell? ⟨xb, 15, none⟩ = some (.int .i64 R.how) := HX.out.c_hi 5 _ rfl
                    have k2 : wr.cell? ⟨xb, 16, none⟩ = some (.int .i64 R.code) := HX.out.c_hi 6 _ rfl
                    have k3 : wr.cell? ⟨xb, 17, none⟩ = some (.slice A R.outp.length ac) := HX.out.c_hi 7 _ rfl
                    have r0 := cell_of_heap HR7.out 0 (.int .i64 0) rfl
                    have r1 := cell_of_heap HR7.out 1 (.int .i64 0) rfl
                    have r2 := cell_of_heap HR7.out 2 (.slice none 0 0) rfl
                    have f0 := free_of_heap HR7.out 0
                    have f1 := free_of_heap HR7.out 1
                    have f2 := free_of_heap HR7.out 2
                    clear hA hA2 HIT
                    have hzz : z = 0 ∨ 0 < z := by omega
                    rcases hzz with rfl | hz0
                    · go_wp2
                      (try simp only [Exit.inBlock, Exit.then])
                      generalize hwf : ((World.setCell (World.setCell (World.setCell wr ⟨w.heap.size + 1, 0, none⟩ (.int .i64 R.how)) ⟨w.heap.size + 1, 1, none⟩ (.int .i64 R.code)) ⟨w.heap.size + 1, 2, none⟩ (.slice A R.outp.length ac))) = wf
                      obtain ⟨e0, e1, e2, e3, e4⟩ := fin3 (w := w) (W := W) (ac:=ac) R.how R.code HR7.out (Nat.le_succ _) hbr HAA.out.1 HA2.out (HB.out.trans (HX.out.M.b.mono HB.out.size)) wf hwf.symm
                      clear r0 r1 r2 f0 f1 f2
                      refine bodyPost_ret (by simp [results, Tryd.results13, go_sem, e0, e1, e2]; try rfl) rfl ?_
                      rw [HRS.out]
                      exact ⟨⟨A, ac, rfl, e3, HAA.out.2⟩, e4⟩
                    · have q0 : decide ((z : Int) > 0) = true := by simp; omega
                      have q1 : decide (0 < (z : Int)) = true := by simp; omega
                      go_wp2
                      (try simp only [Exit.inBlock, Exit.then])
                      generalize hwf : ((World.setCell (World.setCell (World.setCell wr ⟨w.heap.size + 1, 0, none⟩ (.int .i64 R.how)) ⟨w.heap.size + 1, 1, none⟩ (.int .i64 R.code)) ⟨w.heap.size + 1, 2, none⟩ (.slice A R.outp.length ac))) = wf
                      obtain ⟨e0, e1, e2, e3, e4⟩ := fin3 (w := w) (W := W) (ac:=ac) R.how R.code HR7.out (Nat.le_succ _) hbr HAA.out.1 HA2.out (HB.out.trans (HX.out.M.b.mono HB.out.size)) wf hwf.symm
                      clear r0 r1 r2 f0 f1 f2
                      refine bodyPost_ret (by simp [results, Tryd.results13, go_sem, e0, e1, e2]; try rfl) rfl ?_
                      rw [HRS.out]
                      exact ⟨⟨A, ac, rfl, e3, HAA.out.2⟩, e4⟩
end Go.Proofs.YtihbgppcacaekaaDoor
