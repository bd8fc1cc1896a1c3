import Derived.Test.YtihbgppcacaekaaDoorRh
import Derived.Test.YtihbgppcacaekaaDoorRj
import Derived.Test.YtihbgppcacaekaaDoorRm4
/- MachRights. -/
namespace Go.Proofs.YtihbgppcacaekaaDoor
open Go.RowKit Go.BigFrame

theorem main_beq (s : ByteArray) : (s.toList == [109, 97, 105, 110]) = decide (s = mainB) := by
  have h := bytes_beq s mainB
  rw [← h]
  congr 1
  rw [Go.ByteArray.toList_eq mainB]
  rfl
/-- is one named main -/
def hasMain (l : List Ob) : Bool := l.any fun o => decide (o.name = mainB)
theorem hasMain_snoc {l : List Ob} {k : Nat} {f : Ob} (h : l[k]? = some f) : hasMain (l.take (k + 1)) = (hasMain (l.take k) || decide (f.name = mainB)) := by
  unfold hasMain
  rw [List.take_add_one, h, List.any_append]
  simp
set_option maxRecDepth 1000000 in
set_option maxHeartbeats 16000000 in
theorem machRights_any (u : Im) (F G : Option Addr) (cF cG : Nat) (I : Option Addr) (icap : Nat) (inp : List Int) (w : World) (hT : Tabs w) (h : RdU w F G u) (hI : RdB w I inp) (hic : inp.length ≤ icap) (hby : ∀ a ∈ inp, 0 ≤ a ∧ a ≤ 255) (htop : u.top ≤ 9223372036854775807) :
    Calls Tryd.prog 6 #[imAgg u F G cF cG, .slice I inp.length icap] w fun e w' => e = .returned (.bool true) ∧ Below w.heap.size w w' := by
  have HT := Lib.hid hT
  obtain ⟨N, hN⟩ : ∃ N, u.objs.length = N := ⟨_, rfl⟩
  obtain ⟨M, hM⟩ : ∃ M, u.globs.length = M := ⟨_, rfl⟩
  obtain ⟨n, hn⟩ : ∃ n, inp.length = n := ⟨_, rfl⟩
  have hb0 := Below.one w (imObj u F G cF cG)
  have hx := heap_alloc_new w (imObj u F G cF cG)
  have hfew := Few_any u F G cF cG (w.alloc (imObj u F G cF cG)) (h.below hb0)
  have hU := h.below hb0
  have hI0 := hI.below hb0
  obtain ⟨W, hW⟩ : ∃ W, w.alloc (imObj u F G cF cG) = W := ⟨_, rfl⟩
  rw [hW] at hb0 hx hfew hU hI0
  simp only [imObj, imAgg, hN, hM] at hx hW hfew ⊢
  rw [hn]
  have HB0 := Lib.hid hb0
  have HX := Lib.hid hx
  have HU := Lib.hid hU
  have HI := Lib.hid hI0
  have HN := Lib.hid hN
  have HM := Lib.hid hM
  have HNL := Lib.hid hn
  have HIC := Lib.hid hic
  have HBY := Lib.hid hby
  have HTOP := Lib.hid htop
  have hlt : w.heap.size < W.heap.size := (Array.getElem?_eq_some_iff.1 hx).1
  have g0 := cell_of_heap hx 0 _ rfl
  have g1 := cell_of_heap hx 1 _ rfl
  have g2 := cell_of_heap hx 2 _ rfl
  clear hT hb0 hx hU hI0 h hI hic hby htop hN hM hn
  go_enter Tryd.func6, Tryd.ntmps6
  go_wp2_with fail
  refine hfew.mono ?_
  rintro e w1 ⟨⟨ok, rfl, hok⟩, hb1⟩
  have HB6 := Lib.hid (HB0.out.trans (hb1.mono HB0.out.size))
  have HX1 := Lib.hid (keepB hb1 HX.out)
  have HU1 := Lib.hid (HU.out.below hb1)
  have HI1 := Lib.hid (HI.out.below hb1)
  have hT6 := HT.out.below HB6.out
  have hlt1 : w.heap.size < w1.heap.size := Nat.lt_of_lt_of_le hlt hb1.size
  have HOK := Lib.hid hok
  clear hfew g0 g1 g2 hok hb1 hW
  cases ok
  case false =>
    go_wp2_with fail
    refine (awake_any _ hT6).mono ?_
    rintro e w7 ⟨rfl, hb7⟩
    go_wp2
    go_returns
    exact ⟨rfl, HB6.out.trans (hb7.mono HB6.out.size)⟩
  have HFEW : Hid (FewM u) := Lib.hid (HOK.out.1 rfl)
  by_cases hbig : 200 < n
  · have q1 : decide ((n : Int) > 200) = true := by simp; omega
    have q2 : decide (200 < (n : Int)) = true := by simp; omega
    go_wp2_with fail
    refine (awake_any _ hT6).mono ?_
    rintro e w7 ⟨rfl, hb7⟩
    go_wp2
    go_returns
    exact ⟨rfl, HB6.out.trans (hb7.mono HB6.out.size)⟩
  have q1 : decide ((n : Int) > 200) = false := by simp; omega
  have q2 : decide (200 < (n : Int)) = false := by simp; omega
  have HN6 : Hid (N ≤ 6) := Lib.hid (by have := HFEW.out.1; rw [HN.out] at this; exact this)
  have HRI : Hid (∀ W', Below w1.heap.size w1 W' → Calls Tryd.prog 20 #[.agg #[.slice F N cF, .slice G M cG, .int .i64 u.top]] W' fun e w' => e = .returned (.bool (rightM u)) ∧ Below W'.heap.size W' w') := Lib.hid (fun W' hb => by
    have := Right_any u F G cF cG W' (hT6.below hb) (HU1.out.below hb) (by have := HFEW.out.1; omega) (by have := HFEW.out.2.1; omega) (fun o ho => by have := (HFEW.out.2.2 o ho).2.1; omega) HTOP.out
    simp only [imAgg, HN.out, HM.out] at this
    exact this)
  obtain ⟨rm, hrm⟩ : ∃ rm, rightM u = rm := ⟨_, rfl⟩
  rw [hrm] at HRI
  have HRM := Lib.hid hrm
  have hx := HX1.out
  have g0 := cell_of_heap hx 0 _ rfl
  have hn6 := HN6.out
  clear hrm hbig hx
  go_upto_region 5 with fail
  clear q1 q2 g0
  go_loopw [5, 21] (fun v5 ix wq => ∃ k : Nat, k ≤ N ∧ v5 = .bool (hasMain (u.objs.take k)) ∧ ix = .int .i64 k ∧ Below w1.heap.size w1 wq) (fun _ ix _ => N - (intOf ix).toNat)
  case atStart => exact ⟨0, Nat.zero_le _, rfl, rfl, Below.refl _ _⟩
  case round =>
    obtain ⟨k, hk, rfl, rfl, hb⟩ := hrel
    have HBB := Lib.hid hb
    obtain ⟨mn, hmn⟩ : ∃ mn, hasMain (u.objs.take k) = mn := ⟨_, rfl⟩
    rw [hmn]
    have HMN := Lib.hid hmn
    clear hmn
    by_cases hlt2 : k < N
    · obtain ⟨f, hf⟩ : ∃ f, u.objs[k]? = some f := ⟨_, List.getElem?_eq_getElem (by rw [HN.out]; exact hlt2)⟩
      obtain ⟨b, ofs, C, cap, rfl, hbl, hcs, hRL⟩ := (HU1.out.fs.below hb) k f hf
      obtain ⟨x0, x1, x2, x3⟩ := ob_cells hcs
      have hms := hasMain_snoc hf
      have hmb := main_beq f.name
      obtain ⟨c, hc⟩ : ∃ c, decide (f.name = mainB) = c := ⟨_, rfl⟩
      rw [hc] at hmb hms
      rw [HMN.out] at hms
      have hfl : f.lines.length ≤ 80 := (HFEW.out.2.2 f (List.mem_of_getElem? hf)).2.1
      obtain ⟨n', hn'⟩ : ∃ n, f.lines.length = n := ⟨_, rfl⟩
      have hb2 := Below.one wr (obObj f C cap)
      have hro := RightObject_any f C cap (wr.alloc (obObj f C cap)) ((hT6.below hb).below hb2) (by omega) (hRL.below hb2)
      have hbx := heap_alloc_new wr (obObj f C cap)
      obtain ⟨rr, hrr⟩ : ∃ rr, rightO f = rr := ⟨_, rfl⟩
      rw [hrr] at hro
      simp only [obObj, obAgg, hn'] at hro hb2 hbx
      have HB2 := Lib.hid (hb.trans (hb2.mono hb.size))
      have HMS := Lib.hid hms
      have HRO := Lib.hid hrr
      have HF := Lib.hid hf
      have gx := cell_of_heap (keepB hb HX1.out) 0 _ rfl
      obtain ⟨y0, y1, y2, y3⟩ := ob_cells4' hbx
      have hx2 := alloc_keeps (keepB hb HX1.out) (.cells #[.string f.name, .int .i64 f.slots, .int .i64 f.frame, .slice C n' cap] 39 (0, 0))
      have HX2 := Lib.hid hx2
      rw [hn'] at x3
      clear hcs hRL hms hfl hn' hb2 hbx hrr hx2 hb hc hf
      have hrg : rr = false → rm = true → False := fun h1 h2 => by
        have := rightM_all (HRM.out.trans h2) f (List.mem_of_getElem? HF.out)
        rw [HRO.out, h1] at this
        cases this
      cases rr
      · have hrm0 : rm = false := by cases rm; rfl; exact (hrg rfl rfl).elim
        subst hrm0
        clear hrg
        cases mn <;> cases c
        · go_wp2_with fail
          refine hro.mono ?_
          rintro e w3 ⟨rfl, hb3⟩
          have HB3 := Lib.hid (HB2.out.trans (hb3.mono HB2.out.size))
          have hx3 := keepB hb3 HX2.out
          have z0 := cell_of_heap hx3 0 _ rfl
          have z1 := cell_of_heap hx3 1 _ rfl
          have z2 := cell_of_heap hx3 2 _ rfl
          clear hb3 hx3 x0 x1 x2 x3 y0 y1 y2 y3 gx hro
          go_wp2_with fail
          refine (HRI.out _ HB3.out).mono ?_
          rintro e w4 ⟨rfl, hb4⟩
          go_wp2
          exact ⟨⟨k + 1, by omega, by rw [HMS.out]; rfl, by go_num, HB3.out.trans (hb4.mono HB3.out.size)⟩, by simp [intOf]; omega⟩
        · go_wp2_with fail
          refine hro.mono ?_
          rintro e w3 ⟨rfl, hb3⟩
          have HB3 := Lib.hid (HB2.out.trans (hb3.mono HB2.out.size))
          have hx3 := keepB hb3 HX2.out
          have z0 := cell_of_heap hx3 0 _ rfl
          have z1 := cell_of_heap hx3 1 _ rfl
          have z2 := cell_of_heap hx3 2 _ rfl
          clear hb3 hx3 x0 x1 x2 x3 y0 y1 y2 y3 gx hro
          go_wp2_with fail
          refine (HRI.out _ HB3.out).mono ?_
          rintro e w4 ⟨rfl, hb4⟩
          go_wp2
          exact ⟨⟨k + 1, by omega, by rw [HMS.out]; rfl, by go_num, HB3.out.trans (hb4.mono HB3.out.size)⟩, by simp [intOf]; omega⟩
        · go_wp2_with fail
          refine hro.mono ?_
          rintro e w3 ⟨rfl, hb3⟩
          have HB3 := Lib.hid (HB2.out.trans (hb3.mono HB2.out.size))
          have hx3 := keepB hb3 HX2.out
          have z0 := cell_of_heap hx3 0 _ rfl
          have z1 := cell_of_heap hx3 1 _ rfl
          have z2 := cell_of_heap hx3 2 _ rfl
          clear hb3 hx3 x0 x1 x2 x3 y0 y1 y2 y3 gx hro
          go_wp2_with fail
          refine (HRI.out _ HB3.out).mono ?_
          rintro e w4 ⟨rfl, hb4⟩
          go_wp2
          exact ⟨⟨k + 1, by omega, by rw [HMS.out]; rfl, by go_num, HB3.out.trans (hb4.mono HB3.out.size)⟩, by simp [intOf]; omega⟩
        · go_wp2_with fail
          refine hro.mono ?_
          rintro e w3 ⟨rfl, hb3⟩
          have HB3 := Lib.hid (HB2.out.trans (hb3.mono HB2.out.size))
          have hx3 := keepB hb3 HX2.out
          have z0 := cell_of_heap hx3 0 _ rfl
          have z1 := cell_of_heap hx3 1 _ rfl
          have z2 := cell_of_heap hx3 2 _ rfl
          clear hb3 hx3 x0 x1 x2 x3 y0 y1 y2 y3 gx hro
          go_wp2_with fail
          refine (HRI.out _ HB3.out).mono ?_
          rintro e w4 ⟨rfl, hb4⟩
          go_wp2
          exact ⟨⟨k + 1, by omega, by rw [HMS.out]; rfl, by go_num, HB3.out.trans (hb4.mono HB3.out.size)⟩, by simp [intOf]; omega⟩
      · clear hrg
        cases mn <;> cases c
        · go_wp2_with fail
          refine hro.mono ?_
          rintro e w3 ⟨rfl, hb3⟩
          clear x0 x1 x2 x3 y0 y1 y2 y3 gx hro
          go_wp2
          exact ⟨⟨k + 1, by omega, by rw [HMS.out]; rfl, by go_num, HB2.out.trans (hb3.mono HB2.out.size)⟩, by simp [intOf]; omega⟩
        · go_wp2_with fail
          refine hro.mono ?_
          rintro e w3 ⟨rfl, hb3⟩
          clear x0 x1 x2 x3 y0 y1 y2 y3 gx hro
          go_wp2
          exact ⟨⟨k + 1, by omega, by rw [HMS.out]; rfl, by go_num, HB2.out.trans (hb3.mono HB2.out.size)⟩, by simp [intOf]; omega⟩
        · go_wp2_with fail
          refine hro.mono ?_
          rintro e w3 ⟨rfl, hb3⟩
          clear x0 x1 x2 x3 y0 y1 y2 y3 gx hro
          go_wp2
          exact ⟨⟨k + 1, by omega, by rw [HMS.out]; rfl, by go_num, HB2.out.trans (hb3.mono HB2.out.size)⟩, by simp [intOf]; omega⟩
        · go_wp2_with fail
          refine hro.mono ?_
          rintro e w3 ⟨rfl, hb3⟩
          clear x0 x1 x2 x3 y0 y1 y2 y3 gx hro
          go_wp2
          exact ⟨⟨k + 1, by omega, by rw [HMS.out]; rfl, by go_num, HB2.out.trans (hb3.mono HB2.out.size)⟩, by simp [intOf]; omega⟩
    · obtain rfl : k = N := by omega
      have hall : u.objs.take k = u.objs := List.take_of_length_le (by rw [HN.out]; exact Nat.le_refl _)
      have hmm := HMN.out
      rw [hall] at hmm
      have HMM := Lib.hid hmm
      clear hall hmm HMN hlt2 hk
      have hx := keepB hb HX1.out
      have g0 := cell_of_heap hx 0 _ rfl
      have g1 := cell_of_heap hx 1 _ rfl
      have g2 := cell_of_heap hx 2 _ rfl
      have HBW := Lib.hid (HB6.out.trans (hb.mono HB6.out.size))
      clear hx hb
      by_cases hgo : mn = true ∧ rm = true
      · obtain ⟨rfl, rfl⟩ := hgo
        go_wp2_with fail
        refine (HRI.out _ HBB.out).mono ?_
        rintro e w3 ⟨rfl, hb3⟩
        have HB3 := Lib.hid (HBB.out.trans (hb3.mono HBB.out.size))
        have hx := keepB HB3.out HX1.out
        have g0 := cell_of_heap hx 0 _ rfl
        have g1 := cell_of_heap hx 1 _ rfl
        have g2 := cell_of_heap hx 2 _ rfl
        clear hx hb3
        go_upto_region 14 with fail
        have hnb := Below.one w3 (.cells #[.slice F k cF, .slice G M cG, .int .i64 u.top] 25 (0, 0))
        have HB4' := HB3.out.trans (hnb.mono HB3.out.size)
        have hi4 := alloc_keeps (keepB HB3.out HX1.out) (.cells #[.slice F k cF, .slice G M cG, .int .i64 u.top] 25 (0, 0))
        have hq4 := heap_alloc_new w3 (.cells #[.slice F k cF, .slice G M cG, .int .i64 u.top] 25 (0, 0))
        have hlt4 : w3.heap.size < (w3.alloc (.cells #[.slice F k cF, .slice G M cG, .int .i64 u.top] 25 (0, 0))).heap.size := by simp
        have hge4 : w1.heap.size ≤ w3.heap.size := HB3.out.size
        obtain ⟨bb, hbb⟩ : ∃ bb, w3.heap.size = bb := ⟨_, rfl⟩
        rw [hbb] at hq4 hlt4 hge4
        rw [hbb]
        obtain ⟨W4, hW4⟩ : ∃ W4, w3.alloc (.cells #[.slice F k cF, .slice G M cG, .int .i64 u.top] 25 (0, 0)) = W4 := ⟨_, rfl⟩
        rw [hW4] at HB4' hi4 hq4 hlt4 ⊢
        have HB4 := Lib.hid HB4'
        have HI4 := Lib.hid hi4
        have HQ4 := Lib.hid hq4
        have hpos : 0 < k := by
          have h1 := HN.out
          have h2 := HMM.out
          cases hl : u.objs with
          | nil => rw [hl] at h2; cases h2
          | cons a t => rw [hl] at h1; simp at h1; omega
        obtain ⟨L, hLm, hLX⟩ := rdX_of HU1.out.fs
        have hLl : L.length = k := by rw [← HN.out, ← hLm, List.length_map]
        obtain ⟨x0, hx0⟩ : ∃ x, L[0]? = some x := ⟨_, List.getElem?_eq_getElem (by omega)⟩
        obtain ⟨fb, fo, hF, hfb, hcs0, hRL0⟩ := hLX 0 x0 hx0
        subst hF
        have HLM := Lib.hid hLm
        have HLX := Lib.hid hLX
        have HLL := Lib.hid hLl
        have HX0 := Lib.hid hx0
        have hk6 : k ≤ 6 := HN6.out
        clear hnb HB4' hi4 hq4 hbb hW4 hLm hLX hLl hx0 hfb hcs0 hRL0 g0 g1 g2
        refine wp_region_noPanic ?_
        obtain ⟨vals, hvals⟩ : ∃ vals : List Value, vals = [undef, .pointer (some ⟨w.heap.size, 0, none⟩), .slice (some ⟨fb, fo, none⟩) k cF, undef, .pointer (some ⟨w.heap.size, 0, none⟩), .slice (some ⟨fb, fo, none⟩) k cF, .pointer (some ⟨fb, fo, none⟩), .agg (oxL x0).toArray] := ⟨_, rfl⟩
        have HV := Lib.hid hvals
        clear hvals
        refine wp_region_grown 10 (RtI W4 L x0 vals) (by kernel_rfl) (by kernel_rfl) ?_ ?_ ?_
        · exact ⟨(Below.refl _ _).drew, (fun i v h => by cases h), fun _ => rfl, fun _ => rfl, (fun v h => by cases h), (fun v h => by cases h), (fun v h => by cases h), (fun v h => by cases h)⟩
        · intro i op σ wr hi ho hI hsi hdep
          have hz : ∀ (j : Nat) v', ([undef, .pointer (some ⟨w.heap.size, 0, none⟩), .slice (some ⟨fb, fo, none⟩) k cF, undef, .pointer (some ⟨w.heap.size, 0, none⟩), .slice (some ⟨fb, fo, none⟩) k cF, .pointer (some ⟨fb, fo, none⟩), .agg (oxL x0).toArray] : List Value)[j]? = some v' → vals[j]? = some v' := fun j v' h => by rw [HV.out]; exact h
          have c0 := cell_of_heap ((hI.b.block _ (Nat.lt_of_lt_of_le hlt1 HB4.out.size)).trans HI4.out) 0 _ rfl
          have hLX := HLX.out.below (HB4.out.trans (hI.b.mono HB4.out.size))
          obtain ⟨fb', fo', hF, _, hcs0, _⟩ := hLX 0 x0 HX0.out
          simp only [Option.some.injEq, Addr.mk.injEq, and_true] at hF
          obtain ⟨rfl, rfl⟩ := hF
          rcases (by omega : i = 0 ∨ i = 1 ∨ i = 2 ∨ i = 3 ∨ i = 4 ∨ i = 5 ∨ i = 6 ∨ i = 7 ∨ i = 8 ∨ i = 9) with rfl | rfl | rfl | rfl | rfl | rfl | rfl | rfl | rfl | rfl
          all_goals (simp only [List.getElem?_cons_zero, List.getElem?_cons_succ] at ho; obtain rfl := Option.some.inj ho)
          · exact Or.inl ⟨_, _, bslT _ 0 #[] rfl #[] (by simp) (bsl_0 wr), hI.op0 hsi⟩
          · exact Or.inl ⟨_, _, fldT _ 0 (.tmp 2) rfl _ (by rw [evalT_old (by kernel_rfl)]; rfl) (fm_0 wr w.heap.size), hI.quiet 1 _ (by omega) (hz 1 _ rfl)⟩
          · have e1 := hI.told (j := 1) (by omega) (hz 1 _ rfl) (hdep ⟨1, .data⟩ (by simp) rfl)
            exact Or.inl ⟨_, _, ldT _ (.tmp 56) rfl _ _ (evalT_told 1 (by kernel_rfl) e1) c0 (naO _), hI.quiet 2 _ (by omega) (hz 2 _ rfl)⟩
          · obtain ⟨v0, e0⟩ := some_of (hdep ⟨0, .data⟩ (by simp) rfl)
            have e2 := hI.told (j := 2) (by omega) (hz 2 _ rfl) (hdep ⟨2, .data⟩ (by simp) rfl)
            obtain ⟨V', w', hr, ho, hg, hn⟩ := run_append_ob wr W4.heap.size v0 [] L (hI.g0 v0 e0 hsi) fb fo k cF HLL.out.symm (Or.inl hLX) (by have := HLL.out; simp; omega) hI.b.size
            exact Or.inl ⟨_, _, appT _ (.tmp 55) (.tmp 57) rfl _ _ (evalT_told 0 (by kernel_rfl) e0) (evalT_told 2 (by kernel_rfl) e2) hr, hI.op3 hsi e0 ho hg hn⟩
          · exact Or.inl ⟨_, _, fldT _ 0 (.tmp 2) rfl _ (by rw [evalT_old (by kernel_rfl)]; rfl) (fm_0 wr w.heap.size), hI.quiet 4 _ (by omega) (hz 4 _ rfl)⟩
          · have e4 := hI.told (j := 4) (by omega) (hz 4 _ rfl) (hdep ⟨4, .data⟩ (by simp) rfl)
            exact Or.inl ⟨_, _, ldT _ (.tmp 59) rfl _ _ (evalT_told 4 (by kernel_rfl) e4) c0 (naO _), hI.quiet 5 _ (by omega) (hz 5 _ rfl)⟩
          · have e5 := hI.told (j := 5) (by omega) (hz 5 _ rfl) (hdep ⟨5, .data⟩ (by simp) rfl)
            exact Or.inl ⟨_, _, idxT _ (.tmp 60) (.const (.int .i64 0)) rfl _ _ (evalT_told 5 (by kernel_rfl) e5) rfl (ix_o wr fb fo k cF hpos), hI.quiet 6 _ (by omega) (hz 6 _ rfl)⟩
          · have e6 := hI.told (j := 6) (by omega) (hz 6 _ rfl) (hdep ⟨6, .data⟩ (by simp) rfl)
            exact Or.inl ⟨_, _, ldO (.tmp 61) rfl fb fo (evalT_told 6 (by kernel_rfl) e6) _ _ _ _ (hcs0 0 (by omega)) (hcs0 1 (by omega)) (hcs0 2 (by omega)) (hcs0 3 (by omega)), hI.quiet 7 _ (by omega) (hz 7 _ rfl)⟩
          · have e7 := hI.told (j := 7) (by omega) (hz 7 _ rfl) (hdep ⟨7, .data⟩ (by simp) rfl)
            refine Or.inl ⟨_, _, bslT _ 1 #[(0, .tmp 62)] rfl #[(0, .agg (oxL x0).toArray)] ?_ (bsl_1 wr x0), hI.op8 hsi⟩
            simp only [List.map_toArray, List.map_cons, List.map_nil]
            rw [evalT_told 7 (by kernel_rfl) e7]
          · obtain ⟨v3, e3⟩ := some_of (hdep ⟨3, .data⟩ (by simp) rfl)
            obtain ⟨v8, e8⟩ := some_of (hdep ⟨8, .data⟩ (by simp) rfl)
            obtain ⟨q, rfl, _, hq2, _, _⟩ := hI.g8 v8 e8
            obtain ⟨V', w', hr, ho, hg, hn⟩ := run_append_ob wr W4.heap.size v3 L [x0] (hI.g3 v3 e3 hsi) q 0 1 1 rfl (Or.inr (Or.inr ⟨x0, rfl, rfl, hq2⟩)) (by have := HLL.out; simp; omega) hI.b.size
            exact Or.inl ⟨_, _, appT _ (.tmp 58) (.tmp 63) rfl _ _ (evalT_told 3 (by kernel_rfl) e3) (evalT_told 8 (by kernel_rfl) e8) hr, hI.op9 hsi e3 e8 ho hg⟩
        · intro σ wr hI hsome
          obtain ⟨v0, e0⟩ := some_of (hsome 0 (by omega))
          obtain ⟨v1, e1⟩ := some_of (hsome 1 (by omega))
          obtain ⟨v2, e2⟩ := some_of (hsome 2 (by omega))
          obtain ⟨v3, e3⟩ := some_of (hsome 3 (by omega))
          obtain ⟨v4, e4⟩ := some_of (hsome 4 (by omega))
          obtain ⟨v5, e5⟩ := some_of (hsome 5 (by omega))
          obtain ⟨v6, e6⟩ := some_of (hsome 6 (by omega))
          obtain ⟨v7, e7⟩ := some_of (hsome 7 (by omega))
          obtain ⟨v8, e8⟩ := some_of (hsome 8 (by omega))
          obtain ⟨v9, e9⟩ := some_of (hsome 9 (by omega))
          have hown := hI.g9 v9 e9
          have HBR : Hid (Below w1.heap.size w1 wr) := Lib.hid (HB4.out.trans (hI.b.mono HB4.out.size))
          have hlines : ∀ W', Below w1.heap.size w1 W' → ∀ x ∈ L ++ [x0], RdL W' x.2.1 x.1.lines := fun W' hb x hx => by
            have hm : x ∈ L := by
              rcases List.mem_append.1 hx with hx | hx
              · exact hx
              · rw [List.mem_singleton.1 hx]; exact List.mem_of_getElem? HX0.out
            exact rdX_lines HLX.out x hm hb
          obtain ⟨A, cap9, hv9, _⟩ := hown.read (hlines wr HBR.out)
          have hlen9 : (L ++ [x0]).length = k + 1 := by rw [List.length_append, HLL.out]; rfl
          rw [hlen9] at hv9
          subst hv9
          have hbox := (hI.b.block _ hlt4).trans HQ4.out
          have t0 := cell_of_heap hbox 0 _ rfl
          have f0 := free_of_heap hbox 0
          have HBOX := Lib.hid hbox
          have HOWN := Lib.hid hown
          have HLN := Lib.hid hlines
          simp only [List.take_succ_cons, List.take_zero, List.drop_succ_cons, List.drop_zero, putsT, e0, e1, e2, e3, e4, e5, e6, e7, e8, e9, Option.getD_some]
          clear hI hsome e0 e1 e2 e3 e4 e5 e6 e7 e8 e9 hown hlines hbox
          go_frame
          go_wp2_with fail
          refine NoPanic.normal ?_
          have HA := Lib.hid (show True from trivial)
          generalize hwf : wr.setCell ⟨bb, 0, none⟩ (.slice A (k + 1) cap9) = wf
          have hbox2 : wf.heap[bb]? = some (.cells #[.slice A (k + 1) cap9, .slice G M cG, .int .i64 u.top] 25 (0, 0)) := by rw [← hwf]; exact heap_setCell (j := 0) HBOX.out _
          have hbf : Below w1.heap.size w1 wf := by rw [← hwf]; exact HBR.out.setCell (p := ⟨bb, 0, none⟩) hge4 _
          have hown2 : OwnO wf W4.heap.size (.slice A (k + 1) cap9) (L ++ [x0]) := by
            rw [← hwf]
            exact ownsRow_keep HOWN.out fun g _ _ cur hcu => heap_setCell_other wr ⟨bb, 0, none⟩ g _ (ty_ne hcu HBOX.out (by decide))
          obtain ⟨A', cap', hAe, hrx⟩ := hown2.read (HLN.out wf hbf)
          have hA' : A = A' := by injection hAe
          subst hA'
          have hro := hrx.rdO
          have hobj : (L ++ [x0]).map (·.1) = u.objs ++ [x0.1] := by rw [List.map_append, HLM.out]; rfl
          rw [hobj] at hro
          have hx0m : x0.1 ∈ u.objs := by rw [← HLM.out]; exact List.mem_map_of_mem (List.mem_of_getElem? HX0.out)
          have hTf := hT6.below hbf
          have hlenN : (u.objs ++ [x0.1]).length = k + 1 := by rw [List.length_append, HN.out]; rfl
          have hright := Right_any { u with objs := u.objs ++ [x0.1] } A G cap9 cG wf hTf ⟨hro, HU1.out.gs.below hbf⟩ (by show (u.objs ++ [x0.1]).length ≤ _; omega) (by have := HFEW.out.2.1; show u.globs.length ≤ _; omega) (fun o ho => by
            rcases List.mem_append.1 ho with ho | ho
            · have := (HFEW.out.2.2 o ho).2.1; omega
            · rw [List.mem_singleton.1 ho]; have := (HFEW.out.2.2 x0.1 hx0m).2.1; omega) HTOP.out
          rw [twice_not u x0.1 hx0m] at hright
          simp only [imAgg, hlenN, HM.out] at hright
          have g0 := cell_of_heap hbox2 0 _ rfl
          have g1 := cell_of_heap hbox2 1 _ rfl
          have g2 := cell_of_heap hbox2 2 _ rfl
          have HBF := Lib.hid hbf
          clear hwf hown2 hAe hrx hro hobj hx0m hTf hlenN hbf hbox2 t0 f0 HA
          go_wp2_with fail
          refine hright.mono ?_
          rintro e w8 ⟨rfl, hb8⟩
          have HB8 := Lib.hid (HB6.out.trans ((HBF.out.trans (hb8.mono HBF.out.size)).mono HB6.out.size))
          have hT8 := HT.out.below HB8.out
          clear hright hb8 g0 g1 g2
          go_wp2_with fail
          refine (awake_any _ hT8).mono ?_
          rintro e w9 ⟨rfl, hb9⟩
          go_wp2
          go_returns
          exact ⟨rfl, HB8.out.trans (hb9.mono HB8.out.size)⟩
      · have HRU : Hid (runM u inp 100 = ⟨4, 0, []⟩) := Lib.hid (run_not u inp 100 (by
          rw [HRM.out]
          cases rm
          · exact Or.inl rfl
          · cases mn
            · refine Or.inr fun o ho e => ?_
              have h1 := HMM.out
              unfold hasMain at h1
              rw [List.any_eq_false] at h1
              exact h1 o ho (decide_eq_true e)
            · exact absurd ⟨rfl, rfl⟩ hgo))
        cases mn
        · have hrun := Run_any u F G cF cG I icap inp 100 wr (hT6.below HBB.out) (HU1.out.below HBB.out) (HI1.out.below HBB.out) HIC.out HBY.out (by have := HFEW.out.1; omega) (by have := HFEW.out.2.1; omega) (fun o ho => by have := (HFEW.out.2.2 o ho).2.1; omega) HTOP.out (by omega)
          rw [HRU.out] at hrun
          simp only [imAgg, HN.out, HM.out, HNL.out] at hrun
          go_wp2_with fail
          refine hrun.mono ?_
          rintro e w4 ⟨⟨A, ac, rfl, _⟩, hb4⟩
          have HB4 := Lib.hid (HBB.out.trans (hb4.mono HBB.out.size))
          clear hrun hb4 g0 g1 g2
          go_wp2_with fail
          refine (res7 ⟨4, 0, []⟩ rfl _ A ac).mono ?_
          rintro e w5 ⟨rfl, hb5⟩
          have HB5 := Lib.hid (HB6.out.trans ((HB4.out.trans (hb5.mono HB4.out.size)).mono HB6.out.size))
          have hT5 := HT.out.below HB5.out
          clear hb5
          go_wp2_with fail
          refine (awake_any _ hT5).mono ?_
          rintro e w7 ⟨rfl, hb7⟩
          go_wp2
          go_returns
          exact ⟨rfl, HB5.out.trans (hb7.mono HB5.out.size)⟩
        · have hrm0 : rm = false := by cases rm; rfl; exact (hgo ⟨rfl, rfl⟩).elim
          subst hrm0
          go_wp2_with fail
          refine (HRI.out _ HBB.out).mono ?_
          rintro e w3 ⟨rfl, hb3⟩
          have HBB3 := Lib.hid (HBB.out.trans (hb3.mono HBB.out.size))
          have hx := keepB HBB3.out HX1.out
          clear g0 g1 g2 hb3
          have g0 := cell_of_heap hx 0 _ rfl
          have g1 := cell_of_heap hx 1 _ rfl
          have g2 := cell_of_heap hx 2 _ rfl
          clear hx
          have hrun := Run_any u F G cF cG I icap inp 100 w3 (hT6.below HBB3.out) (HU1.out.below HBB3.out) (HI1.out.below HBB3.out) HIC.out HBY.out (by have := HFEW.out.1; omega) (by have := HFEW.out.2.1; omega) (fun o ho => by have := (HFEW.out.2.2 o ho).2.1; omega) HTOP.out (by omega)
          rw [HRU.out] at hrun
          simp only [imAgg, HN.out, HM.out, HNL.out] at hrun
          go_wp2_with fail
          refine hrun.mono ?_
          rintro e w4 ⟨⟨A, ac, rfl, _⟩, hb4⟩
          have HB4 := Lib.hid (HBB3.out.trans (hb4.mono HBB3.out.size))
          clear hrun hb4 g0 g1 g2
          go_wp2_with fail
          refine (res7 ⟨4, 0, []⟩ rfl _ A ac).mono ?_
          rintro e w5 ⟨rfl, hb5⟩
          have HB5 := Lib.hid (HB6.out.trans ((HB4.out.trans (hb5.mono HB4.out.size)).mono HB6.out.size))
          have hT5 := HT.out.below HB5.out
          clear hb5
          go_wp2_with fail
          refine (awake_any _ hT5).mono ?_
          rintro e w7 ⟨rfl, hb7⟩
          go_wp2
          go_returns
          exact ⟨rfl, HB5.out.trans (hb7.mono HB5.out.size)⟩
end Go.Proofs.YtihbgppcacaekaaDoor
