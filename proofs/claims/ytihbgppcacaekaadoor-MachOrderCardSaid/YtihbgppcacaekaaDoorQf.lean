import Derived.Test.YtihbgppcacaekaaDoorQe
/- right: whether a line may be. -/
namespace Go.Proofs.YtihbgppcacaekaaDoor
open Go.RowKit Go.BigFrame

/-- the loop over a line's parts: what holds ahead of part k -/
def PtI (W1 wx : World) (l : Ln) (P : List UInt8) (PB : ByteArray) (g k : Nat) : Prop :=
  g + k = P.length ∧ wx.heap[W1.heap.size + 1]? = some (.stringIter PB k) ∧ wx.heap[W1.heap.size]? = some (bareL l (P.take k)).obj ∧ Below W1.heap.size W1 wx ∧ ∀ p ∈ P.take k, partOk l p = true
theorem set_obj {w : World} {b : Nat} {B : Ln} (h : w.heap[b]? = some B.obj) (p : UInt8) (hp : p = 114 ∨ p = 97 ∨ p = 98 ∨ p = 110 ∨ p = 111) : (w.setCell ⟨b, offR p.toNat, none⟩ (.int .i64 0)).heap[b]? = some (B.set p 0).obj := by
  have h1 := heap_setCell (j := offR p.toNat) h (.int .i64 0)
  rw [h1]
  rcases hp with rfl | rfl | rfl | rfl | rfl <;> rfl
set_option maxRecDepth 1000000 in
set_option maxHeartbeats 16000000 in
theorem right_any (l : Ln) (o : Ob) (C : Option Addr) (cap : Nat) (w : World) (h : Tabs w) (_hlen : o.lines.length ≤ 9223372036854775807) : Calls Tryd.prog 32 #[l.agg, obAgg o C cap] w fun e w' => e = .returned (.bool (rightL l o)) ∧ Below w.heap.size w w' := by
  clear _hlen
  have b0 := heap_alloc_new w l.obj
  have b1 := heap_alloc_new (w.alloc l.obj) (obObj o C cap)
  rw [show (w.alloc l.obj).heap.size = w.heap.size + 1 by simp] at b1
  have hB0 : Below w.heap.size w ((w.alloc l.obj).alloc (obObj o C cap)) := (Below.one w _).alloc (by simp) _
  have b0 := alloc_keeps b0 (obObj o C cap)
  have hs2 : ((w.alloc l.obj).alloc (obObj o C cap)).heap.size = w.heap.size + 2 := by simp
  simp only [Ln.obj] at b0 b1 hB0 hs2
  obtain ⟨W, hW⟩ : ∃ W, (w.alloc (.cells #[.int .i64 l.op, .int .i64 l.r, .int .i64 l.a, .int .i64 l.b, .int .i64 l.n, .string l.text] 36 (0, 0))).alloc (obObj o C cap) = W := ⟨_, rfl⟩
  rw [hW] at b0 b1 hB0 hs2
  obtain ⟨N, hN⟩ : ∃ N, o.lines.length = N := ⟨_, rfl⟩
  simp only [obObj, hN] at hW b1
  have hT := h.below hB0
  have x0 := cell_of_heap b0 0 (.int .i64 l.op) rfl
  have HB := Lib.hid hB0
  have HLB := Lib.hid b0
  have HOB := Lib.hid b1
  have HS := Lib.hid hs2
  have HN := Lib.hid hN
  have hsh := shape_any l.op W hT
  obtain ⟨NM, hNM⟩ : ∃ NM, (shp l.op).1 = NM := ⟨_, rfl⟩
  obtain ⟨P, hP⟩ : ∃ P, (shp l.op).2 = P := ⟨_, rfl⟩
  rw [hNM, hP] at hsh
  have HNM := Lib.hid hNM
  have HP := Lib.hid hP
  clear b0 b1 hB0 hs2 h hNM hP
  simp only [obAgg, hN]
  clear hN
  go_enter Tryd.func32, Tryd.ntmps32
  go_wp2_with fail
  refine hsh.mono ?_
  rintro e W1 ⟨rfl, hb1⟩
  clear x0 hsh
  have hlW : w.heap.size < W.heap.size := (Array.getElem?_eq_some_iff.1 HLB.out).1
  have hoW : w.heap.size + 1 < W.heap.size := (Array.getElem?_eq_some_iff.1 HOB.out).1
  have b0 := (hb1.block _ hlW).trans HLB.out
  have b1 := (hb1.block _ hoW).trans HOB.out
  have hT1 := hT.below hb1
  have x0 := cell_of_heap b0 0 (.int .i64 l.op) rfl
  have x1 := cell_of_heap b0 1 (.int .i64 l.r) rfl
  have x2 := cell_of_heap b0 2 (.int .i64 l.a) rfl
  have x3 := cell_of_heap b0 3 (.int .i64 l.b) rfl
  have x4 := cell_of_heap b0 4 (.int .i64 l.n) rfl
  have x5 := cell_of_heap b0 5 (.string l.text) rfl
  have hlW1 : w.heap.size < W1.heap.size := Nat.lt_of_lt_of_le hlW hb1.size
  have hoW1 : w.heap.size + 1 < W1.heap.size := Nat.lt_of_lt_of_le hoW hb1.size
  have HLB1 := Lib.hid b0
  have HOB1 := Lib.hid b1
  have HB1 : Hid (Below w.heap.size w W1) := Lib.hid (HB.out.trans (hb1.mono HB.out.size))
  have hnd := named_any l.text W1
  have e0 : ((⟨NM.toArray⟩ : ByteArray).toList == []) = NM.isEmpty := by rw [ba_list]; cases NM <;> rfl
  have e1 : (l.text.toList == []) = l.text.data.toList.isEmpty := empty_beq l.text
  have e2 : ((⟨P.toArray⟩ : ByteArray).toList == [116]) = decide (P = [116]) := by rw [ba_list]; rw [Bool.eq_iff_iff]; simp
  have HTX : Hid (textOk l = if P = [116] then namedL l.text.data.toList else l.text.data.toList.isEmpty) := Lib.hid (by unfold textOk; rw [HP.out])
  have HRL : Hid (rightL l o = (!NM.isEmpty && textOk l && P.all (partOk l) && decide (bareL l P = Ln.zero) && numOk l o)) := Lib.hid (by unfold rightL; rw [HNM.out, HP.out])
  have HLT : Hid (∀ p ∈ P, p = 114 ∨ p = 97 ∨ p = 98 ∨ p = 110 ∨ p = 111 ∨ p = 116) := Lib.hid (by rw [← HP.out]; exact fun p hp => shp_letters l.op p hp)
  have HNE : Hid (l.text.data.toList.isEmpty = true → namedL l.text.data.toList = false) := Lib.hid (fun hh => by unfold namedL; rw [hh]; rfl)
  obtain ⟨c0, h0⟩ : ∃ c0, NM.isEmpty = c0 := ⟨_, rfl⟩
  obtain ⟨c1, h1⟩ : ∃ c1, l.text.data.toList.isEmpty = c1 := ⟨_, rfl⟩
  obtain ⟨c2, h2⟩ : ∃ c2, decide (P = [116]) = c2 := ⟨_, rfl⟩
  obtain ⟨c3, h3⟩ : ∃ c3, namedL l.text.data.toList = c3 := ⟨_, rfl⟩
  have HC0 := Lib.hid h0
  rw [h0] at e0 HRL
  rw [h1] at e1 HTX
  rw [h2] at e2
  rw [h3] at hnd HTX HNE
  rw [h1] at HNE
  have H2 := Lib.hid h2
  have hneq := fun w => neq_ln (bareL l P) Ln.zero w
  obtain ⟨NB, hNB⟩ : ∃ NB, (⟨NM.toArray⟩ : ByteArray) = NB := ⟨_, rfl⟩
  obtain ⟨PB, hPB⟩ : ∃ PB, (⟨P.toArray⟩ : ByteArray) = PB := ⟨_, rfl⟩
  rw [hNB] at e0 ⊢
  rw [hPB] at e2 ⊢
  have HPB := Lib.hid hPB
  clear hb1 b0 b1 hT h0 h1 h2 h3 hW hNB hPB hlW hoW
  -- what is told when the text does not fit
  by_cases hgo : c0 = false ∧ c1 = !c2 ∧ (c2 = true → c3 = true)
  case neg =>
    have hno : rightL l o = false := by
      rw [HRL.out, HTX.out]
      have hNE := HNE.out
      have hH2 := H2.out
      clear HLB HOB HS HLB1 HOB1 hneq e0 e1 e2 x0 x1 x2 x3 x4 x5 hnd HLT HNM HP HRL HTX
      cases c0 <;> cases c1 <;> cases c2 <;> cases c3 <;> (try have hP2 := of_decide_eq_true hH2) <;> (try have hP2 := of_decide_eq_false hH2) <;> simp_all
    have HNO := Lib.hid hno
    clear hno HRL HTX H2 HLT HP HNM HN HS HLB HLB1 HOB HOB1 HB HPB hneq hT1
    cases c0 <;> cases c1 <;> cases c2 <;> cases c3 <;> (first | (exfalso; simp at hgo; done) | skip)
    all_goals
      clear hgo
      go_wp2_with (first
        | (go_at_call 31; refine hnd.mono ?_; rintro e w5 ⟨rfl, hb5⟩))
      go_returns
      first
        | exact ⟨by rw [HNO.out] <;> rfl, HB1.out⟩
        | exact ⟨by rw [HNO.out] <;> rfl, HB1.out.trans (hb5.mono HB1.out.size)⟩
  obtain ⟨g0, g1, g2⟩ := hgo
  have HNE0 : Hid (NM.isEmpty = false) := Lib.hid (HC0.out.trans g0)
  have HRL2 : Hid (rightL l o = (P.all (partOk l) && decide (bareL l P = Ln.zero) && numOk l o)) := Lib.hid (by
    have htx : textOk l = true := by
      rw [HTX.out]
      cases c2
      · rw [if_neg (of_decide_eq_false H2.out), g1]; rfl
      · rw [if_pos (of_decide_eq_true H2.out), g2 rfl]
    rw [HRL.out, htx, g0]
    simp)
  subst g0 g1
  clear HRL HTX HNE H2 HS HLB HOB
  cases c2
  · clear g2 hnd
    go_wp2
    have hbare := heap_alloc_new W1 (.cells #[.int .i64 0, .int .i64 l.r, .int .i64 l.a, .int .i64 l.b, .int .i64 l.n, .string ⟨#[]⟩] 36 (0, 0))
    go_loopg [] P.length (fun gf wx => ∃ k, PtI W1 wx l P PB gf k)
    case atStart => exact ⟨0, by omega, by simpa using World.iter_heap (W1.alloc (.cells #[.int .i64 0, .int .i64 l.r, .int .i64 l.a, .int .i64 l.b, .int .i64 l.n, .string ⟨#[]⟩] 36 (0, 0))) PB 0, (Below.one _ _).block _ (by simp) |>.trans hbare, ((Below.refl _ W1).alloc (Nat.le_refl _) _).alloc (by simp) _, fun p hp => by simp at hp⟩
    case round =>
      clear hbare x0 x1 x2 x3 x4 x5
      obtain ⟨k, hk0, hit, hbr, hbw, hpa⟩ := hrel
      by_cases hlt : k < P.length
      · clear hneq
        obtain ⟨g', rfl⟩ : ∃ g', gk = g' + 1 := ⟨gk - 1, by omega⟩
        obtain ⟨p, hp⟩ : ∃ p, P[k]? = some p := ⟨_, List.getElem?_eq_getElem hlt⟩
        have hmem := List.mem_of_getElem? hp
        have hl6 := HLT.out p hmem
        have hp128 : p.toNat < 128 := by rcases hl6 with rfl | rfl | rfl | rfl | rfl | rfl <;> decide
        obtain ⟨hps, hde⟩ := decode_part P k p hp hp128
        rw [HPB.out] at hps hde
        have hnx : ∀ ty, (Instr.next (.pointer (some ⟨W1.heap.size + 1, 0, none⟩)) true ty).run Tryd.prog wr = _ := fun ty => Lib.run_next_any_at wr _ PB k ty hit hps
        simp only [hde] at hnx
        have hit2 := Lib.iterAt_heap wr _ PB k (k + 1) hit
        have hbr2 := (Lib.iterAt_other wr (W1.heap.size + 1) W1.heap.size PB (k + 1) (by omega)).trans hbr
        have hbw2 := Lib.below_iterAt hbw (k := W1.heap.size + 1) (by omega) PB (k + 1)
        have htk : P.take (k + 1) = P.take k ++ [p] := by rw [List.take_add_one, hp]; rfl
        obtain ⟨Wn, hWn⟩ : ∃ Wn, wr.iterAt (W1.heap.size + 1) PB (k + 1) = Wn := ⟨_, rfl⟩
        rw [hWn] at hit2 hbr2 hbw2
        simp only [hWn] at hnx
        have hlb := (hbw2.block _ hlW1).trans HLB1.out
        have x1 := cell_of_heap hlb 1 (.int .i64 l.r) rfl
        have x2 := cell_of_heap hlb 2 (.int .i64 l.a) rfl
        have x3 := cell_of_heap hlb 3 (.int .i64 l.b) rfl
        have x4 := cell_of_heap hlb 4 (.int .i64 l.n) rfl
        obtain ⟨B, hBB⟩ : ∃ B, bareL l (P.take k) = B := ⟨_, rfl⟩
        rw [hBB] at hbr2
        obtain ⟨z0, z1, z2, z3, z4, z5⟩ := Ln.cells hbr2
        have f1 := free_of_heap hbr2 1
        have f2 := free_of_heap hbr2 2
        have f3 := free_of_heap hbr2 3
        have f4 := free_of_heap hbr2 4
        clear hde hps hWn hlb hbr hbw hit z0 z5 hp128
        rcases hl6 with rfl | rfl | rfl | rfl | rfl | rfl
        · have hfl : ∀ w', Calls Tryd.prog 40 #[.pointer (some ⟨w.heap.size, 0, none⟩), .int .i32 114] w' fun e w'' => e = .returned (.pointer (some ⟨w.heap.size, 1, none⟩)) ∧ w' = w'' := fun w' => field_any _ 114 w'
          have hfb : ∀ w', Calls Tryd.prog 40 #[.pointer (some ⟨W1.heap.size, 0, none⟩), .int .i32 114] w' fun e w'' => e = .returned (.pointer (some ⟨W1.heap.size, 1, none⟩)) ∧ w' = w'' := fun w' => field_any _ 114 w'
          have hcr : ∀ w', Calls Tryd.prog 48 #[.string ⟨#[114, 97, 98]⟩, .int .i32 114] w' fun e w'' => e = .returned (.bool true) ∧ w' = w'' := fun w' => rune_any 114 (by decide) w'
          have hcase : (decide (l.r < 0) = true ∧ l.r < 0) ∨ (decide (l.r < 0) = false ∧ decide (l.r ≥ 8) = true ∧ decide (8 ≤ l.r) = true ∧ 8 ≤ l.r) ∨ (decide (l.r < 0) = false ∧ decide (l.r ≥ 8) = false ∧ decide (8 ≤ l.r) = false ∧ 0 ≤ l.r ∧ l.r < 8) := by simp; omega
          rcases hcase with ⟨q1, hq⟩ | ⟨q1, q2, q3, hq⟩ | ⟨q1, q2, q3, hq1, hq2⟩
          · have HNO : Hid (rightL l o = false) := Lib.hid (by
              rw [HRL2.out]
              have hne : ¬ P.all (partOk l) = true := fun hall => by
                have h1 := List.all_eq_true.1 hall _ hmem
                simp [partOk, isReg, Ln.get] at h1
                omega
              rw [Bool.not_eq_true] at hne
              rw [hne]
              rfl)
            go_wp2_with (first
              | (go_at_call_of 40 (w.heap.size); refine (hfl _).mono ?_; rintro e w7 ⟨rfl, hw7⟩; subst hw7)
              | (go_at_call_of 40 (W1.heap.size); refine (hfb _).mono ?_; rintro e w8 ⟨rfl, hw8⟩; subst hw8)
              | (go_at_call 48; refine (hcr _).mono ?_; rintro e w6 ⟨rfl, hw6⟩; subst hw6))
            go_returns
            exact ⟨by rw [HNO.out] <;> rfl, (HB1.out.trans (hbw2.mono HB1.out.size))⟩
          · have HNO : Hid (rightL l o = false) := Lib.hid (by
              rw [HRL2.out]
              have hne : ¬ P.all (partOk l) = true := fun hall => by
                have h1 := List.all_eq_true.1 hall _ hmem
                simp [partOk, isReg, Ln.get] at h1
                omega
              rw [Bool.not_eq_true] at hne
              rw [hne]
              rfl)
            go_wp2_with (first
              | (go_at_call_of 40 (w.heap.size); refine (hfl _).mono ?_; rintro e w7 ⟨rfl, hw7⟩; subst hw7)
              | (go_at_call_of 40 (W1.heap.size); refine (hfb _).mono ?_; rintro e w8 ⟨rfl, hw8⟩; subst hw8)
              | (go_at_call 48; refine (hcr _).mono ?_; rintro e w6 ⟨rfl, hw6⟩; subst hw6))
            go_returns
            exact ⟨by rw [HNO.out] <;> rfl, (HB1.out.trans (hbw2.mono HB1.out.size))⟩
          · have hpo : partOk l 114 = true := by
              simp [partOk, isReg, Ln.get]
              omega
            clear hq1 hq2
            go_wp2_with (first
              | (go_at_call_of 40 (w.heap.size); refine (hfl _).mono ?_; rintro e w7 ⟨rfl, hw7⟩; subst hw7)
              | (go_at_call_of 40 (W1.heap.size); refine (hfb _).mono ?_; rintro e w8 ⟨rfl, hw8⟩; subst hw8)
              | (go_at_call 48; refine (hcr _).mono ?_; rintro e w6 ⟨rfl, hw6⟩; subst hw6))
            go_roundg g'
            case measure => omega
            case rel => exact ⟨k + 1, by omega, (heap_setCell_other _ ⟨W1.heap.size, 1, none⟩ _ _ (by simp)).trans hit2, by rw [htk, bareL_snoc, if_neg (by decide), hBB]; exact set_obj hbr2 114 (by decide), hbw2.setCell (Nat.le_refl _) _, fun q hq => by
              rw [htk] at hq
              rcases List.mem_append.1 hq with hq | hq
              · exact hpa q hq
              · rw [List.mem_singleton.1 hq]; exact hpo⟩
        · have hfl : ∀ w', Calls Tryd.prog 40 #[.pointer (some ⟨w.heap.size, 0, none⟩), .int .i32 97] w' fun e w'' => e = .returned (.pointer (some ⟨w.heap.size, 2, none⟩)) ∧ w' = w'' := fun w' => field_any _ 97 w'
          have hfb : ∀ w', Calls Tryd.prog 40 #[.pointer (some ⟨W1.heap.size, 0, none⟩), .int .i32 97] w' fun e w'' => e = .returned (.pointer (some ⟨W1.heap.size, 2, none⟩)) ∧ w' = w'' := fun w' => field_any _ 97 w'
          have hcr : ∀ w', Calls Tryd.prog 48 #[.string ⟨#[114, 97, 98]⟩, .int .i32 97] w' fun e w'' => e = .returned (.bool true) ∧ w' = w'' := fun w' => rune_any 97 (by decide) w'
          have hcase : (decide (l.a < 0) = true ∧ l.a < 0) ∨ (decide (l.a < 0) = false ∧ decide (l.a ≥ 8) = true ∧ decide (8 ≤ l.a) = true ∧ 8 ≤ l.a) ∨ (decide (l.a < 0) = false ∧ decide (l.a ≥ 8) = false ∧ decide (8 ≤ l.a) = false ∧ 0 ≤ l.a ∧ l.a < 8) := by simp; omega
          rcases hcase with ⟨q1, hq⟩ | ⟨q1, q2, q3, hq⟩ | ⟨q1, q2, q3, hq1, hq2⟩
          · have HNO : Hid (rightL l o = false) := Lib.hid (by
              rw [HRL2.out]
              have hne : ¬ P.all (partOk l) = true := fun hall => by
                have h1 := List.all_eq_true.1 hall _ hmem
                simp [partOk, isReg, Ln.get] at h1
                omega
              rw [Bool.not_eq_true] at hne
              rw [hne]
              rfl)
            go_wp2_with (first
              | (go_at_call_of 40 (w.heap.size); refine (hfl _).mono ?_; rintro e w7 ⟨rfl, hw7⟩; subst hw7)
              | (go_at_call_of 40 (W1.heap.size); refine (hfb _).mono ?_; rintro e w8 ⟨rfl, hw8⟩; subst hw8)
              | (go_at_call 48; refine (hcr _).mono ?_; rintro e w6 ⟨rfl, hw6⟩; subst hw6))
            go_returns
            exact ⟨by rw [HNO.out] <;> rfl, (HB1.out.trans (hbw2.mono HB1.out.size))⟩
          · have HNO : Hid (rightL l o = false) := Lib.hid (by
              rw [HRL2.out]
              have hne : ¬ P.all (partOk l) = true := fun hall => by
                have h1 := List.all_eq_true.1 hall _ hmem
                simp [partOk, isReg, Ln.get] at h1
                omega
              rw [Bool.not_eq_true] at hne
              rw [hne]
              rfl)
            go_wp2_with (first
              | (go_at_call_of 40 (w.heap.size); refine (hfl _).mono ?_; rintro e w7 ⟨rfl, hw7⟩; subst hw7)
              | (go_at_call_of 40 (W1.heap.size); refine (hfb _).mono ?_; rintro e w8 ⟨rfl, hw8⟩; subst hw8)
              | (go_at_call 48; refine (hcr _).mono ?_; rintro e w6 ⟨rfl, hw6⟩; subst hw6))
            go_returns
            exact ⟨by rw [HNO.out] <;> rfl, (HB1.out.trans (hbw2.mono HB1.out.size))⟩
          · have hpo : partOk l 97 = true := by
              simp [partOk, isReg, Ln.get]
              omega
            clear hq1 hq2
            go_wp2_with (first
              | (go_at_call_of 40 (w.heap.size); refine (hfl _).mono ?_; rintro e w7 ⟨rfl, hw7⟩; subst hw7)
              | (go_at_call_of 40 (W1.heap.size); refine (hfb _).mono ?_; rintro e w8 ⟨rfl, hw8⟩; subst hw8)
              | (go_at_call 48; refine (hcr _).mono ?_; rintro e w6 ⟨rfl, hw6⟩; subst hw6))
            go_roundg g'
            case measure => omega
            case rel => exact ⟨k + 1, by omega, (heap_setCell_other _ ⟨W1.heap.size, 2, none⟩ _ _ (by simp)).trans hit2, by rw [htk, bareL_snoc, if_neg (by decide), hBB]; exact set_obj hbr2 97 (by decide), hbw2.setCell (Nat.le_refl _) _, fun q hq => by
              rw [htk] at hq
              rcases List.mem_append.1 hq with hq | hq
              · exact hpa q hq
              · rw [List.mem_singleton.1 hq]; exact hpo⟩
        · have hfl : ∀ w', Calls Tryd.prog 40 #[.pointer (some ⟨w.heap.size, 0, none⟩), .int .i32 98] w' fun e w'' => e = .returned (.pointer (some ⟨w.heap.size, 3, none⟩)) ∧ w' = w'' := fun w' => field_any _ 98 w'
          have hfb : ∀ w', Calls Tryd.prog 40 #[.pointer (some ⟨W1.heap.size, 0, none⟩), .int .i32 98] w' fun e w'' => e = .returned (.pointer (some ⟨W1.heap.size, 3, none⟩)) ∧ w' = w'' := fun w' => field_any _ 98 w'
          have hcr : ∀ w', Calls Tryd.prog 48 #[.string ⟨#[114, 97, 98]⟩, .int .i32 98] w' fun e w'' => e = .returned (.bool true) ∧ w' = w'' := fun w' => rune_any 98 (by decide) w'
          have hcase : (decide (l.b < 0) = true ∧ l.b < 0) ∨ (decide (l.b < 0) = false ∧ decide (l.b ≥ 8) = true ∧ decide (8 ≤ l.b) = true ∧ 8 ≤ l.b) ∨ (decide (l.b < 0) = false ∧ decide (l.b ≥ 8) = false ∧ decide (8 ≤ l.b) = false ∧ 0 ≤ l.b ∧ l.b < 8) := by simp; omega
          rcases hcase with ⟨q1, hq⟩ | ⟨q1, q2, q3, hq⟩ | ⟨q1, q2, q3, hq1, hq2⟩
          · have HNO : Hid (rightL l o = false) := Lib.hid (by
              rw [HRL2.out]
              have hne : ¬ P.all (partOk l) = true := fun hall => by
                have h1 := List.all_eq_true.1 hall _ hmem
                simp [partOk, isReg, Ln.get] at h1
                omega
              rw [Bool.not_eq_true] at hne
              rw [hne]
              rfl)
            go_wp2_with (first
              | (go_at_call_of 40 (w.heap.size); refine (hfl _).mono ?_; rintro e w7 ⟨rfl, hw7⟩; subst hw7)
              | (go_at_call_of 40 (W1.heap.size); refine (hfb _).mono ?_; rintro e w8 ⟨rfl, hw8⟩; subst hw8)
              | (go_at_call 48; refine (hcr _).mono ?_; rintro e w6 ⟨rfl, hw6⟩; subst hw6))
            go_returns
            exact ⟨by rw [HNO.out] <;> rfl, (HB1.out.trans (hbw2.mono HB1.out.size))⟩
          · have HNO : Hid (rightL l o = false) := Lib.hid (by
              rw [HRL2.out]
              have hne : ¬ P.all (partOk l) = true := fun hall => by
                have h1 := List.all_eq_true.1 hall _ hmem
                simp [partOk, isReg, Ln.get] at h1
                omega
              rw [Bool.not_eq_true] at hne
              rw [hne]
              rfl)
            go_wp2_with (first
              | (go_at_call_of 40 (w.heap.size); refine (hfl _).mono ?_; rintro e w7 ⟨rfl, hw7⟩; subst hw7)
              | (go_at_call_of 40 (W1.heap.size); refine (hfb _).mono ?_; rintro e w8 ⟨rfl, hw8⟩; subst hw8)
              | (go_at_call 48; refine (hcr _).mono ?_; rintro e w6 ⟨rfl, hw6⟩; subst hw6))
            go_returns
            exact ⟨by rw [HNO.out] <;> rfl, (HB1.out.trans (hbw2.mono HB1.out.size))⟩
          · have hpo : partOk l 98 = true := by
              simp [partOk, isReg, Ln.get]
              omega
            clear hq1 hq2
            go_wp2_with (first
              | (go_at_call_of 40 (w.heap.size); refine (hfl _).mono ?_; rintro e w7 ⟨rfl, hw7⟩; subst hw7)
              | (go_at_call_of 40 (W1.heap.size); refine (hfb _).mono ?_; rintro e w8 ⟨rfl, hw8⟩; subst hw8)
              | (go_at_call 48; refine (hcr _).mono ?_; rintro e w6 ⟨rfl, hw6⟩; subst hw6))
            go_roundg g'
            case measure => omega
            case rel => exact ⟨k + 1, by omega, (heap_setCell_other _ ⟨W1.heap.size, 3, none⟩ _ _ (by simp)).trans hit2, by rw [htk, bareL_snoc, if_neg (by decide), hBB]; exact set_obj hbr2 98 (by decide), hbw2.setCell (Nat.le_refl _) _, fun q hq => by
              rw [htk] at hq
              rcases List.mem_append.1 hq with hq | hq
              · exact hpa q hq
              · rw [List.mem_singleton.1 hq]; exact hpo⟩
        · have hfl : ∀ w', Calls Tryd.prog 40 #[.pointer (some ⟨w.heap.size, 0, none⟩), .int .i32 110] w' fun e w'' => e = .returned (.pointer (some ⟨w.heap.size, 4, none⟩)) ∧ w' = w'' := fun w' => field_any _ 110 w'
          have hfb : ∀ w', Calls Tryd.prog 40 #[.pointer (some ⟨W1.heap.size, 0, none⟩), .int .i32 110] w' fun e w'' => e = .returned (.pointer (some ⟨W1.heap.size, 4, none⟩)) ∧ w' = w'' := fun w' => field_any _ 110 w'
          have hcr : ∀ w', Calls Tryd.prog 48 #[.string ⟨#[114, 97, 98]⟩, .int .i32 110] w' fun e w'' => e = .returned (.bool false) ∧ w' = w'' := fun w' => rune_any 110 (by decide) w'
          go_wp2_with (first
            | (go_at_call_of 40 (w.heap.size); refine (hfl _).mono ?_; rintro e w7 ⟨rfl, hw7⟩; subst hw7)
            | (go_at_call_of 40 (W1.heap.size); refine (hfb _).mono ?_; rintro e w8 ⟨rfl, hw8⟩; subst hw8)
            | (go_at_call 48; refine (hcr _).mono ?_; rintro e w6 ⟨rfl, hw6⟩; subst hw6))
          go_roundg g'
          case measure => omega
          case rel => exact ⟨k + 1, by omega, (heap_setCell_other _ ⟨W1.heap.size, 4, none⟩ _ _ (by simp)).trans hit2, by rw [htk, bareL_snoc, if_neg (by decide), hBB]; exact set_obj hbr2 110 (by decide), hbw2.setCell (Nat.le_refl _) _, fun q hq => by
            rw [htk] at hq
            rcases List.mem_append.1 hq with hq | hq
            · exact hpa q hq
            · rw [List.mem_singleton.1 hq]; rfl⟩
        · have hfl : ∀ w', Calls Tryd.prog 40 #[.pointer (some ⟨w.heap.size, 0, none⟩), .int .i32 111] w' fun e w'' => e = .returned (.pointer (some ⟨w.heap.size, 4, none⟩)) ∧ w' = w'' := fun w' => field_any _ 111 w'
          have hfb : ∀ w', Calls Tryd.prog 40 #[.pointer (some ⟨W1.heap.size, 0, none⟩), .int .i32 111] w' fun e w'' => e = .returned (.pointer (some ⟨W1.heap.size, 4, none⟩)) ∧ w' = w'' := fun w' => field_any _ 111 w'
          have hcr : ∀ w', Calls Tryd.prog 48 #[.string ⟨#[114, 97, 98]⟩, .int .i32 111] w' fun e w'' => e = .returned (.bool false) ∧ w' = w'' := fun w' => rune_any 111 (by decide) w'
          go_wp2_with (first
            | (go_at_call_of 40 (w.heap.size); refine (hfl _).mono ?_; rintro e w7 ⟨rfl, hw7⟩; subst hw7)
            | (go_at_call_of 40 (W1.heap.size); refine (hfb _).mono ?_; rintro e w8 ⟨rfl, hw8⟩; subst hw8)
            | (go_at_call 48; refine (hcr _).mono ?_; rintro e w6 ⟨rfl, hw6⟩; subst hw6))
          go_roundg g'
          case measure => omega
          case rel => exact ⟨k + 1, by omega, (heap_setCell_other _ ⟨W1.heap.size, 4, none⟩ _ _ (by simp)).trans hit2, by rw [htk, bareL_snoc, if_neg (by decide), hBB]; exact set_obj hbr2 111 (by decide), hbw2.setCell (Nat.le_refl _) _, fun q hq => by
            rw [htk] at hq
            rcases List.mem_append.1 hq with hq | hq
            · exact hpa q hq
            · rw [List.mem_singleton.1 hq]; rfl⟩
        · go_wp2
          go_roundg g'
          case measure => omega
          case rel => exact ⟨k + 1, by omega, hit2, by rw [htk, bareL_snoc, if_pos rfl, hBB]; exact hbr2, hbw2, fun q hq => by
            rw [htk] at hq
            rcases List.mem_append.1 hq with hq | hq
            · exact hpa q hq
            · rw [List.mem_singleton.1 hq]; rfl⟩
      · have hkl : k = P.length := by omega
        have hnx : ∀ ty, (Instr.next (.pointer (some ⟨W1.heap.size + 1, 0, none⟩)) true ty).run Tryd.prog wr = _ := fun ty => Lib.run_next_end_at wr _ PB k ty hit (by
          rw [← HPB.out]
          show ¬ k < P.toArray.size
          simpa using hlt)
        rw [hkl, List.take_length] at hbr hpa
        have hall : P.all (partOk l) = true := List.all_eq_true.2 hpa
        have hlb := (hbw.block _ hlW1).trans HLB1.out
        have hob := (hbw.block _ hoW1).trans HOB1.out
        have y0 := cell_of_heap hlb 0 (.int .i64 l.op) rfl
        have y4 := cell_of_heap hlb 4 (.int .i64 l.n) rfl
        have o1 := cell_of_heap hob 1 (.int .i64 o.slots) rfl
        have o2 := cell_of_heap hob 2 (.int .i64 o.frame) rfl
        have o3 := cell_of_heap hob 3 (.slice C N cap) rfl
        obtain ⟨z0, z1, z2, z3, z4, z5⟩ := Ln.cells hbr
        have HRB : Hid (rightL l o = (decide (bareL l P = Ln.zero) && numOk l o)) := Lib.hid (by rw [HRL2.out, hall]; rfl)
        obtain ⟨B, hBB⟩ : ∃ B, bareL l P = B := ⟨_, rfl⟩
        rw [hBB] at hbr z0 z1 z2 z3 z4 z5 HRB
        simp only [hBB] at hneq
        clear hpa hall hlb hob hbr HRL2 HLT hit hlt hk0 hkl HPB hBB
        obtain ⟨d, hd⟩ : ∃ d, decide (B = Ln.zero) = d := ⟨_, rfl⟩
        rw [hd] at HRB
        simp only [hd] at hneq
        simp only [Ln.zero, Ln.agg, show ByteArray.empty = (⟨#[]⟩ : ByteArray) from rfl] at hneq
        clear hd
        cases d
        · have HNO : Hid (rightL l o = false) := Lib.hid (by rw [HRB.out]; rfl)
          simp only [Bool.not_false] at hneq
          go_wp2
          go_returns
          exact ⟨by rw [HNO.out] <;> rfl, (HB1.out.trans (hbw.mono HB1.out.size))⟩
        · have HR3 : Hid (rightL l o = numOk l o) := Lib.hid (by rw [HRB.out]; rfl)
          simp only [Bool.not_true] at hneq
          have hop : 1 ≤ l.op ∧ l.op ≤ 18 := Classical.byContradiction fun hc => by
            have h1 := shp_out hc
            have h2 := HNM.out
            have h3 := HNE0.out
            rw [h1] at h2
            rw [← h2] at h3
            exact absurd h3 (by decide)
          clear HRB
          rcases op_cases hop with hh | hh | hh | hh | hh | hh | hh | hh | hh | hh | hh | hh | hh | hh | hh | hh | hh | hh
          · clear hop
            have hop : l.op = 1 := hh
            have HNU : Hid (rightL l o = numOk l o) := HR3
            rw [hop] at y0
            have HNO : Hid (numOk l o = decide (-2147483648 ≤ l.n ∧ l.n ≤ 2147483647)) := Lib.hid (by rw [show numOk l o = isWd l.n by simp [numOk, hop]]; unfold isWd; exact decide_eq_decide.2 (by omega))
            have hcall := fun w' => is_any l.n w'
            obtain ⟨cc, hcc⟩ : ∃ cc, decide (-2147483648 ≤ l.n ∧ l.n ≤ 2147483647) = cc := ⟨_, rfl⟩
            rw [hcc] at HNO
            simp only [hcc] at hcall
            clear hcc hop
            go_wp2_with (first
              | (go_at_call 37; refine (hcall _).mono ?_; rintro e w6 ⟨rfl, hw6⟩; subst hw6))
            go_returns
            exact ⟨by rw [HNU.out, HNO.out] <;> rfl, (HB1.out.trans (hbw.mono HB1.out.size))⟩
          · clear hop
            have hop : l.op = 2 := hh
            have HNU : Hid (rightL l o = numOk l o) := HR3
            rw [hop] at y0
            have HNO : Hid (numOk l o = decide (20 ≤ l.n ∧ l.n ≤ 23)) := Lib.hid (by simp [numOk, hop])
            have hcall := fun w' => one_any l.n w'
            obtain ⟨cc, hcc⟩ : ∃ cc, decide (20 ≤ l.n ∧ l.n ≤ 23) = cc := ⟨_, rfl⟩
            rw [hcc] at HNO
            simp only [hcc] at hcall
            clear hcc hop
            go_wp2_with (first
              | (go_at_call 49; refine (hcall _).mono ?_; rintro e w6 ⟨rfl, hw6⟩; subst hw6))
            go_returns
            exact ⟨by rw [HNU.out, HNO.out] <;> rfl, (HB1.out.trans (hbw.mono HB1.out.size))⟩
          · clear hop
            have hop : l.op = 3 := hh
            have HNU : Hid (rightL l o = numOk l o) := HR3
            rw [hop] at y0
            have HNO : Hid (numOk l o = decide (1 ≤ l.n ∧ l.n ≤ 19)) := Lib.hid (by simp [numOk, hop])
            have hcall := fun w' => two_any l.n w'
            obtain ⟨cc, hcc⟩ : ∃ cc, decide (1 ≤ l.n ∧ l.n ≤ 19) = cc := ⟨_, rfl⟩
            rw [hcc] at HNO
            simp only [hcc] at hcall
            clear hcc hop
            go_wp2_with (first
              | (go_at_call 50; refine (hcall _).mono ?_; rintro e w6 ⟨rfl, hw6⟩; subst hw6))
            go_returns
            exact ⟨by rw [HNU.out, HNO.out] <;> rfl, (HB1.out.trans (hbw.mono HB1.out.size))⟩
          · clear hop
            have hop : l.op = 4 := hh
            have HNU : Hid (rightL l o = numOk l o) := HR3
            rw [hop] at y0
            have HNO : Hid (numOk l o = true) := Lib.hid (by simp [numOk, hop])
            clear hop
            go_wp2
            go_returns
            exact ⟨by rw [HNU.out, HNO.out] <;> rfl, (HB1.out.trans (hbw.mono HB1.out.size))⟩
          · clear hop
            have hop : l.op = 5 := hh
            have HNU : Hid (rightL l o = numOk l o) := HR3
            rw [hop] at y0
            have HNO : Hid (numOk l o = (decide (0 ≤ l.n) && decide (l.n ≤ o.frame))) := Lib.hid (by simp [numOk, hop])
            have q1 : decide (l.n ≥ 0) = decide (0 ≤ l.n) := rfl
            obtain ⟨c1, hc1⟩ : ∃ c1, decide (0 ≤ l.n) = c1 := ⟨_, rfl⟩
            obtain ⟨c2, hc2⟩ : ∃ c2, decide (l.n ≤ o.frame) = c2 := ⟨_, rfl⟩
            rw [hc1] at q1 HNO
            rw [hc2] at HNO
            clear hop
            cases c1 <;> cases c2
            all_goals
              go_wp2
              go_returns
              exact ⟨by rw [HNU.out, HNO.out] <;> rfl, (HB1.out.trans (hbw.mono HB1.out.size))⟩
          · clear hop
            have hop : l.op = 6 := hh
            have HNU : Hid (rightL l o = numOk l o) := HR3
            rw [hop] at y0
            have HNO : Hid (numOk l o = true) := Lib.hid (by simp [numOk, hop])
            clear hop
            go_wp2
            go_returns
            exact ⟨by rw [HNU.out, HNO.out] <;> rfl, (HB1.out.trans (hbw.mono HB1.out.size))⟩
          · clear hop
            have hop : l.op = 7 := hh
            have HNU : Hid (rightL l o = numOk l o) := HR3
            rw [hop] at y0
            have HNO : Hid (numOk l o = true) := Lib.hid (by simp [numOk, hop])
            clear hop
            go_wp2
            go_returns
            exact ⟨by rw [HNU.out, HNO.out] <;> rfl, (HB1.out.trans (hbw.mono HB1.out.size))⟩
          · clear hop
            have hop : l.op = 8 := hh
            have HNU : Hid (rightL l o = numOk l o) := HR3
            rw [hop] at y0
            have HNO : Hid (numOk l o = (decide (0 ≤ l.n) && decide (l.n < o.slots))) := Lib.hid (by simp [numOk, hop])
            have q1 : decide (l.n ≥ 0) = decide (0 ≤ l.n) := rfl
            obtain ⟨c1, hc1⟩ : ∃ c1, decide (0 ≤ l.n) = c1 := ⟨_, rfl⟩
            obtain ⟨c2, hc2⟩ : ∃ c2, decide (l.n < o.slots) = c2 := ⟨_, rfl⟩
            rw [hc1] at q1 HNO
            rw [hc2] at HNO
            clear hop
            cases c1 <;> cases c2
            all_goals
              go_wp2
              go_returns
              exact ⟨by rw [HNU.out, HNO.out] <;> rfl, (HB1.out.trans (hbw.mono HB1.out.size))⟩
          · clear hop
            have hop : l.op = 9 := hh
            have HNU : Hid (rightL l o = numOk l o) := HR3
            rw [hop] at y0
            have HNO : Hid (numOk l o = (decide (0 ≤ l.n) && decide (l.n < o.slots))) := Lib.hid (by simp [numOk, hop])
            have q1 : decide (l.n ≥ 0) = decide (0 ≤ l.n) := rfl
            obtain ⟨c1, hc1⟩ : ∃ c1, decide (0 ≤ l.n) = c1 := ⟨_, rfl⟩
            obtain ⟨c2, hc2⟩ : ∃ c2, decide (l.n < o.slots) = c2 := ⟨_, rfl⟩
            rw [hc1] at q1 HNO
            rw [hc2] at HNO
            clear hop
            cases c1 <;> cases c2
            all_goals
              go_wp2
              go_returns
              exact ⟨by rw [HNU.out, HNO.out] <;> rfl, (HB1.out.trans (hbw.mono HB1.out.size))⟩
          · clear hop
            have hop : l.op = 10 := hh
            have HNU : Hid (rightL l o = numOk l o) := HR3
            rw [hop] at y0
            have HNO : Hid (numOk l o = (decide (0 ≤ l.n) && decide (l.n < 6))) := Lib.hid (by simp [numOk, hop])
            have q1 : decide (l.n ≥ 0) = decide (0 ≤ l.n) := rfl
            obtain ⟨c1, hc1⟩ : ∃ c1, decide (0 ≤ l.n) = c1 := ⟨_, rfl⟩
            obtain ⟨c2, hc2⟩ : ∃ c2, decide (l.n < 6) = c2 := ⟨_, rfl⟩
            rw [hc1] at q1 HNO
            rw [hc2] at HNO
            clear hop
            cases c1 <;> cases c2
            all_goals
              go_wp2
              go_returns
              exact ⟨by rw [HNU.out, HNO.out] <;> rfl, (HB1.out.trans (hbw.mono HB1.out.size))⟩
          · clear hop
            have hop : l.op = 11 := hh
            have HNU : Hid (rightL l o = numOk l o) := HR3
            rw [hop] at y0
            have HNO : Hid (numOk l o = (decide (0 ≤ l.n) && decide (l.n < 6))) := Lib.hid (by simp [numOk, hop])
            have q1 : decide (l.n ≥ 0) = decide (0 ≤ l.n) := rfl
            obtain ⟨c1, hc1⟩ : ∃ c1, decide (0 ≤ l.n) = c1 := ⟨_, rfl⟩
            obtain ⟨c2, hc2⟩ : ∃ c2, decide (l.n < 6) = c2 := ⟨_, rfl⟩
            rw [hc1] at q1 HNO
            rw [hc2] at HNO
            clear hop
            cases c1 <;> cases c2
            all_goals
              go_wp2
              go_returns
              exact ⟨by rw [HNU.out, HNO.out] <;> rfl, (HB1.out.trans (hbw.mono HB1.out.size))⟩
          · clear hop
            have hop : l.op = 12 := hh
            have HNU : Hid (rightL l o = numOk l o) := HR3
            rw [hop] at y0
            have HNO : Hid (numOk l o = true) := Lib.hid (by simp [numOk, hop])
            clear hop
            go_wp2
            go_returns
            exact ⟨by rw [HNU.out, HNO.out] <;> rfl, (HB1.out.trans (hbw.mono HB1.out.size))⟩
          · clear hop
            have hop : l.op = 13 := hh
            have HNU : Hid (rightL l o = numOk l o) := HR3
            rw [hop] at y0
            have HNO : Hid (numOk l o = true) := Lib.hid (by simp [numOk, hop])
            clear hop
            go_wp2
            go_returns
            exact ⟨by rw [HNU.out, HNO.out] <;> rfl, (HB1.out.trans (hbw.mono HB1.out.size))⟩
          · clear hop
            have hop : l.op = 14 := hh
            have HNU : Hid (rightL l o = numOk l o) := HR3
            rw [hop] at y0
            have HNO : Hid (numOk l o = true) := Lib.hid (by simp [numOk, hop])
            clear hop
            go_wp2
            go_returns
            exact ⟨by rw [HNU.out, HNO.out] <;> rfl, (HB1.out.trans (hbw.mono HB1.out.size))⟩
          · clear hop
            have hop : l.op = 15 := hh
            have HNU : Hid (rightL l o = numOk l o) := HR3
            rw [hop] at y0
            have HNO : Hid (numOk l o = true) := Lib.hid (by simp [numOk, hop])
            clear hop
            go_wp2
            go_returns
            exact ⟨by rw [HNU.out, HNO.out] <;> rfl, (HB1.out.trans (hbw.mono HB1.out.size))⟩
          · clear hop
            have hop : l.op = 16 := hh
            have HNU : Hid (rightL l o = numOk l o) := HR3
            rw [hop] at y0
            have HNO : Hid (numOk l o = (decide (0 ≤ l.n) && decide (l.n < (N : Int)))) := Lib.hid (by simp [numOk, hop, HN.out])
            have q1 : decide (l.n ≥ 0) = decide (0 ≤ l.n) := rfl
            obtain ⟨c1, hc1⟩ : ∃ c1, decide (0 ≤ l.n) = c1 := ⟨_, rfl⟩
            obtain ⟨c2, hc2⟩ : ∃ c2, decide (l.n < (N : Int)) = c2 := ⟨_, rfl⟩
            rw [hc1] at q1 HNO
            rw [hc2] at HNO
            clear hop
            cases c1 <;> cases c2
            all_goals
              go_wp2
              go_returns
              exact ⟨by rw [HNU.out, HNO.out] <;> rfl, (HB1.out.trans (hbw.mono HB1.out.size))⟩
          · clear hop
            have hop : l.op = 17 := hh
            have HNU : Hid (rightL l o = numOk l o) := HR3
            rw [hop] at y0
            have HNO : Hid (numOk l o = (decide (0 ≤ l.n) && decide (l.n < (N : Int)))) := Lib.hid (by simp [numOk, hop, HN.out])
            have q1 : decide (l.n ≥ 0) = decide (0 ≤ l.n) := rfl
            obtain ⟨c1, hc1⟩ : ∃ c1, decide (0 ≤ l.n) = c1 := ⟨_, rfl⟩
            obtain ⟨c2, hc2⟩ : ∃ c2, decide (l.n < (N : Int)) = c2 := ⟨_, rfl⟩
            rw [hc1] at q1 HNO
            rw [hc2] at HNO
            clear hop
            cases c1 <;> cases c2
            all_goals
              go_wp2
              go_returns
              exact ⟨by rw [HNU.out, HNO.out] <;> rfl, (HB1.out.trans (hbw.mono HB1.out.size))⟩
          · clear hop
            have hop : l.op = 18 := hh
            have HNU : Hid (rightL l o = numOk l o) := HR3
            rw [hop] at y0
            have HNO : Hid (numOk l o = true) := Lib.hid (by simp [numOk, hop])
            clear hop
            go_wp2
            go_returns
            exact ⟨by rw [HNU.out, HNO.out] <;> rfl, (HB1.out.trans (hbw.mono HB1.out.size))⟩
  · obtain rfl := g2 rfl
    go_wp2_with fail
    refine hnd.mono ?_
    rintro e w5 ⟨rfl, hb5⟩
    clear hnd x0 x1 x2 x3 x4 x5
    have b0 := (hb5.block _ hlW1).trans HLB1.out
    have b1 := (hb5.block _ hoW1).trans HOB1.out
    have hT5 := hT1.below hb5
    have x0 := cell_of_heap b0 0 (.int .i64 l.op) rfl
    have x1 := cell_of_heap b0 1 (.int .i64 l.r) rfl
    have x2 := cell_of_heap b0 2 (.int .i64 l.a) rfl
    have x3 := cell_of_heap b0 3 (.int .i64 l.b) rfl
    have x4 := cell_of_heap b0 4 (.int .i64 l.n) rfl
    have x5 := cell_of_heap b0 5 (.string l.text) rfl
    have hlW5 : w.heap.size < w5.heap.size := Nat.lt_of_lt_of_le hlW1 hb5.size
    have hoW5 : w.heap.size + 1 < w5.heap.size := Nat.lt_of_lt_of_le hoW1 hb5.size
    have HLB5 := Lib.hid b0
    have HOB5 := Lib.hid b1
    have HB5 : Hid (Below w.heap.size w w5) := Lib.hid (HB1.out.trans (hb5.mono HB1.out.size))
    clear HLB1 HOB1 HB1 hb5 hT1 b0 b1 hlW1 hoW1
    go_wp2
    have hbare := heap_alloc_new w5 (.cells #[.int .i64 0, .int .i64 l.r, .int .i64 l.a, .int .i64 l.b, .int .i64 l.n, .string ⟨#[]⟩] 36 (0, 0))
    go_loopg [] P.length (fun gf wx => ∃ k, PtI w5 wx l P PB gf k)
    case atStart => exact ⟨0, by omega, by simpa using World.iter_heap (w5.alloc (.cells #[.int .i64 0, .int .i64 l.r, .int .i64 l.a, .int .i64 l.b, .int .i64 l.n, .string ⟨#[]⟩] 36 (0, 0))) PB 0, (Below.one _ _).block _ (by simp) |>.trans hbare, ((Below.refl _ w5).alloc (Nat.le_refl _) _).alloc (by simp) _, fun p hp => by simp at hp⟩
    case round =>
      clear hbare x0 x1 x2 x3 x4 x5
      obtain ⟨k, hk0, hit, hbr, hbw, hpa⟩ := hrel
      by_cases hlt : k < P.length
      · clear hneq
        obtain ⟨g', rfl⟩ : ∃ g', gk = g' + 1 := ⟨gk - 1, by omega⟩
        obtain ⟨p, hp⟩ : ∃ p, P[k]? = some p := ⟨_, List.getElem?_eq_getElem hlt⟩
        have hmem := List.mem_of_getElem? hp
        have hl6 := HLT.out p hmem
        have hp128 : p.toNat < 128 := by rcases hl6 with rfl | rfl | rfl | rfl | rfl | rfl <;> decide
        obtain ⟨hps, hde⟩ := decode_part P k p hp hp128
        rw [HPB.out] at hps hde
        have hnx : ∀ ty, (Instr.next (.pointer (some ⟨w5.heap.size + 1, 0, none⟩)) true ty).run Tryd.prog wr = _ := fun ty => Lib.run_next_any_at wr _ PB k ty hit hps
        simp only [hde] at hnx
        have hit2 := Lib.iterAt_heap wr _ PB k (k + 1) hit
        have hbr2 := (Lib.iterAt_other wr (w5.heap.size + 1) w5.heap.size PB (k + 1) (by omega)).trans hbr
        have hbw2 := Lib.below_iterAt hbw (k := w5.heap.size + 1) (by omega) PB (k + 1)
        have htk : P.take (k + 1) = P.take k ++ [p] := by rw [List.take_add_one, hp]; rfl
        obtain ⟨Wn, hWn⟩ : ∃ Wn, wr.iterAt (w5.heap.size + 1) PB (k + 1) = Wn := ⟨_, rfl⟩
        rw [hWn] at hit2 hbr2 hbw2
        simp only [hWn] at hnx
        have hlb := (hbw2.block _ hlW5).trans HLB5.out
        have x1 := cell_of_heap hlb 1 (.int .i64 l.r) rfl
        have x2 := cell_of_heap hlb 2 (.int .i64 l.a) rfl
        have x3 := cell_of_heap hlb 3 (.int .i64 l.b) rfl
        have x4 := cell_of_heap hlb 4 (.int .i64 l.n) rfl
        obtain ⟨B, hBB⟩ : ∃ B, bareL l (P.take k) = B := ⟨_, rfl⟩
        rw [hBB] at hbr2
        obtain ⟨z0, z1, z2, z3, z4, z5⟩ := Ln.cells hbr2
        have f1 := free_of_heap hbr2 1
        have f2 := free_of_heap hbr2 2
        have f3 := free_of_heap hbr2 3
        have f4 := free_of_heap hbr2 4
        clear hde hps hWn hlb hbr hbw hit z0 z5 hp128
        rcases hl6 with rfl | rfl | rfl | rfl | rfl | rfl
        · have hfl : ∀ w', Calls Tryd.prog 40 #[.pointer (some ⟨w.heap.size, 0, none⟩), .int .i32 114] w' fun e w'' => e = .returned (.pointer (some ⟨w.heap.size, 1, none⟩)) ∧ w' = w'' := fun w' => field_any _ 114 w'
          have hfb : ∀ w', Calls Tryd.prog 40 #[.pointer (some ⟨w5.heap.size, 0, none⟩), .int .i32 114] w' fun e w'' => e = .returned (.pointer (some ⟨w5.heap.size, 1, none⟩)) ∧ w' = w'' := fun w' => field_any _ 114 w'
          have hcr : ∀ w', Calls Tryd.prog 48 #[.string ⟨#[114, 97, 98]⟩, .int .i32 114] w' fun e w'' => e = .returned (.bool true) ∧ w' = w'' := fun w' => rune_any 114 (by decide) w'
          have hcase : (decide (l.r < 0) = true ∧ l.r < 0) ∨ (decide (l.r < 0) = false ∧ decide (l.r ≥ 8) = true ∧ decide (8 ≤ l.r) = true ∧ 8 ≤ l.r) ∨ (decide (l.r < 0) = false ∧ decide (l.r ≥ 8) = false ∧ decide (8 ≤ l.r) = false ∧ 0 ≤ l.r ∧ l.r < 8) := by simp; omega
          rcases hcase with ⟨q1, hq⟩ | ⟨q1, q2, q3, hq⟩ | ⟨q1, q2, q3, hq1, hq2⟩
          · have HNO : Hid (rightL l o = false) := Lib.hid (by
              rw [HRL2.out]
              have hne : ¬ P.all (partOk l) = true := fun hall => by
                have h1 := List.all_eq_true.1 hall _ hmem
                simp [partOk, isReg, Ln.get] at h1
                omega
              rw [Bool.not_eq_true] at hne
              rw [hne]
              rfl)
            go_wp2_with (first
              | (go_at_call_of 40 (w.heap.size); refine (hfl _).mono ?_; rintro e w7 ⟨rfl, hw7⟩; subst hw7)
              | (go_at_call_of 40 (w5.heap.size); refine (hfb _).mono ?_; rintro e w8 ⟨rfl, hw8⟩; subst hw8)
              | (go_at_call 48; refine (hcr _).mono ?_; rintro e w6 ⟨rfl, hw6⟩; subst hw6))
            go_returns
            exact ⟨by rw [HNO.out] <;> rfl, (HB5.out.trans (hbw2.mono HB5.out.size))⟩
          · have HNO : Hid (rightL l o = false) := Lib.hid (by
              rw [HRL2.out]
              have hne : ¬ P.all (partOk l) = true := fun hall => by
                have h1 := List.all_eq_true.1 hall _ hmem
                simp [partOk, isReg, Ln.get] at h1
                omega
              rw [Bool.not_eq_true] at hne
              rw [hne]
              rfl)
            go_wp2_with (first
              | (go_at_call_of 40 (w.heap.size); refine (hfl _).mono ?_; rintro e w7 ⟨rfl, hw7⟩; subst hw7)
              | (go_at_call_of 40 (w5.heap.size); refine (hfb _).mono ?_; rintro e w8 ⟨rfl, hw8⟩; subst hw8)
              | (go_at_call 48; refine (hcr _).mono ?_; rintro e w6 ⟨rfl, hw6⟩; subst hw6))
            go_returns
            exact ⟨by rw [HNO.out] <;> rfl, (HB5.out.trans (hbw2.mono HB5.out.size))⟩
          · have hpo : partOk l 114 = true := by
              simp [partOk, isReg, Ln.get]
              omega
            clear hq1 hq2
            go_wp2_with (first
              | (go_at_call_of 40 (w.heap.size); refine (hfl _).mono ?_; rintro e w7 ⟨rfl, hw7⟩; subst hw7)
              | (go_at_call_of 40 (w5.heap.size); refine (hfb _).mono ?_; rintro e w8 ⟨rfl, hw8⟩; subst hw8)
              | (go_at_call 48; refine (hcr _).mono ?_; rintro e w6 ⟨rfl, hw6⟩; subst hw6))
            go_roundg g'
            case measure => omega
            case rel => exact ⟨k + 1, by omega, (heap_setCell_other _ ⟨w5.heap.size, 1, none⟩ _ _ (by simp)).trans hit2, by rw [htk, bareL_snoc, if_neg (by decide), hBB]; exact set_obj hbr2 114 (by decide), hbw2.setCell (Nat.le_refl _) _, fun q hq => by
              rw [htk] at hq
              rcases List.mem_append.1 hq with hq | hq
              · exact hpa q hq
              · rw [List.mem_singleton.1 hq]; exact hpo⟩
        · have hfl : ∀ w', Calls Tryd.prog 40 #[.pointer (some ⟨w.heap.size, 0, none⟩), .int .i32 97] w' fun e w'' => e = .returned (.pointer (some ⟨w.heap.size, 2, none⟩)) ∧ w' = w'' := fun w' => field_any _ 97 w'
          have hfb : ∀ w', Calls Tryd.prog 40 #[.pointer (some ⟨w5.heap.size, 0, none⟩), .int .i32 97] w' fun e w'' => e = .returned (.pointer (some ⟨w5.heap.size, 2, none⟩)) ∧ w' = w'' := fun w' => field_any _ 97 w'
          have hcr : ∀ w', Calls Tryd.prog 48 #[.string ⟨#[114, 97, 98]⟩, .int .i32 97] w' fun e w'' => e = .returned (.bool true) ∧ w' = w'' := fun w' => rune_any 97 (by decide) w'
          have hcase : (decide (l.a < 0) = true ∧ l.a < 0) ∨ (decide (l.a < 0) = false ∧ decide (l.a ≥ 8) = true ∧ decide (8 ≤ l.a) = true ∧ 8 ≤ l.a) ∨ (decide (l.a < 0) = false ∧ decide (l.a ≥ 8) = false ∧ decide (8 ≤ l.a) = false ∧ 0 ≤ l.a ∧ l.a < 8) := by simp; omega
          rcases hcase with ⟨q1, hq⟩ | ⟨q1, q2, q3, hq⟩ | ⟨q1, q2, q3, hq1, hq2⟩
          · have HNO : Hid (rightL l o = false) := Lib.hid (by
              rw [HRL2.out]
              have hne : ¬ P.all (partOk l) = true := fun hall => by
                have h1 := List.all_eq_true.1 hall _ hmem
                simp [partOk, isReg, Ln.get] at h1
                omega
              rw [Bool.not_eq_true] at hne
              rw [hne]
              rfl)
            go_wp2_with (first
              | (go_at_call_of 40 (w.heap.size); refine (hfl _).mono ?_; rintro e w7 ⟨rfl, hw7⟩; subst hw7)
              | (go_at_call_of 40 (w5.heap.size); refine (hfb _).mono ?_; rintro e w8 ⟨rfl, hw8⟩; subst hw8)
              | (go_at_call 48; refine (hcr _).mono ?_; rintro e w6 ⟨rfl, hw6⟩; subst hw6))
            go_returns
            exact ⟨by rw [HNO.out] <;> rfl, (HB5.out.trans (hbw2.mono HB5.out.size))⟩
          · have HNO : Hid (rightL l o = false) := Lib.hid (by
              rw [HRL2.out]
              have hne : ¬ P.all (partOk l) = true := fun hall => by
                have h1 := List.all_eq_true.1 hall _ hmem
                simp [partOk, isReg, Ln.get] at h1
                omega
              rw [Bool.not_eq_true] at hne
              rw [hne]
              rfl)
            go_wp2_with (first
              | (go_at_call_of 40 (w.heap.size); refine (hfl _).mono ?_; rintro e w7 ⟨rfl, hw7⟩; subst hw7)
              | (go_at_call_of 40 (w5.heap.size); refine (hfb _).mono ?_; rintro e w8 ⟨rfl, hw8⟩; subst hw8)
              | (go_at_call 48; refine (hcr _).mono ?_; rintro e w6 ⟨rfl, hw6⟩; subst hw6))
            go_returns
            exact ⟨by rw [HNO.out] <;> rfl, (HB5.out.trans (hbw2.mono HB5.out.size))⟩
          · have hpo : partOk l 97 = true := by
              simp [partOk, isReg, Ln.get]
              omega
            clear hq1 hq2
            go_wp2_with (first
              | (go_at_call_of 40 (w.heap.size); refine (hfl _).mono ?_; rintro e w7 ⟨rfl, hw7⟩; subst hw7)
              | (go_at_call_of 40 (w5.heap.size); refine (hfb _).mono ?_; rintro e w8 ⟨rfl, hw8⟩; subst hw8)
              | (go_at_call 48; refine (hcr _).mono ?_; rintro e w6 ⟨rfl, hw6⟩; subst hw6))
            go_roundg g'
            case measure => omega
            case rel => exact ⟨k + 1, by omega, (heap_setCell_other _ ⟨w5.heap.size, 2, none⟩ _ _ (by simp)).trans hit2, by rw [htk, bareL_snoc, if_neg (by decide), hBB]; exact set_obj hbr2 97 (by decide), hbw2.setCell (Nat.le_refl _) _, fun q hq => by
              rw [htk] at hq
              rcases List.mem_append.1 hq with hq | hq
              · exact hpa q hq
              · rw [List.mem_singleton.1 hq]; exact hpo⟩
        · have hfl : ∀ w', Calls Tryd.prog 40 #[.pointer (some ⟨w.heap.size, 0, none⟩), .int .i32 98] w' fun e w'' => e = .returned (.pointer (some ⟨w.heap.size, 3, none⟩)) ∧ w' = w'' := fun w' => field_any _ 98 w'
          have hfb : ∀ w', Calls Tryd.prog 40 #[.pointer (some ⟨w5.heap.size, 0, none⟩), .int .i32 98] w' fun e w'' => e = .returned (.pointer (some ⟨w5.heap.size, 3, none⟩)) ∧ w' = w'' := fun w' => field_any _ 98 w'
          have hcr : ∀ w', Calls Tryd.prog 48 #[.string ⟨#[114, 97, 98]⟩, .int .i32 98] w' fun e w'' => e = .returned (.bool true) ∧ w' = w'' := fun w' => rune_any 98 (by decide) w'
          have hcase : (decide (l.b < 0) = true ∧ l.b < 0) ∨ (decide (l.b < 0) = false ∧ decide (l.b ≥ 8) = true ∧ decide (8 ≤ l.b) = true ∧ 8 ≤ l.b) ∨ (decide (l.b < 0) = false ∧ decide (l.b ≥ 8) = false ∧ decide (8 ≤ l.b) = false ∧ 0 ≤ l.b ∧ l.b < 8) := by simp; omega
          rcases hcase with ⟨q1, hq⟩ | ⟨q1, q2, q3, hq⟩ | ⟨q1, q2, q3, hq1, hq2⟩
          · have HNO : Hid (rightL l o = false) := Lib.hid (by
              rw [HRL2.out]
              have hne : ¬ P.all (partOk l) = true := fun hall => by
                have h1 := List.all_eq_true.1 hall _ hmem
                simp [partOk, isReg, Ln.get] at h1
                omega
              rw [Bool.not_eq_true] at hne
              rw [hne]
              rfl)
            go_wp2_with (first
              | (go_at_call_of 40 (w.heap.size); refine (hfl _).mono ?_; rintro e w7 ⟨rfl, hw7⟩; subst hw7)
              | (go_at_call_of 40 (w5.heap.size); refine (hfb _).mono ?_; rintro e w8 ⟨rfl, hw8⟩; subst hw8)
              | (go_at_call 48; refine (hcr _).mono ?_; rintro e w6 ⟨rfl, hw6⟩; subst hw6))
            go_returns
            exact ⟨by rw [HNO.out] <;> rfl, (HB5.out.trans (hbw2.mono HB5.out.size))⟩
          · have HNO : Hid (rightL l o = false) := Lib.hid (by
              rw [HRL2.out]
              have hne : ¬ P.all (partOk l) = true := fun hall => by
                have h1 := List.all_eq_true.1 hall _ hmem
                simp [partOk, isReg, Ln.get] at h1
                omega
              rw [Bool.not_eq_true] at hne
              rw [hne]
              rfl)
            go_wp2_with (first
              | (go_at_call_of 40 (w.heap.size); refine (hfl _).mono ?_; rintro e w7 ⟨rfl, hw7⟩; subst hw7)
              | (go_at_call_of 40 (w5.heap.size); refine (hfb _).mono ?_; rintro e w8 ⟨rfl, hw8⟩; subst hw8)
              | (go_at_call 48; refine (hcr _).mono ?_; rintro e w6 ⟨rfl, hw6⟩; subst hw6))
            go_returns
            exact ⟨by rw [HNO.out] <;> rfl, (HB5.out.trans (hbw2.mono HB5.out.size))⟩
          · have hpo : partOk l 98 = true := by
              simp [partOk, isReg, Ln.get]
              omega
            clear hq1 hq2
            go_wp2_with (first
              | (go_at_call_of 40 (w.heap.size); refine (hfl _).mono ?_; rintro e w7 ⟨rfl, hw7⟩; subst hw7)
              | (go_at_call_of 40 (w5.heap.size); refine (hfb _).mono ?_; rintro e w8 ⟨rfl, hw8⟩; subst hw8)
              | (go_at_call 48; refine (hcr _).mono ?_; rintro e w6 ⟨rfl, hw6⟩; subst hw6))
            go_roundg g'
            case measure => omega
            case rel => exact ⟨k + 1, by omega, (heap_setCell_other _ ⟨w5.heap.size, 3, none⟩ _ _ (by simp)).trans hit2, by rw [htk, bareL_snoc, if_neg (by decide), hBB]; exact set_obj hbr2 98 (by decide), hbw2.setCell (Nat.le_refl _) _, fun q hq => by
              rw [htk] at hq
              rcases List.mem_append.1 hq with hq | hq
              · exact hpa q hq
              · rw [List.mem_singleton.1 hq]; exact hpo⟩
        · have hfl : ∀ w', Calls Tryd.prog 40 #[.pointer (some ⟨w.heap.size, 0, none⟩), .int .i32 110] w' fun e w'' => e = .returned (.pointer (some ⟨w.heap.size, 4, none⟩)) ∧ w' = w'' := fun w' => field_any _ 110 w'
          have hfb : ∀ w', Calls Tryd.prog 40 #[.pointer (some ⟨w5.heap.size, 0, none⟩), .int .i32 110] w' fun e w'' => e = .returned (.pointer (some ⟨w5.heap.size, 4, none⟩)) ∧ w' = w'' := fun w' => field_any _ 110 w'
          have hcr : ∀ w', Calls Tryd.prog 48 #[.string ⟨#[114, 97, 98]⟩, .int .i32 110] w' fun e w'' => e = .returned (.bool false) ∧ w' = w'' := fun w' => rune_any 110 (by decide) w'
          go_wp2_with (first
            | (go_at_call_of 40 (w.heap.size); refine (hfl _).mono ?_; rintro e w7 ⟨rfl, hw7⟩; subst hw7)
            | (go_at_call_of 40 (w5.heap.size); refine (hfb _).mono ?_; rintro e w8 ⟨rfl, hw8⟩; subst hw8)
            | (go_at_call 48; refine (hcr _).mono ?_; rintro e w6 ⟨rfl, hw6⟩; subst hw6))
          go_roundg g'
          case measure => omega
          case rel => exact ⟨k + 1, by omega, (heap_setCell_other _ ⟨w5.heap.size, 4, none⟩ _ _ (by simp)).trans hit2, by rw [htk, bareL_snoc, if_neg (by decide), hBB]; exact set_obj hbr2 110 (by decide), hbw2.setCell (Nat.le_refl _) _, fun q hq => by
            rw [htk] at hq
            rcases List.mem_append.1 hq with hq | hq
            · exact hpa q hq
            · rw [List.mem_singleton.1 hq]; rfl⟩
        · have hfl : ∀ w', Calls Tryd.prog 40 #[.pointer (some ⟨w.heap.size, 0, none⟩), .int .i32 111] w' fun e w'' => e = .returned (.pointer (some ⟨w.heap.size, 4, none⟩)) ∧ w' = w'' := fun w' => field_any _ 111 w'
          have hfb : ∀ w', Calls Tryd.prog 40 #[.pointer (some ⟨w5.heap.size, 0, none⟩), .int .i32 111] w' fun e w'' => e = .returned (.pointer (some ⟨w5.heap.size, 4, none⟩)) ∧ w' = w'' := fun w' => field_any _ 111 w'
          have hcr : ∀ w', Calls Tryd.prog 48 #[.string ⟨#[114, 97, 98]⟩, .int .i32 111] w' fun e w'' => e = .returned (.bool false) ∧ w' = w'' := fun w' => rune_any 111 (by decide) w'
          go_wp2_with (first
            | (go_at_call_of 40 (w.heap.size); refine (hfl _).mono ?_; rintro e w7 ⟨rfl, hw7⟩; subst hw7)
            | (go_at_call_of 40 (w5.heap.size); refine (hfb _).mono ?_; rintro e w8 ⟨rfl, hw8⟩; subst hw8)
            | (go_at_call 48; refine (hcr _).mono ?_; rintro e w6 ⟨rfl, hw6⟩; subst hw6))
          go_roundg g'
          case measure => omega
          case rel => exact ⟨k + 1, by omega, (heap_setCell_other _ ⟨w5.heap.size, 4, none⟩ _ _ (by simp)).trans hit2, by rw [htk, bareL_snoc, if_neg (by decide), hBB]; exact set_obj hbr2 111 (by decide), hbw2.setCell (Nat.le_refl _) _, fun q hq => by
            rw [htk] at hq
            rcases List.mem_append.1 hq with hq | hq
            · exact hpa q hq
            · rw [List.mem_singleton.1 hq]; rfl⟩
        · go_wp2
          go_roundg g'
          case measure => omega
          case rel => exact ⟨k + 1, by omega, hit2, by rw [htk, bareL_snoc, if_pos rfl, hBB]; exact hbr2, hbw2, fun q hq => by
            rw [htk] at hq
            rcases List.mem_append.1 hq with hq | hq
            · exact hpa q hq
            · rw [List.mem_singleton.1 hq]; rfl⟩
      · have hkl : k = P.length := by omega
        have hnx : ∀ ty, (Instr.next (.pointer (some ⟨w5.heap.size + 1, 0, none⟩)) true ty).run Tryd.prog wr = _ := fun ty => Lib.run_next_end_at wr _ PB k ty hit (by
          rw [← HPB.out]
          show ¬ k < P.toArray.size
          simpa using hlt)
        rw [hkl, List.take_length] at hbr hpa
        have hall : P.all (partOk l) = true := List.all_eq_true.2 hpa
        have hlb := (hbw.block _ hlW5).trans HLB5.out
        have hob := (hbw.block _ hoW5).trans HOB5.out
        have y0 := cell_of_heap hlb 0 (.int .i64 l.op) rfl
        have y4 := cell_of_heap hlb 4 (.int .i64 l.n) rfl
        have o1 := cell_of_heap hob 1 (.int .i64 o.slots) rfl
        have o2 := cell_of_heap hob 2 (.int .i64 o.frame) rfl
        have o3 := cell_of_heap hob 3 (.slice C N cap) rfl
        obtain ⟨z0, z1, z2, z3, z4, z5⟩ := Ln.cells hbr
        have HRB : Hid (rightL l o = (decide (bareL l P = Ln.zero) && numOk l o)) := Lib.hid (by rw [HRL2.out, hall]; rfl)
        obtain ⟨B, hBB⟩ : ∃ B, bareL l P = B := ⟨_, rfl⟩
        rw [hBB] at hbr z0 z1 z2 z3 z4 z5 HRB
        simp only [hBB] at hneq
        clear hpa hall hlb hob hbr HRL2 HLT hit hlt hk0 hkl HPB hBB
        obtain ⟨d, hd⟩ : ∃ d, decide (B = Ln.zero) = d := ⟨_, rfl⟩
        rw [hd] at HRB
        simp only [hd] at hneq
        simp only [Ln.zero, Ln.agg, show ByteArray.empty = (⟨#[]⟩ : ByteArray) from rfl] at hneq
        clear hd
        cases d
        · have HNO : Hid (rightL l o = false) := Lib.hid (by rw [HRB.out]; rfl)
          simp only [Bool.not_false] at hneq
          go_wp2
          go_returns
          exact ⟨by rw [HNO.out] <;> rfl, (HB5.out.trans (hbw.mono HB5.out.size))⟩
        · have HR3 : Hid (rightL l o = numOk l o) := Lib.hid (by rw [HRB.out]; rfl)
          simp only [Bool.not_true] at hneq
          have hop : 1 ≤ l.op ∧ l.op ≤ 18 := Classical.byContradiction fun hc => by
            have h1 := shp_out hc
            have h2 := HNM.out
            have h3 := HNE0.out
            rw [h1] at h2
            rw [← h2] at h3
            exact absurd h3 (by decide)
          clear HRB
          rcases op_cases hop with hh | hh | hh | hh | hh | hh | hh | hh | hh | hh | hh | hh | hh | hh | hh | hh | hh | hh
          · clear hop
            have hop : l.op = 1 := hh
            have HNU : Hid (rightL l o = numOk l o) := HR3
            rw [hop] at y0
            have HNO : Hid (numOk l o = decide (-2147483648 ≤ l.n ∧ l.n ≤ 2147483647)) := Lib.hid (by rw [show numOk l o = isWd l.n by simp [numOk, hop]]; unfold isWd; exact decide_eq_decide.2 (by omega))
            have hcall := fun w' => is_any l.n w'
            obtain ⟨cc, hcc⟩ : ∃ cc, decide (-2147483648 ≤ l.n ∧ l.n ≤ 2147483647) = cc := ⟨_, rfl⟩
            rw [hcc] at HNO
            simp only [hcc] at hcall
            clear hcc hop
            go_wp2_with (first
              | (go_at_call 37; refine (hcall _).mono ?_; rintro e w6 ⟨rfl, hw6⟩; subst hw6))
            go_returns
            exact ⟨by rw [HNU.out, HNO.out] <;> rfl, (HB5.out.trans (hbw.mono HB5.out.size))⟩
          · clear hop
            have hop : l.op = 2 := hh
            have HNU : Hid (rightL l o = numOk l o) := HR3
            rw [hop] at y0
            have HNO : Hid (numOk l o = decide (20 ≤ l.n ∧ l.n ≤ 23)) := Lib.hid (by simp [numOk, hop])
            have hcall := fun w' => one_any l.n w'
            obtain ⟨cc, hcc⟩ : ∃ cc, decide (20 ≤ l.n ∧ l.n ≤ 23) = cc := ⟨_, rfl⟩
            rw [hcc] at HNO
            simp only [hcc] at hcall
            clear hcc hop
            go_wp2_with (first
              | (go_at_call 49; refine (hcall _).mono ?_; rintro e w6 ⟨rfl, hw6⟩; subst hw6))
            go_returns
            exact ⟨by rw [HNU.out, HNO.out] <;> rfl, (HB5.out.trans (hbw.mono HB5.out.size))⟩
          · clear hop
            have hop : l.op = 3 := hh
            have HNU : Hid (rightL l o = numOk l o) := HR3
            rw [hop] at y0
            have HNO : Hid (numOk l o = decide (1 ≤ l.n ∧ l.n ≤ 19)) := Lib.hid (by simp [numOk, hop])
            have hcall := fun w' => two_any l.n w'
            obtain ⟨cc, hcc⟩ : ∃ cc, decide (1 ≤ l.n ∧ l.n ≤ 19) = cc := ⟨_, rfl⟩
            rw [hcc] at HNO
            simp only [hcc] at hcall
            clear hcc hop
            go_wp2_with (first
              | (go_at_call 50; refine (hcall _).mono ?_; rintro e w6 ⟨rfl, hw6⟩; subst hw6))
            go_returns
            exact ⟨by rw [HNU.out, HNO.out] <;> rfl, (HB5.out.trans (hbw.mono HB5.out.size))⟩
          · clear hop
            have hop : l.op = 4 := hh
            have HNU : Hid (rightL l o = numOk l o) := HR3
            rw [hop] at y0
            have HNO : Hid (numOk l o = true) := Lib.hid (by simp [numOk, hop])
            clear hop
            go_wp2
            go_returns
            exact ⟨by rw [HNU.out, HNO.out] <;> rfl, (HB5.out.trans (hbw.mono HB5.out.size))⟩
          · clear hop
            have hop : l.op = 5 := hh
            have HNU : Hid (rightL l o = numOk l o) := HR3
            rw [hop] at y0
            have HNO : Hid (numOk l o = (decide (0 ≤ l.n) && decide (l.n ≤ o.frame))) := Lib.hid (by simp [numOk, hop])
            have q1 : decide (l.n ≥ 0) = decide (0 ≤ l.n) := rfl
            obtain ⟨c1, hc1⟩ : ∃ c1, decide (0 ≤ l.n) = c1 := ⟨_, rfl⟩
            obtain ⟨c2, hc2⟩ : ∃ c2, decide (l.n ≤ o.frame) = c2 := ⟨_, rfl⟩
            rw [hc1] at q1 HNO
            rw [hc2] at HNO
            clear hop
            cases c1 <;> cases c2
            all_goals
              go_wp2
              go_returns
              exact ⟨by rw [HNU.out, HNO.out] <;> rfl, (HB5.out.trans (hbw.mono HB5.out.size))⟩
          · clear hop
            have hop : l.op = 6 := hh
            have HNU : Hid (rightL l o = numOk l o) := HR3
            rw [hop] at y0
            have HNO : Hid (numOk l o = true) := Lib.hid (by simp [numOk, hop])
            clear hop
            go_wp2
            go_returns
            exact ⟨by rw [HNU.out, HNO.out] <;> rfl, (HB5.out.trans (hbw.mono HB5.out.size))⟩
          · clear hop
            have hop : l.op = 7 := hh
            have HNU : Hid (rightL l o = numOk l o) := HR3
            rw [hop] at y0
            have HNO : Hid (numOk l o = true) := Lib.hid (by simp [numOk, hop])
            clear hop
            go_wp2
            go_returns
            exact ⟨by rw [HNU.out, HNO.out] <;> rfl, (HB5.out.trans (hbw.mono HB5.out.size))⟩
          · clear hop
            have hop : l.op = 8 := hh
            have HNU : Hid (rightL l o = numOk l o) := HR3
            rw [hop] at y0
            have HNO : Hid (numOk l o = (decide (0 ≤ l.n) && decide (l.n < o.slots))) := Lib.hid (by simp [numOk, hop])
            have q1 : decide (l.n ≥ 0) = decide (0 ≤ l.n) := rfl
            obtain ⟨c1, hc1⟩ : ∃ c1, decide (0 ≤ l.n) = c1 := ⟨_, rfl⟩
            obtain ⟨c2, hc2⟩ : ∃ c2, decide (l.n < o.slots) = c2 := ⟨_, rfl⟩
            rw [hc1] at q1 HNO
            rw [hc2] at HNO
            clear hop
            cases c1 <;> cases c2
            all_goals
              go_wp2
              go_returns
              exact ⟨by rw [HNU.out, HNO.out] <;> rfl, (HB5.out.trans (hbw.mono HB5.out.size))⟩
          · clear hop
            have hop : l.op = 9 := hh
            have HNU : Hid (rightL l o = numOk l o) := HR3
            rw [hop] at y0
            have HNO : Hid (numOk l o = (decide (0 ≤ l.n) && decide (l.n < o.slots))) := Lib.hid (by simp [numOk, hop])
            have q1 : decide (l.n ≥ 0) = decide (0 ≤ l.n) := rfl
            obtain ⟨c1, hc1⟩ : ∃ c1, decide (0 ≤ l.n) = c1 := ⟨_, rfl⟩
            obtain ⟨c2, hc2⟩ : ∃ c2, decide (l.n < o.slots) = c2 := ⟨_, rfl⟩
            rw [hc1] at q1 HNO
            rw [hc2] at HNO
            clear hop
            cases c1 <;> cases c2
            all_goals
              go_wp2
              go_returns
              exact ⟨by rw [HNU.out, HNO.out] <;> rfl, (HB5.out.trans (hbw.mono HB5.out.size))⟩
          · clear hop
            have hop : l.op = 10 := hh
            have HNU : Hid (rightL l o = numOk l o) := HR3
            rw [hop] at y0
            have HNO : Hid (numOk l o = (decide (0 ≤ l.n) && decide (l.n < 6))) := Lib.hid (by simp [numOk, hop])
            have q1 : decide (l.n ≥ 0) = decide (0 ≤ l.n) := rfl
            obtain ⟨c1, hc1⟩ : ∃ c1, decide (0 ≤ l.n) = c1 := ⟨_, rfl⟩
            obtain ⟨c2, hc2⟩ : ∃ c2, decide (l.n < 6) = c2 := ⟨_, rfl⟩
            rw [hc1] at q1 HNO
            rw [hc2] at HNO
            clear hop
            cases c1 <;> cases c2
            all_goals
              go_wp2
              go_returns
              exact ⟨by rw [HNU.out, HNO.out] <;> rfl, (HB5.out.trans (hbw.mono HB5.out.size))⟩
          · clear hop
            have hop : l.op = 11 := hh
            have HNU : Hid (rightL l o = numOk l o) := HR3
            rw [hop] at y0
            have HNO : Hid (numOk l o = (decide (0 ≤ l.n) && decide (l.n < 6))) := Lib.hid (by simp [numOk, hop])
            have q1 : decide (l.n ≥ 0) = decide (0 ≤ l.n) := rfl
            obtain ⟨c1, hc1⟩ : ∃ c1, decide (0 ≤ l.n) = c1 := ⟨_, rfl⟩
            obtain ⟨c2, hc2⟩ : ∃ c2, decide (l.n < 6) = c2 := ⟨_, rfl⟩
            rw [hc1] at q1 HNO
            rw [hc2] at HNO
            clear hop
            cases c1 <;> cases c2
            all_goals
              go_wp2
              go_returns
              exact ⟨by rw [HNU.out, HNO.out] <;> rfl, (HB5.out.trans (hbw.mono HB5.out.size))⟩
          · clear hop
            have hop : l.op = 12 := hh
            have HNU : Hid (rightL l o = numOk l o) := HR3
            rw [hop] at y0
            have HNO : Hid (numOk l o = true) := Lib.hid (by simp [numOk, hop])
            clear hop
            go_wp2
            go_returns
            exact ⟨by rw [HNU.out, HNO.out] <;> rfl, (HB5.out.trans (hbw.mono HB5.out.size))⟩
          · clear hop
            have hop : l.op = 13 := hh
            have HNU : Hid (rightL l o = numOk l o) := HR3
            rw [hop] at y0
            have HNO : Hid (numOk l o = true) := Lib.hid (by simp [numOk, hop])
            clear hop
            go_wp2
            go_returns
            exact ⟨by rw [HNU.out, HNO.out] <;> rfl, (HB5.out.trans (hbw.mono HB5.out.size))⟩
          · clear hop
            have hop : l.op = 14 := hh
            have HNU : Hid (rightL l o = numOk l o) := HR3
            rw [hop] at y0
            have HNO : Hid (numOk l o = true) := Lib.hid (by simp [numOk, hop])
            clear hop
            go_wp2
            go_returns
            exact ⟨by rw [HNU.out, HNO.out] <;> rfl, (HB5.out.trans (hbw.mono HB5.out.size))⟩
          · clear hop
            have hop : l.op = 15 := hh
            have HNU : Hid (rightL l o = numOk l o) := HR3
            rw [hop] at y0
            have HNO : Hid (numOk l o = true) := Lib.hid (by simp [numOk, hop])
            clear hop
            go_wp2
            go_returns
            exact ⟨by rw [HNU.out, HNO.out] <;> rfl, (HB5.out.trans (hbw.mono HB5.out.size))⟩
          · clear hop
            have hop : l.op = 16 := hh
            have HNU : Hid (rightL l o = numOk l o) := HR3
            rw [hop] at y0
            have HNO : Hid (numOk l o = (decide (0 ≤ l.n) && decide (l.n < (N : Int)))) := Lib.hid (by simp [numOk, hop, HN.out])
            have q1 : decide (l.n ≥ 0) = decide (0 ≤ l.n) := rfl
            obtain ⟨c1, hc1⟩ : ∃ c1, decide (0 ≤ l.n) = c1 := ⟨_, rfl⟩
            obtain ⟨c2, hc2⟩ : ∃ c2, decide (l.n < (N : Int)) = c2 := ⟨_, rfl⟩
            rw [hc1] at q1 HNO
            rw [hc2] at HNO
            clear hop
            cases c1 <;> cases c2
            all_goals
              go_wp2
              go_returns
              exact ⟨by rw [HNU.out, HNO.out] <;> rfl, (HB5.out.trans (hbw.mono HB5.out.size))⟩
          · clear hop
            have hop : l.op = 17 := hh
            have HNU : Hid (rightL l o = numOk l o) := HR3
            rw [hop] at y0
            have HNO : Hid (numOk l o = (decide (0 ≤ l.n) && decide (l.n < (N : Int)))) := Lib.hid (by simp [numOk, hop, HN.out])
            have q1 : decide (l.n ≥ 0) = decide (0 ≤ l.n) := rfl
            obtain ⟨c1, hc1⟩ : ∃ c1, decide (0 ≤ l.n) = c1 := ⟨_, rfl⟩
            obtain ⟨c2, hc2⟩ : ∃ c2, decide (l.n < (N : Int)) = c2 := ⟨_, rfl⟩
            rw [hc1] at q1 HNO
            rw [hc2] at HNO
            clear hop
            cases c1 <;> cases c2
            all_goals
              go_wp2
              go_returns
              exact ⟨by rw [HNU.out, HNO.out] <;> rfl, (HB5.out.trans (hbw.mono HB5.out.size))⟩
          · clear hop
            have hop : l.op = 18 := hh
            have HNU : Hid (rightL l o = numOk l o) := HR3
            rw [hop] at y0
            have HNO : Hid (numOk l o = true) := Lib.hid (by simp [numOk, hop])
            clear hop
            go_wp2
            go_returns
            exact ⟨by rw [HNU.out, HNO.out] <;> rfl, (HB5.out.trans (hbw.mono HB5.out.size))⟩
end Go.Proofs.YtihbgppcacaekaaDoor
