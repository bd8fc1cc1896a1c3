import Derived.Test.YtihbgppcacaekaaDoorRd
/- line. -/
namespace Go.Proofs.YtihbgppcacaekaaDoor
open Go.RowKit Go.BigFrame

def lineR (s : ByteArray) : Ln × Bool := match lineF s with
  | some l => (l, true)
  | none => (Ln.zero, false)
theorem set_obj2 {w : World} {b : Nat} {B : Ln} (h : w.heap[b]? = some B.obj) (p : UInt8) (v : Int) (hp : p = 114 ∨ p = 97 ∨ p = 98 ∨ p = 110) : (w.setCell ⟨b, offR p.toNat, none⟩ (.int .i64 v)).heap[b]? = some (B.set p v).obj := by
  have h1 := heap_setCell (j := offR p.toNat) h (.int .i64 v)
  rw [h1]
  rcases hp with rfl | rfl | rfl | rfl <;> rfl
/-- the line's box, ahead of and behind the store; the iterator -/
def LnG (b : Nat) (B B' : Ln) (it : Obj) (q : Bool) (w : World) : Prop := w.heap[b]? = some (if q then B' else B).obj ∧ w.heap[b + 1]? = some it
theorem LnG.grow {b : Nat} {B B' : Ln} {it : Obj} (q : Bool) (w w' : World) (hb : Below w.heap.size w w') (h : LnG b B B' it q w) : LnG b B B' it q w' := ⟨keepB hb h.1, keepB hb h.2⟩
theorem ws_cell {w : World} {l : List ByteArray} {b : Nat} (h : w.heap[b]? = some (spO l)) {j : Nat} {x : ByteArray} (hj : l[j]? = some x) : w.cell? ⟨b, j, none⟩ = some (.string x) := by
  refine cell_of_heap h j _ ?_
  simp [hj]
theorem fin6 {w w7 : World} {rb : Nat} {A : Ln} (B : Ln) (hr : w7.heap[rb]? = some A.obj) (h1 : w.heap.size ≤ rb) (hb : Below w.heap.size w w7) :
    ∀ wf, wf = (((((w7.setCell ⟨rb, 0, none⟩ (.int .i64 B.op)).setCell ⟨rb, 1, none⟩ (.int .i64 B.r)).setCell ⟨rb, 2, none⟩ (.int .i64 B.a)).setCell ⟨rb, 3, none⟩ (.int .i64 B.b)).setCell ⟨rb, 4, none⟩ (.int .i64 B.n)).setCell ⟨rb, 5, none⟩ (.string B.text) →
      wf.heap[rb]? = some B.obj ∧ Below w.heap.size w wf := by
  rintro wf rfl
  exact ⟨heap_setCell (j := 5) (heap_setCell (j := 4) (heap_setCell (j := 3) (heap_setCell (j := 2) (heap_setCell (j := 1) (heap_setCell (j := 0) hr _) _) _) _) _) _,
    (((((hb.setCell (p := ⟨rb, 0, none⟩) h1 _).setCell (p := ⟨rb, 1, none⟩) h1 _).setCell (p := ⟨rb, 2, none⟩) h1 _).setCell (p := ⟨rb, 3, none⟩) h1 _).setCell (p := ⟨rb, 4, none⟩) h1 _).setCell (p := ⟨rb, 5, none⟩) h1 _⟩
/-- behind the loop over the parts: k parts are done -/
def LnI (W2 wx : World) (l0 : Ln) (P : List UInt8) (PB : ByteArray) (xs : List ByteArray) (bl g k : Nat) : Prop :=
  g + k = P.length ∧ wx.heap[bl + 1]? = some (.stringIter PB k) ∧ wx.heap[bl]? = some (foldP l0 ((P.zip xs).take k)).obj ∧ Below W2.heap.size W2 wx ∧ ∀ q ∈ (P.zip xs).take k, okP q.1 q.2 = true
set_option maxRecDepth 1000000 in
set_option maxHeartbeats 16000000 in
theorem line_any (s : ByteArray) (hs : s.size < 4294967281) (w : World) (hT : Tabs w) :
    Calls Tryd.prog 35 #[.string s] w fun e w' => e = .returned (.tuple #[(lineR s).1.agg, .bool (lineR s).2]) ∧ Below w.heap.size w w' := by
  have hB0 := Below.one w (Ln.zero.obj)
  have br := heap_alloc_new w (Ln.zero.obj)
  have hT0 := hT.below hB0
  have hsp := Split_any 32 s hs (w.alloc Ln.zero.obj) hT0
  obtain ⟨ws, hws⟩ : ∃ ws, spB 32 s = ws := ⟨_, rfl⟩
  rw [hws] at hsp
  have HWS := Lib.hid hws
  obtain ⟨w0, wt, hw0⟩ := spB_ne 32 s
  rw [hws] at hw0
  have HSZ : Hid (∀ x ∈ ws, x.size ≤ s.size) := Lib.hid (by rw [← hws]; exact fun x hx => spB_size hx)
  obtain ⟨NW, hNW⟩ : ∃ NW, ws.length = NW := ⟨_, rfl⟩
  have hNW1 : 1 ≤ NW := by rw [← hNW, hw0]; simp
  have hNWb : NW ≤ 4294967296 := by
    rw [← hNW, ← hws]
    have := spB_len 32 s
    omega
  have hsp2 := hsp
  rw [hNW] at hsp2
  have bw := heap_alloc_new (w.alloc Ln.zero.obj) (spO ws)
  rw [show (w.alloc Ln.zero.obj).heap.size = w.heap.size + 1 by simp] at bw hsp2
  have br2 := alloc_keeps br (spO ws)
  have hB1 := hB0.alloc (by simp) (spO ws)
  have hs2 : ((w.alloc Ln.zero.obj).alloc (spO ws)).heap.size = w.heap.size + 2 := by simp
  obtain ⟨W, hW⟩ : ∃ W, (w.alloc Ln.zero.obj).alloc (spO ws) = W := ⟨_, rfl⟩
  rw [hW] at hsp2 bw br2 hB1 hs2
  have hsp3 : Calls Tryd.prog 33 #[.string s, .string ⟨#[32]⟩] (w.alloc (.cells #[.int .i64 0, .int .i64 0, .int .i64 0, .int .i64 0, .int .i64 0, .string ⟨#[]⟩] 36 (0, 0))) fun e w' => e = .returned (.slice (some ⟨w.heap.size + 1, 0, none⟩) NW NW) ∧ w' = W := hsp2
  have HT := Lib.hid (hT.below hB1)
  have HB := Lib.hid hB1
  have HBR := Lib.hid br2
  have HBW := Lib.hid bw
  have HNW := Lib.hid hNW
  have HW0 := Lib.hid hw0
  have HS2 := Lib.hid hs2
  have HSS := Lib.hid hs
  have hbl : w.heap.size < W.heap.size := by omega
  have hbl1 : w.heap.size + 1 < W.heap.size := by omega
  clear hs2 hB0 br hT0 hsp hws hw0 hNW hsp2 bw br2 hB1 hW hT hs
  go_enter Tryd.func35, Tryd.ntmps35
  go_wp2_with (first
    | (go_at_call 33; refine hsp3.mono ?_; rintro e w5 ⟨rfl, hw5⟩; subst hw5))
  clear hsp3
  go_loopw [5] (fun ix wq => ∃ k : Nat, k ≤ 18 ∧ ix = .int .i64 ((k : Int) + 1) ∧ Below w5.heap.size w5 wq ∧ ∀ j, j < k → fitsB ws j = false) (fun ix _ => 20 - (intOf ix).toNat)
  case atStart => exact ⟨0, by omega, rfl, Below.refl _ _, fun j hj => by omega⟩
  case round =>
    obtain ⟨k, hk, rfl, hb, hno⟩ := hrel
    have HB5 := Lib.hid hb
    have HNO := Lib.hid hno
    clear hb hno
    by_cases hlt : k < 18
    · have q1 : decide ((k : Int) + 1 ≤ 18) = true := by simp; omega
      have hsh := shape_any ((k : Int) + 1) wr (HT.out.below HB5.out)
      obtain ⟨NM, hNM⟩ : ∃ NM, (shp ((k : Int) + 1)).1 = NM := ⟨_, rfl⟩
      obtain ⟨P, hP⟩ : ∃ P, (shp ((k : Int) + 1)).2 = P := ⟨_, rfl⟩
      rw [hNM, hP] at hsh
      have HNM := Lib.hid hNM
      have HP := Lib.hid hP
      have hPl : P.length ≤ 4 := by rw [← hP]; exact shp_len _
      obtain ⟨L, hL⟩ : ∃ L, P.length = L := ⟨_, rfl⟩
      rw [hL] at hPl
      have HL := Lib.hid hL
      obtain ⟨NB, hNB⟩ : ∃ NB, (⟨NM.toArray⟩ : ByteArray) = NB := ⟨_, rfl⟩
      obtain ⟨PB, hPB⟩ : ∃ PB, (⟨P.toArray⟩ : ByteArray) = PB := ⟨_, rfl⟩
      have hsz : PB.size = L := by rw [← hPB, ← hL]; show P.toArray.size = _; simp
      rw [hNB, hPB] at hsh
      have HNB := Lib.hid hNB
      have HPB := Lib.hid hPB
      have hbq := bytes_beq NB w0
      obtain ⟨c1, hc1⟩ : ∃ c1, decide (NB = w0) = c1 := ⟨_, rfl⟩
      rw [hc1] at hbq
      have HC1 := Lib.hid hc1
      have hFT : fitsB ws k = (c1 && decide (NW = L + 1)) := by
        unfold fitsB
        rw [hNM, hP, hNB, HNW.out, hL, HW0.out]
        rw [← hc1]
        rfl
      have HFT := Lib.hid hFT
      clear hNM hP hL hNB hPB hc1 hFT
      by_cases hfit : c1 = true ∧ NW = L + 1
      · obtain ⟨hfit1, hfit2⟩ := hfit
        have q4 : ((NW : Int) != (L : Int) + 1) = false := by simp; omega
        have q5 : ((NW : Int) == (L : Int) + 1) = true := by simp; omega
        have HF : Hid (opFit ws = some k) := Lib.hid (opFit_some hlt (by rw [HFT.out, hfit1, hfit2]; simp) HNO.out)
        subst hfit1
        have HWT : Hid (wt.length = L) := Lib.hid (by have := HNW.out; rw [HW0.out] at this; simp at this; omega)
        clear hfit2
        go_wp2_with (first
          | (go_at_call 38; refine hsh.mono ?_; rintro e w6 ⟨rfl, hb6⟩;
             have HB6 : Hid (Below w5.heap.size w5 w6) := Lib.hid (HB5.out.trans (hb6.mono HB5.out.size));
             have hw6 := (HB6.out.block _ hbl1).trans HBW.out;
             have HW6 := Lib.hid hw6;
             have g0 := ws_cell hw6 (j := 0) (x := w0) (by rw [HW0.out]; rfl);
             clear hb6 hw6 hsh))
        have HB6' := HB6
        obtain ⟨l0, hl0⟩ : ∃ l0 : Ln, l0 = { Ln.zero with op := (k : Int) + 1 } := ⟨_, rfl⟩
        have HL0 := Lib.hid hl0
        have hit0 : ((w6.alloc l0.obj).iter PB 0).heap[w6.heap.size + 1]? = some (.stringIter PB 0) := by simpa using World.iter_heap (w6.alloc l0.obj) PB 0
        have hbo0 : ((w6.alloc l0.obj).iter PB 0).heap[w6.heap.size]? = some l0.obj := ((Below.one _ _).block _ (by simp)).trans (heap_alloc_new w6 l0.obj)
        have hbb0 : Below w6.heap.size w6 ((w6.alloc l0.obj).iter PB 0) := ((Below.refl _ w6).alloc (Nat.le_refl _) _).alloc (by simp) _
        have HI0 : Hid (LnI w6 ((w6.alloc l0.obj).iter PB 0) l0 P PB wt w6.heap.size L 0) := Lib.hid ⟨HL.out.symm, hit0, by simpa [foldP] using hbo0, hbb0, fun q hq => by simp at hq⟩
        clear hit0 hbo0 hbb0
        subst hl0
        go_loopg [] L (fun gf wx => ∃ m, LnI w6 wx { Ln.zero with op := (k : Int) + 1 } P PB wt w6.heap.size gf m)
        case atStart => exact ⟨0, HI0.out⟩
        case round =>
          obtain ⟨m, hm0, hit, hbr, hbw, hpa⟩ := hrel
          rw [HL.out] at hm0
          by_cases hlt2 : m < L
          · obtain ⟨g', rfl⟩ : ∃ g', gk = g' + 1 := ⟨gk - 1, by omega⟩
            obtain ⟨p, hp⟩ : ∃ p, P[m]? = some p := ⟨_, List.getElem?_eq_getElem (by rw [HL.out]; exact hlt2)⟩
            obtain ⟨x, hx⟩ : ∃ x, wt[m]? = some x := ⟨_, List.getElem?_eq_getElem (by rw [HWT.out]; exact hlt2)⟩
            have hmem := List.mem_of_getElem? hp
            have hl6 := shp_letters ((k : Int) + 1) p (by rw [HP.out]; exact hmem)
            have hp128 : p.toNat < 128 := by rcases hl6 with rfl | rfl | rfl | rfl | rfl | rfl <;> decide
            obtain ⟨hps, hde⟩ := decode_part P m p hp hp128
            rw [HPB.out] at hps hde
            have hnx : ∀ ty, (Instr.next (.pointer (some ⟨w6.heap.size + 1, 0, none⟩)) true ty).run Tryd.prog wr = _ := fun ty => Lib.run_next_any_at wr _ PB m ty hit hps
            simp only [hde] at hnx
            have hit2 := Lib.iterAt_heap wr _ PB m (m + 1) hit
            have hbr2 := (Lib.iterAt_other wr (w6.heap.size + 1) w6.heap.size PB (m + 1) (by omega)).trans hbr
            have hbw2 := Lib.below_iterAt hbw (k := w6.heap.size + 1) (by omega) PB (m + 1)
            have htk : (P.zip wt).take (m + 1) = (P.zip wt).take m ++ [(p, x)] := by
              rw [List.take_add_one, show (P.zip wt)[m]? = some (p, x) from List.getElem?_zip_eq_some.2 ⟨hp, hx⟩]; rfl
            obtain ⟨Wn, hWn⟩ : ∃ Wn, wr.iterAt (w6.heap.size + 1) PB (m + 1) = Wn := ⟨_, rfl⟩
            rw [hWn] at hit2 hbr2 hbw2
            simp only [hWn] at hnx
            have hwsn := (hbw2.block _ (Nat.lt_of_lt_of_le hbl1 HB6.out.size)).trans HW6.out
            have gx := ws_cell hwsn (j := m + 1) (x := x) (by rw [HW0.out]; exact hx)
            obtain ⟨B, hBB⟩ : ∃ B, foldP { Ln.zero with op := (k : Int) + 1 } ((P.zip wt).take m) = B := ⟨_, rfl⟩
            rw [hBB] at hbr2
            obtain ⟨z0, z1, z2, z3, z4, z5⟩ := Ln.cells hbr2
            have f1 := free_of_heap hbr2 1
            have f2 := free_of_heap hbr2 2
            have f3 := free_of_heap hbr2 3
            have f4 := free_of_heap hbr2 4
            have f5 := free_of_heap hbr2 5
            have hTn := HT.out.below (HB6.out.trans (hbw2.mono HB6.out.size))
            have HTn := Lib.hid hTn
            have HBR2 := Lib.hid hbr2
            have HBW2 := Lib.hid hbw2
            have HIT2 := Lib.hid hit2
            have HTK := Lib.hid htk
            have HPA := Lib.hid hpa
            have HXS : Hid (x.size ≤ 281474976710656) := Lib.hid (by
              have := HSZ.out x (by rw [HW0.out]; exact List.mem_cons_of_mem _ (List.mem_of_getElem? hx))
              have := HSS.out
              omega)
            have HBBh := Lib.hid hBB
            have HXW := Lib.hid hx
            have HPM := Lib.hid hp
            have HMN : Hid (m + 1 < NW) := Lib.hid (by have := HNW.out; have h2 := HWT.out; rw [HW0.out] at this; simp at this; omega)
            clear hde hps hWn hbr hbw hit hp128 hwsn hbr2 hbw2 hit2 htk hpa hTn hBB hmem hp hx g0
            by_cases h116 : p = 116
            · subst h116
              have HOP : Hid (okP 116 x = namedL x.data.toList ∧ setP B 116 x = { B with text := x }) := Lib.hid ⟨rfl, rfl⟩
              obtain ⟨ok, hok⟩ : ∃ ok, namedL x.data.toList = ok := ⟨_, rfl⟩
              have hnm : ∀ w', Calls Tryd.prog 31 #[.string x] w' fun e w'' => e = .returned (.bool ok) ∧ Below w'.heap.size w' w'' := fun w' => by rw [← hok]; exact named_any x w'
              rw [hok] at HOP
              have HNM := Lib.hid hnm
              have hset : ∀ w' : World, w'.heap[w6.heap.size]? = some B.obj → (w'.setCell ⟨w6.heap.size, 5, none⟩ (.string x)).heap[w6.heap.size]? = some (Ln.obj { B with text := x }) := fun w' h' => heap_setCell (j := 5) h' _
              have HSET := Lib.hid hset
              clear hset hnm hok hl6
              go_upto_region 15 with fail
              refine wp_region_noPanic ?_
              obtain ⟨vals, hvals⟩ : ∃ vals : List Value, vals = [.slice (some ⟨w.heap.size + 1, 0, none⟩) NW NW, .int .i64 m, .int .i64 ((m : Int) + 1), .pointer (some ⟨w.heap.size + 1, m + 1, none⟩), .string x, .slice (some ⟨w.heap.size + 1, 0, none⟩) NW NW, .int .i64 m, .int .i64 ((m : Int) + 1), .pointer (some ⟨w.heap.size + 1, m + 1, none⟩), .string x, .bool ok, .pointer (some ⟨w6.heap.size, 5, none⟩), undef] := ⟨_, rfl⟩
              have hadd : wrap64 ((m : Int) + 1) = (m : Int) + 1 := w64 (by omega)
              have HADD := Lib.hid hadd
              clear hadd
              have HV := Lib.hid hvals
              clear hvals
              refine wp_region_grown2 13 (SG w6 vals (LnG w6.heap.size B { B with text := x } (.stringIter PB (m + 1))) 12) (by kernel_rfl) (by kernel_rfl) ?_ ?_ ?_
              · exact ⟨HBW2.out.drew, (fun i v h => by cases h), ⟨HBR2.out, HIT2.out⟩⟩
              · intro i op σ wq hi ho hI hsi hdep
                have hbi : Below w5.heap.size w5 wq := HB6.out.trans (hI.b.mono HB6.out.size)
                have cws := ws_cell ((hI.b.block _ (Nat.lt_of_lt_of_le hbl1 HB6.out.size)).trans HW6.out) (j := m + 1) (x := x) (by rw [HW0.out]; exact HXW.out)
                have tl : ∀ (j : Nat) v', vals[j]? = some v' → (σ j).isSome = true → σ j = some v' := fun j v' => hI.told
                have hz : ∀ (j : Nat) v', ([.slice (some ⟨w.heap.size + 1, 0, none⟩) NW NW, .int .i64 m, .int .i64 ((m : Int) + 1), .pointer (some ⟨w.heap.size + 1, m + 1, none⟩), .string x, .slice (some ⟨w.heap.size + 1, 0, none⟩) NW NW, .int .i64 m, .int .i64 ((m : Int) + 1), .pointer (some ⟨w.heap.size + 1, m + 1, none⟩), .string x, .bool ok, .pointer (some ⟨w6.heap.size, 5, none⟩), undef] : List Value)[j]? = some v' → vals[j]? = some v' := fun j v' h => by rw [HV.out]; exact h
                rcases (by omega : i = 0 ∨ i = 1 ∨ i = 2 ∨ i = 3 ∨ i = 4 ∨ i = 5 ∨ i = 6 ∨ i = 7 ∨ i = 8 ∨ i = 9 ∨ i = 10 ∨ i = 11 ∨ i = 12) with rfl | rfl | rfl | rfl | rfl | rfl | rfl | rfl | rfl | rfl | rfl | rfl | rfl
                all_goals (simp only [List.getElem?_cons_zero, List.getElem?_cons_succ] at ho; obtain rfl := Option.some.inj ho)
                · exact Or.inl (Or.inl ⟨_, _, (runT_move (.tmp 4) rfl).trans (by rw [evalT_old (by kernel_rfl)]; rfl), hI.step 0 _ (by omega) (hz 0 _ rfl)⟩)
                · exact Or.inl (Or.inl ⟨_, _, (runT_move (.tmp 9) rfl).trans (by rw [evalT_old (by kernel_rfl)]; rfl), hI.step 1 _ (by omega) (hz 1 _ rfl)⟩)
                · have e1 := tl 1 _ (hz 1 _ rfl) (hdep ⟨1, .data⟩ (by simp) rfl)
                  exact Or.inl (Or.inl ⟨_, _, adT HADD.out (.tmp 61) (.const (.int .i64 1)) rfl (evalT_told 1 (by kernel_rfl) e1) rfl, hI.step 2 _ (by omega) (hz 2 _ rfl)⟩)
                · have e0 := tl 0 _ (hz 0 _ rfl) (hdep ⟨0, .data⟩ (by simp) rfl)
                  have e2 := tl 2 _ (hz 2 _ rfl) (hdep ⟨2, .data⟩ (by simp) rfl)
                  exact Or.inl (Or.inl ⟨_, _, idxT _ (.tmp 60) (.tmp 62) rfl _ _ (evalT_told 0 (by kernel_rfl) e0) (evalT_told 2 (by kernel_rfl) e2) (ix_s wq _ (m + 1) NW NW HMN.out), hI.step 3 _ (by omega) (hz 3 _ rfl)⟩)
                · have e3 := tl 3 _ (hz 3 _ rfl) (hdep ⟨3, .data⟩ (by simp) rfl)
                  exact Or.inl (Or.inl ⟨_, _, ldT _ (.tmp 63) rfl _ _ (evalT_told 3 (by kernel_rfl) e3) cws (naS _), hI.step 4 _ (by omega) (hz 4 _ rfl)⟩)
                · exact Or.inl (Or.inl ⟨_, _, (runT_move (.tmp 4) rfl).trans (by rw [evalT_old (by kernel_rfl)]; rfl), hI.step 5 _ (by omega) (hz 5 _ rfl)⟩)
                · exact Or.inl (Or.inl ⟨_, _, (runT_move (.tmp 9) rfl).trans (by rw [evalT_old (by kernel_rfl)]; rfl), hI.step 6 _ (by omega) (hz 6 _ rfl)⟩)
                · have e6 := tl 6 _ (hz 6 _ rfl) (hdep ⟨6, .data⟩ (by simp) rfl)
                  exact Or.inl (Or.inl ⟨_, _, adT HADD.out (.tmp 66) (.const (.int .i64 1)) rfl (evalT_told 6 (by kernel_rfl) e6) rfl, hI.step 7 _ (by omega) (hz 7 _ rfl)⟩)
                · have e5 := tl 5 _ (hz 5 _ rfl) (hdep ⟨5, .data⟩ (by simp) rfl)
                  have e7 := tl 7 _ (hz 7 _ rfl) (hdep ⟨7, .data⟩ (by simp) rfl)
                  exact Or.inl (Or.inl ⟨_, _, idxT _ (.tmp 65) (.tmp 67) rfl _ _ (evalT_told 5 (by kernel_rfl) e5) (evalT_told 7 (by kernel_rfl) e7) (ix_s wq _ (m + 1) NW NW HMN.out), hI.step 8 _ (by omega) (hz 8 _ rfl)⟩)
                · have e8 := tl 8 _ (hz 8 _ rfl) (hdep ⟨8, .data⟩ (by simp) rfl)
                  exact Or.inl (Or.inl ⟨_, _, ldT _ (.tmp 68) rfl _ _ (evalT_told 8 (by kernel_rfl) e8) cws (naS _), hI.step 9 _ (by omega) (hz 9 _ rfl)⟩)
                · have e9 := tl 9 _ (hz 9 _ rfl) (hdep ⟨9, .data⟩ (by simp) rfl)
                  refine Or.inl (Or.inr ⟨31, #[.string x], runT_call 31 #[.tmp 69] _ rfl rfl _ ?_ Tryd.func31 (by kernel_rfl) rfl, (HNM.out wq).mono ?_⟩)
                  · simp only [List.map_toArray, List.map_cons, List.map_nil]
                    rw [evalT_told 9 (by kernel_rfl) e9]
                  · rintro e w'' ⟨rfl, hb''⟩
                    exact ⟨_, rfl, hI.grow LnG.grow hb'' 10 _ (by omega) (hz 10 _ rfl)⟩
                · exact Or.inl (Or.inl ⟨_, _, fldT _ _ (.tmp 8) rfl _ (by rw [evalT_old (by kernel_rfl)]; rfl) (fa_l5 wq w6.heap.size), hI.step 11 _ (by omega) (hz 11 _ rfl)⟩)
                · have e11 := tl 11 _ (hz 11 _ rfl) (hdep ⟨11, .data⟩ (by simp) rfl)
                  have e4 := tl 4 _ (hz 4 _ rfl) (hdep ⟨4, .data⟩ (by simp) rfl)
                  have hm := hI.m
                  rw [hsi] at hm
                  obtain ⟨y0, y1, y2, y3, y4, y5⟩ := Ln.cells hm.1
                  exact Or.inr ⟨_, stoS (.tmp 71) (.tmp 64) rfl _ _ _ _ (evalT_told 11 (by kernel_rfl) e11) (evalT_told 4 (by kernel_rfl) e4) y5 (free_of_heap hm.1 5), hI.store hsi (Nat.le_refl _) (fun w' h' => ⟨HSET.out w' h'.1, (heap_setCell_other w' ⟨w6.heap.size, 5, none⟩ _ _ (by simp)).trans h'.2⟩) (hz 12 _ rfl)⟩
              · intro σ wq hI hsome
                have hz : ∀ (j : Nat) v', ([.slice (some ⟨w.heap.size + 1, 0, none⟩) NW NW, .int .i64 m, .int .i64 ((m : Int) + 1), .pointer (some ⟨w.heap.size + 1, m + 1, none⟩), .string x, .slice (some ⟨w.heap.size + 1, 0, none⟩) NW NW, .int .i64 m, .int .i64 ((m : Int) + 1), .pointer (some ⟨w.heap.size + 1, m + 1, none⟩), .string x, .bool ok, .pointer (some ⟨w6.heap.size, 5, none⟩), undef] : List Value)[j]? = some v' → vals[j]? = some v' := fun j v' h => by rw [HV.out]; exact h
                have e0 := hI.told (hz 0 _ rfl) (hsome 0 (by omega))
                have e1 := hI.told (hz 1 _ rfl) (hsome 1 (by omega))
                have e2 := hI.told (hz 2 _ rfl) (hsome 2 (by omega))
                have e3 := hI.told (hz 3 _ rfl) (hsome 3 (by omega))
                have e4 := hI.told (hz 4 _ rfl) (hsome 4 (by omega))
                have e5 := hI.told (hz 5 _ rfl) (hsome 5 (by omega))
                have e6 := hI.told (hz 6 _ rfl) (hsome 6 (by omega))
                have e7 := hI.told (hz 7 _ rfl) (hsome 7 (by omega))
                have e8 := hI.told (hz 8 _ rfl) (hsome 8 (by omega))
                have e9 := hI.told (hz 9 _ rfl) (hsome 9 (by omega))
                have e10 := hI.told (hz 10 _ rfl) (hsome 10 (by omega))
                have e11 := hI.told (hz 11 _ rfl) (hsome 11 (by omega))
                have e12 := hI.told (hz 12 _ rfl) (hsome 12 (by omega))
                have HIM : Hid (LnG w6.heap.size B { B with text := x } (.stringIter PB (m + 1)) true wq) := Lib.hid (by have := hI.m; rw [hsome 12 (by omega)] at this; exact this)
                have HIB : Hid (Below w6.heap.size w6 wq) := Lib.hid hI.b
                simp only [List.take_succ_cons, List.take_zero, List.drop_succ_cons, List.drop_zero, putsT, e0, e1, e2, e3, e4, e5, e6, e7, e8, e9, e10, e11, e12, Option.getD_some]
                clear hI hsome e0 e1 e2 e3 e4 e5 e6 e7 e8 e9 e10 e11 e12 hz z0 z1 z2 z3 z4 z5 f1 f2 f3 f4 f5 gx hnx
                go_frame
                cases ok
                · have HNONE : Hid (lineR s = (Ln.zero, false)) := Lib.hid (by
                    unfold lineR lineF lineW
                    rw [HWS.out, HF.out]
                    simp only
                    rw [HP.out, if_neg]
                    intro hall
                    have hq := List.all_eq_true.1 hall (116, x) (by
                      rw [HW0.out]
                      exact List.mem_of_getElem? (i := m) (List.getElem?_zip_eq_some.2 ⟨HPM.out, HXW.out⟩))
                    rw [HOP.out.1] at hq
                    cases hq)
                  have hrb := keepB (HB6.out.trans (HIB.out.mono HB6.out.size)) HBR.out
                  have HRB := Lib.hid hrb
                  obtain ⟨r0, r1, r2, r3, r4, r5⟩ := Ln.cells hrb
                  have f0 := free_of_heap hrb 0
                  have f1 := free_of_heap hrb 1
                  have f2 := free_of_heap hrb 2
                  have f3 := free_of_heap hrb 3
                  have f4 := free_of_heap hrb 4
                  have f5 := free_of_heap hrb 5
                  clear hrb
                  go_wp2_with fail
                  refine NoPanic.normal ?_
                  go_wp2
                  generalize hwf : ((((((wq.setCell ⟨w.heap.size, 0, none⟩ (.int .i64 0)).setCell ⟨w.heap.size, 1, none⟩ (.int .i64 0)).setCell ⟨w.heap.size, 2, none⟩ (.int .i64 0)).setCell ⟨w.heap.size, 3, none⟩ (.int .i64 0)).setCell ⟨w.heap.size, 4, none⟩ (.int .i64 0)).setCell ⟨w.heap.size, 5, none⟩ (.string ⟨#[]⟩)) = wf
                  obtain ⟨h1, h2⟩ := fin6 (w := w) Ln.zero HRB.out (Nat.le_refl _) (HB.out.trans ((HB6.out.trans (HIB.out.mono HB6.out.size)).mono HB.out.size)) wf hwf.symm
                  obtain ⟨e0, e1, e2, e3, e4, e5⟩ := Ln.cells h1
                  have e0 : wf.cell? ⟨w.heap.size, 0, none⟩ = some (.int .i64 0) := e0
                  have e1 : wf.cell? ⟨w.heap.size, 1, none⟩ = some (.int .i64 0) := e1
                  have e2 : wf.cell? ⟨w.heap.size, 2, none⟩ = some (.int .i64 0) := e2
                  have e3 : wf.cell? ⟨w.heap.size, 3, none⟩ = some (.int .i64 0) := e3
                  have e4 : wf.cell? ⟨w.heap.size, 4, none⟩ = some (.int .i64 0) := e4
                  have e5 : wf.cell? ⟨w.heap.size, 5, none⟩ = some (.string ⟨#[]⟩) := e5
                  clear r0 r1 r2 r3 r4 r5 f0 f1 f2 f3 f4 f5 h1
                  (try simp only [Exit.inBlock, Exit.then])
                  refine bodyPost_ret (by simp [results, Tryd.results35, go_sem, e0, e1, e2, e3, e4, e5]; try rfl) rfl ?_
                  rw [HNONE.out]
                  exact ⟨rfl, h2⟩
                · go_wp2_with fail
                  refine NoPanic.normal ?_
                  go_wp2
                  go_roundg g'
                  case measure => omega
                  case rel => exact ⟨m + 1, by have := HL.out; omega, HIM.out.2, by rw [HTK.out]; unfold foldP; rw [List.foldl_append]; show _ = some (Ln.obj (setP (foldP _ _) 116 x)); rw [HBBh.out, HOP.out.2]; exact HIM.out.1, HIB.out, fun q hq => by
                    rw [HTK.out] at hq
                    rcases List.mem_append.1 hq with hq | hq
                    · exact HPA.out q hq
                    · rw [List.mem_singleton.1 hq]; exact HOP.out.1⟩
            by_cases h111 : p = 111
            · subst h111
              have HOP : Hid (okP 111 x = decide (0 < opOf x) ∧ setP B 111 x = { B with n := opOf x }) := Lib.hid ⟨rfl, rfl⟩
              have hnd := opNamed_any x Wn HTn.out
              obtain ⟨ok, hok⟩ : ∃ ok, decide (0 < opOf x) = ok := ⟨_, rfl⟩
              obtain ⟨q, hq⟩ : ∃ q, opOf x = q := ⟨_, rfl⟩
              rw [hok] at hnd HOP
              rw [hq] at hnd HOP
              have HND := Lib.hid hnd
              have hlt6 : w.heap.size < w6.heap.size := Nat.lt_of_lt_of_le hbl HB6.out.size
              clear hnd hok hq h116 hl6
              have hmz : (m : Int) + 1 < NW := by have := HMN.out; omega
              cases ok
              · have HNONE : Hid (lineR s = (Ln.zero, false)) := Lib.hid (by
                  unfold lineR lineF lineW
                  rw [HWS.out, HF.out]
                  simp only
                  rw [HP.out, if_neg]
                  intro hall
                  have hq := List.all_eq_true.1 hall (111, x) (by
                    rw [HW0.out]
                    exact List.mem_of_getElem? (i := m) (List.getElem?_zip_eq_some.2 ⟨HPM.out, HXW.out⟩))
                  rw [HOP.out.1] at hq
                  cases hq)
                go_wp2_with (first
                  | (go_at_call 53; refine HND.out.mono ?_; rintro e w8 ⟨rfl, hb8⟩;
                     have HBR8 := Lib.hid (keepB hb8 HBR2.out);
                     have HIT8 := Lib.hid (keepB hb8 HIT2.out);
                     have HB8 : Hid (Below w6.heap.size w6 w8) := Lib.hid (HBW2.out.trans (hb8.mono HBW2.out.size));
                     clear z0 z1 z2 z3 z4 z5 f1 f2 f3 f4 f5 gx hnx hb8;
                     have z4 := (Ln.cells HBR8.out).2.2.2.2.1;
                     have f4 := free_of_heap HBR8.out 4;
                     have hrb := keepB (HB6.out.trans (HB8.out.mono HB6.out.size)) HBR.out;
                     have HRB8 := Lib.hid hrb;
                     obtain ⟨r0, r1, r2, r3, r4, r5⟩ := Ln.cells hrb;
                     have n0 := free_of_heap hrb 0;
                     have n1 := free_of_heap hrb 1;
                     have n2 := free_of_heap hrb 2;
                     have n3 := free_of_heap hrb 3;
                     have n4 := free_of_heap hrb 4;
                     have n5 := free_of_heap hrb 5;
                     clear hrb))
                generalize hwf : (((((((w8.setCell ⟨w6.heap.size, 4, none⟩ (.int .i64 q)).setCell ⟨w.heap.size, 0, none⟩ (.int .i64 0)).setCell ⟨w.heap.size, 1, none⟩ (.int .i64 0)).setCell ⟨w.heap.size, 2, none⟩ (.int .i64 0)).setCell ⟨w.heap.size, 3, none⟩ (.int .i64 0)).setCell ⟨w.heap.size, 4, none⟩ (.int .i64 0)).setCell ⟨w.heap.size, 5, none⟩ (.string ⟨#[]⟩)) = wf
                obtain ⟨h1, h2⟩ := fin6 (w := w) (w7 := w8.setCell ⟨w6.heap.size, 4, none⟩ (.int .i64 q)) Ln.zero ((heap_setCell_other w8 ⟨w6.heap.size, 4, none⟩ w.heap.size _ (Nat.ne_of_lt hlt6)).trans HRB8.out) (Nat.le_refl _) (HB.out.trans ((HB6.out.trans ((HB8.out.setCell (p := ⟨w6.heap.size, 4, none⟩) (Nat.le_refl _) _).mono HB6.out.size)).mono HB.out.size)) wf hwf.symm
                obtain ⟨e0, e1, e2, e3, e4, e5⟩ := Ln.cells h1
                have e0 : wf.cell? ⟨w.heap.size, 0, none⟩ = some (.int .i64 0) := e0
                have e1 : wf.cell? ⟨w.heap.size, 1, none⟩ = some (.int .i64 0) := e1
                have e2 : wf.cell? ⟨w.heap.size, 2, none⟩ = some (.int .i64 0) := e2
                have e3 : wf.cell? ⟨w.heap.size, 3, none⟩ = some (.int .i64 0) := e3
                have e4 : wf.cell? ⟨w.heap.size, 4, none⟩ = some (.int .i64 0) := e4
                have e5 : wf.cell? ⟨w.heap.size, 5, none⟩ = some (.string ⟨#[]⟩) := e5
                clear r0 r1 r2 r3 r4 r5 n0 n1 n2 n3 n4 n5 h1
                (try simp only [Exit.inBlock, Exit.then])
                refine bodyPost_ret (by simp [results, Tryd.results35, go_sem, e0, e1, e2, e3, e4, e5]; try rfl) rfl ?_
                rw [HNONE.out]
                exact ⟨rfl, h2⟩
              · go_wp2_with (first
                  | (go_at_call 53; refine HND.out.mono ?_; rintro e w8 ⟨rfl, hb8⟩;
                     have HBR8 := Lib.hid (keepB hb8 HBR2.out);
                     have HIT8 := Lib.hid (keepB hb8 HIT2.out);
                     have HB8 : Hid (Below w6.heap.size w6 w8) := Lib.hid (HBW2.out.trans (hb8.mono HBW2.out.size));
                     clear z0 z1 z2 z3 z4 z5 f1 f2 f3 f4 f5 gx hnx hb8;
                     have z4 := (Ln.cells HBR8.out).2.2.2.2.1;
                     have f4 := free_of_heap HBR8.out 4))
                go_roundg g'
                case measure => omega
                case rel => exact ⟨m + 1, by have := HL.out; omega, (heap_setCell_other w8 ⟨w6.heap.size, 4, none⟩ _ _ (by simp)).trans HIT8.out, by rw [HTK.out]; unfold foldP; rw [List.foldl_append]; show _ = some (Ln.obj (setP (foldP _ _) 111 x)); rw [HBBh.out, HOP.out.2]; exact heap_setCell (j := 4) HBR8.out _, HB8.out.setCell (p := ⟨w6.heap.size, 4, none⟩) (Nat.le_refl _) _, fun q hq => by
                  rw [HTK.out] at hq
                  rcases List.mem_append.1 hq with hq | hq
                  · exact HPA.out q hq
                  · rw [List.mem_singleton.1 hq]; exact HOP.out.1⟩
            have hp4 : p = 114 ∨ p = 97 ∨ p = 98 ∨ p = 110 := by
              rcases hl6 with h | h | h | h | h | h
              · exact Or.inl h
              · exact Or.inr (Or.inl h)
              · exact Or.inr (Or.inr (Or.inl h))
              · exact Or.inr (Or.inr (Or.inr h))
              · exact absurd h h111
              · exact absurd h h116
            have HOP : Hid (okP p x = (numF x).2 ∧ setP B p x = B.set p (numF x).1) := Lib.hid (by unfold okP setP; rw [if_neg h116, if_neg h111, if_neg h116, if_neg h111]; exact ⟨rfl, rfl⟩)
            obtain ⟨pi, hpi⟩ : ∃ pi : Int, (p.toNat : Int) = pi := ⟨_, rfl⟩
            have n116 : (pi == 116) = false := by
              rw [← hpi]; simp
              intro e
              exact h116 (UInt8.toNat.inj (by show p.toNat = 116; omega))
            have n111 : (pi == 111) = false := by
              rw [← hpi]; simp
              intro e
              exact h111 (UInt8.toNat.inj (by show p.toNat = 111; omega))
            obtain ⟨of, hof⟩ : ∃ of, offR pi = of := ⟨_, rfl⟩
            have hfl : ∀ w', Calls Tryd.prog 40 #[.pointer (some ⟨w6.heap.size, 0, none⟩), .int .i32 pi] w' fun e w'' => e = .returned (.pointer (some ⟨w6.heap.size, of, none⟩)) ∧ w' = w'' := fun w' => by rw [← hof]; exact field_any _ pi w'
            obtain ⟨v, hv⟩ : ∃ v, (numF x).1 = v := ⟨_, rfl⟩
            obtain ⟨ok, hok⟩ : ∃ ok, (numF x).2 = ok := ⟨_, rfl⟩
            have hnum : ∀ w', Tabs w' → Calls Tryd.prog 34 #[.string x] w' fun e w'' => e = .returned (.tuple #[.int .i64 v, .bool ok]) ∧ Below w'.heap.size w' w'' := fun w' hT' => by rw [← hv, ← hok]; exact number_any x HXS.out w' hT'
            rw [hv, hok] at HOP
            have hset : ∀ w' : World, w'.heap[w6.heap.size]? = some B.obj → (w'.setCell ⟨w6.heap.size, of, none⟩ (.int .i64 v)).heap[w6.heap.size]? = some (B.set p v).obj := fun w' h' => by rw [← hof, ← hpi]; exact set_obj2 h' p v hp4
            have HSET := Lib.hid hset
            have HFL := Lib.hid hfl
            have HNUM := Lib.hid hnum
            have hofc : of = 1 ∨ of = 2 ∨ of = 3 ∨ of = 4 := by
              rw [← hof, ← hpi]
              rcases hp4 with rfl | rfl | rfl | rfl <;> decide
            have HOFC := Lib.hid hofc
            clear hset hfl hnum hofc hv hok hof h116 h111 hl6
            rw [hpi] at hnx
            have HPI := Lib.hid hpi
            clear hpi
            go_upto_region 13 with fail
            refine wp_region_noPanic ?_
            obtain ⟨vals, hvals⟩ : ∃ vals : List Value, vals = [.int .i32 pi, .pointer (some ⟨w6.heap.size, of, none⟩), .slice (some ⟨w.heap.size + 1, 0, none⟩) NW NW, .int .i64 m, .int .i64 ((m : Int) + 1), .pointer (some ⟨w.heap.size + 1, m + 1, none⟩), .string x, .tuple #[.int .i64 v, .bool ok], .tuple #[.int .i64 v, .bool ok], .int .i64 v, .bool ok, .pointer (some ⟨w6.heap.size, of, none⟩), undef] := ⟨_, rfl⟩
            have hadd : wrap64 ((m : Int) + 1) = (m : Int) + 1 := w64 (by omega)
            have HADD := Lib.hid hadd
            clear hadd
            have HV := Lib.hid hvals
            clear hvals
            refine wp_region_grown2 13 (SG w6 vals (LnG w6.heap.size B (B.set p v) (.stringIter PB (m + 1))) 12) (by kernel_rfl) (by kernel_rfl) ?_ ?_ ?_
            · exact ⟨HBW2.out.drew, (fun i v h => by cases h), ⟨HBR2.out, HIT2.out⟩⟩
            · intro i op σ wq hi ho hI hsi hdep
              have hbi : Below w5.heap.size w5 wq := HB6.out.trans (hI.b.mono HB6.out.size)
              have cws := ws_cell ((hI.b.block _ (Nat.lt_of_lt_of_le hbl1 HB6.out.size)).trans HW6.out) (j := m + 1) (x := x) (by rw [HW0.out]; exact HXW.out)
              have hTq := HT.out.below hbi
              have tl : ∀ (j : Nat) v', vals[j]? = some v' → (σ j).isSome = true → σ j = some v' := fun j v' => hI.told
              have hz : ∀ (j : Nat) v', ([.int .i32 pi, .pointer (some ⟨w6.heap.size, of, none⟩), .slice (some ⟨w.heap.size + 1, 0, none⟩) NW NW, .int .i64 m, .int .i64 ((m : Int) + 1), .pointer (some ⟨w.heap.size + 1, m + 1, none⟩), .string x, .tuple #[.int .i64 v, .bool ok], .tuple #[.int .i64 v, .bool ok], .int .i64 v, .bool ok, .pointer (some ⟨w6.heap.size, of, none⟩), undef] : List Value)[j]? = some v' → vals[j]? = some v' := fun j v' h => by rw [HV.out]; exact h
              rcases (by omega : i = 0 ∨ i = 1 ∨ i = 2 ∨ i = 3 ∨ i = 4 ∨ i = 5 ∨ i = 6 ∨ i = 7 ∨ i = 8 ∨ i = 9 ∨ i = 10 ∨ i = 11 ∨ i = 12) with rfl | rfl | rfl | rfl | rfl | rfl | rfl | rfl | rfl | rfl | rfl | rfl | rfl
              all_goals (simp only [List.getElem?_cons_zero, List.getElem?_cons_succ] at ho; obtain rfl := Option.some.inj ho)
              · exact Or.inl (Or.inl ⟨_, _, (runT_move (.tmp 10) rfl).trans (by rw [evalT_old (by kernel_rfl)]; rfl), hI.step 0 _ (by omega) (hz 0 _ rfl)⟩)
              · have e0 := tl 0 _ (hz 0 _ rfl) (hdep ⟨0, .data⟩ (by simp) rfl)
                refine Or.inl (Or.inr ⟨40, #[.pointer (some ⟨w6.heap.size, 0, none⟩), .int .i32 pi], runT_call 40 #[.tmp 8, .tmp 47] _ rfl rfl _ ?_ Tryd.func40 (by kernel_rfl) rfl, (HFL.out wq).mono ?_⟩)
                · simp only [List.map_toArray, List.map_cons, List.map_nil]
                  rw [evalT_old (by kernel_rfl), evalT_told 0 (by kernel_rfl) e0]
                  rfl
                · rintro e w'' ⟨rfl, rfl⟩
                  exact ⟨_, rfl, hI.step 1 _ (by omega) (hz 1 _ rfl)⟩
              · exact Or.inl (Or.inl ⟨_, _, (runT_move (.tmp 4) rfl).trans (by rw [evalT_old (by kernel_rfl)]; rfl), hI.step 2 _ (by omega) (hz 2 _ rfl)⟩)
              · exact Or.inl (Or.inl ⟨_, _, (runT_move (.tmp 9) rfl).trans (by rw [evalT_old (by kernel_rfl)]; rfl), hI.step 3 _ (by omega) (hz 3 _ rfl)⟩)
              · have e3 := tl 3 _ (hz 3 _ rfl) (hdep ⟨3, .data⟩ (by simp) rfl)
                exact Or.inl (Or.inl ⟨_, _, adT HADD.out (.tmp 50) (.const (.int .i64 1)) rfl (evalT_told 3 (by kernel_rfl) e3) rfl, hI.step 4 _ (by omega) (hz 4 _ rfl)⟩)
              · have e2 := tl 2 _ (hz 2 _ rfl) (hdep ⟨2, .data⟩ (by simp) rfl)
                have e4 := tl 4 _ (hz 4 _ rfl) (hdep ⟨4, .data⟩ (by simp) rfl)
                exact Or.inl (Or.inl ⟨_, _, idxT _ (.tmp 49) (.tmp 51) rfl _ _ (evalT_told 2 (by kernel_rfl) e2) (evalT_told 4 (by kernel_rfl) e4) (ix_s wq _ (m + 1) NW NW HMN.out), hI.step 5 _ (by omega) (hz 5 _ rfl)⟩)
              · have e5 := tl 5 _ (hz 5 _ rfl) (hdep ⟨5, .data⟩ (by simp) rfl)
                exact Or.inl (Or.inl ⟨_, _, ldT _ (.tmp 52) rfl _ _ (evalT_told 5 (by kernel_rfl) e5) cws (naS _), hI.step 6 _ (by omega) (hz 6 _ rfl)⟩)
              · have e6 := tl 6 _ (hz 6 _ rfl) (hdep ⟨6, .data⟩ (by simp) rfl)
                refine Or.inl (Or.inr ⟨34, #[.string x], runT_call 34 #[.tmp 53] _ rfl rfl _ ?_ Tryd.func34 (by kernel_rfl) rfl, (HNUM.out wq hTq).mono ?_⟩)
                · simp only [List.map_toArray, List.map_cons, List.map_nil]
                  rw [evalT_told 6 (by kernel_rfl) e6]
                · rintro e w'' ⟨rfl, hb''⟩
                  exact ⟨_, rfl, hI.grow LnG.grow hb'' 7 _ (by omega) (hz 7 _ rfl)⟩
              · have e7 := tl 7 _ (hz 7 _ rfl) (hdep ⟨7, .data⟩ (by simp) rfl)
                exact Or.inl (Or.inl ⟨_, _, (runT_move (.tmp 54) rfl).trans (by rw [evalT_told 7 (by kernel_rfl) e7]), hI.step 8 _ (by omega) (hz 8 _ rfl)⟩)
              · have e8 := tl 8 _ (hz 8 _ rfl) (hdep ⟨8, .data⟩ (by simp) rfl)
                exact Or.inl (Or.inl ⟨_, _, extT (.tmp 46) 0 rfl _ (evalT_told 8 (by kernel_rfl) e8) rfl, hI.step 9 _ (by omega) (hz 9 _ rfl)⟩)
              · have e8 := tl 8 _ (hz 8 _ rfl) (hdep ⟨8, .data⟩ (by simp) rfl)
                exact Or.inl (Or.inl ⟨_, _, extT (.tmp 46) 1 rfl _ (evalT_told 8 (by kernel_rfl) e8) rfl, hI.step 10 _ (by omega) (hz 10 _ rfl)⟩)
              · have e1 := tl 1 _ (hz 1 _ rfl) (hdep ⟨1, .data⟩ (by simp) rfl)
                exact Or.inl (Or.inl ⟨_, _, nilT (.tmp 48) rfl _ (evalT_told 1 (by kernel_rfl) e1), hI.step 11 _ (by omega) (hz 11 _ rfl)⟩)
              · have e11 := tl 11 _ (hz 11 _ rfl) (hdep ⟨11, .data⟩ (by simp) rfl)
                have e9 := tl 9 _ (hz 9 _ rfl) (hdep ⟨9, .data⟩ (by simp) rfl)
                have hm := hI.m
                rw [hsi] at hm
                obtain ⟨u0, hu0⟩ : ∃ u0, wq.cell? ⟨w6.heap.size, of, none⟩ = some u0 := by
                  obtain ⟨y0, y1, y2, y3, y4, y5⟩ := Ln.cells hm.1
                  rcases HOFC.out with rfl | rfl | rfl | rfl
                  · exact ⟨_, y1⟩
                  · exact ⟨_, y2⟩
                  · exact ⟨_, y3⟩
                  · exact ⟨_, y4⟩
                exact Or.inr ⟨_, stoI (.tmp 57) (.tmp 55) rfl _ _ _ u0 (evalT_told 11 (by kernel_rfl) e11) (evalT_told 9 (by kernel_rfl) e9) hu0 (free_of_heap hm.1 of), hI.store hsi (Nat.le_refl _) (fun w' h' => ⟨HSET.out w' h'.1, (heap_setCell_other w' ⟨w6.heap.size, of, none⟩ _ _ (by simp)).trans h'.2⟩) (hz 12 _ rfl)⟩
            · intro σ wq hI hsome
              have hz : ∀ (j : Nat) v', ([.int .i32 pi, .pointer (some ⟨w6.heap.size, of, none⟩), .slice (some ⟨w.heap.size + 1, 0, none⟩) NW NW, .int .i64 m, .int .i64 ((m : Int) + 1), .pointer (some ⟨w.heap.size + 1, m + 1, none⟩), .string x, .tuple #[.int .i64 v, .bool ok], .tuple #[.int .i64 v, .bool ok], .int .i64 v, .bool ok, .pointer (some ⟨w6.heap.size, of, none⟩), undef] : List Value)[j]? = some v' → vals[j]? = some v' := fun j v' h => by rw [HV.out]; exact h
              have e0 := hI.told (hz 0 _ rfl) (hsome 0 (by omega))
              have e1 := hI.told (hz 1 _ rfl) (hsome 1 (by omega))
              have e2 := hI.told (hz 2 _ rfl) (hsome 2 (by omega))
              have e3 := hI.told (hz 3 _ rfl) (hsome 3 (by omega))
              have e4 := hI.told (hz 4 _ rfl) (hsome 4 (by omega))
              have e5 := hI.told (hz 5 _ rfl) (hsome 5 (by omega))
              have e6 := hI.told (hz 6 _ rfl) (hsome 6 (by omega))
              have e7 := hI.told (hz 7 _ rfl) (hsome 7 (by omega))
              have e8 := hI.told (hz 8 _ rfl) (hsome 8 (by omega))
              have e9 := hI.told (hz 9 _ rfl) (hsome 9 (by omega))
              have e10 := hI.told (hz 10 _ rfl) (hsome 10 (by omega))
              have e11 := hI.told (hz 11 _ rfl) (hsome 11 (by omega))
              have e12 := hI.told (hz 12 _ rfl) (hsome 12 (by omega))
              have HIM : Hid (LnG w6.heap.size B (B.set p v) (.stringIter PB (m + 1)) true wq) := Lib.hid (by have := hI.m; rw [hsome 12 (by omega)] at this; exact this)
              have HIB : Hid (Below w6.heap.size w6 wq) := Lib.hid hI.b
              simp only [List.take_succ_cons, List.take_zero, List.drop_succ_cons, List.drop_zero, putsT, e0, e1, e2, e3, e4, e5, e6, e7, e8, e9, e10, e11, e12, Option.getD_some]
              clear hI hsome e0 e1 e2 e3 e4 e5 e6 e7 e8 e9 e10 e11 e12 hz z0 z1 z2 z3 z4 z5 f1 f2 f3 f4 f5 gx hnx n116 n111
              go_frame
              cases ok
              · have HNONE : Hid (lineR s = (Ln.zero, false)) := Lib.hid (by
                  unfold lineR lineF lineW
                  rw [HWS.out, HF.out]
                  simp only
                  rw [HP.out, if_neg]
                  intro hall
                  have hq := List.all_eq_true.1 hall (p, x) (by
                    rw [HW0.out]
                    exact List.mem_of_getElem? (i := m) (List.getElem?_zip_eq_some.2 ⟨HPM.out, HXW.out⟩))
                  rw [HOP.out.1] at hq
                  cases hq)
                have hrb := keepB (HB6.out.trans (HIB.out.mono HB6.out.size)) HBR.out
                have HRB := Lib.hid hrb
                obtain ⟨r0, r1, r2, r3, r4, r5⟩ := Ln.cells hrb
                have f0 := free_of_heap hrb 0
                have f1 := free_of_heap hrb 1
                have f2 := free_of_heap hrb 2
                have f3 := free_of_heap hrb 3
                have f4 := free_of_heap hrb 4
                have f5 := free_of_heap hrb 5
                clear hrb
                go_wp2_with fail
                refine NoPanic.normal ?_
                go_wp2
                generalize hwf : ((((((wq.setCell ⟨w.heap.size, 0, none⟩ (.int .i64 0)).setCell ⟨w.heap.size, 1, none⟩ (.int .i64 0)).setCell ⟨w.heap.size, 2, none⟩ (.int .i64 0)).setCell ⟨w.heap.size, 3, none⟩ (.int .i64 0)).setCell ⟨w.heap.size, 4, none⟩ (.int .i64 0)).setCell ⟨w.heap.size, 5, none⟩ (.string ⟨#[]⟩)) = wf
                obtain ⟨h1, h2⟩ := fin6 (w := w) Ln.zero HRB.out (Nat.le_refl _) (HB.out.trans ((HB6.out.trans (HIB.out.mono HB6.out.size)).mono HB.out.size)) wf hwf.symm
                obtain ⟨e0, e1, e2, e3, e4, e5⟩ := Ln.cells h1
                have e0 : wf.cell? ⟨w.heap.size, 0, none⟩ = some (.int .i64 0) := e0
                have e1 : wf.cell? ⟨w.heap.size, 1, none⟩ = some (.int .i64 0) := e1
                have e2 : wf.cell? ⟨w.heap.size, 2, none⟩ = some (.int .i64 0) := e2
                have e3 : wf.cell? ⟨w.heap.size, 3, none⟩ = some (.int .i64 0) := e3
                have e4 : wf.cell? ⟨w.heap.size, 4, none⟩ = some (.int .i64 0) := e4
                have e5 : wf.cell? ⟨w.heap.size, 5, none⟩ = some (.string ⟨#[]⟩) := e5
                clear r0 r1 r2 r3 r4 r5 f0 f1 f2 f3 f4 f5 h1
                (try simp only [Exit.inBlock, Exit.then])
                refine bodyPost_ret (by simp [results, Tryd.results35, go_sem, e0, e1, e2, e3, e4, e5]; try rfl) rfl ?_
                rw [HNONE.out]
                exact ⟨rfl, h2⟩
              · go_wp2_with fail
                refine NoPanic.normal ?_
                go_wp2
                go_roundg g'
                case measure => omega
                case rel => exact ⟨m + 1, by have := HL.out; omega, HIM.out.2, by rw [HTK.out]; unfold foldP; rw [List.foldl_append]; show _ = some (Ln.obj (setP (foldP _ _) p x)); rw [HBBh.out, HOP.out.2]; exact HIM.out.1, HIB.out, fun q hq => by
                  rw [HTK.out] at hq
                  rcases List.mem_append.1 hq with hq | hq
                  · exact HPA.out q hq
                  · rw [List.mem_singleton.1 hq]; exact HOP.out.1⟩
          · obtain rfl : m = L := by omega
            have hall : ((P.zip wt).take m) = P.zip wt := List.take_of_length_le (by rw [List.length_zip, HL.out, HWT.out]; simp)
            rw [hall] at hbr hpa
            obtain ⟨B, hBB⟩ : ∃ B, foldP { Ln.zero with op := (k : Int) + 1 } (P.zip wt) = B := ⟨_, rfl⟩
            have HSOME : Hid (lineR s = (B, true)) := Lib.hid (by
              unfold lineR lineF lineW
              rw [HWS.out, HF.out]
              simp only
              rw [HP.out, HW0.out, List.tail_cons, if_pos (List.all_eq_true.2 hpa), hBB])
            rw [hBB] at hbr
            obtain ⟨z0, z1, z2, z3, z4, z5⟩ := Ln.cells hbr
            have hpe : ¬ m < PB.size := by rw [hsz]; omega
            have hnx : ∀ ty, (Instr.next (.pointer (some ⟨w6.heap.size + 1, 0, none⟩)) true ty).run Tryd.prog wr = _ := fun ty => Lib.run_next_end_at wr _ PB m ty hit hpe
            have hrb := keepB (HB6.out.trans (hbw.mono HB6.out.size)) HBR.out
            have HRB := Lib.hid hrb
            obtain ⟨r0, r1, r2, r3, r4, r5⟩ := Ln.cells hrb
            have f0 := free_of_heap hrb 0
            have f1 := free_of_heap hrb 1
            have f2 := free_of_heap hrb 2
            have f3 := free_of_heap hrb 3
            have f4 := free_of_heap hrb 4
            have f5 := free_of_heap hrb 5
            clear hrb
            go_wp2
            generalize hwf : ((((((wr.setCell ⟨w.heap.size, 0, none⟩ (.int .i64 B.op)).setCell ⟨w.heap.size, 1, none⟩ (.int .i64 B.r)).setCell ⟨w.heap.size, 2, none⟩ (.int .i64 B.a)).setCell ⟨w.heap.size, 3, none⟩ (.int .i64 B.b)).setCell ⟨w.heap.size, 4, none⟩ (.int .i64 B.n)).setCell ⟨w.heap.size, 5, none⟩ (.string B.text)) = wf
            obtain ⟨h1, h2⟩ := fin6 (w := w) B HRB.out (Nat.le_refl _) (HB.out.trans ((HB6.out.trans (hbw.mono HB6.out.size)).mono HB.out.size)) wf hwf.symm
            obtain ⟨e0, e1, e2, e3, e4, e5⟩ := Ln.cells h1
            have e0 : wf.cell? ⟨w.heap.size, 0, none⟩ = some (.int .i64 B.op) := e0
            have e1 : wf.cell? ⟨w.heap.size, 1, none⟩ = some (.int .i64 B.r) := e1
            have e2 : wf.cell? ⟨w.heap.size, 2, none⟩ = some (.int .i64 B.a) := e2
            have e3 : wf.cell? ⟨w.heap.size, 3, none⟩ = some (.int .i64 B.b) := e3
            have e4 : wf.cell? ⟨w.heap.size, 4, none⟩ = some (.int .i64 B.n) := e4
            have e5 : wf.cell? ⟨w.heap.size, 5, none⟩ = some (.string B.text) := e5
            clear r0 r1 r2 r3 r4 r5 f0 f1 f2 f3 f4 f5 h1
            (try simp only [Exit.inBlock, Exit.then])
            refine bodyPost_ret (by simp [results, Tryd.results35, go_sem, e0, e1, e2, e3, e4, e5]; try rfl) rfl ?_
            rw [HSOME.out]
            exact ⟨rfl, h2⟩
      · have HNO2 : Hid (∀ j, j < k + 1 → fitsB ws j = false) := Lib.hid (fun j hj => by
          by_cases hjk : j = k
          · subst hjk
            rw [HFT.out]
            cases c1
            · rfl
            · rw [Bool.true_and, decide_eq_false_iff_not]
              exact fun h => hfit ⟨rfl, h⟩
          · exact HNO.out j (by omega))
        have q3 : decide ((NW : Int) = (L : Int) + 1) = decide (NW = L + 1) := by
          rw [Bool.eq_iff_iff]; simp; omega
        cases c1
        · clear hfit
          go_wp2_with (first
            | (go_at_call 38; refine hsh.mono ?_; rintro e w6 ⟨rfl, hb6⟩;
               have HB6 : Hid (Below w5.heap.size w5 w6) := Lib.hid (HB5.out.trans (hb6.mono HB5.out.size));
               have hw6 := (HB6.out.block _ hbl1).trans HBW.out;
               have HW6 := Lib.hid hw6;
               have g0 := ws_cell hw6 (j := 0) (x := w0) (by rw [HW0.out]; rfl);
               clear hb6 hw6 hsh))
          exact ⟨⟨k + 1, by omega, by rw [show ((k : Int) + 1 + 1) = ((k + 1 : Nat) : Int) + 1 by omega], HB6.out, HNO2.out⟩, by simp [intOf]; omega⟩
        · have q4 : ((NW : Int) != (L : Int) + 1) = true := by
            simp
            intro h
            exact hfit ⟨rfl, by omega⟩
          have q5 : ((NW : Int) == (L : Int) + 1) = false := by
            simp
            intro h
            exact hfit ⟨rfl, by omega⟩
          clear hfit
          go_wp2_with (first
            | (go_at_call 38; refine hsh.mono ?_; rintro e w6 ⟨rfl, hb6⟩;
               have HB6 : Hid (Below w5.heap.size w5 w6) := Lib.hid (HB5.out.trans (hb6.mono HB5.out.size));
               have hw6 := (HB6.out.block _ hbl1).trans HBW.out;
               have HW6 := Lib.hid hw6;
               have g0 := ws_cell hw6 (j := 0) (x := w0) (by rw [HW0.out]; rfl);
               clear hb6 hw6 hsh))
          exact ⟨⟨k + 1, by omega, by rw [show ((k : Int) + 1 + 1) = ((k + 1 : Nat) : Int) + 1 by omega], HB6.out, HNO2.out⟩, by simp [intOf]; omega⟩
    · obtain rfl : k = 18 := by omega
      have HNONE : Hid (lineR s = (Ln.zero, false)) := Lib.hid (by
        unfold lineR lineF lineW
        rw [HWS.out, opFit_none HNO.out])
      have q1 : decide (((18 : Nat) : Int) + 1 ≤ 18) = false := by decide
      have hrb := keepB HB5.out HBR.out
      have HRB := Lib.hid hrb
      obtain ⟨r0, r1, r2, r3, r4, r5⟩ := Ln.cells hrb
      have f0 := free_of_heap hrb 0
      have f1 := free_of_heap hrb 1
      have f2 := free_of_heap hrb 2
      have f3 := free_of_heap hrb 3
      have f4 := free_of_heap hrb 4
      have f5 := free_of_heap hrb 5
      clear hrb
      go_wp2
      generalize hwf : ((((((wr.setCell ⟨w.heap.size, 0, none⟩ (.int .i64 0)).setCell ⟨w.heap.size, 1, none⟩ (.int .i64 0)).setCell ⟨w.heap.size, 2, none⟩ (.int .i64 0)).setCell ⟨w.heap.size, 3, none⟩ (.int .i64 0)).setCell ⟨w.heap.size, 4, none⟩ (.int .i64 0)).setCell ⟨w.heap.size, 5, none⟩ (.string ⟨#[]⟩)) = wf
      obtain ⟨h1, h2⟩ := fin6 (w := w) Ln.zero HRB.out (Nat.le_refl _) (HB.out.trans ((HB5.out).mono HB.out.size)) wf hwf.symm
      obtain ⟨e0, e1, e2, e3, e4, e5⟩ := Ln.cells h1
      have e0 : wf.cell? ⟨w.heap.size, 0, none⟩ = some (.int .i64 0) := e0
      have e1 : wf.cell? ⟨w.heap.size, 1, none⟩ = some (.int .i64 0) := e1
      have e2 : wf.cell? ⟨w.heap.size, 2, none⟩ = some (.int .i64 0) := e2
      have e3 : wf.cell? ⟨w.heap.size, 3, none⟩ = some (.int .i64 0) := e3
      have e4 : wf.cell? ⟨w.heap.size, 4, none⟩ = some (.int .i64 0) := e4
      have e5 : wf.cell? ⟨w.heap.size, 5, none⟩ = some (.string ⟨#[]⟩) := e5
      clear r0 r1 r2 r3 r4 r5 f0 f1 f2 f3 f4 f5 h1
      (try simp only [Exit.inBlock, Exit.then])
      refine bodyPost_ret (by simp [results, Tryd.results35, go_sem, e0, e1, e2, e3, e4, e5]; try rfl) rfl ?_
      rw [HNONE.out]
      exact ⟨rfl, h2⟩
end Go.Proofs.YtihbgppcacaekaaDoor
