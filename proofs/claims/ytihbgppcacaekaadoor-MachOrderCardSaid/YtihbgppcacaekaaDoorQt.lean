import Derived.Test.YtihbgppcacaekaaDoorQg
import Derived.Test.YtihbgppcacaekaaDoorMc
/- Right: whether an image may be. -/
namespace Go.Proofs.YtihbgppcacaekaaDoor
open Go.RowKit Go.BigFrame

theorem rightM_iff (m : Im) : rightM m = true ↔ (∀ o ∈ m.objs, rightO o = true) ∧ (m.objs.map (·.name)).Nodup ∧ (∀ o ∈ m.objs, ∀ l ∈ o.lines, l.op = 12 → l.text ∈ m.objs.map (·.name)) ∧ (∀ g ∈ m.globs, globOk m.top g = true) ∧ m.objs.length ≤ 64 ∧ 1 ≤ m.top ∧ m.top ≤ 4096 := by
  unfold rightM
  simp only [Bool.and_eq_true, List.all_eq_true, decide_eq_true_eq, Bool.or_eq_true, Bool.not_eq_true', decide_eq_false_iff_not, memB_iff]
  constructor
  · rintro ⟨⟨⟨⟨h1, h2⟩, h3⟩, h4⟩, h5, h6, h7⟩
    exact ⟨h1, h2, fun o ho l hl e => (h3 o ho l hl).resolve_left (fun hn => hn e), h4, h5, h6, h7⟩
  · rintro ⟨h1, h2, h3, h4, h5, h6, h7⟩
    exact ⟨⟨⟨⟨h1, h2⟩, fun o ho l hl => (Classical.em (l.op = 12)).elim (fun e => Or.inr (h3 o ho l hl e)) Or.inl⟩, h4⟩, h5, h6, h7⟩
theorem rightM_no {m : Im} (h : ¬ rightM m = true) : rightM m = false := by simpa using h
abbrev kS (s : ByteArray) : Value := .string s
/-- how often names stand in a list without doubles -/
def gN (l : List ByteArray) : ByteArray → Option Value := fun s => if memB s l = true then some (.int .i64 1) else none
theorem gN_nil : gN [] = fun _ => none := by funext s; simp [gN, memB]
theorem gN_snoc (l : List ByteArray) (s : ByteArray) : updK (gN l) s (some (.int .i64 1)) = gN (l ++ [s]) := by
  funext y
  unfold updK gN
  by_cases e : y = s
  · subst e; simp [memB]
  · have e2 : memB y (l ++ [s]) = memB y l := by
      unfold memB
      rw [List.any_append]
      have : decide (s = y) = false := by simpa using fun h => e h.symm
      simp [this]
    rw [if_neg e, e2]
theorem zero_int (w : World) : (zeroValue 3).run Tryd.prog w = .ok (.int .i64 0) w := by kernel_rfl
theorem u_msi : Tryd.prog.underlying 78 = some (.map 9 3) := by kernel_rfl
theorem make_msi (w : World) : (Instr.makeMap 78 none).run Tryd.prog w = .ok (.map (some w.heap.size)) (w.alloc (.map #[] 0)) := by kernel_rfl
theorem look_gN {w : World} {b : Nat} {l : List ByteArray} (h : MapK kS w b (gN l)) (s : ByteArray) : (Instr.lookup 78 (.map (some b)) (.string s) false).run Tryd.prog w = .ok (.int .i64 (if memB s l = true then 1 else 0)) w := by
  have := MapK.lookup kvStr h u_msi (zero_int w) s false
  rw [this]
  simp only [Bool.false_eq_true, if_false]
  unfold gN
  split <;> rfl
theorem below_grown {n : Nat} {W w w' : World} {b : Nat} (hb : Below n W w) (hn : n ≤ b) (hlt : b < w.heap.size) (hg : w.grownBy w' (some b)) : Below n W w' :=
  ⟨hg.os.trans hb.os, hg.tape.trans hb.tape, hg.output.trans hb.output, Nat.le_trans hb.size hg.size, fun k hk => (hg.block k (by omega) (fun e => by injection e with e; omega)).trans (hb.block k hk)⟩
theorem dup_names {l : List Ob} {k : Nat} {f : Ob} (hf : l[k]? = some f) (hm : f.name ∈ (l.take k).map (·.name)) : ¬ (l.map (·.name)).Nodup := by
  intro hn
  have h1 : (l.take (k + 1)).map (·.name) = (l.take k).map (·.name) ++ [f.name] := by rw [List.take_add_one, hf]; simp
  have h2 : ((l.take (k + 1)).map (·.name)).Nodup := by
    rw [List.map_take]
    exact hn.sublist (List.take_sublist _ _)
  rw [h1, List.nodup_append] at h2
  exact h2.2.2 _ hm f.name (by simp) rfl
set_option maxRecDepth 1000000 in
set_option maxHeartbeats 16000000 in
theorem Right_any (u : Im) (F G : Option Addr) (cF cG : Nat) (w : World) (hT : Tabs w) (h : RdU w F G u) (hlf : u.objs.length ≤ 100000) (hlg : u.globs.length ≤ 100000) (hll : ∀ o ∈ u.objs, o.lines.length ≤ 1000000) (htop : u.top ≤ 9223372036854775807) :
    Calls Tryd.prog 20 #[imAgg u F G cF cG] w fun e w' => e = .returned (.bool (rightM u)) ∧ Below w.heap.size w w' := by
  have hB := Below.one w (imObj u F G cF cG)
  have bx := heap_alloc_new w (imObj u F G cF cG)
  have h1 := h.below hB
  have hT1 := hT.below hB
  obtain ⟨W, hW⟩ : ∃ W, w.alloc (imObj u F G cF cG) = W := ⟨_, rfl⟩
  rw [hW] at hB bx h1 hT1
  obtain ⟨N, hN⟩ : ∃ N, u.objs.length = N := ⟨_, rfl⟩
  obtain ⟨M, hM⟩ : ∃ M, u.globs.length = M := ⟨_, rfl⟩
  simp only [imObj, imAgg] at bx hW ⊢
  rw [hN, hM] at bx hW ⊢
  rw [hN] at hlf
  rw [hM] at hlg
  have HB := Lib.hid hB
  have H1 := Lib.hid h1
  have HN := Lib.hid hN
  have HM := Lib.hid hM
  have HBX := Lib.hid bx
  have HT1 := Lib.hid hT1
  have HLL := Lib.hid hll
  have hbl := (Array.getElem?_eq_some_iff.1 bx).1
  have g0 := cell_of_heap bx 0 (.slice F N cF) rfl
  have HMM : Hid (MapK kS (W.alloc (.map #[] 0)) W.heap.size (gN [])) := Lib.hid (by rw [gN_nil]; exact MapK.made W)
  clear h hB h1 hN hM bx hT hT1 hll
  have hmk := make_msi
  go_enter Tryd.func20, Tryd.ntmps20
  go_wp2
  clear g0 hmk
  go_loopw [16] (fun ix wr => ∃ k : Nat, k ≤ N ∧ ix = .int .i64 k ∧ Below W.heap.size W wr ∧ MapK kS wr W.heap.size (gN ((u.objs.take k).map (·.name))) ∧ ((u.objs.take k).map (·.name)).Nodup ∧ ∀ o ∈ u.objs.take k, rightO o = true) (fun ix _ => N - (intOf ix).toNat)
  case atStart => exact ⟨0, by omega, rfl, Below.one _ _, HMM.out, by simp, fun o ho => by simp at ho⟩
  case round =>
    obtain ⟨k, hk, rfl, hb, hmp, hnd, hro⟩ := hrel
    have hx := (hb.block _ hbl).trans HBX.out
    have g0 := cell_of_heap hx 0 (.slice F N cF) rfl
    have hblr := (Array.getElem?_eq_some_iff.1 hx).1
    have HBB := Lib.hid hb
    have HND := Lib.hid hnd
    have HRO := Lib.hid hro
    have hmlt := hmp.lt
    by_cases hlt : k < N
    · obtain ⟨f, hf⟩ : ∃ f, u.objs[k]? = some f := ⟨_, List.getElem?_eq_getElem (by rw [HN.out]; exact hlt)⟩
      obtain ⟨b, o, C, cap, rfl, hbl2, hcs, hrd⟩ := (H1.out.fs.below hb) k f hf
      obtain ⟨x0, x1, x2, x3⟩ := ob_cells hcs
      have HF := Lib.hid hf
      have HRD : Hid (∀ w2, Below W.heap.size W w2 → RdL w2 C f.lines) := Lib.hid (fun w2 hb2 => by
        obtain ⟨b', o', C', cap', e1, hlw, hcs', hrd'⟩ := H1.out.fs k f hf
        injection e1 with e1
        injection e1 with e1 e2
        subst e1 e2
        have q1 := hcs' 3 (by omega)
        have q2 := hcs 3 (by omega)
        rw [hb.cell (p := ⟨b, o + (k * 4 + 3), none⟩) hlw, q1] at q2
        simp at q2
        rw [← q2.1]
        exact hrd'.below hb2)
      have hln := Nat.le_trans (HLL.out f (List.mem_of_getElem? hf)) (by omega : 1000000 ≤ 9223372036854775807)
      have hmx := hmp.below (Below.one wr (obObj f C cap)) hmp.lt
      have HX1 : Hid (Below W.heap.size W (wr.alloc (obObj f C cap))) := Lib.hid (hb.trans ((Below.one wr _).mono hb.size))
      have hbx1 := heap_alloc_new wr (obObj f C cap)
      obtain ⟨rr, hrr⟩ : ∃ rr, rightO f = rr := ⟨_, rfl⟩
      have HRR := Lib.hid hrr
      clear hcs hrd hf hx hb hnd hro hmp
      obtain ⟨mm, hmem⟩ : ∃ mm, memB f.name ((u.objs.take k).map (·.name)) = mm := ⟨_, rfl⟩
      have HMEM := Lib.hid hmem
      cases mm
      · have hlk := look_gN hmx f.name
        rw [hmem] at hlk
        simp only [Bool.false_eq_true, if_false] at hlk
        obtain ⟨w2, hup, hm2, hg2, hs2⟩ := MapK.update kvStr hmx u_msi f.name (.int .i64 1)
        have hb2 : Below W.heap.size W w2 := below_grown HX1.out (Nat.le_refl _) hmx.lt hg2
        have hbx2 : w2.heap[wr.heap.size]? = some (obObj f C cap) := (hg2.block wr.heap.size (by simp) (by intro e; injection e with e; omega)).trans hbx1
        have hT2 := HT1.out.below hb2
        obtain ⟨b', o', C', cap', e1, _, hcs', hrd'⟩ := (H1.out.fs.below hb2) k f HF.out
        have hcall := RightObject_any f C cap w2 hT2 hln (HRD.out w2 hb2)
        simp only [obAgg] at hcall
        rw [hrr] at hcall
        have hszz : W.heap.size ≤ wr.heap.size := HBB.out.size
        have hbx2s : wr.heap.size < w2.heap.size := by rw [hs2]; simp
        simp only [obObj] at hbx2
        have z0 := cell_of_heap hbx2 0 (.string f.name) rfl
        have z1 := cell_of_heap hbx2 1 (.int .i64 f.slots) rfl
        have z2 := cell_of_heap hbx2 2 (.int .i64 f.frame) rfl
        have z3 := cell_of_heap hbx2 3 (.slice C f.lines.length cap) rfl
        have HC := Lib.hid hcall
        have HM2 := Lib.hid hm2
        have HB2 := Lib.hid hb2
        have HBX2 := Lib.hid hbx2
        clear hcall hm2 hb2 hbx2 hg2 hT2 hcs' hrd' e1 hs2
        go_wp2_with fail
        refine HC.out.mono ?_
        rintro e w3 ⟨rfl, hb3⟩
        clear z0 z1 z2 z3 hlk hup
        have hm3 := HM2.out.below hb3 HM2.out.lt
        have hbx3 := (hb3.block _ hbx2s).trans HBX2.out
        have z0 := cell_of_heap hbx3 0 (.string f.name) rfl
        have HB3 : Hid (Below W.heap.size W w3) := Lib.hid (HB2.out.trans (hb3.mono HB2.out.size))
        have hm3b : MapK kS w3 W.heap.size (gN ((u.objs.take (k + 1)).map (·.name))) := by
          rw [List.take_add_one, HF.out, List.map_append]
          show MapK kS w3 W.heap.size (gN (_ ++ [f.name]))
          rw [← gN_snoc]
          exact hm3
        have hlk3 := look_gN hm3b f.name
        rw [show memB f.name ((u.objs.take (k + 1)).map (·.name)) = true from memB_iff.2 (by rw [List.take_add_one, HF.out]; simp)] at hlk3
        simp only [if_true] at hlk3
        have HM3 := Lib.hid hm3b
        clear hm3 hm3b hbx3 hb3
        cases rr
        · have HNO : Hid (rightM u = false) := Lib.hid (rightM_no fun hh => by
            have h2 := ((rightM_iff u).1 hh).1 f (List.mem_of_getElem? HF.out)
            rw [HRR.out] at h2
            cases h2)
          go_wp2
          go_returns
          exact ⟨by rw [HNO.out] <;> rfl, HB.out.trans (HB3.out.mono HB.out.size)⟩
        · go_wp2
          have hA : ((u.objs.take (k + 1)).map (·.name)).Nodup := by
            rw [List.take_add_one, HF.out, List.map_append, List.nodup_append]
            refine ⟨HND.out, by simp, fun a ha b hb e => ?_⟩
            simp at hb
            subst hb
            have h3 : memB f.name ((u.objs.take k).map (·.name)) = true := memB_iff.2 (by rw [← e]; exact ha)
            rw [HMEM.out] at h3
            cases h3
          have hBB : ∀ o ∈ u.objs.take (k + 1), rightO o = true := fun o ho => by
            rw [List.take_add_one, HF.out] at ho
            rcases List.mem_append.1 ho with ho | ho
            · exact HRO.out o ho
            · simp at ho
              rw [ho]
              exact HRR.out
          exact ⟨⟨k + 1, by omega, by go_num, HB3.out, HM3.out, hA, hBB⟩, by simp [intOf]; omega⟩
      · have hlk := look_gN hmx f.name
        rw [hmem] at hlk
        simp only [if_true] at hlk
        obtain ⟨w2, hup, hm2, hg2, hs2⟩ := MapK.update kvStr hmx u_msi f.name (.int .i64 2)
        have hb2 : Below W.heap.size W w2 := below_grown HX1.out (Nat.le_refl _) hmx.lt hg2
        have hbx2 : w2.heap[wr.heap.size]? = some (obObj f C cap) := (hg2.block wr.heap.size (by simp) (by intro e; injection e with e; omega)).trans hbx1
        have hT2 := HT1.out.below hb2
        obtain ⟨b', o', C', cap', e1, _, hcs', hrd'⟩ := (H1.out.fs.below hb2) k f HF.out
        have hcall := RightObject_any f C cap w2 hT2 hln (HRD.out w2 hb2)
        simp only [obAgg] at hcall
        rw [hrr] at hcall
        have hszz : W.heap.size ≤ wr.heap.size := HBB.out.size
        have hbx2s : wr.heap.size < w2.heap.size := by rw [hs2]; simp
        simp only [obObj] at hbx2
        have z0 := cell_of_heap hbx2 0 (.string f.name) rfl
        have z1 := cell_of_heap hbx2 1 (.int .i64 f.slots) rfl
        have z2 := cell_of_heap hbx2 2 (.int .i64 f.frame) rfl
        have z3 := cell_of_heap hbx2 3 (.slice C f.lines.length cap) rfl
        have HC := Lib.hid hcall
        have HM2 := Lib.hid hm2
        have HB2 := Lib.hid hb2
        have HBX2 := Lib.hid hbx2
        clear hcall hm2 hb2 hbx2 hg2 hT2 hcs' hrd' e1 hs2
        go_wp2_with fail
        refine HC.out.mono ?_
        rintro e w3 ⟨rfl, hb3⟩
        clear z0 z1 z2 z3 hlk hup
        have hm3 := HM2.out.below hb3 HM2.out.lt
        have hbx3 := (hb3.block _ hbx2s).trans HBX2.out
        have z0 := cell_of_heap hbx3 0 (.string f.name) rfl
        have HB3 : Hid (Below W.heap.size W w3) := Lib.hid (HB2.out.trans (hb3.mono HB2.out.size))
        have HNO : Hid (rightM u = false) := Lib.hid (rightM_no fun hh => by
          have h2 := ((rightM_iff u).1 hh).2.1
          exact dup_names HF.out (memB_iff.1 HMEM.out) h2)
        have hlk3 : (Instr.lookup 78 (.map (some W.heap.size)) (.string f.name) false).run Tryd.prog w3 = .ok (.int .i64 2) w3 := by
          have := MapK.lookup kvStr hm3 u_msi (zero_int w3) f.name false
          rw [this]
          simp [updK]
        clear hm3 hbx3 hb3
        cases rr
        · go_wp2
          go_returns
          exact ⟨by rw [HNO.out] <;> rfl, HB.out.trans (HB3.out.mono HB.out.size)⟩
        · go_wp2
          go_returns
          exact ⟨by rw [HNO.out] <;> rfl, HB.out.trans (HB3.out.mono HB.out.size)⟩
    · obtain rfl : k = N := by omega
      rw [show u.objs.take k = u.objs from List.take_of_length_le (by rw [HN.out]; exact Nat.le_refl _)] at hmp hnd hro
      have HND2 := Lib.hid hnd
      have HRO2 := Lib.hid hro
      have HMP := Lib.hid hmp
      obtain ⟨W2, hW2⟩ : ∃ W2, W2 = wr := ⟨_, rfl⟩
      subst hW2
      have HB2 := Lib.hid hb
      have hmlt2 := hmp.lt
      have hbx2 : w.heap.size < W2.heap.size := hblr
      clear HND HRO HBB hx hb hnd hro hmp hlt hk
      go_wp2
      clear g0
      go_loopw [39] (fun ix wr => ∃ j : Nat, j ≤ k ∧ ix = .int .i64 j ∧ Below W2.heap.size W2 wr ∧ ∀ o ∈ u.objs.take j, ∀ l ∈ o.lines, l.op = 12 → memB l.text (u.objs.map (·.name)) = true) (fun ix _ => k - (intOf ix).toNat)
      case atStart => exact ⟨0, by omega, rfl, Below.refl _ _, fun o ho => by simp at ho⟩
      case round =>
        obtain ⟨j, hj, rfl, hb, hca⟩ := hrel
        have hbW := HB2.out.trans (hb.mono HB2.out.size)
        have hx := (hbW.block _ hbl).trans HBX.out
        have g0 := cell_of_heap hx 0 (.slice F k cF) rfl
        have hblr := (Array.getElem?_eq_some_iff.1 hx).1
        have HBW := Lib.hid hbW
        have HBB := Lib.hid hb
        have HCA := Lib.hid hca
        clear hca hx
        by_cases hlt : j < k
        · obtain ⟨f, hf⟩ : ∃ f, u.objs[j]? = some f := ⟨_, List.getElem?_eq_getElem (by rw [HN.out]; exact hlt)⟩
          obtain ⟨b, o, C, cap, rfl, hbl2, hcs, hrd⟩ := (H1.out.fs.below hbW) j f hf
          obtain ⟨x0, x1, x2, x3⟩ := ob_cells hcs
          have HF := Lib.hid hf
          have HRD := Lib.hid hrd
          obtain ⟨L, hL⟩ : ∃ L, f.lines.length = L := ⟨_, rfl⟩
          rw [hL] at x3
          have HL := Lib.hid hL
          have hL64 : L ≤ 1000000 := by rw [← hL]; exact HLL.out f (List.mem_of_getElem? hf)
          have HBO := Lib.hid (Below.one wr (.cells #[.string f.name, .int .i64 f.slots, .int .i64 f.frame, .slice C L cap] 39 (0, 0)))
          have hbox := heap_alloc_new wr (.cells #[.string f.name, .int .i64 f.slots, .int .i64 f.frame, .slice C L cap] 39 (0, 0))
          clear hcs hrd hf hL hb hbW
          go_wp2
          obtain ⟨W3, hW3⟩ : ∃ W3, W3 = wr.alloc (.cells #[.string f.name, .int .i64 f.slots, .int .i64 f.frame, .slice C L cap] 39 (0, 0)) := ⟨_, rfl⟩
          rw [← hW3] at hbox HBO ⊢
          have HB3 : Hid (Below W2.heap.size W2 W3) := Lib.hid (HBB.out.trans (HBO.out.mono HBB.out.size))
          have HRD3 : Hid (RdL W3 C f.lines) := Lib.hid (HRD.out.below HBO.out)
          clear hW3 x0 x1 x2 x3 g0
          go_loopw [46] (fun ix wq => ∃ q : Nat, q ≤ L ∧ ix = .int .i64 q ∧ Below W3.heap.size W3 wq ∧ ∀ l ∈ f.lines.take q, l.op = 12 → memB l.text (u.objs.map (·.name)) = true) (fun ix _ => L - (intOf ix).toNat)
          case atStart => exact ⟨0, by omega, rfl, Below.refl _ _, fun o ho => by simp at ho⟩
          case round =>
            obtain ⟨q, hq, rfl, hbq, hcq⟩ := hrel
            have HBQ := Lib.hid hbq
            have HCQ := Lib.hid hcq
            by_cases hlt2 : q < L
            · obtain ⟨i, hi⟩ : ∃ i, f.lines[q]? = some i := ⟨_, List.getElem?_eq_getElem (by rw [HL.out]; exact hlt2)⟩
              obtain ⟨lb, lo, rfl, hlb, hlc⟩ := (HRD3.out.below hbq) q i hi
              obtain ⟨v0, v1, v2, v3, v4, v5⟩ := RdL.load hlc
              have HI := Lib.hid hi
              have HBI := Lib.hid (Below.one wr i.obj)
              have hbWq : Below W2.heap.size W2 (wr.alloc i.obj) := (HB3.out.trans (hbq.mono HB3.out.size)).trans ((Below.one wr i.obj).mono (Nat.le_trans HB3.out.size hbq.size))
              have hmq := HMP.out.below hbWq hmlt2
              have hlk := look_gN hmq i.text
              simp only [Ln.obj] at hlk
              obtain ⟨mm, hmm⟩ : ∃ mm, memB i.text (u.objs.map (·.name)) = mm := ⟨_, rfl⟩
              rw [hmm] at hlk
              have HMM2 := Lib.hid hmm
              have e12 : (i.op == 12) = decide (i.op = 12) := by rw [Bool.eq_iff_iff]; simp
              obtain ⟨cc, hcc⟩ : ∃ cc, decide (i.op = 12) = cc := ⟨_, rfl⟩
              rw [hcc] at e12
              have HCC := Lib.hid hcc
              have HGO : Hid (mm = true ∨ cc = false → ∀ l ∈ f.lines.take (q + 1), l.op = 12 → memB l.text (u.objs.map (·.name)) = true) := Lib.hid (fun hor l hl h12 => by
                rw [List.take_add_one, HI.out] at hl
                rcases List.mem_append.1 hl with hl | hl
                · exact HCQ.out l hl h12
                · simp at hl
                  subst hl
                  rcases hor with h | h
                  · rw [HMM2.out]; exact h
                  · have := HCC.out
                    rw [h] at this
                    exact absurd h12 (of_decide_eq_false this))
              clear hi hlc hbq hcq hmq hmm hcc hbWq
              cases cc
              · go_wp2
                exact ⟨⟨q + 1, by omega, by go_num, HBQ.out.trans (HBI.out.mono HBQ.out.size), HGO.out (Or.inr rfl)⟩, by simp [intOf]; omega⟩
              · cases mm
                · simp only [Bool.false_eq_true, if_false] at hlk
                  have HNO : Hid (rightM u = false) := Lib.hid (rightM_no fun hh => by
                    have h2 := ((rightM_iff u).1 hh).2.2.1 f (List.mem_of_getElem? HF.out) i (List.mem_of_getElem? HI.out) (of_decide_eq_true HCC.out)
                    rw [← memB_iff, HMM2.out] at h2
                    cases h2)
                  go_wp2
                  go_returns
                  exact ⟨by rw [HNO.out] <;> rfl, HB.out.trans (((HBW.out.trans (HBO.out.mono HBW.out.size)).trans ((HBQ.out.trans (HBI.out.mono HBQ.out.size)).mono (Nat.le_trans HBW.out.size HBO.out.size))).mono HB.out.size)⟩
                · simp only [if_true] at hlk
                  go_wp2
                  exact ⟨⟨q + 1, by omega, by go_num, HBQ.out.trans (HBI.out.mono HBQ.out.size), HGO.out (Or.inl rfl)⟩, by simp [intOf]; omega⟩
            · obtain rfl : q = L := by omega
              have HGO : Hid (∀ o ∈ u.objs.take (j + 1), ∀ l ∈ o.lines, l.op = 12 → memB l.text (u.objs.map (·.name)) = true) := Lib.hid (fun o ho l hl h12 => by
                rw [List.take_add_one, HF.out] at ho
                rcases List.mem_append.1 ho with ho | ho
                · exact HCA.out o ho l hl h12
                · simp at ho
                  subst ho
                  exact HCQ.out l (by rw [List.take_of_length_le (by rw [HL.out]; exact Nat.le_refl _)]; exact hl) h12)
              clear hbq hcq
              go_wp2
              exact ⟨⟨j + 1, by omega, by go_num, HB3.out.trans (HBQ.out.mono HB3.out.size), HGO.out⟩, by simp [intOf]; omega⟩
        · obtain rfl : j = k := by omega
          rw [show u.objs.take j = u.objs from List.take_of_length_le (by rw [HN.out]; exact Nat.le_refl _)] at HCA
          obtain ⟨W4, hW4⟩ : ∃ W4, W4 = wr := ⟨_, rfl⟩
          subst hW4
          have g1 := cell_of_heap ((hbW.block _ hbl).trans HBX.out) 1 (.slice G M cG) rfl
          clear hb hlt hj
          go_wp2
          clear g0 g1 hbW
          go_loopw [65] (fun ix wr => ∃ q : Nat, q ≤ M ∧ ix = .int .i64 q ∧ Below W4.heap.size W4 wr ∧ ∀ g ∈ u.globs.take q, globOk u.top g = true) (fun ix _ => M - (intOf ix).toNat)
          case atStart => exact ⟨0, by omega, rfl, Below.refl _ _, fun o ho => by simp at ho⟩
          case round =>
            obtain ⟨q, hq, rfl, hbq, hgq⟩ := hrel
            have hbV := HBW.out.trans (hbq.mono HBW.out.size)
            have hx := (hbV.block _ hbl).trans HBX.out
            have g0 := cell_of_heap hx 0 (.slice F j cF) rfl
            have g2 := cell_of_heap hx 2 (.int .i64 u.top) rfl
            have hblr := (Array.getElem?_eq_some_iff.1 hx).1
            have HBV := Lib.hid hbV
            have HBQ := Lib.hid hbq
            have HGQ := Lib.hid hgq
            clear hgq hbq hx
            by_cases hltm : q < M
            · obtain ⟨g, hg⟩ : ∃ g, u.globs[q]? = some g := ⟨_, List.getElem?_eq_getElem (by rw [HM.out]; exact hltm)⟩
              obtain ⟨b, o, rfl, hbl2, hcs⟩ := (H1.out.gs.below hbV) q g hg
              obtain ⟨x0, x1, x2, x3⟩ := gl_cells hcs
              have HG := Lib.hid hg
              have HBG := Lib.hid (Below.one wr (.cells #[.string g.name, .int .i64 g.at_, .int .i64 g.size, .int .i64 g.init] 52 (0, 0)))
              clear hcs hg hbV
              by_cases d1 : 1 ≤ g.at_
              case neg =>
                have HNO : Hid (rightM u = false) := Lib.hid (rightM_no fun hh => by
                  have h2 := ((rightM_iff u).1 hh).2.2.2.1 g (List.mem_of_getElem? HG.out)
                  unfold globOk at h2
                  simp only [Bool.and_eq_true, decide_eq_true_eq] at h2
                  omega)
                have p1 : decide (g.at_ < 1) = true := by simp; omega
                go_wp2
                go_returns
                exact ⟨by rw [HNO.out] <;> rfl, HB.out.trans ((HBV.out.trans (HBG.out.mono HBV.out.size)).mono HB.out.size)⟩
              have p1 : decide (g.at_ < 1) = false := by simp; omega
              by_cases d2 : 0 ≤ g.size
              case neg =>
                have HNO : Hid (rightM u = false) := Lib.hid (rightM_no fun hh => by
                  have h2 := ((rightM_iff u).1 hh).2.2.2.1 g (List.mem_of_getElem? HG.out)
                  unfold globOk at h2
                  simp only [Bool.and_eq_true, decide_eq_true_eq] at h2
                  omega)
                have p2 : decide (g.size < 0) = true := by simp; omega
                go_wp2
                go_returns
                exact ⟨by rw [HNO.out] <;> rfl, HB.out.trans ((HBV.out.trans (HBG.out.mono HBV.out.size)).mono HB.out.size)⟩
              have p2 : decide (g.size < 0) = false := by simp; omega
              by_cases d3 : g.size ≤ u.top
              case neg =>
                have HNO : Hid (rightM u = false) := Lib.hid (rightM_no fun hh => by
                  have h2 := ((rightM_iff u).1 hh).2.2.2.1 g (List.mem_of_getElem? HG.out)
                  unfold globOk at h2
                  simp only [Bool.and_eq_true, decide_eq_true_eq] at h2
                  omega)
                have p3 : decide (g.size > u.top) = true := by simp; omega
                have p3b : decide (u.top < g.size) = true := by simp; omega
                go_wp2
                go_returns
                exact ⟨by rw [HNO.out] <;> rfl, HB.out.trans ((HBV.out.trans (HBG.out.mono HBV.out.size)).mono HB.out.size)⟩
              have p3 : decide (g.size > u.top) = false := by simp; omega
              have p3b : decide (u.top < g.size) = false := by simp; omega
              have hw : wrap64 (u.top - g.size) = u.top - g.size := w64 (by omega)
              by_cases d4 : g.at_ ≤ u.top - g.size
              case neg =>
                have HNO : Hid (rightM u = false) := Lib.hid (rightM_no fun hh => by
                  have h2 := ((rightM_iff u).1 hh).2.2.2.1 g (List.mem_of_getElem? HG.out)
                  unfold globOk at h2
                  simp only [Bool.and_eq_true, decide_eq_true_eq] at h2
                  omega)
                have p4 : decide (g.at_ > wrap64 (u.top - g.size)) = true := by rw [hw]; simp; omega
                have p4b : decide (wrap64 (u.top - g.size) < g.at_) = true := by rw [hw]; simp; omega
                clear hw
                go_wp2
                go_returns
                exact ⟨by rw [HNO.out] <;> rfl, HB.out.trans ((HBV.out.trans (HBG.out.mono HBV.out.size)).mono HB.out.size)⟩
              have p4 : decide (g.at_ > wrap64 (u.top - g.size)) = false := by rw [hw]; simp; omega
              have p4b : decide (wrap64 (u.top - g.size) < g.at_) = false := by rw [hw]; simp; omega
              have HOKG : Hid (globOk u.top g = decide (-2147483648 ≤ g.init ∧ g.init ≤ 2147483647)) := Lib.hid (by
                unfold globOk
                rw [decide_eq_true (show 1 ≤ g.at_ ∧ 0 ≤ g.size ∧ g.size ≤ u.top ∧ g.at_ ≤ u.top - g.size from ⟨d1, d2, d3, d4⟩)]
                unfold isWd
                rw [Bool.true_and]
                exact decide_eq_decide.2 (by omega))
              have hiw := fun W' => is_any g.init W'
              obtain ⟨cc, hcc⟩ : ∃ cc, decide (-2147483648 ≤ g.init ∧ g.init ≤ 2147483647) = cc := ⟨_, rfl⟩
              rw [hcc] at HOKG
              simp only [hcc] at hiw
              clear hcc hw d1 d2 d3 d4
              cases cc
              · have HNO : Hid (rightM u = false) := Lib.hid (rightM_no fun hh => by
                  have h2 := ((rightM_iff u).1 hh).2.2.2.1 g (List.mem_of_getElem? HG.out)
                  rw [HOKG.out] at h2
                  cases h2)
                go_wp2_with (first
                  | (go_at_call 37; refine (hiw _).mono ?_; rintro e w3 ⟨rfl, hw3⟩; subst hw3))
                go_returns
                exact ⟨by rw [HNO.out] <;> rfl, HB.out.trans ((HBV.out.trans (HBG.out.mono HBV.out.size)).mono HB.out.size)⟩
              · have HGO : Hid (∀ g ∈ u.globs.take (q + 1), globOk u.top g = true) := Lib.hid (fun y hy => by
                  rw [List.take_add_one, HG.out] at hy
                  rcases List.mem_append.1 hy with hy | hy
                  · exact HGQ.out y hy
                  · simp at hy
                    subst hy
                    exact HOKG.out)
                go_wp2_with (first
                  | (go_at_call 37; refine (hiw _).mono ?_; rintro e w3 ⟨rfl, hw3⟩; subst hw3))
                exact ⟨⟨q + 1, by omega, by go_num, HBQ.out.trans (HBG.out.mono HBQ.out.size), HGO.out⟩, by simp [intOf]; omega⟩
            · obtain rfl : q = M := by omega
              rw [show u.globs.take q = u.globs from List.take_of_length_le (by rw [HM.out]; exact Nat.le_refl _)] at HGQ
              have HRES : Hid (rightM u = (decide (j ≤ 64) && (decide (1 ≤ u.top) && decide (u.top ≤ 4096)))) := Lib.hid (by
                rw [Bool.eq_iff_iff, rightM_iff, HN.out]
                simp only [Bool.and_eq_true, decide_eq_true_eq]
                exact ⟨fun hh => hh.2.2.2.2, fun hh => ⟨HRO2.out, HND2.out, fun o ho l hl h12 => memB_iff.1 (HCA.out o ho l hl h12), HGQ.out, hh⟩⟩)
              have r1 : decide ((j : Int) ≤ 64) = decide (j ≤ 64) := by simp; omega
              have r2 : decide (u.top ≥ 1) = decide (1 ≤ u.top) := rfl
              obtain ⟨c1, hc1⟩ : ∃ c1, decide (j ≤ 64) = c1 := ⟨_, rfl⟩
              obtain ⟨c2, hc2⟩ : ∃ c2, decide (1 ≤ u.top) = c2 := ⟨_, rfl⟩
              obtain ⟨c3, hc3⟩ : ∃ c3, decide (u.top ≤ 4096) = c3 := ⟨_, rfl⟩
              rw [hc1] at r1
              rw [hc2] at r2
              rw [hc1, hc2, hc3] at HRES
              clear hc1
              cases c1 <;> cases c2 <;> cases c3
              all_goals
                go_wp2
                go_returns
                exact ⟨by rw [HRES.out] <;> rfl, HB.out.trans (HBV.out.mono HB.out.size)⟩
end Go.Proofs.YtihbgppcacaekaaDoor
