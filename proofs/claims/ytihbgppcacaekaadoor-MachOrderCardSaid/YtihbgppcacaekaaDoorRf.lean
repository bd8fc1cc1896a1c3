import Derived.Test.YtihbgppcacaekaaDoorRe
import Derived.Test.YtihbgppcacaekaaDoorRc
/- Read. -/
namespace Go.Proofs.YtihbgppcacaekaaDoor
open Go.RowKit Go.BigFrame

theorem ob_zc {w : World} {b : Nat} (h : w.heap[b]? = some (obObj Ob.zero none 0)) : w.cell? ⟨b, 0, none⟩ = some (.string ⟨#[]⟩) ∧ w.cell? ⟨b, 1, none⟩ = some (.int .i64 0) ∧ w.cell? ⟨b, 2, none⟩ = some (.int .i64 0) ∧ w.cell? ⟨b, 3, none⟩ = some (.slice none 0 0) :=
  ⟨cell_of_heap h 0 _ rfl, cell_of_heap h 1 _ rfl, cell_of_heap h 2 _ rfl, cell_of_heap h 3 _ rfl⟩
theorem fin4 {w w7 : World} {rb : Nat} {A : Ob} {C : Option Addr} {c : Nat} (B : Ob) (D : Option Addr) (d : Nat) (hr : w7.heap[rb]? = some (obObj A C c)) (h1 : w.heap.size ≤ rb) (hb : Below w.heap.size w w7) :
    ∀ wf, wf = (((w7.setCell ⟨rb, 0, none⟩ (.string B.name)).setCell ⟨rb, 1, none⟩ (.int .i64 B.slots)).setCell ⟨rb, 2, none⟩ (.int .i64 B.frame)).setCell ⟨rb, 3, none⟩ (.slice D B.lines.length d) →
      wf.heap[rb]? = some (obObj B D d) ∧ Below w.heap.size w wf ∧ ∀ base V l, OwnL w7 base V l → OwnL wf base V l := by
  rintro wf rfl
  refine ⟨heap_setCell (j := 3) (heap_setCell (j := 2) (heap_setCell (j := 1) (heap_setCell (j := 0) hr _) _) _) _,
    (((hb.setCell (p := ⟨rb, 0, none⟩) h1 _).setCell (p := ⟨rb, 1, none⟩) h1 _).setCell (p := ⟨rb, 2, none⟩) h1 _).setCell (p := ⟨rb, 3, none⟩) h1 _, fun base V l ho => ownsRow_keep ho fun g _ _ cur hcu => ?_⟩
  have hne : g ≠ rb := ty_ne hcu hr (by decide)
  exact (heap_setCell_other _ ⟨rb, 3, none⟩ g _ hne).trans ((heap_setCell_other _ ⟨rb, 2, none⟩ g _ hne).trans ((heap_setCell_other _ ⟨rb, 1, none⟩ g _ hne).trans (heap_setCell_other _ ⟨rb, 0, none⟩ g _ hne)))
theorem rdS_start {w6 w9 : World} (hx : w9.heap[w6.heap.size]? = some (obObj Ob.zero none 0)) (hb : Below w6.heap.size w6 w9) (b : ByteArray) (v1 v2 : Int) :
    RdS w6 (((w9.setCell ⟨w6.heap.size, 0, none⟩ (.string b)).setCell ⟨w6.heap.size, 1, none⟩ (.int .i64 v1)).setCell ⟨w6.heap.size, 2, none⟩ (.int .i64 v2)) ⟨b, v1, v2, []⟩ (.slice none 0 0) w6.heap.size w6.heap.size :=
  ⟨((hb.setCell (p := ⟨w6.heap.size, 0, none⟩) (Nat.le_refl _) _).setCell (p := ⟨w6.heap.size, 1, none⟩) (Nat.le_refl _) _).setCell (p := ⟨w6.heap.size, 2, none⟩) (Nat.le_refl _) _,
    heap_setCell (j := 2) (heap_setCell (j := 1) (heap_setCell (j := 0) hx _) _) _, OwnL.nil _ _, Nat.le_refl _, by have := (Array.getElem?_eq_some_iff.1 hx).1; simpa using this⟩
set_option maxRecDepth 1000000 in
set_option maxHeartbeats 16000000 in
theorem Read_any (s : ByteArray) (hs : s.size ≤ 1000000) (w : World) (hT : Tabs w) :
    Calls Tryd.prog 18 #[.string s] w fun e w' => ∃ C cap, e = .returned (.tuple #[obAgg (readF s).1 C cap, .int .i64 (readF s).2.1, .int .i64 (readF s).2.2]) ∧ RdL w' C (readF s).1.lines ∧ Below w.heap.size w w' := by
  have hB0 := Below.one w (obObj Ob.zero none 0)
  have br := heap_alloc_new w (obObj Ob.zero none 0)
  have hsp := Split_any 10 s (by omega) (w.alloc (obObj Ob.zero none 0)) (hT.below hB0)
  obtain ⟨l, hl⟩ : ∃ l, spB 10 s = l := ⟨_, rfl⟩
  have HRF : Hid (readF s = readL l) := Lib.hid (by unfold readF; rw [hl])
  have HSZ : Hid (∀ x ∈ l, x.size ≤ 1000000) := Lib.hid (fun x hx => Nat.le_trans (spB_size (by rw [hl]; exact hx)) hs)
  have hlen : l.length ≤ 1000001 := by
    rw [← hl]
    have := spB_len 10 s
    omega
  rw [hl] at hsp
  obtain ⟨h, t, hlt⟩ := spB_ne 10 s
  rw [hl] at hlt
  obtain ⟨N, hN⟩ : ∃ N, l.length = N := ⟨_, rfl⟩
  rw [show (w.alloc (obObj Ob.zero none 0)).heap.size = w.heap.size + 1 by simp, hN] at hsp
  have bw := heap_alloc_new (w.alloc (obObj Ob.zero none 0)) (spO l)
  rw [show (w.alloc (obObj Ob.zero none 0)).heap.size = w.heap.size + 1 by simp] at bw
  have br2 := alloc_keeps br (spO l)
  have hB1 := hB0.alloc (by simp) (spO l)
  have hs1 : w.heap.size + 1 < ((w.alloc (obObj Ob.zero none 0)).alloc (spO l)).heap.size := by simp
  obtain ⟨W1, hW1⟩ : ∃ W1, (w.alloc (obObj Ob.zero none 0)).alloc (spO l) = W1 := ⟨_, rfl⟩
  rw [hW1] at hsp bw br2 hB1 hs1
  have hsp1 : Calls Tryd.prog 33 #[.string s, .string ⟨#[10]⟩] (w.alloc (.cells #[.string ⟨#[]⟩, .int .i64 0, .int .i64 0, .slice none 0 0] 39 (0, 0))) fun e w' => e = .returned (.slice (some ⟨w.heap.size + 1, 0, none⟩) N N) ∧ w' = W1 := hsp
  have HT1 := Lib.hid (hT.below hB1)
  have HB1 := Lib.hid hB1
  have HBR := Lib.hid br2
  have HBW := Lib.hid bw
  have hs0 : w.heap.size < W1.heap.size := by omega
  clear hsp hW1 bw br2 hB1 hB0 br hT hs hl
  cases t with
  | nil =>
    subst hlt
    have hN1 : N = 1 := hN.symm
    subst hN1
    have HRE : Hid (readF s = (Ob.zero, 1, 11)) := Lib.hid (by rw [HRF.out]; exact readL_short (by simp))
    clear hN hlen HSZ
    obtain ⟨r0, r1, r2, r3⟩ := ob_zc HBR.out
    have n0 := free_of_heap HBR.out 0
    have n1 := free_of_heap HBR.out 1
    have n2 := free_of_heap HBR.out 2
    have n3 := free_of_heap HBR.out 3
    go_enter Tryd.func18, Tryd.ntmps18
    go_wp2_with (first
      | (go_at_call 33; refine hsp1.mono ?_; rintro e w5 ⟨rfl, hw5⟩; subst hw5))
    generalize hwf : (((w5.setCell ⟨w.heap.size, 0, none⟩ (.string ⟨#[]⟩)).setCell ⟨w.heap.size, 1, none⟩ (.int .i64 0)).setCell ⟨w.heap.size, 2, none⟩ (.int .i64 0)).setCell ⟨w.heap.size, 3, none⟩ (.slice none 0 0) = wf
    obtain ⟨h1, h2, _⟩ := fin4 (w := w) Ob.zero none 0 HBR.out (Nat.le_refl _) HB1.out wf hwf.symm
    have e0 : wf.cell? ⟨w.heap.size, 0, none⟩ = some (.string ⟨#[]⟩) := cell_of_heap h1 0 _ rfl
    have e1 : wf.cell? ⟨w.heap.size, 1, none⟩ = some (.int .i64 0) := cell_of_heap h1 1 _ rfl
    have e2 : wf.cell? ⟨w.heap.size, 2, none⟩ = some (.int .i64 0) := cell_of_heap h1 2 _ rfl
    have e3 : wf.cell? ⟨w.heap.size, 3, none⟩ = some (.slice none 0 0) := cell_of_heap h1 3 _ rfl
    clear r0 r1 r2 r3 n0 n1 n2 n3 h1
    (try simp only [Exit.inBlock, Exit.then])
    refine bodyPost_ret (by simp [results, Tryd.results18, go_sem, e0, e1, e2, e3]; try rfl) rfl ?_
    rw [HRE.out]
    exact ⟨none, 0, rfl, fun j f hf => by simp [Ob.zero] at hf, h2⟩
  | cons h2 t2 =>
    obtain ⟨xs, z, hxz⟩ : ∃ xs z, h2 :: t2 = xs ++ [z] := ⟨(h2 :: t2).dropLast, (h2 :: t2).getLast (by simp), (List.dropLast_concat_getLast (by simp)).symm⟩
    rw [hxz] at hlt
    obtain ⟨n, hn⟩ : ∃ n, xs.length = n := ⟨_, rfl⟩
    have hNn : N = n + 2 := by rw [← hN, hlt]; simp [hn]
    subst hNn
    have hn6 : n ≤ 1000000 := by omega
    have HLT := Lib.hid hlt
    have HN := Lib.hid hn
    have hgz : W1.cell? ⟨w.heap.size + 1, n + 1, none⟩ = some (.string z) := ws_cell HBW.out (by rw [hlt, ← hn, List.getElem?_cons_succ, List.getElem?_append_right (Nat.le_refl _)]; simp)
    have hg0 : W1.cell? ⟨w.heap.size + 1, 0, none⟩ = some (.string h) := ws_cell HBW.out (by rw [hlt]; rfl)
    clear hN hxz hlen hn hlt
    by_cases hz : z = ⟨#[]⟩
    case neg =>
      have HRE : Hid (readF s = (Ob.zero, ((n + 2 : Nat) : Int), 11)) := Lib.hid (by rw [HRF.out, HLT.out, readL_last h z xs hz, HN.out])
      have q1 : z.toList.isEmpty = false := by
        rw [Go.ByteArray.toList_eq]
        cases he : z.data.toList with
        | nil => exact absurd (size_zero (by show z.data.size = 0; rw [← Array.length_toList, he]; rfl)) hz
        | cons x t => rfl
      clear hz
      obtain ⟨r0, r1, r2, r3⟩ := ob_zc HBR.out
      have n0 := free_of_heap HBR.out 0
      have n1 := free_of_heap HBR.out 1
      have n2 := free_of_heap HBR.out 2
      have n3 := free_of_heap HBR.out 3
      go_enter Tryd.func18, Tryd.ntmps18
      go_wp2_with (first
        | (go_at_call 33; refine hsp1.mono ?_; rintro e w5 ⟨rfl, hw5⟩; subst hw5))
      generalize hwf : (((w5.setCell ⟨w.heap.size, 0, none⟩ (.string ⟨#[]⟩)).setCell ⟨w.heap.size, 1, none⟩ (.int .i64 0)).setCell ⟨w.heap.size, 2, none⟩ (.int .i64 0)).setCell ⟨w.heap.size, 3, none⟩ (.slice none 0 0) = wf
      obtain ⟨h1, h2, _⟩ := fin4 (w := w) Ob.zero none 0 HBR.out (Nat.le_refl _) HB1.out wf hwf.symm
      have e0 : wf.cell? ⟨w.heap.size, 0, none⟩ = some (.string ⟨#[]⟩) := cell_of_heap h1 0 _ rfl
      have e1 : wf.cell? ⟨w.heap.size, 1, none⟩ = some (.int .i64 0) := cell_of_heap h1 1 _ rfl
      have e2 : wf.cell? ⟨w.heap.size, 2, none⟩ = some (.int .i64 0) := cell_of_heap h1 2 _ rfl
      have e3 : wf.cell? ⟨w.heap.size, 3, none⟩ = some (.slice none 0 0) := cell_of_heap h1 3 _ rfl
      clear r0 r1 r2 r3 n0 n1 n2 n3 h1
      (try simp only [Exit.inBlock, Exit.then])
      refine bodyPost_ret (by simp [results, Tryd.results18, go_sem, e0, e1, e2, e3]; try rfl) rfl ?_
      rw [HRE.out]
      exact ⟨none, 0, rfl, fun j f hf => by simp [Ob.zero] at hf, h2⟩
    case pos =>
      subst hz
      have hspw := Split_any 32 h (by have := HSZ.out h (by rw [HLT.out]; simp); omega) W1 HT1.out
      obtain ⟨ws, hws⟩ : ∃ ws, spB 32 h = ws := ⟨_, rfl⟩
      rw [hws] at hspw
      obtain ⟨M, hM⟩ : ∃ M, ws.length = M := ⟨_, rfl⟩
      rw [hM] at hspw
      have hMb : M ≤ 1000001 := by
        rw [← hM, ← hws]
        have := spB_len 32 h
        have := HSZ.out h (by rw [HLT.out]; simp)
        omega
      have bws := heap_alloc_new W1 (spO ws)
      have hB2 := Below.one W1 (spO ws)
      obtain ⟨W2, hW2⟩ : ∃ W2, W1.alloc (spO ws) = W2 := ⟨_, rfl⟩
      rw [hW2] at hspw bws hB2
      have HWS := Lib.hid hws
      have HM := Lib.hid hM
      have HBS := Lib.hid bws
      have hs2 : W1.heap.size < W2.heap.size := (Array.getElem?_eq_some_iff.1 bws).1
      have HB2 : Hid (Below w.heap.size w W2) := Lib.hid (HB1.out.trans (hB2.mono HB1.out.size))
      have HBR2 := Lib.hid (keepB hB2 HBR.out)
      have HBW2 := Lib.hid (keepB hB2 HBW.out)
      have HT2 := Lib.hid (HT1.out.below hB2)
      have HB3 : Hid (Below w.heap.size w (W2.alloc (obObj Ob.zero none 0))) := Lib.hid (HB2.out.trans ((Below.one W2 _).mono HB2.out.size))
      have hw3r := alloc_keeps HBR2.out (obObj Ob.zero none 0)
      have hw3s := alloc_keeps HBS.out (obObj Ob.zero none 0)
      have HR3 := Lib.hid hw3r
      have HS3 := Lib.hid hw3s
      have hT3 := HT2.out.below (Below.one W2 (obObj Ob.zero none 0))
      have hbx := heap_alloc_new W2 (obObj Ob.zero none 0)
      have HBX := Lib.hid hbx
      have HT3 := Lib.hid hT3
      clear hW2 bws hB2 hws hM hw3r hw3s hT3 hbx
      by_cases hM4 : M = 4
      case neg =>
        have HRE : Hid (readF s = (Ob.zero, 1, 11)) := Lib.hid (by rw [HRF.out, HLT.out]; exact readL_head h xs (headW_n (by rw [HWS.out, HM.out]; exact hM4)))
        have q1 : ((M : Int) != 4) = true := by simp; omega
        have q3 : ((M : Int) == 4) = false := by simp; omega
        have hr3 : (W2.alloc (.cells #[.string ⟨#[]⟩, .int .i64 0, .int .i64 0, .slice none 0 0] 39 (0, 0))).heap[w.heap.size]? = some (obObj Ob.zero none 0) := HR3.out
        obtain ⟨r0, r1, r2, r3⟩ := ob_zc hr3
        have n0 := free_of_heap hr3 0
        have n1 := free_of_heap hr3 1
        have n2 := free_of_heap hr3 2
        have n3 := free_of_heap hr3 3
        clear hr3
        go_enter Tryd.func18, Tryd.ntmps18
        go_wp2_with (first
          | (go_at_call_of 33 s; refine hsp1.mono ?_; rintro e w5 ⟨rfl, hw5⟩; subst hw5)
          | (go_at_call_of 33 h; refine hspw.mono ?_; rintro e w6 ⟨rfl, hw6⟩; subst hw6))
        generalize hwf : ((((w6.alloc (.cells #[.string ⟨#[]⟩, .int .i64 0, .int .i64 0, .slice none 0 0] 39 (0, 0))).setCell ⟨w.heap.size, 0, none⟩ (.string ⟨#[]⟩)).setCell ⟨w.heap.size, 1, none⟩ (.int .i64 0)).setCell ⟨w.heap.size, 2, none⟩ (.int .i64 0)).setCell ⟨w.heap.size, 3, none⟩ (.slice none 0 0) = wf
        obtain ⟨h1, h2, _⟩ := fin4 (w := w) Ob.zero none 0 HR3.out (Nat.le_refl _) HB3.out wf hwf.symm
        have e0 : wf.cell? ⟨w.heap.size, 0, none⟩ = some (.string ⟨#[]⟩) := cell_of_heap h1 0 _ rfl
        have e1 : wf.cell? ⟨w.heap.size, 1, none⟩ = some (.int .i64 0) := cell_of_heap h1 1 _ rfl
        have e2 : wf.cell? ⟨w.heap.size, 2, none⟩ = some (.int .i64 0) := cell_of_heap h1 2 _ rfl
        have e3 : wf.cell? ⟨w.heap.size, 3, none⟩ = some (.slice none 0 0) := cell_of_heap h1 3 _ rfl
        clear r0 r1 r2 r3 n0 n1 n2 n3 h1
        (try simp only [Exit.inBlock, Exit.then])
        refine bodyPost_ret (by simp [results, Tryd.results18, go_sem, e0, e1, e2, e3]; try rfl) rfl ?_
        rw [HRE.out]
        exact ⟨none, 0, rfl, fun j f hf => by simp [Ob.zero] at hf, h2⟩
      case pos =>
        subst hM4
        obtain ⟨a, b, c, d, hws⟩ : ∃ a b c d, ws = [a, b, c, d] := by
          have := HM.out
          match ws, this with
          | [a, b, c, d], _ => exact ⟨a, b, c, d, rfl⟩
        have HWQ := Lib.hid hws
        have hwz : ∀ x ∈ ws, x.size ≤ 1000000 := fun x hx => Nat.le_trans (spB_size (by rw [HWS.out]; exact hx)) (HSZ.out h (by rw [HLT.out]; simp))
        have HWZ := Lib.hid hwz
        have ga : (W2.alloc (.cells #[.string ⟨#[]⟩, .int .i64 0, .int .i64 0, .slice none 0 0] 39 (0, 0))).cell? ⟨W1.heap.size, 0, none⟩ = some (.string a) := ws_cell HS3.out (by rw [hws]; rfl)
        have gb : (W2.alloc (.cells #[.string ⟨#[]⟩, .int .i64 0, .int .i64 0, .slice none 0 0] 39 (0, 0))).cell? ⟨W1.heap.size, 1, none⟩ = some (.string b) := ws_cell HS3.out (by rw [hws]; rfl)
        have HHW : Hid (headW h = if objectB = a ∧ namedL b.data.toList = true ∧ (numF c).2 = true ∧ (numF d).2 = true then some (b, (numF c).1, (numF d).1) else none) := Lib.hid (headW_4 (by rw [HWS.out]; exact hws))
        clear hws hwz
        have hqa := bytes_beq a objectB
        by_cases hao : a = objectB
        case neg =>
          have HRE : Hid (readF s = (Ob.zero, 1, 11)) := Lib.hid (by rw [HRF.out, HLT.out]; exact readL_head h xs (by rw [HHW.out, if_neg (fun hh => hao hh.1.symm)]))
          rw [decide_eq_false hao] at hqa
          have q1 : (a.toList == (⟨#[111, 98, 106, 101, 99, 116]⟩ : ByteArray).toList) = false := hqa
          have q2 : (a.toList != (⟨#[111, 98, 106, 101, 99, 116]⟩ : ByteArray).toList) = true := by unfold bne; rw [q1]; rfl
          have q4 : (a.toList == [111, 98, 106, 101, 99, 116]) = false := by rw [Go.ByteArray.toList_eq] at q1 ⊢; rw [Go.ByteArray.toList_eq] at q1; exact q1
          have q5 : (a.toList != [111, 98, 106, 101, 99, 116]) = true := by unfold bne; rw [q4]; rfl
          clear hqa hao
          have hr3 : (W2.alloc (.cells #[.string ⟨#[]⟩, .int .i64 0, .int .i64 0, .slice none 0 0] 39 (0, 0))).heap[w.heap.size]? = some (obObj Ob.zero none 0) := HR3.out
          obtain ⟨r0, r1, r2, r3⟩ := ob_zc hr3
          have n0 := free_of_heap hr3 0
          have n1 := free_of_heap hr3 1
          have n2 := free_of_heap hr3 2
          have n3 := free_of_heap hr3 3
          clear hr3
          go_enter Tryd.func18, Tryd.ntmps18
          go_wp2_with (first
            | (go_at_call_of 33 s; refine hsp1.mono ?_; rintro e w5 ⟨rfl, hw5⟩; subst hw5)
            | (go_at_call_of 33 h; refine hspw.mono ?_; rintro e w6 ⟨rfl, hw6⟩; subst hw6))
          generalize hwf : ((((w6.alloc (.cells #[.string ⟨#[]⟩, .int .i64 0, .int .i64 0, .slice none 0 0] 39 (0, 0))).setCell ⟨w.heap.size, 0, none⟩ (.string ⟨#[]⟩)).setCell ⟨w.heap.size, 1, none⟩ (.int .i64 0)).setCell ⟨w.heap.size, 2, none⟩ (.int .i64 0)).setCell ⟨w.heap.size, 3, none⟩ (.slice none 0 0) = wf
          obtain ⟨h1, h2, _⟩ := fin4 (w := w) Ob.zero none 0 HR3.out (Nat.le_refl _) HB3.out wf hwf.symm
          have e0 : wf.cell? ⟨w.heap.size, 0, none⟩ = some (.string ⟨#[]⟩) := cell_of_heap h1 0 _ rfl
          have e1 : wf.cell? ⟨w.heap.size, 1, none⟩ = some (.int .i64 0) := cell_of_heap h1 1 _ rfl
          have e2 : wf.cell? ⟨w.heap.size, 2, none⟩ = some (.int .i64 0) := cell_of_heap h1 2 _ rfl
          have e3 : wf.cell? ⟨w.heap.size, 3, none⟩ = some (.slice none 0 0) := cell_of_heap h1 3 _ rfl
          clear r0 r1 r2 r3 n0 n1 n2 n3 h1
          (try simp only [Exit.inBlock, Exit.then])
          refine bodyPost_ret (by simp [results, Tryd.results18, go_sem, e0, e1, e2, e3]; try rfl) rfl ?_
          rw [HRE.out]
          exact ⟨none, 0, rfl, fun j f hf => by simp [Ob.zero] at hf, h2⟩
        case pos =>
          subst hao
          rw [decide_eq_true rfl] at hqa
          have q1 : ((⟨#[111, 98, 106, 101, 99, 116]⟩ : ByteArray).toList == (⟨#[111, 98, 106, 101, 99, 116]⟩ : ByteArray).toList) = true := hqa
          have ga' : (W2.alloc (.cells #[.string ⟨#[]⟩, .int .i64 0, .int .i64 0, .slice none 0 0] 39 (0, 0))).cell? ⟨W1.heap.size, 0, none⟩ = some (.string ⟨#[111, 98, 106, 101, 99, 116]⟩) := ga
          clear hqa ga
          have hnd := named_any b (W2.alloc (.cells #[.string ⟨#[]⟩, .int .i64 0, .int .i64 0, .slice none 0 0] 39 (0, 0)))
          obtain ⟨nd, hndd⟩ : ∃ nd, namedL b.data.toList = nd := ⟨_, rfl⟩
          rw [hndd] at hnd HHW
          clear hndd
          cases nd
          case false =>
            have HRE : Hid (readF s = (Ob.zero, 1, 11)) := Lib.hid (by rw [HRF.out, HLT.out]; exact readL_head h xs (by rw [HHW.out, if_neg (fun hh => by cases hh.2.1)]))
            go_enter Tryd.func18, Tryd.ntmps18
            go_wp2_with (first
              | (go_at_call_of 33 s; refine hsp1.mono ?_; rintro e w5 ⟨rfl, hw5⟩; subst hw5)
              | (go_at_call_of 33 h; refine hspw.mono ?_; rintro e w6 ⟨rfl, hw6⟩; subst hw6)
              | (go_at_call 31; refine hnd.mono ?_; rintro e w7 ⟨rfl, hb7⟩; have hr7 := keepB hb7 HR3.out; have HR7 := Lib.hid hr7; have HB7 : Hid (Below w.heap.size w w7) := Lib.hid (HB3.out.trans (hb7.mono HB3.out.size)); obtain ⟨r0, r1, r2, r3⟩ := ob_zc hr7; have n0 := free_of_heap hr7 0; have n1 := free_of_heap hr7 1; have n2 := free_of_heap hr7 2; have n3 := free_of_heap hr7 3; clear hr7 hb7))
            generalize hwf : (((w7.setCell ⟨w.heap.size, 0, none⟩ (.string ⟨#[]⟩)).setCell ⟨w.heap.size, 1, none⟩ (.int .i64 0)).setCell ⟨w.heap.size, 2, none⟩ (.int .i64 0)).setCell ⟨w.heap.size, 3, none⟩ (.slice none 0 0) = wf
            obtain ⟨h1, h2, _⟩ := fin4 (w := w) Ob.zero none 0 HR7.out (Nat.le_refl _) HB7.out wf hwf.symm
            have e0 : wf.cell? ⟨w.heap.size, 0, none⟩ = some (.string ⟨#[]⟩) := cell_of_heap h1 0 _ rfl
            have e1 : wf.cell? ⟨w.heap.size, 1, none⟩ = some (.int .i64 0) := cell_of_heap h1 1 _ rfl
            have e2 : wf.cell? ⟨w.heap.size, 2, none⟩ = some (.int .i64 0) := cell_of_heap h1 2 _ rfl
            have e3 : wf.cell? ⟨w.heap.size, 3, none⟩ = some (.slice none 0 0) := cell_of_heap h1 3 _ rfl
            clear r0 r1 r2 r3 n0 n1 n2 n3 h1
            (try simp only [Exit.inBlock, Exit.then])
            refine bodyPost_ret (by simp [results, Tryd.results18, go_sem, e0, e1, e2, e3]; try rfl) rfl ?_
            rw [HRE.out]
            exact ⟨none, 0, rfl, fun j f hf => by simp [Ob.zero] at hf, h2⟩
          case true =>
            obtain ⟨v1, hv1⟩ : ∃ v, (numF c).1 = v := ⟨_, rfl⟩
            obtain ⟨ok1, ho1⟩ : ∃ v, (numF c).2 = v := ⟨_, rfl⟩
            obtain ⟨v2, hv2⟩ : ∃ v, (numF d).1 = v := ⟨_, rfl⟩
            obtain ⟨ok2, ho2⟩ : ∃ v, (numF d).2 = v := ⟨_, rfl⟩
            rw [hv1, ho1, hv2, ho2] at HHW
            have HN1 : Hid (∀ W, Tabs W → Calls Tryd.prog 34 #[.string c] W fun e w'' => e = .returned (.tuple #[.int .i64 v1, .bool ok1]) ∧ Below W.heap.size W w'') := Lib.hid (fun W hT' => by rw [← hv1, ← ho1]; exact number_any c (by have := HWZ.out c (by rw [HWQ.out]; simp); omega) W hT')
            have HN2 : Hid (∀ W, Tabs W → Calls Tryd.prog 34 #[.string d] W fun e w'' => e = .returned (.tuple #[.int .i64 v2, .bool ok2]) ∧ Below W.heap.size W w'') := Lib.hid (fun W hT' => by rw [← hv2, ← ho2]; exact number_any d (by have := HWZ.out d (by rw [HWQ.out]; simp); omega) W hT')
            clear hv1 ho1 hv2 ho2
            have HSN : Hid (∀ W, Below (W2.alloc (.cells #[.string ⟨#[]⟩, .int .i64 0, .int .i64 0, .slice none 0 0] 39 (0, 0))).heap.size (W2.alloc (.cells #[.string ⟨#[]⟩, .int .i64 0, .int .i64 0, .slice none 0 0] 39 (0, 0))) W → Tabs W ∧ Below w.heap.size w W ∧ W.heap[w.heap.size]? = some (obObj Ob.zero none 0) ∧ W.heap[w.heap.size + 1]? = some (spO l) ∧ W.heap[W1.heap.size]? = some (spO [objectB, b, c, d]) ∧ W.heap[W2.heap.size]? = some (obObj Ob.zero none 0) ∧ Below W2.heap.size W2 W) := Lib.hid (fun W hb => ⟨HT3.out.below hb, HB3.out.trans (hb.mono HB3.out.size), keepB hb HR3.out, keepB hb (alloc_keeps HBW2.out _), by have := keepB hb HS3.out; rw [HWQ.out] at this; exact this, keepB hb HBX.out, (Below.one W2 _).trans (hb.mono (by simp))⟩)
            cases ok1 <;> cases ok2
            · have HRE : Hid (readF s = (Ob.zero, 1, 11)) := Lib.hid (by rw [HRF.out, HLT.out]; exact readL_head h xs (by rw [HHW.out, if_neg (fun hh => by have h3 := hh.2.2; simp at h3)]))
              go_enter Tryd.func18, Tryd.ntmps18
              go_wp2_with (first
                | (go_at_call_of 33 s; refine hsp1.mono ?_; rintro e w5 ⟨rfl, hw5⟩; subst hw5)
                | (go_at_call_of 33 h; refine hspw.mono ?_; rintro e w6 ⟨rfl, hw6⟩; subst hw6)
                | (go_at_call 31; refine hnd.mono ?_; rintro e w7 ⟨rfl, hb7⟩; obtain ⟨hT7, _, _, _, hs7, _⟩ := HSN.out w7 hb7; have HB7 := Lib.hid hb7; have gc := ws_cell hs7 (j := 2) (x := c) rfl; clear hs7 hb7)
                | (go_at_call_of 34 c; refine (HN1.out _ hT7).mono ?_; rintro e w8 ⟨rfl, hb8⟩; have HB8 := Lib.hid (HB7.out.trans (hb8.mono HB7.out.size)); obtain ⟨hT8, _, _, _, hs8, _⟩ := HSN.out w8 HB8.out; have gd := ws_cell hs8 (j := 3) (x := d) rfl; clear hs8 hb8)
                | (go_at_call_of 34 d; refine (HN2.out _ hT8).mono ?_; rintro e w9 ⟨rfl, hb9⟩; have HB9 := Lib.hid (HB8.out.trans (hb9.mono HB8.out.size)); obtain ⟨_, hbw, hr9, _⟩ := HSN.out w9 HB9.out; have HR9 := Lib.hid hr9; have HBW9 := Lib.hid hbw; obtain ⟨r0, r1, r2, r3⟩ := ob_zc hr9; have n0 := free_of_heap hr9 0; have n1 := free_of_heap hr9 1; have n2 := free_of_heap hr9 2; have n3 := free_of_heap hr9 3; clear hr9 hbw hb9))
              generalize hwf : (((w9.setCell ⟨w.heap.size, 0, none⟩ (.string ⟨#[]⟩)).setCell ⟨w.heap.size, 1, none⟩ (.int .i64 0)).setCell ⟨w.heap.size, 2, none⟩ (.int .i64 0)).setCell ⟨w.heap.size, 3, none⟩ (.slice none 0 0) = wf
              obtain ⟨h1, h2, _⟩ := fin4 (w := w) Ob.zero none 0 HR9.out (Nat.le_refl _) HBW9.out wf hwf.symm
              have e0 : wf.cell? ⟨w.heap.size, 0, none⟩ = some (.string ⟨#[]⟩) := cell_of_heap h1 0 _ rfl
              have e1 : wf.cell? ⟨w.heap.size, 1, none⟩ = some (.int .i64 0) := cell_of_heap h1 1 _ rfl
              have e2 : wf.cell? ⟨w.heap.size, 2, none⟩ = some (.int .i64 0) := cell_of_heap h1 2 _ rfl
              have e3 : wf.cell? ⟨w.heap.size, 3, none⟩ = some (.slice none 0 0) := cell_of_heap h1 3 _ rfl
              clear r0 r1 r2 r3 n0 n1 n2 n3 h1
              (try simp only [Exit.inBlock, Exit.then])
              refine bodyPost_ret (by simp [results, Tryd.results18, go_sem, e0, e1, e2, e3]; try rfl) rfl ?_
              rw [HRE.out]
              exact ⟨none, 0, rfl, fun j f hf => by simp [Ob.zero] at hf, h2⟩
            · have HRE : Hid (readF s = (Ob.zero, 1, 11)) := Lib.hid (by rw [HRF.out, HLT.out]; exact readL_head h xs (by rw [HHW.out, if_neg (fun hh => by have h3 := hh.2.2; simp at h3)]))
              go_enter Tryd.func18, Tryd.ntmps18
              go_wp2_with (first
                | (go_at_call_of 33 s; refine hsp1.mono ?_; rintro e w5 ⟨rfl, hw5⟩; subst hw5)
                | (go_at_call_of 33 h; refine hspw.mono ?_; rintro e w6 ⟨rfl, hw6⟩; subst hw6)
                | (go_at_call 31; refine hnd.mono ?_; rintro e w7 ⟨rfl, hb7⟩; obtain ⟨hT7, _, _, _, hs7, _⟩ := HSN.out w7 hb7; have HB7 := Lib.hid hb7; have gc := ws_cell hs7 (j := 2) (x := c) rfl; clear hs7 hb7)
                | (go_at_call_of 34 c; refine (HN1.out _ hT7).mono ?_; rintro e w8 ⟨rfl, hb8⟩; have HB8 := Lib.hid (HB7.out.trans (hb8.mono HB7.out.size)); obtain ⟨hT8, _, _, _, hs8, _⟩ := HSN.out w8 HB8.out; have gd := ws_cell hs8 (j := 3) (x := d) rfl; clear hs8 hb8)
                | (go_at_call_of 34 d; refine (HN2.out _ hT8).mono ?_; rintro e w9 ⟨rfl, hb9⟩; have HB9 := Lib.hid (HB8.out.trans (hb9.mono HB8.out.size)); obtain ⟨_, hbw, hr9, _⟩ := HSN.out w9 HB9.out; have HR9 := Lib.hid hr9; have HBW9 := Lib.hid hbw; obtain ⟨r0, r1, r2, r3⟩ := ob_zc hr9; have n0 := free_of_heap hr9 0; have n1 := free_of_heap hr9 1; have n2 := free_of_heap hr9 2; have n3 := free_of_heap hr9 3; clear hr9 hbw hb9))
              generalize hwf : (((w9.setCell ⟨w.heap.size, 0, none⟩ (.string ⟨#[]⟩)).setCell ⟨w.heap.size, 1, none⟩ (.int .i64 0)).setCell ⟨w.heap.size, 2, none⟩ (.int .i64 0)).setCell ⟨w.heap.size, 3, none⟩ (.slice none 0 0) = wf
              obtain ⟨h1, h2, _⟩ := fin4 (w := w) Ob.zero none 0 HR9.out (Nat.le_refl _) HBW9.out wf hwf.symm
              have e0 : wf.cell? ⟨w.heap.size, 0, none⟩ = some (.string ⟨#[]⟩) := cell_of_heap h1 0 _ rfl
              have e1 : wf.cell? ⟨w.heap.size, 1, none⟩ = some (.int .i64 0) := cell_of_heap h1 1 _ rfl
              have e2 : wf.cell? ⟨w.heap.size, 2, none⟩ = some (.int .i64 0) := cell_of_heap h1 2 _ rfl
              have e3 : wf.cell? ⟨w.heap.size, 3, none⟩ = some (.slice none 0 0) := cell_of_heap h1 3 _ rfl
              clear r0 r1 r2 r3 n0 n1 n2 n3 h1
              (try simp only [Exit.inBlock, Exit.then])
              refine bodyPost_ret (by simp [results, Tryd.results18, go_sem, e0, e1, e2, e3]; try rfl) rfl ?_
              rw [HRE.out]
              exact ⟨none, 0, rfl, fun j f hf => by simp [Ob.zero] at hf, h2⟩
            · have HRE : Hid (readF s = (Ob.zero, 1, 11)) := Lib.hid (by rw [HRF.out, HLT.out]; exact readL_head h xs (by rw [HHW.out, if_neg (fun hh => by have h3 := hh.2.2; simp at h3)]))
              go_enter Tryd.func18, Tryd.ntmps18
              go_wp2_with (first
                | (go_at_call_of 33 s; refine hsp1.mono ?_; rintro e w5 ⟨rfl, hw5⟩; subst hw5)
                | (go_at_call_of 33 h; refine hspw.mono ?_; rintro e w6 ⟨rfl, hw6⟩; subst hw6)
                | (go_at_call 31; refine hnd.mono ?_; rintro e w7 ⟨rfl, hb7⟩; obtain ⟨hT7, _, _, _, hs7, _⟩ := HSN.out w7 hb7; have HB7 := Lib.hid hb7; have gc := ws_cell hs7 (j := 2) (x := c) rfl; clear hs7 hb7)
                | (go_at_call_of 34 c; refine (HN1.out _ hT7).mono ?_; rintro e w8 ⟨rfl, hb8⟩; have HB8 := Lib.hid (HB7.out.trans (hb8.mono HB7.out.size)); obtain ⟨hT8, _, _, _, hs8, _⟩ := HSN.out w8 HB8.out; have gd := ws_cell hs8 (j := 3) (x := d) rfl; clear hs8 hb8)
                | (go_at_call_of 34 d; refine (HN2.out _ hT8).mono ?_; rintro e w9 ⟨rfl, hb9⟩; have HB9 := Lib.hid (HB8.out.trans (hb9.mono HB8.out.size)); obtain ⟨_, hbw, hr9, _⟩ := HSN.out w9 HB9.out; have HR9 := Lib.hid hr9; have HBW9 := Lib.hid hbw; obtain ⟨r0, r1, r2, r3⟩ := ob_zc hr9; have n0 := free_of_heap hr9 0; have n1 := free_of_heap hr9 1; have n2 := free_of_heap hr9 2; have n3 := free_of_heap hr9 3; clear hr9 hbw hb9))
              generalize hwf : (((w9.setCell ⟨w.heap.size, 0, none⟩ (.string ⟨#[]⟩)).setCell ⟨w.heap.size, 1, none⟩ (.int .i64 0)).setCell ⟨w.heap.size, 2, none⟩ (.int .i64 0)).setCell ⟨w.heap.size, 3, none⟩ (.slice none 0 0) = wf
              obtain ⟨h1, h2, _⟩ := fin4 (w := w) Ob.zero none 0 HR9.out (Nat.le_refl _) HBW9.out wf hwf.symm
              have e0 : wf.cell? ⟨w.heap.size, 0, none⟩ = some (.string ⟨#[]⟩) := cell_of_heap h1 0 _ rfl
              have e1 : wf.cell? ⟨w.heap.size, 1, none⟩ = some (.int .i64 0) := cell_of_heap h1 1 _ rfl
              have e2 : wf.cell? ⟨w.heap.size, 2, none⟩ = some (.int .i64 0) := cell_of_heap h1 2 _ rfl
              have e3 : wf.cell? ⟨w.heap.size, 3, none⟩ = some (.slice none 0 0) := cell_of_heap h1 3 _ rfl
              clear r0 r1 r2 r3 n0 n1 n2 n3 h1
              (try simp only [Exit.inBlock, Exit.then])
              refine bodyPost_ret (by simp [results, Tryd.results18, go_sem, e0, e1, e2, e3]; try rfl) rfl ?_
              rw [HRE.out]
              exact ⟨none, 0, rfl, fun j f hf => by simp [Ob.zero] at hf, h2⟩
            · have HRB : Hid (readF s = if goodN xs < xs.length then (Ob.zero, ((goodN xs : Nat) : Int) + 2, 11) else if rightO ⟨b, v1, v2, xs.map lnD⟩ then (⟨b, v1, v2, xs.map lnD⟩, 0, 0) else (Ob.zero, ((n + 2 : Nat) : Int), 11)) := Lib.hid (by rw [HRF.out, HLT.out, readL_body h xs (b, v1, v2) (by rw [HHW.out, if_pos ⟨rfl, rfl, rfl, rfl⟩]), HN.out])
              go_enter Tryd.func18, Tryd.ntmps18
              go_wp2_with (first
                | (go_at_call_of 33 s; refine hsp1.mono ?_; rintro e w5 ⟨rfl, hw5⟩; subst hw5)
                | (go_at_call_of 33 h; refine hspw.mono ?_; rintro e w6 ⟨rfl, hw6⟩; subst hw6)
                | (go_at_call 31; refine hnd.mono ?_; rintro e w7 ⟨rfl, hb7⟩; obtain ⟨hT7, _, _, _, hs7, _⟩ := HSN.out w7 hb7; have HB7 := Lib.hid hb7; have gc := ws_cell hs7 (j := 2) (x := c) rfl; clear hs7 hb7)
                | (go_at_call_of 34 c; refine (HN1.out _ hT7).mono ?_; rintro e w8 ⟨rfl, hb8⟩; have HB8 := Lib.hid (HB7.out.trans (hb8.mono HB7.out.size)); obtain ⟨hT8, _, _, _, hs8, _⟩ := HSN.out w8 HB8.out; have gd := ws_cell hs8 (j := 3) (x := d) rfl; clear hs8 hb8)
                | (go_at_call_of 34 d; refine (HN2.out _ hT8).mono ?_; rintro e w9 ⟨rfl, hb9⟩; have HB9 := Lib.hid (HB8.out.trans (hb9.mono HB8.out.size)); obtain ⟨_, _, _, _, hs9, hx9, hb69⟩ := HSN.out w9 HB9.out; have gb9 := ws_cell hs9 (j := 1) (x := b) rfl; obtain ⟨z0, z1, z2, z3⟩ := ob_zc hx9; have m0 := free_of_heap hx9 0; have m1 := free_of_heap hx9 1; have m2 := free_of_heap hx9 2;
                   have HA : Hid (RdS w6 (((w9.setCell ⟨w6.heap.size, 0, none⟩ (.string b)).setCell ⟨w6.heap.size, 1, none⟩ (.int .i64 v1)).setCell ⟨w6.heap.size, 2, none⟩ (.int .i64 v2)) ⟨b, v1, v2, []⟩ (.slice none 0 0) w6.heap.size w6.heap.size) := Lib.hid (rdS_start hx9 hb69 b v1 v2); clear hs9 hx9 hb9 hb69))
              clear z0 z1 z2 z3 m0 m1 m2 gb9 gd gc ga' gb hT7 hT8 q1
              go_loopw [91] (fun ix wr => ∃ (k : Nat) (V : Value), k ≤ n ∧ ix = .int .i64 k ∧ RdS w6 wr ⟨b, v1, v2, (xs.take k).map lnD⟩ V w6.heap.size w6.heap.size ∧ ∀ (j : Nat) x, j < k → xs[j]? = some x → (lineF x).isSome = true) (fun ix _ => n - (intOf ix).toNat)
              case atStart => exact ⟨0, .slice none 0 0, by omega, rfl, HA.out, fun j x hj => by omega⟩
              case round =>
                obtain ⟨k, V, hk, rfl, hS, hgood⟩ := hrel
                have hlk : ((xs.take k).map lnD).length = k := by rw [List.length_map, List.length_take, HN.out]; omega
                obtain ⟨A, cap, hV, hRd⟩ := hS.own.read
                simp only [hlk] at hV
                subst hV
                have HS := Lib.hid hS
                have HRD := Lib.hid hRd
                have HGO := Lib.hid hgood
                have HLK := Lib.hid hlk
                have hTr := HT2.out.below hS.b
                have hrr := keepB hS.b HBR2.out
                have hlr := keepB hS.b HBW2.out
                have HRR := Lib.hid hrr
                have HBK := Lib.hid (HB2.out.trans (hS.b.mono HB2.out.size))
                clear hgood hRd hlk hS
                by_cases hlt : k < n
                · obtain ⟨x, hx⟩ : ∃ x, xs[k]? = some x := ⟨_, List.getElem?_eq_getElem (by rw [HN.out]; exact hlt)⟩
                  have gx : wr.cell? ⟨w.heap.size + 1, 1 + k, none⟩ = some (.string x) := ws_cell hlr (by rw [HLT.out, Nat.add_comm 1 k, List.getElem?_cons_succ, List.getElem?_append_left (by rw [HN.out]; exact hlt)]; exact hx)
                  have hln := line_any x (by have := HSZ.out x (by rw [HLT.out]; exact List.mem_cons_of_mem _ (List.mem_append_left _ (List.mem_of_getElem? hx))); omega) wr hTr
                  obtain ⟨y, hy⟩ : ∃ y, (lineR x).1 = y := ⟨_, rfl⟩
                  obtain ⟨ok, hok⟩ : ∃ ok, (lineR x).2 = ok := ⟨_, rfl⟩
                  rw [hy, hok] at hln
                  simp only [Ln.agg] at hln
                  have HX := Lib.hid hx
                  have HY := Lib.hid hy
                  have HOK := Lib.hid hok
                  clear hlr hrr hx hy hok hTr
                  cases ok
                  · have HBAD : Hid (readF s = (Ob.zero, (k : Int) + 2, 11)) := Lib.hid (by
                      have hg : goodN xs = k := goodN_is xs k HGO.out (fun z hz => by
                        rw [HX.out] at hz
                        injection hz with hz
                        subst hz
                        have := HOK.out
                        unfold lineR at this
                        cases hl : lineF x with
                        | none => rfl
                        | some l => rw [hl] at this; cases this) (by rw [HN.out]; exact hk)
                      rw [HRB.out, hg, HN.out, if_pos hlt])
                    go_wp2_with (first
                      | (go_at_call 35; refine hln.mono ?_; rintro e w10 ⟨rfl, hb10⟩;
                         have HR10 : Hid ((w10.alloc (.cells #[.int .i64 y.op, .int .i64 y.r, .int .i64 y.a, .int .i64 y.b, .int .i64 y.n, .string y.text] 36 (0, 0))).heap[w.heap.size]? = some (obObj Ob.zero none 0)) := Lib.hid (alloc_keeps (keepB hb10 HRR.out) _);
                         have HB10 : Hid (Below w.heap.size w (w10.alloc (.cells #[.int .i64 y.op, .int .i64 y.r, .int .i64 y.a, .int .i64 y.b, .int .i64 y.n, .string y.text] 36 (0, 0)))) := Lib.hid ((HBK.out.trans (hb10.mono HBK.out.size)).trans ((Below.one w10 _).mono (HBK.out.trans (hb10.mono HBK.out.size)).size));
                         have hr10 := HR10.out;
                         obtain ⟨r0, r1, r2, r3⟩ := ob_zc hr10;
                         have n0 := free_of_heap hr10 0;
                         have n1 := free_of_heap hr10 1;
                         have n2 := free_of_heap hr10 2;
                         have n3 := free_of_heap hr10 3;
                         clear hr10 hb10))
                    generalize hwf : ((((w10.alloc (.cells #[.int .i64 y.op, .int .i64 y.r, .int .i64 y.a, .int .i64 y.b, .int .i64 y.n, .string y.text] 36 (0, 0))).setCell ⟨w.heap.size, 0, none⟩ (.string ⟨#[]⟩)).setCell ⟨w.heap.size, 1, none⟩ (.int .i64 0)).setCell ⟨w.heap.size, 2, none⟩ (.int .i64 0)).setCell ⟨w.heap.size, 3, none⟩ (.slice none 0 0) = wf
                    obtain ⟨h1, h2, _⟩ := fin4 (w := w) Ob.zero none 0 HR10.out (Nat.le_refl _) HB10.out wf hwf.symm
                    have e0 : wf.cell? ⟨w.heap.size, 0, none⟩ = some (.string ⟨#[]⟩) := cell_of_heap h1 0 _ rfl
                    have e1 : wf.cell? ⟨w.heap.size, 1, none⟩ = some (.int .i64 0) := cell_of_heap h1 1 _ rfl
                    have e2 : wf.cell? ⟨w.heap.size, 2, none⟩ = some (.int .i64 0) := cell_of_heap h1 2 _ rfl
                    have e3 : wf.cell? ⟨w.heap.size, 3, none⟩ = some (.slice none 0 0) := cell_of_heap h1 3 _ rfl
                    clear r0 r1 r2 r3 n0 n1 n2 n3 h1
                    (try simp only [Exit.inBlock, Exit.then])
                    refine bodyPost_ret (by simp [results, Tryd.results18, go_sem, e0, e1, e2, e3]; try rfl) rfl ?_
                    rw [HBAD.out]
                    exact ⟨none, 0, rfl, fun j f hf => by simp [Ob.zero] at hf, h2⟩
                  · have hyx : lnD x = y := by
                      have h1 := HOK.out
                      have h2 := HY.out
                      unfold lineR at h1 h2
                      unfold lnD
                      cases hl : lineF x with
                      | none => rw [hl] at h1; cases h1
                      | some l => rw [hl] at h2; exact h2
                    have htk : (xs.take k).map lnD ++ [y] = (xs.take (k + 1)).map lnD := by
                      rw [List.take_add_one, HX.out, List.map_append, ← hyx]
                      rfl
                    have HTK := Lib.hid htk
                    have HSO : Hid ((lineF x).isSome = true) := Lib.hid (by
                      have h1 := HOK.out
                      unfold lineR at h1
                      cases hl : lineF x with
                      | none => rw [hl] at h1; cases h1
                      | some l => rfl)
                    clear htk hyx
                    go_wp2_with (first
                      | (go_at_call 35; refine hln.mono ?_; rintro e w10 ⟨rfl, hb10⟩;
                         have hs10 := (HS.out.later hb10).later (Below.one w10 y.obj);
                         have hs11 := hs10.later (Below.one (w10.alloc y.obj) y.obj);
                         have HS11 : Hid (RdS w6 ((w10.alloc (.cells #[.int .i64 y.op, .int .i64 y.r, .int .i64 y.a, .int .i64 y.b, .int .i64 y.n, .string y.text] 36 (0, 0))).alloc (.cells #[.int .i64 y.op, .int .i64 y.r, .int .i64 y.a, .int .i64 y.b, .int .i64 y.n, .string y.text] 36 (0, 0))) ⟨b, v1, v2, (xs.take k).map lnD⟩ (.slice A k cap) w6.heap.size w6.heap.size) := Lib.hid hs11;
                         have y3 : (w10.alloc (.cells #[.int .i64 y.op, .int .i64 y.r, .int .i64 y.a, .int .i64 y.b, .int .i64 y.n, .string y.text] 36 (0, 0))).cell? ⟨w6.heap.size, 3, none⟩ = some (.slice A k cap) := cell_of_heap hs10.box 3 _ rfl;
                         have HG11 : Hid (((w10.alloc (.cells #[.int .i64 y.op, .int .i64 y.r, .int .i64 y.a, .int .i64 y.b, .int .i64 y.n, .string y.text] 36 (0, 0))).alloc (.cells #[.int .i64 y.op, .int .i64 y.r, .int .i64 y.a, .int .i64 y.b, .int .i64 y.n, .string y.text] 36 (0, 0))).heap[w10.heap.size + 1]? = some y.obj) := Lib.hid (by have := heap_alloc_new (w10.alloc y.obj) y.obj; rw [show (w10.alloc y.obj).heap.size = w10.heap.size + 1 by simp] at this; exact this);
                         obtain ⟨g0, g1, g2, g3, g4, g5⟩ := Ln.cells (heap_alloc_new w10 y.obj);
                         have g0 : (w10.alloc (.cells #[.int .i64 y.op, .int .i64 y.r, .int .i64 y.a, .int .i64 y.b, .int .i64 y.n, .string y.text] 36 (0, 0))).cell? ⟨w10.heap.size, 0, none⟩ = some (.int .i64 y.op) := g0;
                         have g1 : (w10.alloc (.cells #[.int .i64 y.op, .int .i64 y.r, .int .i64 y.a, .int .i64 y.b, .int .i64 y.n, .string y.text] 36 (0, 0))).cell? ⟨w10.heap.size, 1, none⟩ = some (.int .i64 y.r) := g1;
                         have g2 : (w10.alloc (.cells #[.int .i64 y.op, .int .i64 y.r, .int .i64 y.a, .int .i64 y.b, .int .i64 y.n, .string y.text] 36 (0, 0))).cell? ⟨w10.heap.size, 2, none⟩ = some (.int .i64 y.a) := g2;
                         have g3 : (w10.alloc (.cells #[.int .i64 y.op, .int .i64 y.r, .int .i64 y.a, .int .i64 y.b, .int .i64 y.n, .string y.text] 36 (0, 0))).cell? ⟨w10.heap.size, 3, none⟩ = some (.int .i64 y.b) := g3;
                         have g4 : (w10.alloc (.cells #[.int .i64 y.op, .int .i64 y.r, .int .i64 y.a, .int .i64 y.b, .int .i64 y.n, .string y.text] 36 (0, 0))).cell? ⟨w10.heap.size, 4, none⟩ = some (.int .i64 y.n) := g4;
                         have g5 : (w10.alloc (.cells #[.int .i64 y.op, .int .i64 y.r, .int .i64 y.a, .int .i64 y.b, .int .i64 y.n, .string y.text] 36 (0, 0))).cell? ⟨w10.heap.size, 5, none⟩ = some (.string y.text) := g5;
                         clear hs10 hs11 hb10)
                      | (show wpList Tryd.prog _ _ (⟨some 110, _, _, _, _, _⟩ :: _) _ _; refine wpList_append_ln rfl (.tmp 107) (.tmp 109) rfl w6.heap.size (.slice A k cap) ((xs.take k).map lnD) rfl HS11.out.own (w10.heap.size + 1) y rfl HG11.out (by rw [HLK.out]; omega) HS11.out.b.size ?_; intro V' w12 ho12 hg12;
                         have HS12 := Lib.hid (HS11.out.push (Nat.le_refl _) y hg12 ho12);
                         have hx12 := (hg12.block _ HS11.out.hi (own_ne HS11.out.own HS11.out.box (by decide)).symm).trans HS11.out.box;
                         obtain ⟨A12, c12, hv12, _⟩ := OwnL.read ho12;
                         subst hv12;
                         have v12 := cell_of_heap hx12 3 _ rfl;
                         have f12 := free_of_heap hx12 3;
                         clear hx12 ho12 hg12))
                    refine ⟨⟨k + 1, _, by omega, by go_num, by have := HS12.out; simp only [HTK.out] at this; rw [show ((xs.take (k + 1)).map lnD).length = min k xs.length + 1 by rw [← HTK.out]; simp] at this; exact this, fun j z hj hz => ?_⟩, by simp [intOf]; omega⟩
                    by_cases hjk : j = k
                    · subst hjk
                      rw [HX.out] at hz
                      injection hz with hz
                      subst hz
                      exact HSO.out
                    · exact HGO.out j z (by omega) hz
                · obtain rfl : k = n := by omega
                  have htn : (xs.take k).map lnD = xs.map lnD := by rw [List.take_of_length_le (by rw [HN.out]; exact Nat.le_refl _)]
                  have hgn : ¬ goodN xs < xs.length := by
                    rw [goodN_is xs k HGO.out (fun z hz => by have := (List.getElem?_eq_some_iff.1 hz).1; rw [HN.out] at this; omega) (by rw [HN.out]; exact Nat.le_refl _), HN.out]
                    omega
                  have HS2 := HS
                  have HRD2 := HRD
                  rw [htn] at HS2 HRD2
                  obtain ⟨LS, hLS⟩ : ∃ LS, xs.map lnD = LS := ⟨_, rfl⟩
                  have hRB := HRB.out
                  rw [if_neg hgn] at hRB
                  rw [hLS] at HS2 HRD2 hRB
                  have hLn : LS.length = k := by rw [← hLS, List.length_map, HN.out]
                  obtain ⟨rr, hrr2⟩ : ∃ rr, rightO ⟨b, v1, v2, LS⟩ = rr := ⟨_, rfl⟩
                  have hro := RightObject_any ⟨b, v1, v2, LS⟩ A cap wr hTr (by show LS.length ≤ _; omega) HRD2.out
                  rw [hrr2] at hro hRB
                  simp only [obAgg, hLn] at hro
                  have x0 : wr.cell? ⟨w6.heap.size, 0, none⟩ = some (.string b) := cell_of_heap HS2.out.box 0 _ rfl
                  have x1 : wr.cell? ⟨w6.heap.size, 1, none⟩ = some (.int .i64 v1) := cell_of_heap HS2.out.box 1 _ rfl
                  have x2 : wr.cell? ⟨w6.heap.size, 2, none⟩ = some (.int .i64 v2) := cell_of_heap HS2.out.box 2 _ rfl
                  have x3 : wr.cell? ⟨w6.heap.size, 3, none⟩ = some (.slice A k cap) := cell_of_heap HS2.out.box 3 _ rfl
                  have HRB2 := Lib.hid hRB
                  have HLN := Lib.hid hLn
                  clear htn hgn hLS hrr2 hTr hrr hlr hRB hLn hlt hk
                  cases rr
                  · have HBAD : Hid (readF s = (Ob.zero, ((k + 2 : Nat) : Int), 11)) := Lib.hid (by rw [HRB2.out]; rfl)
                    go_wp2_with (first
                      | (go_at_call 17; refine hro.mono ?_; rintro e w10 ⟨rfl, hb10⟩;
                         have hr10 := keepB hb10 HRR.out;
                         have HR10 := Lib.hid hr10;
                         have HB10 : Hid (Below w.heap.size w w10) := Lib.hid (HBK.out.trans (hb10.mono HBK.out.size));
                         obtain ⟨r0, r1, r2, r3⟩ := ob_zc hr10;
                         have n0 := free_of_heap hr10 0;
                         have n1 := free_of_heap hr10 1;
                         have n2 := free_of_heap hr10 2;
                         have n3 := free_of_heap hr10 3;
                         clear hr10 hb10))
                    generalize hwf : (((w10.setCell ⟨w.heap.size, 0, none⟩ (.string ⟨#[]⟩)).setCell ⟨w.heap.size, 1, none⟩ (.int .i64 0)).setCell ⟨w.heap.size, 2, none⟩ (.int .i64 0)).setCell ⟨w.heap.size, 3, none⟩ (.slice none 0 0) = wf
                    obtain ⟨h1, h2, _⟩ := fin4 (w := w) Ob.zero none 0 HR10.out (Nat.le_refl _) HB10.out wf hwf.symm
                    have e0 : wf.cell? ⟨w.heap.size, 0, none⟩ = some (.string ⟨#[]⟩) := cell_of_heap h1 0 _ rfl
                    have e1 : wf.cell? ⟨w.heap.size, 1, none⟩ = some (.int .i64 0) := cell_of_heap h1 1 _ rfl
                    have e2 : wf.cell? ⟨w.heap.size, 2, none⟩ = some (.int .i64 0) := cell_of_heap h1 2 _ rfl
                    have e3 : wf.cell? ⟨w.heap.size, 3, none⟩ = some (.slice none 0 0) := cell_of_heap h1 3 _ rfl
                    clear r0 r1 r2 r3 n0 n1 n2 n3 h1
                    (try simp only [Exit.inBlock, Exit.then])
                    refine bodyPost_ret (by simp [results, Tryd.results18, go_sem, e0, e1, e2, e3]; try rfl) rfl ?_
                    rw [HBAD.out]
                    exact ⟨none, 0, rfl, fun j f hf => by simp [Ob.zero] at hf, h2⟩
                  · have HOKR : Hid (readF s = (⟨b, v1, v2, LS⟩, 0, 0)) := Lib.hid (by rw [HRB2.out]; rfl)
                    go_wp2_with (first
                      | (go_at_call 17; refine hro.mono ?_; rintro e w10 ⟨rfl, hb10⟩;
                         have hr10 := keepB hb10 HRR.out;
                         have HR10 := Lib.hid hr10;
                         have HS10 := Lib.hid (HS2.out.later hb10);
                         have HB10 : Hid (Below w.heap.size w w10) := Lib.hid (HBK.out.trans (hb10.mono HBK.out.size));
                         obtain ⟨r0, r1, r2, r3⟩ := ob_zc hr10;
                         have n0 := free_of_heap hr10 0;
                         have n1 := free_of_heap hr10 1;
                         have n2 := free_of_heap hr10 2;
                         have n3 := free_of_heap hr10 3;
                         have x0 : w10.cell? ⟨w6.heap.size, 0, none⟩ = some (.string b) := cell_of_heap HS10.out.box 0 _ rfl;
                         have x1 : w10.cell? ⟨w6.heap.size, 1, none⟩ = some (.int .i64 v1) := cell_of_heap HS10.out.box 1 _ rfl;
                         have x2 : w10.cell? ⟨w6.heap.size, 2, none⟩ = some (.int .i64 v2) := cell_of_heap HS10.out.box 2 _ rfl;
                         have x3 : w10.cell? ⟨w6.heap.size, 3, none⟩ = some (.slice A k cap) := cell_of_heap HS10.out.box 3 _ rfl;
                         clear hr10 hb10))
                    generalize hwf : (((w10.setCell ⟨w.heap.size, 0, none⟩ (.string b)).setCell ⟨w.heap.size, 1, none⟩ (.int .i64 v1)).setCell ⟨w.heap.size, 2, none⟩ (.int .i64 v2)).setCell ⟨w.heap.size, 3, none⟩ (.slice A k cap) = wf
                    obtain ⟨h1, h2, h3⟩ := fin4 (w := w) ⟨b, v1, v2, LS⟩ A cap HR10.out (Nat.le_refl _) HB10.out wf (by rw [← hwf]; simp only [HLN.out])
                    have e0 : wf.cell? ⟨w.heap.size, 0, none⟩ = some (.string b) := cell_of_heap h1 0 _ rfl
                    have e1 : wf.cell? ⟨w.heap.size, 1, none⟩ = some (.int .i64 v1) := cell_of_heap h1 1 _ rfl
                    have e2 : wf.cell? ⟨w.heap.size, 2, none⟩ = some (.int .i64 v2) := cell_of_heap h1 2 _ rfl
                    have e3 : wf.cell? ⟨w.heap.size, 3, none⟩ = some (.slice A k cap) := by
                      have := cell_of_heap h1 3 _ rfl
                      simp only [HLN.out] at this
                      exact this
                    have hfin : RdL wf A LS := by
                      obtain ⟨A', cap', e, hr⟩ := (h3 _ _ _ HS10.out.own).read
                      injection e with e1
                      rw [e1]
                      exact hr
                    clear r0 r1 r2 r3 n0 n1 n2 n3 x0 x1 x2 x3 h1 h3
                    (try simp only [Exit.inBlock, Exit.then])
                    refine bodyPost_ret (by simp [results, Tryd.results18, go_sem, e0, e1, e2, e3]; try rfl) rfl ?_
                    rw [HOKR.out]
                    refine ⟨A, cap, ?_, hfin, h2⟩
                    simp only [obAgg, HLN.out]
end Go.Proofs.YtihbgppcacaekaaDoor
