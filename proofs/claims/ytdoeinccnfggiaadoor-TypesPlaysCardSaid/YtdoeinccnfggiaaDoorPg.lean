import Derived.Test.YtdoeinccnfggiaaDoorPf
import Derived.Test.YtdoeinccnfggiaaDoorX
namespace Go.Proofs.YtdoeinccnfggiaaDoor
open Go.RowKit Go.BigFrame

theorem is_any {w : World} {p : Nat} {F X : Nat → Prop} {v : Value} {T : List Ty} {Ds : List (ByteArray × List Fld)} {K m K' B : Nat} (h : Both w p F X v T Ds) (hi : Inv T Ds K m) (hm : m ≤ 1000) (hg : TG T K' B) (hTab : Tab w) (n : Int) (s : ByteArray) :
    Calls Tryd.prog 23 #[.pointer (some ⟨p, 0, none⟩), v, .int .i64 n, .string s] w fun e w' => e = .returned (.bool true) ∧ Below w.heap.size w w' := by
  cases hx : atT T n with
  | none => exact is_out h hi hm hg hTab n hx s
  | some x =>
    obtain ⟨k, rfl, hk⟩ := atT_get hx
    exact is_in h hi hm hg hTab k x hk s
set_option maxRecDepth 1000000 in
set_option maxHeartbeats 8000000 in
/-- the law TypesPlays's function, of any steps, any number and any name -/
theorem plays_any {w : World} {A : Option Addr} {l : List Stp} {cap : Nat} (h : RdS w A l) (hl : l.length ≤ 9223372036854775807) (hTab : Tab w) (n : Int) (nm : ByteArray) : Calls Tryd.prog 6 #[.slice A l.length cap, .int .i64 n, .string nm] w fun e w' => e = .returned (.bool true) ∧ Below w.heap.size w w' := by
  obtain ⟨L, hL⟩ : ∃ L, l.length = L := ⟨_, rfl⟩
  have hfew := few_any (cap := cap) h hl
  rw [hL] at hl hfew ⊢
  have HL := Lib.hid hL
  clear hL
  have hTab' := fun w' hb => Tab.below hTab (w' := w') hb
  by_cases hnm : 100 < nm.size
  · have q1 : decide (nm.size > 100) = true := by simpa using hnm
    have q2 : decide ((nm.size : Int) > 100) = true := by simp; omega
    have q3 : decide (100 < nm.size) = true := by simpa using hnm
    clear hnm
    go_enter Tryd.func6, Tryd.ntmps6
    go_wp2_with (first
      | (go_at_call 16; refine hfew.mono ?_; rintro e w1 ⟨⟨b, rfl, _⟩, hb1⟩; cases b))
    all_goals
      go_wp2_with (first
        | (go_at_call 9; refine (awake_any _ (hTab' _ hb1)).mono ?_; rintro e w2 ⟨rfl, hb2⟩))
      go_returns
      exact ⟨rfl, hb1.trans (hb2.mono hb1.size)⟩
  have q1 : decide (nm.size > 100) = false := by simpa using hnm
  have q2 : decide ((nm.size : Int) > 100) = false := by simp; omega
  have q3 : decide (100 < nm.size) = false := by simpa using hnm
  clear hnm
  go_enter Tryd.func6, Tryd.ntmps6
  go_wp2_with (first
    | (go_at_call 16; refine hfew.mono ?_; rintro e w1 ⟨⟨b, rfl, hfine⟩, hb1⟩; cases b))
  · go_wp2_with (first
      | (go_at_call 9; refine (awake_any _ (hTab' _ hb1)).mono ?_; rintro e w2 ⟨rfl, hb2⟩))
    go_returns
    exact ⟨rfl, hb1.trans (hb2.mono hb1.size)⟩
  · obtain ⟨hL40, hF⟩ := hfine (by simp)
    clear hfine
    go_wp2_with (first
      | (go_at_call 10; refine (new_any _).mono ?_; rintro e w2 ⟨rfl, hf2⟩; obtain ⟨F0, t2, hb2, hF0, hF0'⟩ := hf2.open_)
      | (go_at_call 17; refine (refNew_any w2 F0 hF0').mono ?_; rintro e w3 ⟨⟨v3, rfl, hR3⟩, hb3⟩; obtain ⟨A3, c3, B3, c4, rfl, _, _⟩ := id hR3))
    have hne0 : ∀ d ∈ ([] : List (ByteArray × List Fld)), 0 < d.2.length := fun d hd => by simp at hd
    have hb4 := Below.one w3 (.cells #[.slice A3 (tys 4).length c3, .slice B3 0 c4] 44)
    have hs12 := hb1.size
    have hs23 := hb2.size
    have hs34 := hb3.size
    have hbw : Below w.heap.size w (w3.alloc (.cells #[.slice A3 (tys 4).length c3, .slice B3 0 c4] 44)) := hb1.trans ((hb2.mono hs12).trans ((hb3.mono (by omega)).trans (hb4.mono (by omega))))
    have hst : St w (w3.alloc (.cells #[.slice A3 (tys 4).length c3, .slice B3 0 c4] 44)) (w1.heap.size + 1) w3.heap.size 0 (tys 4) [] (.slice A3 (tys 4).length c3) (.slice B3 0 c4) F0 :=
      ⟨⟨(t2.below hb3).below hb4, hR3.move hne0 hb4.size (fun k hk hn => ⟨hb4.block k hk, fun hh => by rcases hh with hh | hh; exact hn hh; omega⟩), fun k hk => by have := hF0' k hk; simp; omega, fun k hk => by rw [hk]; simp⟩,
        inv0, heap_alloc_new _ _, fun hh => by have := hF0' _ hh; omega, hbw, fun b hb => by have := hF0 b hb; omega, by omega⟩
    clear hb4 hbw
    obtain ⟨w4, hw4⟩ : ∃ w4, w4 = w3.alloc (.cells #[.slice A3 (tys 4).length c3, .slice B3 0 c4] 44) := ⟨_, rfl⟩
    rw [← hw4] at hst
    obtain ⟨p, hp⟩ : ∃ p, p = w1.heap.size + 1 := ⟨_, rfl⟩
    obtain ⟨rb, hrb⟩ : ∃ rb, rb = w3.heap.size := ⟨_, rfl⟩
    go_wp2
    rw [← hp, ← hrb] at hst ⊢
    rw [← hw4]
    clear hp hrb hw4
    go_loopw [26] (fun i w8 => ∃ k : Nat, k ≤ L ∧ i = .int .i64 k ∧ ∃ T Ds va vb F, St w w8 p rb k T Ds va vb F ∧ TG T (k + 1) (200 * k + 8)) (fun i _ => L - (intOf i).toNat)
    case atStart => exact ⟨0, by omega, rfl, _, _, _, _, _, hst, tg0⟩
    case round =>
      obtain ⟨k, hk, rfl, T, Ds, va, vb, F, ⟨hB, hI, hrb, hnF, hb, hFw, hrw⟩, hTG⟩ := hrel
      by_cases hlt : k < L
      · have hs : l[k]? = some (l[k]'(by rw [HL.out]; omega)) := by simp
        have hfs := hF _ (List.mem_of_getElem? hs)
        generalize l[k]'(by rw [HL.out]; omega) = s at hs hfs
        obtain ⟨b, o, C, c, rfl, hbl, e1, e2, e3, e4, e5, e6⟩ := h k s hs
        obtain ⟨s1, s2, s3, s4, s5⟩ := s
        simp only at e1 e2 e3 e4 e5 e6
        have e1' := (hb.cell (p := ⟨b, _, none⟩) hbl).trans e1
        have e2' := (hb.cell (p := ⟨b, _, none⟩) hbl).trans e2
        have e3' := (hb.cell (p := ⟨b, _, none⟩) hbl).trans e3
        have e4' := (hb.cell (p := ⟨b, _, none⟩) hbl).trans e4
        have e5' := (hb.cell (p := ⟨b, _, none⟩) hbl).trans e5
        clear e1 e2 e3 e4 e5
        obtain ⟨LF, hLF⟩ : ∃ LF, s5.length = LF := ⟨_, rfl⟩
        rw [hLF] at e5'
        have HLF := Lib.hid hLF
        clear hLF
        have hBA := hb.alloc hb.size (.cells #[.int .i64 s1, .int .i64 s2, .int .i64 s3, .string s4, .slice C LF c] 48)
        have hone := Below.one wr (.cells #[.int .i64 s1, .int .i64 s2, .int .i64 s3, .string s4, .slice C LF c] 48)
        have bx := heap_alloc_new wr (.cells #[.int .i64 s1, .int .i64 s2, .int .i64 s3, .string s4, .slice C LF c] 48)
        have hBo := hB.below hI.ne hone
        have hrbA := (hone.block rb (Array.getElem?_eq_some_iff.1 hrb).1).trans hrb
        have hrblt := (Array.getElem?_eq_some_iff.1 hrb).1
        have m5 := cell_of_heap hrbA 0 va rfl
        have m6 := cell_of_heap hrbA 1 vb rfl
        have m7 := cell_of_heap hrb 0 va rfl
        have m8 := cell_of_heap hrb 1 vb rfl
        have hdo := does_any hBo hI (by omega) ⟨s1, s2, s3, s4, s5⟩ hfs C c (e6.below hBA) (fun h0 b' o' hC hf => by
          obtain ⟨b2, o2, k1, k2, _⟩ := e6 0 (s5[0]'h0) (by simp)
          rw [hC] at k1
          injection k1 with k1
          injection k1 with k1
          have := hFw b' hf
          omega)
        have hkp := stepT_keeps (Ds := Ds) (K := 2 * k + 1) (s := ⟨s1, s2, s3, s4, s5⟩) hI.len.2 hI.nodup
        have hI1 := hI.step hfs
        have hTG1 := hTG.step (Ds := Ds) (K := 2 * k + 1) (by omega) hfs.1
        simp only [Stp.agg] at hdo
        rw [HLF.out] at hdo
        generalize stepT T Ds (2 * k + 1) ⟨s1, s2, s3, s4, s5⟩ = TD at *
        obtain ⟨T1, Ds1⟩ := TD
        simp only at hdo hkp hI1 hTG1
        have hlen1 := hI1.len
        have hwr : wrap64 ((T1.length : Int) - 1) = (T1.length : Int) - 1 := by unfold wrap64; omega
        go_wp2_with (first
          | (go_at_call 20; refine hdo.mono ?_; rintro e w7 ⟨v7, rfl, F1, hB7, hc7, hF7⟩; obtain ⟨A7, c7, B7, c8, rfl, _, _⟩ := id hB7.rt; have hone7 := Below.one w7 (.cells #[.slice A7 T1.length c7, .slice B7 Ds1.length c8] 44); have hrb7 := alloc_keeps ((hc7.block rb (by simp; omega) hnF).trans hrbA) (.cells #[.slice A7 T1.length c7, .slice B7 Ds1.length c8] 44); have z0 := free_of_heap hrb7 0; have z1 := free_of_heap hrb7 1; have z2 := cell_of_heap hrb7 0 va rfl; have z3 := cell_of_heap hrb7 1 vb rfl; have hnF1 : ¬ F1 rb := (fun hf => by rcases hF7 rb hf with h | h; exact hnF h; simp at h; omega); have hB8 := (hB7.below hI1.ne hone7).store hI1.ne hnF1 (.slice A7 T1.length c7) (.slice B7 Ds1.length c8); have hrb8 := set2_heap hrb7 (.slice A7 T1.length c7) (.slice B7 Ds1.length c8); have y0 := cell_of_heap hrb8 0 (.slice A7 T1.length c7) rfl; have y1 := cell_of_heap hrb8 1 (.slice B7 Ds1.length c8) rfl; have hb7 := hBA.trans (hc7.below hBA.size hFw); have hb8 := ((hb7.alloc hb7.size (.cells #[.slice A7 T1.length c7, .slice B7 Ds1.length c8] 44)).setCell (p := ⟨rb, 0, none⟩) hrw (.slice A7 T1.length c7)).setCell (p := ⟨rb, 1, none⟩) hrw (.slice B7 Ds1.length c8))
          | (go_at_call 23; refine (is_any (hB8.below hI1.ne hb9) hI1 (by omega) hTG1 (hTab' _ (hb8.trans (hb9.mono hb8.size))) ((T1.length : Int) - 1) nm).mono ?_; rintro e w10 ⟨rfl, hb10⟩)
          | (go_at_call 23; refine (is_any hB8 hI1 (by omega) hTG1 (hTab' _ hb8) n nm).mono ?_; rintro e w9 ⟨rfl, hb9⟩; have hrb9 := (hb9.block _ (Array.getElem?_eq_some_iff.1 hrb8).1).trans hrb8; have x0 := cell_of_heap hrb9 0 (.slice A7 T1.length c7) rfl; have x1 := cell_of_heap hrb9 1 (.slice B7 Ds1.length c8) rfl))
        have hrb9 := (hb9.block _ (Array.getElem?_eq_some_iff.1 hrb8).1).trans hrb8
        have hb89 := hb9.trans (hb10.mono hb9.size)
        exact ⟨⟨k + 1, by omega, by simp, T1, Ds1, _, _, F1, ⟨hB8.below hI1.ne hb89, hI1, (hb10.block _ (Array.getElem?_eq_some_iff.1 hrb9).1).trans hrb9, hnF1, hb8.trans (hb89.mono hb8.size), fun b hb => (hF7 b hb).elim (hFw b) (fun h => by have := hBA.size; omega), hrw⟩, hTG1⟩, by simp [intOf]; omega⟩
      · have hkL : k = L := by omega
        subst hkL
        go_wp2_with (first
          | (go_at_call 9; refine (awake_any _ (hTab' _ hb)).mono ?_; rintro e w9 ⟨rfl, hb9⟩))
        go_returns
        exact ⟨rfl, hb.trans (hb9.mono hb.size)⟩
end Go.Proofs.YtdoeinccnfggiaaDoor
