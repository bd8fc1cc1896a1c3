import Derived.Test.YtfaccdidjhaahaaZ
import Derived.Deep.RegionLaw
import Derived.Deep.CutRange
namespace Go.Proofs.Ytfaccdidjhaahaa
open Go.RowKit Go.BigFrame

theorem step_append_rd {ops : Array Oper} {o : Oper} {a : Act} {w : World} {K : Act → World → Prop} {Q : Exit → Act → World → Prop} {E : Prop} (hw : Region.wanted o (yielded ops a.tmps) = true) (s x : Operand)
    (ho : o.op = .call { callee := .builtin .append, args := #[s, x], argTypes := #[29, 29] }) (B : Nat) (V : Value) (k : List Row) (hs : a.eval s = V) (hown : Own w B V k)
    (B' : Nat) (A : Option Addr) (l : List Row) (cap : Nat) (hx : a.eval x = .slice A l.length cap) (hR : Rd w B' A l) (hA : A = none → cap = 0) (hn : k.length + l.length ≤ 100000) (hB : B ≤ w.heap.size)
    (h : ∀ V' w', Own w' B V' (k ++ l) → w.grownBy w' V.ownBlock → (V'.ownBlock = V.ownBlock ∨ V'.ownBlock = some w.heap.size) → K (a.put o.dst V') w') :
    if Region.wanted o (yielded ops a.tmps) = true then Oper.wp Try.prog o a w K Q else E := by
  rw [if_pos hw]
  obtain ⟨V', w', hr, h1, h2, h3⟩ := run_append_rd w o.type B V k hown B' A l cap hR hA hn hB
  unfold Oper.wp execOp
  simp only [ho, resolve, invoke, builtin, Sem.run_bind, Sem.run_pure, Result.andThen_ok, List.map_toArray, List.map_cons, List.map_nil, hs, hx, hr]
  exact h V' w' h1 h2 h3

theorem Rd.one {w : World} {g : Nat} {r : Row} (h : HasR w g r) : Rd w w.heap.size (some ⟨g, 0, none⟩) [r] := fun _ => by
  refine ⟨g, 0, rfl, h.lt, fun j hj => ?_⟩
  have hr := h
  unfold HasR at hr
  simp [World.cell?, hr, cellsOf, Row.o]
def chainRow (i : Nat) : Row := (((row0.set i (-1)).set (i + 1) 1).set 8 (-1))
def lastRow (k : Nat) : Row := (((row0.set (k - 1) (-1)).set 0 1).set 8 (-1))
def chain (m : Nat) : List Row := (List.range m).map chainRow
theorem chain_succ (m : Nat) : chain (m + 1) = chain m ++ [chainRow m] := by simp [chain, List.range_succ]
theorem chain_len (m : Nat) : (chain m).length = m := by simp [chain]
theorem chain_no (k : Nat) (h1 : 2 ≤ k) (h2 : k ≤ 8) : neverS (chain (k - 1)) = false := by
  have : k = 2 ∨ k = 3 ∨ k = 4 ∨ k = 5 ∨ k = 6 ∨ k = 7 ∨ k = 8 := by omega
  rcases this with rfl | rfl | rfl | rfl | rfl | rfl | rfl <;> decide +kernel
theorem chain_yes (k : Nat) (h1 : 2 ≤ k) (h2 : k ≤ 8) : neverS (chain (k - 1) ++ [lastRow k]) = true := by
  have : k = 2 ∨ k = 3 ∨ k = 4 ∨ k = 5 ∨ k = 6 ∨ k = 7 ∨ k = 8 := by omega
  rcases this with rfl | rfl | rfl | rfl | rfl | rfl | rfl <;> decide +kernel

set_option maxRecDepth 100000 in
set_option maxHeartbeats 1000000 in
set_option maxRecDepth 100000 in
set_option maxHeartbeats 16000000 in
theorem chain_any (n : Nat) (w : World) (hn : n ≤ 255) : Calls Try.prog 8 #[.int .u8 n] w fun e w' => e = .returned (.bool true) ∧ Below w.heap.size w w' := by
  obtain ⟨k, hk⟩ : ∃ k : Nat, k = 2 + n % 7 := ⟨_, rfl⟩
  have hk1 : 2 ≤ k := by omega
  have hk2 : k ≤ 8 := by omega
  have hc1 := chain_no k hk1 hk2
  have hc2 := chain_yes k hk1 hk2
  have HC1 := Lib.hid hc1
  have HC2 := Lib.hid hc2
  clear hc1 hc2
  have hq : (2 : Int) + (n : Int) % 7 = (k : Int) := by omega
  have hq0 : 0 ≤ (n : Int) % 7 := by omega
  have hq1 : (n : Int) % 7 < 7 := by omega
  clear hk
  go_enter Try.func8, Try.ntmps8
  go_wp2_with fail
  clear hq hq0 hq1
  have hk3 : wrap64 ((k : Int) - 1) = (k : Int) - 1 := by unfold wrap64; omega
  go_loopw [4, 14] (fun V i wr => ∃ m : Nat, m ≤ k - 1 ∧ i = .int .i64 m ∧ Own wr w.heap.size V (chain m) ∧ Below w.heap.size w wr) (fun _ i _ => k - 1 - (intOf i).toNat)
  case atStart => exact ⟨0, by omega, rfl, Own.nil _ _, Below.refl _ _⟩
  case round =>
    obtain ⟨m, hm, rfl, hO, hB⟩ := hrel
    by_cases hlt : m < k - 1
    · have hcs := chain_succ m
      have HCS := Lib.hid hcs
      have hcl := chain_len m
      have HCL := Lib.hid hcl
      clear hcs hcl
      have hm7 : m = 0 ∨ m = 1 ∨ m = 2 ∨ m = 3 ∨ m = 4 ∨ m = 5 ∨ m = 6 := by omega
      rcases hm7 with rfl | rfl | rfl | rfl | rfl | rfl | rfl
      · have hrw : chainRow 0 = ⟨-1, 1, 0, 0, 0, 0, 0, 0, -1⟩ := rfl
        have HRW := Lib.hid hrw
        clear hrw
        have hz : HasR ((wr.alloc (Row.mk (-1) (1) (0) (0) (0) (0) (0) (0) (-1)).o).alloc (Row.mk (-1) (1) (0) (0) (0) (0) (0) (0) (-1)).o) (wr.heap.size + 1) (Row.mk (-1) (1) (0) (0) (0) (0) (0) (0) (-1)) := by simpa using HasR.new (wr.alloc (Row.mk (-1) (1) (0) (0) (0) (0) (0) (0) (-1)).o) (Row.mk (-1) (1) (0) (0) (0) (0) (0) (0) (-1))
        have HZ := Lib.hid hz
        clear hz
        go_wp2_with (at_builtin; go_must (refine append_row rfl _ _ rfl w.heap.size _ (chain 0) rfl ((hO.alloc _).alloc _) _ (Row.mk (-1) (1) (0) (0) (0) (0) (0) (0) (-1)) rfl HZ.out (by rw [HCL.out]; omega) (by have := hB.size; simp; omega) ?_); intro V' w2 ho hg hat)
        exact ⟨⟨1, by omega, rfl, by rw [HCS.out, HRW.out]; exact ho, ((hB.alloc hB.size _).alloc (by have := hB.size; simp; omega) _).grown hg (by have := hB.size; simp; omega) (fun q hq => (hO.lt q hq).1)⟩, by simp [intOf]; omega⟩
      · have hrw : chainRow 1 = ⟨0, -1, 1, 0, 0, 0, 0, 0, -1⟩ := rfl
        have HRW := Lib.hid hrw
        clear hrw
        have hz : HasR ((wr.alloc (Row.mk (0) (-1) (1) (0) (0) (0) (0) (0) (-1)).o).alloc (Row.mk (0) (-1) (1) (0) (0) (0) (0) (0) (-1)).o) (wr.heap.size + 1) (Row.mk (0) (-1) (1) (0) (0) (0) (0) (0) (-1)) := by simpa using HasR.new (wr.alloc (Row.mk (0) (-1) (1) (0) (0) (0) (0) (0) (-1)).o) (Row.mk (0) (-1) (1) (0) (0) (0) (0) (0) (-1))
        have HZ := Lib.hid hz
        clear hz
        go_wp2_with (at_builtin; go_must (refine append_row rfl _ _ rfl w.heap.size _ (chain 1) rfl ((hO.alloc _).alloc _) _ (Row.mk (0) (-1) (1) (0) (0) (0) (0) (0) (-1)) rfl HZ.out (by rw [HCL.out]; omega) (by have := hB.size; simp; omega) ?_); intro V' w2 ho hg hat)
        exact ⟨⟨2, by omega, rfl, by rw [HCS.out, HRW.out]; exact ho, ((hB.alloc hB.size _).alloc (by have := hB.size; simp; omega) _).grown hg (by have := hB.size; simp; omega) (fun q hq => (hO.lt q hq).1)⟩, by simp [intOf]; omega⟩
      · have hrw : chainRow 2 = ⟨0, 0, -1, 1, 0, 0, 0, 0, -1⟩ := rfl
        have HRW := Lib.hid hrw
        clear hrw
        have hz : HasR ((wr.alloc (Row.mk (0) (0) (-1) (1) (0) (0) (0) (0) (-1)).o).alloc (Row.mk (0) (0) (-1) (1) (0) (0) (0) (0) (-1)).o) (wr.heap.size + 1) (Row.mk (0) (0) (-1) (1) (0) (0) (0) (0) (-1)) := by simpa using HasR.new (wr.alloc (Row.mk (0) (0) (-1) (1) (0) (0) (0) (0) (-1)).o) (Row.mk (0) (0) (-1) (1) (0) (0) (0) (0) (-1))
        have HZ := Lib.hid hz
        clear hz
        go_wp2_with (at_builtin; go_must (refine append_row rfl _ _ rfl w.heap.size _ (chain 2) rfl ((hO.alloc _).alloc _) _ (Row.mk (0) (0) (-1) (1) (0) (0) (0) (0) (-1)) rfl HZ.out (by rw [HCL.out]; omega) (by have := hB.size; simp; omega) ?_); intro V' w2 ho hg hat)
        exact ⟨⟨3, by omega, rfl, by rw [HCS.out, HRW.out]; exact ho, ((hB.alloc hB.size _).alloc (by have := hB.size; simp; omega) _).grown hg (by have := hB.size; simp; omega) (fun q hq => (hO.lt q hq).1)⟩, by simp [intOf]; omega⟩
      · have hrw : chainRow 3 = ⟨0, 0, 0, -1, 1, 0, 0, 0, -1⟩ := rfl
        have HRW := Lib.hid hrw
        clear hrw
        have hz : HasR ((wr.alloc (Row.mk (0) (0) (0) (-1) (1) (0) (0) (0) (-1)).o).alloc (Row.mk (0) (0) (0) (-1) (1) (0) (0) (0) (-1)).o) (wr.heap.size + 1) (Row.mk (0) (0) (0) (-1) (1) (0) (0) (0) (-1)) := by simpa using HasR.new (wr.alloc (Row.mk (0) (0) (0) (-1) (1) (0) (0) (0) (-1)).o) (Row.mk (0) (0) (0) (-1) (1) (0) (0) (0) (-1))
        have HZ := Lib.hid hz
        clear hz
        go_wp2_with (at_builtin; go_must (refine append_row rfl _ _ rfl w.heap.size _ (chain 3) rfl ((hO.alloc _).alloc _) _ (Row.mk (0) (0) (0) (-1) (1) (0) (0) (0) (-1)) rfl HZ.out (by rw [HCL.out]; omega) (by have := hB.size; simp; omega) ?_); intro V' w2 ho hg hat)
        exact ⟨⟨4, by omega, rfl, by rw [HCS.out, HRW.out]; exact ho, ((hB.alloc hB.size _).alloc (by have := hB.size; simp; omega) _).grown hg (by have := hB.size; simp; omega) (fun q hq => (hO.lt q hq).1)⟩, by simp [intOf]; omega⟩
      · have hrw : chainRow 4 = ⟨0, 0, 0, 0, -1, 1, 0, 0, -1⟩ := rfl
        have HRW := Lib.hid hrw
        clear hrw
        have hz : HasR ((wr.alloc (Row.mk (0) (0) (0) (0) (-1) (1) (0) (0) (-1)).o).alloc (Row.mk (0) (0) (0) (0) (-1) (1) (0) (0) (-1)).o) (wr.heap.size + 1) (Row.mk (0) (0) (0) (0) (-1) (1) (0) (0) (-1)) := by simpa using HasR.new (wr.alloc (Row.mk (0) (0) (0) (0) (-1) (1) (0) (0) (-1)).o) (Row.mk (0) (0) (0) (0) (-1) (1) (0) (0) (-1))
        have HZ := Lib.hid hz
        clear hz
        go_wp2_with (at_builtin; go_must (refine append_row rfl _ _ rfl w.heap.size _ (chain 4) rfl ((hO.alloc _).alloc _) _ (Row.mk (0) (0) (0) (0) (-1) (1) (0) (0) (-1)) rfl HZ.out (by rw [HCL.out]; omega) (by have := hB.size; simp; omega) ?_); intro V' w2 ho hg hat)
        exact ⟨⟨5, by omega, rfl, by rw [HCS.out, HRW.out]; exact ho, ((hB.alloc hB.size _).alloc (by have := hB.size; simp; omega) _).grown hg (by have := hB.size; simp; omega) (fun q hq => (hO.lt q hq).1)⟩, by simp [intOf]; omega⟩
      · have hrw : chainRow 5 = ⟨0, 0, 0, 0, 0, -1, 1, 0, -1⟩ := rfl
        have HRW := Lib.hid hrw
        clear hrw
        have hz : HasR ((wr.alloc (Row.mk (0) (0) (0) (0) (0) (-1) (1) (0) (-1)).o).alloc (Row.mk (0) (0) (0) (0) (0) (-1) (1) (0) (-1)).o) (wr.heap.size + 1) (Row.mk (0) (0) (0) (0) (0) (-1) (1) (0) (-1)) := by simpa using HasR.new (wr.alloc (Row.mk (0) (0) (0) (0) (0) (-1) (1) (0) (-1)).o) (Row.mk (0) (0) (0) (0) (0) (-1) (1) (0) (-1))
        have HZ := Lib.hid hz
        clear hz
        go_wp2_with (at_builtin; go_must (refine append_row rfl _ _ rfl w.heap.size _ (chain 5) rfl ((hO.alloc _).alloc _) _ (Row.mk (0) (0) (0) (0) (0) (-1) (1) (0) (-1)) rfl HZ.out (by rw [HCL.out]; omega) (by have := hB.size; simp; omega) ?_); intro V' w2 ho hg hat)
        exact ⟨⟨6, by omega, rfl, by rw [HCS.out, HRW.out]; exact ho, ((hB.alloc hB.size _).alloc (by have := hB.size; simp; omega) _).grown hg (by have := hB.size; simp; omega) (fun q hq => (hO.lt q hq).1)⟩, by simp [intOf]; omega⟩
      · have hrw : chainRow 6 = ⟨0, 0, 0, 0, 0, 0, -1, 1, -1⟩ := rfl
        have HRW := Lib.hid hrw
        clear hrw
        have hz : HasR ((wr.alloc (Row.mk (0) (0) (0) (0) (0) (0) (-1) (1) (-1)).o).alloc (Row.mk (0) (0) (0) (0) (0) (0) (-1) (1) (-1)).o) (wr.heap.size + 1) (Row.mk (0) (0) (0) (0) (0) (0) (-1) (1) (-1)) := by simpa using HasR.new (wr.alloc (Row.mk (0) (0) (0) (0) (0) (0) (-1) (1) (-1)).o) (Row.mk (0) (0) (0) (0) (0) (0) (-1) (1) (-1))
        have HZ := Lib.hid hz
        clear hz
        go_wp2_with (at_builtin; go_must (refine append_row rfl _ _ rfl w.heap.size _ (chain 6) rfl ((hO.alloc _).alloc _) _ (Row.mk (0) (0) (0) (0) (0) (0) (-1) (1) (-1)) rfl HZ.out (by rw [HCL.out]; omega) (by have := hB.size; simp; omega) ?_); intro V' w2 ho hg hat)
        exact ⟨⟨7, by omega, rfl, by rw [HCS.out, HRW.out]; exact ho, ((hB.alloc hB.size _).alloc (by have := hB.size; simp; omega) _).grown hg (by have := hB.size; simp; omega) (fun q hq => (hO.lt q hq).1)⟩, by simp [intOf]; omega⟩
    · have hmk : m = k - 1 := by omega
      subst hmk
      clear hlt hm
      obtain ⟨A4, cap4, rfl, hA4, hR4⟩ := hO.form
      rw [chain_len] at *
      go_upto_region 11 with fail
      go_cut [] from 31 to 36 (fun wx => HasR wx wr.heap.size (lastRow k) ∧ Below wr.heap.size wr wx)
      case first =>
        have h7 : k = 2 ∨ k = 3 ∨ k = 4 ∨ k = 5 ∨ k = 6 ∨ k = 7 ∨ k = 8 := by omega
        rcases h7 with rfl | rfl | rfl | rfl | rfl | rfl | rfl <;> (go_wp2_with fail; go_meet; first | exact ⟨HasR.new wr (lastRow 2), (Below.refl _ _).alloc (Nat.le_refl _) _⟩ | exact ⟨HasR.new wr (lastRow 3), (Below.refl _ _).alloc (Nat.le_refl _) _⟩ | exact ⟨HasR.new wr (lastRow 4), (Below.refl _ _).alloc (Nat.le_refl _) _⟩ | exact ⟨HasR.new wr (lastRow 5), (Below.refl _ _).alloc (Nat.le_refl _) _⟩ | exact ⟨HasR.new wr (lastRow 6), (Below.refl _ _).alloc (Nat.le_refl _) _⟩ | exact ⟨HasR.new wr (lastRow 7), (Below.refl _ _).alloc (Nat.le_refl _) _⟩ | exact ⟨HasR.new wr (lastRow 8), (Below.refl _ _).alloc (Nat.le_refl _) _⟩)
      case rest =>
        obtain ⟨hL, hbw⟩ := hcut
        have hglt : wr.heap.size < wc.heap.size := hL.lt
        have hO' : Own wc w.heap.size (.slice A4 (k - 1) cap4) (chain (k - 1)) := hO.below hbw
        have hB' := hB.trans (hbw.mono hB.size)
        have hR' : Rd wc wr.heap.size A4 (chain (k - 1)) := hR4.below hbw (Nat.le_refl _)
        have hn1 : neverS (chain (k - 1)) = false := HC1.out
        have hn2 : neverS ([] ++ chain (k - 1) ++ [lastRow k]) = true := HC2.out
        clear hO hB hR4 hbw
        generalize wr.heap.size = gL at *
        have hA0 : A4 = none → cap4 = 0 := fun e => by
          subst e
          rcases hO'.2 with ⟨e, _⟩ | ⟨g, _, _, e, _⟩
          · injection e with _ _ e3
          · cases e
        have HB := Lib.hid hB'
        have HA0 := Lib.hid hA0
        have HN1 := Lib.hid hn1
        have HN2 := Lib.hid hn2
        clear hO' hA0 hA4 hn1 hn2 hB'
        have hcl := chain_len (k - 1)
        have hN := never_any (chain (k - 1)) A4 cap4 wc.drew (by omega) (Rd.more (w := wc.drew) hR' (Nat.le_of_lt hglt))
        rw [hcl] at hN
        have HCL := Lib.hid hcl
        clear hcl
        go_wp2_with fail
        go_region_law (first
          | (go_simp; go_at_call_of 18 cap4; refine hN.mono ?_; rintro e w1 ⟨rfl, hb1⟩; rw [HN1.out]; have hL1 := HasR.below (w := wc.drew) hL hb1 hglt; have hR1 := Rd.below (w := wc.drew) hR' hb1 (Nat.le_of_lt hglt); have hB1 := (HB.out.drew).trans (hb1.mono HB.out.size); have hgl1 : gL < w1.heap.size := hL1.lt; have HNE : ∀ o : Obj, Own ((w1.alloc o).alloc (.cells #[] 24)) w1.heap.size (.slice (some ⟨w1.heap.size + 1, 0, none⟩) 0 0) [] := (fun o => by simpa using Own.made (w1.alloc o) (B := w1.heap.size) (by simp)); have HNE := Lib.hid HNE; have HNW := Lib.hid (show HasR ((w1.alloc (.cells #[] 24)).alloc (lastRow k).o) (w1.heap.size + 1) (lastRow k) by simpa using HasR.new (w1.alloc (.cells #[] 24)) (lastRow k)); obtain ⟨c0, c1, c2, c3, c4, c5, c6, c7, c8⟩ := hL1.cells)
          | (refine step_append_rd rfl (.tmp 41) (.tmp 42) rfl w1.heap.size _ [] rfl (by first | exact Own.made _ (Nat.le_refl _) | exact (Own.made _ (Nat.le_refl _)).alloc _ | exact HNE.out _) gL A4 (chain (k - 1)) cap4 (by rw [HCL.out]; rfl) (by first | exact hR1.below ((Below.refl _ _).alloc (Nat.le_refl _) _) (Nat.le_of_lt hgl1) | exact hR1.below (((Below.refl _ _).alloc (Nat.le_refl _) _).alloc (by simp) _) (Nat.le_of_lt hgl1)) HA0.out (by have := HCL.out; simp; omega) (by simp <;> omega) ?_; intro V2 w2 ho2 hg2 hat2;
              have hb2 : Below w1.heap.size w1 w2 := (by first | exact ((Below.refl _ _).alloc (Nat.le_refl _) _).grown hg2 (by simp <;> omega) (fun q hq => by injection hq with hq; subst hq; simp) | exact (((Below.refl _ _).alloc (Nat.le_refl _) _).alloc (by simp) _).grown hg2 (by simp <;> omega) (fun q hq => by injection hq with hq; subst hq; simp));
              have hK3 : HasR w2 gL (lastRow k) := hL1.below hb2 hgl1;
              obtain ⟨d0, d1, d2, d3, d4, d5, d6, d7, d8⟩ := hK3.cells)
          | (refine step_append_rd rfl (.tmp 43) (.tmp 45) rfl w1.heap.size _ ([] ++ chain (k - 1)) rfl (by first | exact ho2 | exact ho2.alloc _) _ _ [(lastRow k)] 1 rfl (by first | exact Rd.one (HasR.new _ _) | exact Rd.one (HasR.grown ((HasR.new w1 (lastRow k)).alloc _) hg2 (fun h => by injection h with h; exact absurd h (by simp))) | exact Rd.one (HasR.grown HNW.out hg2 (fun h => by injection h with h; exact absurd h (by simp)))) (fun e => by cases e) (by have := HCL.out; simp; omega) (by have := hb2.size; simp; omega) ?_; intro V3 w3 ho3 hg3 hat3;
              have hb3 : Below w1.heap.size w1 w3 := (by first | exact hb2.grown hg3 hb2.size (fun q hq => (ho2.lt q hq).1) | exact (hb2.alloc hb2.size _).grown hg3 (by have := hb2.size; simp; omega) (fun q hq => (ho2.lt q hq).1));
              obtain ⟨LL, hLL⟩ : ∃ LL : List Row, LL = [] ++ chain (k - 1) ++ [lastRow k] := ⟨_, rfl⟩; rw [← hLL] at ho3; have HLL := Lib.hid hLL; clear hLL; obtain ⟨A5, cap5, rfl, _, hR5⟩ := ho3.form)
          | (go_simp; go_at_call_of 18 cap5; refine (never_any LL A5 cap5 _ (by rw [HLL.out]; have := HCL.out; simp; omega) hR5).mono ?_; rintro e w4 ⟨rfl, hb4⟩; rw [show neverS LL = true from by rw [HLL.out]; exact HN2.out])
          | (go_simp; go_at_call 14; refine (awake_any _).mono ?_; rintro e w5 ⟨rfl, hb5⟩))
        all_goals (go_wp2_with fail; go_returns; exact ⟨rfl, hB1.trans ((hb3.trans (hb4.mono hb3.size)).mono hB1.size |>.trans (hb5.mono (by have h1 := hb4.size; have h2 := hb3.size; have h3 := hB1.size; omega)))⟩)
end Go.Proofs.Ytfaccdidjhaahaa
