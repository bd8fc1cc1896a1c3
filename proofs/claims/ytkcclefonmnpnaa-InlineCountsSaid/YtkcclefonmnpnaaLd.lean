import Derived.Test.YtkcclefonmnpnaaZf
import Derived.Test.YtkcclefonmnpnaaZfs
import Derived.Test.YtkcclefonmnpnaaZft
/- code.Same: are two functions the same? -/
namespace Go.Proofs.Ytkcclefonmnpnaa
open Go.RowKit Go.BigFrame

set_option maxRecDepth 1000000 in
set_option maxHeartbeats 8000000 in
theorem Equal_any (l l' : List Ins) (A A' : Option Addr) (cap cap' : Nat) (h9 : l.length ≤ 9223372036854775807) (h9' : l'.length ≤ 9223372036854775807) (w : World) (hA : RdI w A l) (hA' : RdI w A' l') :
    Calls Try.prog 57 #[.slice A l.length cap, .slice A' l'.length cap'] w fun e w' => Tru (l = l') e ∧ Below w.heap.size w w' := by
  obtain ⟨L, hL⟩ : ∃ L, l.length = L := ⟨_, rfl⟩
  obtain ⟨L', hL'⟩ : ∃ L, l'.length = L := ⟨_, rfl⟩
  have HL := Lib.hid hL
  have HL' := Lib.hid hL'
  rw [hL] at h9 ⊢
  rw [hL'] at h9' ⊢
  clear hL hL'
  by_cases hll : L = L'
  case neg =>
    have HT := Lib.hid (Tru.no (fun h : l = l' => hll (by rw [← HL.out, ← HL'.out, h])))
    have q1 : ((L : Int) != L') = true := by simp; omega
    have q2 : ((L : Int) == L') = false := by simp; omega
    have q3 : (L == L') = false := by simp; omega
    clear hll
    go_enter Try.func57, Try.ntmps57
    go_wp2
    go_returns
    exact ⟨HT.out, Below.refl _ _⟩
  subst hll
  go_enter Try.func57, Try.ntmps57
  go_wp2
  go_loopw [13] (fun ix wr => ∃ m : Nat, m ≤ L ∧ ix = .int .i64 m ∧ Below w.heap.size w wr ∧ ∀ j : Nat, j < m → l[j]? = l'[j]?) (fun ix _ => L - (intOf ix).toNat)
  case atStart => exact ⟨0, by omega, rfl, Below.refl _ _, fun j hj => by omega⟩
  case round =>
    obtain ⟨m, hm, rfl, hb, hno⟩ := hrel
    have HNO := Lib.hid hno
    clear hno
    by_cases hlt : m < L
    · have hi : l[m]? = some (l[m]'(by rw [HL.out]; exact hlt)) := by simp
      have hi' : l'[m]? = some (l'[m]'(by rw [HL'.out]; exact hlt)) := by simp
      generalize l[m]'(by rw [HL.out]; exact hlt) = x at hi
      generalize l'[m]'(by rw [HL'.out]; exact hlt) = y at hi'
      obtain ⟨b, o, rfl, hlb, hcs⟩ := (hA.below hb) m x hi
      obtain ⟨b', o', rfl, hlb', hcs'⟩ := (hA'.below hb) m y hi'
      have hne := fun W => neq_ins x y W
      have HXY := Lib.hid (show l[m]? = l'[m]? ↔ x = y by rw [hi, hi']; simp)
      obtain ⟨x0, x1, x2, x3, x4, x5, x6, x7, x8, x9, x10, x11, x12, x13, x14⟩ := RdI.load hcs
      obtain ⟨y0, y1, y2, y3, y4, y5, y6, y7, y8, y9, y10, y11, y12, y13, y14⟩ := RdI.load hcs'
      clear hcs hcs' hi hi'
      cases hd : decide (x = y)
      · have HT := Lib.hid (Tru.no (fun h : l = l' => absurd (HXY.out.1 (by rw [h])) (of_decide_eq_false hd)))
        rw [hd] at hne
        clear hd HXY
        obtain ⟨k, op, dst, a, b, n, text, r0, r1, r2, r3, r4, r5, to_, els⟩ := x
        obtain ⟨k', op', dst', a', b', n', text', r0', r1', r2', r3', r4', r5', to_', els'⟩ := y
        simp only [Ins.agg, Bool.not_false] at x0 x1 x2 x3 x4 x5 x6 x7 x8 x9 x10 x11 x12 x13 x14 y0 y1 y2 y3 y4 y5 y6 y7 y8 y9 y10 y11 y12 y13 y14 hne
        go_wp2
        go_quiet (fail)
        go_wp2
        go_returns
        exact ⟨HT.out, below_drewN hb _⟩
      · have HE := Lib.hid (HXY.out.2 (of_decide_eq_true hd))
        rw [hd] at hne
        clear hd HXY
        obtain ⟨k, op, dst, a, b, n, text, r0, r1, r2, r3, r4, r5, to_, els⟩ := x
        obtain ⟨k', op', dst', a', b', n', text', r0', r1', r2', r3', r4', r5', to_', els'⟩ := y
        simp only [Ins.agg, Bool.not_true] at x0 x1 x2 x3 x4 x5 x6 x7 x8 x9 x10 x11 x12 x13 x14 y0 y1 y2 y3 y4 y5 y6 y7 y8 y9 y10 y11 y12 y13 y14 hne
        go_wp2
        go_quiet (fail)
        go_wp2
        exact ⟨⟨m + 1, by omega, by simp, below_drewN hb _, fun j hj => by
          by_cases hjm : j = m
          · rw [hjm]; exact HE.out
          · exact HNO.out j (by omega)⟩, by simp [intOf]; omega⟩
    · have HT := Lib.hid (Tru.yes (show l = l' from List.ext_getElem? fun j => by
        by_cases hj : j < m
        · exact HNO.out j hj
        · rw [List.getElem?_eq_none (by rw [HL.out]; omega), List.getElem?_eq_none (by rw [HL'.out]; omega)]))
      go_wp2
      go_returns
      exact ⟨HT.out, hb⟩
def SameF (f g : Fn7) : Prop := f = g
theorem fn_eq {f g : Fn7} : SameF f g ↔ f.nm = g.nm ∧ f.ps = g.ps ∧ f.R = g.R ∧ f.Fr = g.Fr ∧ f.code = g.code := by
  unfold SameF; cases f; cases g; simp
set_option maxRecDepth 1000000 in
set_option maxHeartbeats 8000000 in
theorem Same_any (f g : Fn7) (C C' : Option Addr) (cap cap' : Nat) (h9 : f.code.length ≤ 9223372036854775807) (h9' : g.code.length ≤ 9223372036854775807) (w : World) (hC : RdI w C f.code) (hC' : RdI w C' g.code) :
    Calls Try.prog 21 #[funcAgg f.nm f.ps f.R f.Fr C f.code.length cap, funcAgg g.nm g.ps g.R g.Fr C' g.code.length cap'] w fun e w' => Tru (SameF f g) e ∧ Below w.heap.size w w' := by
  obtain ⟨b0, b1, hB0⟩ : _ ∧ _ ∧ _ := ⟨alloc_keeps (heap_alloc_new w (funcObj f.nm f.ps f.R f.Fr C f.code.length cap)) (funcObj g.nm g.ps g.R g.Fr C' g.code.length cap'), heap_alloc_new (w.alloc (funcObj f.nm f.ps f.R f.Fr C f.code.length cap)) (funcObj g.nm g.ps g.R g.Fr C' g.code.length cap'), (Below.one w (funcObj f.nm f.ps f.R f.Fr C f.code.length cap)).alloc (by simp) (funcObj g.nm g.ps g.R g.Fr C' g.code.length cap')⟩
  have heq := Equal_any f.code g.code C C' cap cap' h9 h9' _ (hC.below hB0) (hC'.below hB0)
  have HFE := Lib.hid (fn_eq (f := f) (g := g))
  clear b0 b1
  obtain ⟨nm, ps, R, Fr, l⟩ := f
  obtain ⟨nm', ps', R', Fr', l'⟩ := g
  have heq := heq.mono fun e w' h => (⟨h.1.val, h.2⟩ : e = .returned (.bool (tb (l = l'))) ∧ _)
  have HO := Lib.hid (⟨(tb_true (p := l = l')).1, (tb_false (p := l = l')).1⟩ : (tb (l = l') = true → l = l') ∧ (tb (l = l') = false → ¬ l = l'))
  generalize tb (l = l') = bb at *
  simp only [funcObj, funcAgg] at heq hB0 ⊢
  have HF := Lib.hid (show SameF ⟨nm, ps, R, Fr, l⟩ ⟨nm', ps', R', Fr', l'⟩ ↔ nm = nm' ∧ ps = ps' ∧ R = R' ∧ Fr = Fr' ∧ l = l' from HFE.out)
  clear hC hC' HFE
  by_cases h0 : nm = nm'
  case neg =>
    have HT := Lib.hid (Tru.no fun h : SameF ⟨nm, ps, R, Fr, l⟩ ⟨nm', ps', R', Fr', l'⟩ => h0 (HF.out.1 h).1)
    have q0 : (nm.toList == nm'.toList) = false := by rw [bytes_beq]; exact decide_eq_false h0
    clear h0
    go_enter Try.func21, Try.ntmps21
    go_wp2
    go_returns
    exact ⟨HT.out, hB0⟩
  have q0 : (nm.toList == nm'.toList) = true := by rw [bytes_beq]; exact decide_eq_true h0
  by_cases h1 : ps = ps' ∧ R = R' ∧ Fr = Fr'
  case neg =>
    have HT := Lib.hid (Tru.no fun h : SameF ⟨nm, ps, R, Fr, l⟩ ⟨nm', ps', R', Fr', l'⟩ => h1 ⟨(HF.out.1 h).2.1, (HF.out.1 h).2.2.1, (HF.out.1 h).2.2.2.1⟩)
    have hd : ((ps == ps') = false) ∨ ((ps == ps') = true ∧ (R == R') = false) ∨ ((ps == ps') = true ∧ (R == R') = true ∧ (Fr == Fr') = false) := by simp; omega
    clear h0 h1
    rcases hd with q1 | ⟨q1, q2⟩ | ⟨q1, q2, q3⟩
    all_goals
      go_enter Try.func21, Try.ntmps21
      go_wp2
      go_returns
      exact ⟨HT.out, hB0⟩
  obtain ⟨h1, h2, h3⟩ := h1
  have q1 : (ps == ps') = true := by simpa using h1
  have q2 : (R == R') = true := by simpa using h2
  have q3 : (Fr == Fr') = true := by simpa using h3
  cases bb
  · have HT := Lib.hid (Tru.no fun h : SameF ⟨nm, ps, R, Fr, l⟩ ⟨nm', ps', R', Fr', l'⟩ => HO.out.2 rfl (HF.out.1 h).2.2.2.2)
    clear h0 h1 h2 h3
    go_enter Try.func21, Try.ntmps21
    go_wp2_with (first
      | (go_at_call 57; refine heq.mono ?_; rintro e w1 ⟨rfl, hb1⟩))
    go_returns
    exact ⟨HT.out, hB0.trans (hb1.mono hB0.size)⟩
  · have HT := Lib.hid (Tru.yes (HF.out.2 ⟨h0, h1, h2, h3, HO.out.1 rfl⟩))
    clear h0 h1 h2 h3
    go_enter Try.func21, Try.ntmps21
    go_wp2_with (first
      | (go_at_call 57; refine heq.mono ?_; rintro e w1 ⟨rfl, hb1⟩))
    go_returns
    exact ⟨HT.out, hB0.trans (hb1.mono hB0.size)⟩
end Go.Proofs.Ytkcclefonmnpnaa
