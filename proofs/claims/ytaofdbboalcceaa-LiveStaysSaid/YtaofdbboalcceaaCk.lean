import Derived.Test.YtaofdbboalcceaaCga
import Derived.Test.YtaofdbboalcceaaCgb
import Derived.Test.YtaofdbboalcceaaCgc
import Derived.Test.YtaofdbboalcceaaCgd
import Derived.Test.YtaofdbboalcceaaCge
import Derived.Test.YtaofdbboalcceaaCh
import Derived.Test.YtaofdbboalcceaaCi
/- THE CODE's right: what is common, and where it tells no. -/
namespace Go.Proofs.Ytaofdbboalcceaa
open Go.RowKit Go.BigFrame

theorem bare_any (i : Ins) (h : 1 ≤ i.kind ∧ i.kind ≤ 13) (w : World) : Calls Try.prog 95 #[i.agg] w fun e w' => BareT i e ∧ Below w.heap.size w w' := by
  obtain ⟨k, op, dst, a, b, n, text, r0, r1, r2, r3, r4, r5, to_, els⟩ := i
  simp only at h
  rcases kind_cases k with rfl | rfl | rfl | rfl | rfl | rfl | rfl | rfl | rfl | rfl | rfl | rfl | rfl | hk
  · by_cases hx : Ins.mk 1 op dst a b n text r0 r1 r2 r3 r4 r5 to_ els = Ins.mask ⟨1, op, dst, a, b, n, text, r0, r1, r2, r3, r4, r5, to_, els⟩
    · exact bare_1y op dst a b n text r0 r1 r2 r3 r4 r5 to_ els w hx
    · exact bare_1n op dst a b n text r0 r1 r2 r3 r4 r5 to_ els w hx
  · by_cases hx : Ins.mk 2 op dst a b n text r0 r1 r2 r3 r4 r5 to_ els = Ins.mask ⟨2, op, dst, a, b, n, text, r0, r1, r2, r3, r4, r5, to_, els⟩
    · exact bare_2y op dst a b n text r0 r1 r2 r3 r4 r5 to_ els w hx
    · exact bare_2n op dst a b n text r0 r1 r2 r3 r4 r5 to_ els w hx
  · by_cases hx : Ins.mk 3 op dst a b n text r0 r1 r2 r3 r4 r5 to_ els = Ins.mask ⟨3, op, dst, a, b, n, text, r0, r1, r2, r3, r4, r5, to_, els⟩
    · exact bare_3y op dst a b n text r0 r1 r2 r3 r4 r5 to_ els w hx
    · exact bare_3n op dst a b n text r0 r1 r2 r3 r4 r5 to_ els w hx
  · by_cases hx : Ins.mk 4 op dst a b n text r0 r1 r2 r3 r4 r5 to_ els = Ins.mask ⟨4, op, dst, a, b, n, text, r0, r1, r2, r3, r4, r5, to_, els⟩
    · exact bare_4y op dst a b n text r0 r1 r2 r3 r4 r5 to_ els w hx
    · exact bare_4n op dst a b n text r0 r1 r2 r3 r4 r5 to_ els w hx
  · by_cases hx : Ins.mk 5 op dst a b n text r0 r1 r2 r3 r4 r5 to_ els = Ins.mask ⟨5, op, dst, a, b, n, text, r0, r1, r2, r3, r4, r5, to_, els⟩
    · exact bare_5y op dst a b n text r0 r1 r2 r3 r4 r5 to_ els w hx
    · exact bare_5n op dst a b n text r0 r1 r2 r3 r4 r5 to_ els w hx
  · by_cases hx : Ins.mk 6 op dst a b n text r0 r1 r2 r3 r4 r5 to_ els = Ins.mask ⟨6, op, dst, a, b, n, text, r0, r1, r2, r3, r4, r5, to_, els⟩
    · exact bare_6y op dst a b n text r0 r1 r2 r3 r4 r5 to_ els w hx
    · exact bare_6n op dst a b n text r0 r1 r2 r3 r4 r5 to_ els w hx
  · by_cases hx : Ins.mk 7 op dst a b n text r0 r1 r2 r3 r4 r5 to_ els = Ins.mask ⟨7, op, dst, a, b, n, text, r0, r1, r2, r3, r4, r5, to_, els⟩
    · exact bare_7y op dst a b n text r0 r1 r2 r3 r4 r5 to_ els w hx
    · exact bare_7n op dst a b n text r0 r1 r2 r3 r4 r5 to_ els w hx
  · by_cases h1 : n < 0
    · exact bare_8m op dst a b n h1 text r0 r1 r2 r3 r4 r5 to_ els w
    · by_cases h2 : 6 < n
      · exact bare_8g op dst a b n h2 text r0 r1 r2 r3 r4 r5 to_ els w
      · obtain ⟨N, rfl⟩ : ∃ N : Nat, n = N := ⟨n.toNat, by omega⟩
        exact bare_8i op dst a b N (by omega) text r0 r1 r2 r3 r4 r5 to_ els w
  · by_cases hx : Ins.mk 9 op dst a b n text r0 r1 r2 r3 r4 r5 to_ els = Ins.mask ⟨9, op, dst, a, b, n, text, r0, r1, r2, r3, r4, r5, to_, els⟩
    · exact bare_9y op dst a b n text r0 r1 r2 r3 r4 r5 to_ els w hx
    · exact bare_9n op dst a b n text r0 r1 r2 r3 r4 r5 to_ els w hx
  · by_cases hx : Ins.mk 10 op dst a b n text r0 r1 r2 r3 r4 r5 to_ els = Ins.mask ⟨10, op, dst, a, b, n, text, r0, r1, r2, r3, r4, r5, to_, els⟩
    · exact bare_10y op dst a b n text r0 r1 r2 r3 r4 r5 to_ els w hx
    · exact bare_10n op dst a b n text r0 r1 r2 r3 r4 r5 to_ els w hx
  · by_cases hx : Ins.mk 11 op dst a b n text r0 r1 r2 r3 r4 r5 to_ els = Ins.mask ⟨11, op, dst, a, b, n, text, r0, r1, r2, r3, r4, r5, to_, els⟩
    · exact bare_11y op dst a b n text r0 r1 r2 r3 r4 r5 to_ els w hx
    · exact bare_11n op dst a b n text r0 r1 r2 r3 r4 r5 to_ els w hx
  · by_cases hx : Ins.mk 12 op dst a b n text r0 r1 r2 r3 r4 r5 to_ els = Ins.mask ⟨12, op, dst, a, b, n, text, r0, r1, r2, r3, r4, r5, to_, els⟩
    · exact bare_12y op dst a b n text r0 r1 r2 r3 r4 r5 to_ els w hx
    · exact bare_12n op dst a b n text r0 r1 r2 r3 r4 r5 to_ els w hx
  · by_cases hx : Ins.mk 13 op dst a b n text r0 r1 r2 r3 r4 r5 to_ els = Ins.mask ⟨13, op, dst, a, b, n, text, r0, r1, r2, r3, r4, r5, to_, els⟩
    · exact bare_13y op dst a b n text r0 r1 r2 r3 r4 r5 to_ els w hx
    · exact bare_13n op dst a b n text r0 r1 r2 r3 r4 r5 to_ els w hx
  · exact absurd h (by omega)
theorem Ok.build {i : Ins} {R Fr : Int} {L : Nat} (hk : 1 ≤ i.kind ∧ i.kind ≤ 13) (hu : ∀ r ∈ i.uses, 0 ≤ r ∧ r < R) (hd : kS i.kind = true → (0 ≤ i.dst ∧ i.dst < R) ∨ (i.kind = 8 ∧ i.dst = -1 ∧ i.dst < R)) (hm : i = i.mask) :
    Ok i R Fr L ↔ ((i.kind = 1 → -2147483648 ≤ i.n ∧ i.n ≤ 2147483647) ∧ (i.kind = 5 → 0 ≤ i.n ∧ i.n ≤ Fr) ∧ (i.kind = 8 → 0 ≤ i.n ∧ i.n ≤ 6 ∧ i.text ≠ ⟨#[]⟩) ∧ (i.kind = 2 → 20 ≤ i.op ∧ i.op ≤ 23) ∧ (i.kind = 3 → 1 ≤ i.op ∧ i.op ≤ 19) ∧ (i.kind = 11 ∨ i.kind = 12 → 0 ≤ i.to_ ∧ i.to_ < L) ∧ (i.kind = 12 → 0 ≤ i.els ∧ i.els < L)) :=
  ⟨fun h => ⟨h.word, h.fr, h.call, h.one, h.two, h.to_, h.els⟩, fun ⟨h1, h2, h3, h4, h5, h6, h7⟩ => ⟨hk, hu, hd, h1, h2, h3, h4, h5, h6, h7, hm⟩⟩
theorem field0 (k : Int) (w : World) : (Instr.field 38 (.agg #[.int .i64 k, .int .i64 0, .int .i64 (-1), .int .i64 0, .int .i64 0, .int .i64 0, .string ⟨#[]⟩, .int .i64 0, .int .i64 0, .int .i64 0, .int .i64 0, .int .i64 0, .int .i64 0, .int .i64 0, .int .i64 (-1)]) 0).run Try.prog w = .ok (.int .i64 k) w := by kernel_rfl
/-- the two boxes of right -/
structure KSt (w W : World) (i : Ins) (nm : ByteArray) (ps R Fr : Int) (C : Option Addr) (L cap : Nat) : Prop where
  bi : W.heap[w.heap.size]? = some i.obj
  bf : W.heap[w.heap.size + 1]? = some (funcObj nm ps R Fr C L cap)
  below : Below w.heap.size w W
theorem KSt.later {w w1 w2 : World} {i : Ins} {nm : ByteArray} {ps R Fr : Int} {C : Option Addr} {L cap : Nat} (h : KSt w w1 i nm ps R Fr C L cap) (hb : Below w1.heap.size w1 w2) : KSt w w2 i nm ps R Fr C L cap :=
  ⟨(hb.block _ (Array.getElem?_eq_some_iff.1 h.bi).1).trans h.bi, (hb.block _ (Array.getElem?_eq_some_iff.1 h.bf).1).trans h.bf, h.below.trans (hb.mono h.below.size)⟩
theorem KSt.made (w : World) (i : Ins) (nm : ByteArray) (ps R Fr : Int) (C : Option Addr) (L cap : Nat) : KSt w ((w.alloc i.obj).alloc (funcObj nm ps R Fr C L cap)) i nm ps R Fr C L cap := by
  refine ⟨alloc_keeps (heap_alloc_new w i.obj) _, ?_, (Below.one w _).alloc (by simp) _⟩
  have h := heap_alloc_new (w.alloc i.obj) (funcObj nm ps R Fr C L cap)
  rwa [show (w.alloc i.obj).heap.size = w.heap.size + 1 by simp] at h
theorem KSt.fb {w W : World} {i : Ins} {nm : ByteArray} {ps R Fr : Int} {C : Option Addr} {L cap : Nat} (h : KSt w W i nm ps R Fr C L cap) : w.heap.size + 1 < W.heap.size := (Array.getElem?_eq_some_iff.1 h.bf).1
theorem inR_true {n R : Int} (h : inR n R = true) : 0 ≤ n ∧ n < R := by simpa [inR] using h
theorem inR_false {n R : Int} (h : inR n R = false) : ¬ (0 ≤ n ∧ n < R) := fun ⟨h1, h2⟩ => by simp [inR, h1, h2] at h
set_option maxRecDepth 1000000 in
set_option maxHeartbeats 4000000 in
theorem right_bad (k op dst a b n : Int) (text : ByteArray) (r0 r1 r2 r3 r4 r5 to_ els : Int) (nm : ByteArray) (ps R Fr : Int) (C : Option Addr) (L cap : Nat) (w : World) (hk : k < 1 ∨ 13 < k) : Calls Try.prog 76 #[Ins.agg ⟨k, op, dst, a, b, n, text, r0, r1, r2, r3, r4, r5, to_, els⟩, funcAgg nm ps R Fr C L cap] w fun e w' => Tru (Ok ⟨k, op, dst, a, b, n, text, r0, r1, r2, r3, r4, r5, to_, els⟩ R Fr L) e ∧ Below w.heap.size w w' := by
  have hS := KSt.made w ⟨k, op, dst, a, b, n, text, r0, r1, r2, r3, r4, r5, to_, els⟩ nm ps R Fr C L cap
  have HT := Lib.hid (Tru.no (fun h : Ok ⟨k, op, dst, a, b, n, text, r0, r1, r2, r3, r4, r5, to_, els⟩ R Fr L => by have := h.kind; simp only at this; omega))
  have hc : (decide (k < 1) = true) ∨ (decide (k < 1) = false ∧ decide (k > 13) = true ∧ decide (13 < k) = true) := by simp; omega
  obtain ⟨W, hW⟩ : ∃ W, (w.alloc (Ins.obj ⟨k, op, dst, a, b, n, text, r0, r1, r2, r3, r4, r5, to_, els⟩)).alloc (funcObj nm ps R Fr C L cap) = W := ⟨_, rfl⟩
  rw [hW] at hS
  have x0 := cell_of_heap hS.bi 0 (.int .i64 k) rfl
  simp only [Ins.obj, funcObj, Ins.agg, funcAgg] at hW ⊢
  clear hk
  rcases hc with q1 | ⟨q1, q2, q3⟩
  all_goals
    go_enter Try.func76, Try.ntmps76
    go_wp2
    go_returns
    exact ⟨HT.out, hS.below⟩
set_option maxRecDepth 1000000 in
set_option maxHeartbeats 8000000 in
theorem right_nomask (k op dst a b n : Int) (text : ByteArray) (r0 r1 r2 r3 r4 r5 to_ els : Int) (nm : ByteArray) (ps R Fr : Int) (C : Option Addr) (L cap : Nat) (w : World) (hk : 1 ≤ k ∧ k ≤ 13) (hm : ¬ Ins.mk k op dst a b n text r0 r1 r2 r3 r4 r5 to_ els = Ins.mask ⟨k, op, dst, a, b, n, text, r0, r1, r2, r3, r4, r5, to_, els⟩) : Calls Try.prog 76 #[Ins.agg ⟨k, op, dst, a, b, n, text, r0, r1, r2, r3, r4, r5, to_, els⟩, funcAgg nm ps R Fr C L cap] w fun e w' => Tru (Ok ⟨k, op, dst, a, b, n, text, r0, r1, r2, r3, r4, r5, to_, els⟩ R Fr L) e ∧ Below w.heap.size w w' := by
  have HT := Lib.hid (Tru.no (fun h : Ok ⟨k, op, dst, a, b, n, text, r0, r1, r2, r3, r4, r5, to_, els⟩ R Fr L => hm h.mask))
  have hS := KSt.made w ⟨k, op, dst, a, b, n, text, r0, r1, r2, r3, r4, r5, to_, els⟩ nm ps R Fr C L cap
  obtain ⟨W, hW⟩ : ∃ W, (w.alloc (Ins.obj ⟨k, op, dst, a, b, n, text, r0, r1, r2, r3, r4, r5, to_, els⟩)).alloc (funcObj nm ps R Fr C L cap) = W := ⟨_, rfl⟩
  rw [hW] at hS
  have k1 : decide (k < 1) = false := by simp; omega
  have k2 : decide (k > 13) = false := by simp; omega
  have k3 : decide (13 < k) = false := by simp; omega
  have k4 : (k == 0) = false := by simp; omega
  have hba := fun w => bare_any ⟨k, op, dst, a, b, n, text, r0, r1, r2, r3, r4, r5, to_, els⟩ hk w
  simp only [BareT] at hba
  rw [if_neg hm] at hba
  obtain ⟨x0, x1, x2, x3, x4, x5, x6, x7, x8, x9, x10, x11, x12, x13, x14⟩ := Ins.cells hS.bi
  simp only [Ins.obj, funcObj, Ins.agg, funcAgg] at hW hba x0 x1 x2 x3 x4 x5 x6 x7 x8 x9 x10 x11 x12 x13 x14 ⊢
  have hfd := fun w => field0 0 w
  clear hk hm
  go_enter Try.func76, Try.ntmps76
  go_wp2_with (first
    | (go_at_call 95; refine (hba _).mono ?_; rintro e w1 ⟨rfl, hb1⟩; have hS1 := hS.later hb1; have z0 := cell_of_heap hS1.bi 0 (.int .i64 k) rfl; have z2 := cell_of_heap hS1.bi 2 (.int .i64 dst) rfl; have zr := right1_any (cell_of_heap hS1.bf 2 (.int .i64 R) rfl)))
  go_returns
  exact ⟨HT.out, hS1.below⟩
set_option maxRecDepth 1000000 in
set_option maxHeartbeats 8000000 in
theorem right_dst (k op dst a b n : Int) (text : ByteArray) (r0 r1 r2 r3 r4 r5 to_ els : Int) (nm : ByteArray) (ps R Fr : Int) (C : Option Addr) (L cap : Nat) (w : World) (hk : 1 ≤ k ∧ k ≤ 13) (hm : Ins.mk k op dst a b n text r0 r1 r2 r3 r4 r5 to_ els = Ins.mask ⟨k, op, dst, a, b, n, text, r0, r1, r2, r3, r4, r5, to_, els⟩) (hs : kS k = true) (hd : inR dst R = false) (hc : ¬ (k = 8 ∧ dst = -1)) : Calls Try.prog 76 #[Ins.agg ⟨k, op, dst, a, b, n, text, r0, r1, r2, r3, r4, r5, to_, els⟩, funcAgg nm ps R Fr C L cap] w fun e w' => Tru (Ok ⟨k, op, dst, a, b, n, text, r0, r1, r2, r3, r4, r5, to_, els⟩ R Fr L) e ∧ Below w.heap.size w w' := by
  have HT := Lib.hid (Tru.no (fun h : Ok ⟨k, op, dst, a, b, n, text, r0, r1, r2, r3, r4, r5, to_, els⟩ R Fr L => by
    rcases h.dst hs with h1 | h1
    · exact inR_false hd h1
    · exact hc ⟨h1.1, h1.2.1⟩))
  have hS := KSt.made w ⟨k, op, dst, a, b, n, text, r0, r1, r2, r3, r4, r5, to_, els⟩ nm ps R Fr C L cap
  obtain ⟨W, hW⟩ : ∃ W, (w.alloc (Ins.obj ⟨k, op, dst, a, b, n, text, r0, r1, r2, r3, r4, r5, to_, els⟩)).alloc (funcObj nm ps R Fr C L cap) = W := ⟨_, rfl⟩
  rw [hW] at hS
  have k1 : decide (k < 1) = false := by simp; omega
  have k2 : decide (k > 13) = false := by simp; omega
  have k3 : decide (13 < k) = false := by simp; omega
  have k4 : (k == 0) = false := by simp; omega
  have hba := fun w => bare_any ⟨k, op, dst, a, b, n, text, r0, r1, r2, r3, r4, r5, to_, els⟩ hk w
  simp only [BareT] at hba
  rw [if_pos hm] at hba
  obtain ⟨x0, x1, x2, x3, x4, x5, x6, x7, x8, x9, x10, x11, x12, x13, x14⟩ := Ins.cells hS.bi
  simp only [Ins.obj, funcObj, Ins.agg, funcAgg] at hW hba x0 x1 x2 x3 x4 x5 x6 x7 x8 x9 x10 x11 x12 x13 x14 ⊢
  have hst := fun w => sets_any k w
  rw [hs] at hst
  have hq : ((k == 8) = false) ∨ ((k == 8) = true ∧ (dst == -1) = false) := by
    simp; omega
  have hfd := fun w => field0 k w
  clear hk hm hs hc
  rcases hq with q8 | ⟨q8, q1⟩
  all_goals
    go_enter Try.func76, Try.ntmps76
    go_wp2_with (first
      | (go_at_call 95; refine (hba _).mono ?_; rintro e w1 ⟨rfl, hb1⟩; have hS1 := hS.later hb1; have z0 := cell_of_heap hS1.bi 0 (.int .i64 k) rfl; have z2 := cell_of_heap hS1.bi 2 (.int .i64 dst) rfl; have zr := right1_any (cell_of_heap hS1.bf 2 (.int .i64 R) rfl))
      | (go_at_call 78; refine (hst _).mono ?_; rintro e w5 ⟨rfl, hw5⟩; subst hw5)
      | (go_at_call 93; have zz := zr dst; rw [hd] at zz; refine zz.mono ?_; rintro e w5 ⟨rfl, hw5⟩; subst hw5))
    go_returns
    exact ⟨HT.out, hS1.below⟩
end Go.Proofs.Ytaofdbboalcceaa
