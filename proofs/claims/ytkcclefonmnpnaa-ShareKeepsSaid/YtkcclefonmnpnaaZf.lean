import Derived.Test.YtkcclefonmnpnaaZca
import Derived.Test.YtkcclefonmnpnaaZcb
import Derived.Test.YtkcclefonmnpnaaZcc
import Derived.Test.YtkcclefonmnpnaaZcd
import Derived.Test.YtkcclefonmnpnaaZb
import Derived.Test.YtkcclefonmnpnaaZc
import Derived.WalkKit
import Derived.ProofKit
import Derived.WalkLawsBesides
import Derived.WalkSpells
import Derived.Handy
import Derived.Lib.Hide
import Derived.Deep.QuietTactic
import Derived.BigQuiet
import Derived.StillTail
import Derived.Test.YtkcclefonmnpnaaZd
import Derived.Test.YtkcclefonmnpnaaZe
import Derived.Test.YtkcclefonmnpnaaZce
/- THE DOCUMENT's right and RightFunc. -/
namespace Go.Proofs.Ytkcclefonmnpnaa
open Go.RowKit Go.BigFrame

set_option maxRecDepth 1000000 in
set_option maxHeartbeats 4000000 in
/-- the document's right, of any instruction -/
theorem refright_any (i : Ins) (nm : ByteArray) (ps R Fr : Int) (C : Option Addr) (L cap : Nat) (w : World) :
    Calls Try.prog 50 #[i.agg, funcAgg nm ps R Fr C L cap] w fun e w' => Tru (Ok i R Fr L) e ∧ Below w.heap.size w w' := by
  obtain ⟨k, op, dst, a, b, n, text, r0, r1, r2, r3, r4, r5, to_, els⟩ := i
  rcases kind_cases k with rfl | rfl | rfl | rfl | rfl | rfl | rfl | rfl | rfl | rfl | rfl | rfl | rfl | hk
  · exact refright_1 op dst a b n text r0 r1 r2 r3 r4 r5 to_ els nm ps R Fr C L cap w
  · exact refright_2 op dst a b n text r0 r1 r2 r3 r4 r5 to_ els nm ps R Fr C L cap w
  · exact refright_3 op dst a b n text r0 r1 r2 r3 r4 r5 to_ els nm ps R Fr C L cap w
  · exact refright_4 op dst a b n text r0 r1 r2 r3 r4 r5 to_ els nm ps R Fr C L cap w
  · exact refright_5 op dst a b n text r0 r1 r2 r3 r4 r5 to_ els nm ps R Fr C L cap w
  · exact refright_6 op dst a b n text r0 r1 r2 r3 r4 r5 to_ els nm ps R Fr C L cap w
  · exact refright_7 op dst a b n text r0 r1 r2 r3 r4 r5 to_ els nm ps R Fr C L cap w
  · by_cases hx : (dst < 0 ∧ dst ≠ -1) ∨ R ≤ dst
    · exact refright_8a op dst a b n text r0 r1 r2 r3 r4 r5 to_ els nm ps R Fr C L cap w hx
    · by_cases eN : 0 ≤ n ∧ n ≤ 6 ∧ text.size ≠ 0
      · by_cases hm1 : dst = -1
        · exact refright_8m op dst a b n text r0 r1 r2 r3 r4 r5 to_ els nm ps R Fr C L cap w hx eN hm1
        · exact refright_8p op dst a b n text r0 r1 r2 r3 r4 r5 to_ els nm ps R Fr C L cap w hx eN hm1
      · exact refright_8n op dst a b n text r0 r1 r2 r3 r4 r5 to_ els nm ps R Fr C L cap w hx eN
  · exact refright_9 op dst a b n text r0 r1 r2 r3 r4 r5 to_ els nm ps R Fr C L cap w
  · exact refright_10 op dst a b n text r0 r1 r2 r3 r4 r5 to_ els nm ps R Fr C L cap w
  · exact refright_11 op dst a b n text r0 r1 r2 r3 r4 r5 to_ els nm ps R Fr C L cap w
  · exact refright_12 op dst a b n text r0 r1 r2 r3 r4 r5 to_ els nm ps R Fr C L cap w
  · exact refright_13 op dst a b n text r0 r1 r2 r3 r4 r5 to_ els nm ps R Fr C L cap w
  · have hno : ¬ Ok ⟨k, op, dst, a, b, n, text, r0, r1, r2, r3, r4, r5, to_, els⟩ R Fr L := fun h => by have := h.kind; simp only at this; omega
    have hT := Tru.no hno
    have hB3 := (Below.one w (Ins.obj ⟨k, op, dst, a, b, n, text, r0, r1, r2, r3, r4, r5, to_, els⟩)).alloc (by simp) (funcObj nm ps R Fr C L cap)
    simp only [Ins.obj, funcObj, Ins.agg, funcAgg] at hB3 ⊢
    have HT := Lib.hid hT
    clear hT hno
    have hc : (decide (k < 1) = true) ∨ (decide (k < 1) = false ∧ decide (k > 13) = true ∧ decide (13 < k) = true) := by simp; omega
    rcases hc with q1 | ⟨q1, q2, q3⟩
    all_goals
      clear hk
      go_enter Try.func50, Try.ntmps50
      go_wp2
      go_returns
      exact ⟨HT.out, hB3⟩
/-- the slice (A, length of l) reads as the instructions l, wherever it begins -/
def RdI (w : World) (A : Option Addr) (l : List Ins) : Prop := ∀ (j : Nat) i, l[j]? = some i → ∃ b o, A = some ⟨b, o, none⟩ ∧ b < w.heap.size ∧ ∀ k, k < 15 → w.cell? ⟨b, o + (j * 15 + k), none⟩ = i.l[k]?
theorem RdI.below {w w' : World} {A : Option Addr} {l : List Ins} (h : RdI w A l) (hb : Below w.heap.size w w') : RdI w' A l := fun j i hi => by
  obtain ⟨b, o, e1, e2, e3⟩ := h j i hi
  exact ⟨b, o, e1, Nat.lt_of_lt_of_le e2 hb.size, fun k hk => (hb.cell (p := ⟨b, _, none⟩) e2).trans (e3 k hk)⟩
/-- a load of an instruction that is read in a slice -/
theorem RdI.load {w : World} {b o : Nat} {i : Ins} {j : Nat} (h : ∀ k, k < 15 → w.cell? ⟨b, o + (j * 15 + k), none⟩ = i.l[k]?) : w.cell? ⟨b, o + j * 15, none⟩ = some (.int .i64 i.kind) ∧ w.cell? ⟨b, o + j * 15 + 1, none⟩ = some (.int .i64 i.op) ∧ w.cell? ⟨b, o + j * 15 + 2, none⟩ = some (.int .i64 i.dst) ∧ w.cell? ⟨b, o + j * 15 + 3, none⟩ = some (.int .i64 i.a) ∧ w.cell? ⟨b, o + j * 15 + 4, none⟩ = some (.int .i64 i.b) ∧
    w.cell? ⟨b, o + j * 15 + 5, none⟩ = some (.int .i64 i.n) ∧ w.cell? ⟨b, o + j * 15 + 6, none⟩ = some (.string i.text) ∧ w.cell? ⟨b, o + j * 15 + 7, none⟩ = some (.int .i64 i.r0) ∧ w.cell? ⟨b, o + j * 15 + 8, none⟩ = some (.int .i64 i.r1) ∧ w.cell? ⟨b, o + j * 15 + 9, none⟩ = some (.int .i64 i.r2) ∧ w.cell? ⟨b, o + j * 15 + 10, none⟩ = some (.int .i64 i.r3) ∧
    w.cell? ⟨b, o + j * 15 + 11, none⟩ = some (.int .i64 i.r4) ∧ w.cell? ⟨b, o + j * 15 + 12, none⟩ = some (.int .i64 i.r5) ∧ w.cell? ⟨b, o + j * 15 + 13, none⟩ = some (.int .i64 i.to_) ∧ w.cell? ⟨b, o + j * 15 + 14, none⟩ = some (.int .i64 i.els) :=
  ⟨h 0 (by omega), h 1 (by omega), h 2 (by omega), h 3 (by omega), h 4 (by omega), h 5 (by omega), h 6 (by omega), h 7 (by omega), h 8 (by omega), h 9 (by omega), h 10 (by omega), h 11 (by omega), h 12 (by omega), h 13 (by omega), h 14 (by omega)⟩
/-- a function of the unit, as its fields are; may it be? -/
structure Fn7 where
  nm : ByteArray
  ps : Int
  R : Int
  Fr : Int
  code : List Ins
structure OkF (f : Fn7) : Prop where
  nm : f.nm.size ≠ 0
  ps : 0 ≤ f.ps ∧ f.ps ≤ 6
  R : f.ps ≤ f.R ∧ f.R ≤ 4096
  Fr : 0 ≤ f.Fr ∧ f.Fr ≤ 4096
  len : 1 ≤ f.code.length ∧ f.code.length ≤ 8192
  ok : ∀ i ∈ f.code, Ok i f.R f.Fr f.code.length
  last : ∀ i, f.code[f.code.length - 1]? = some i → 11 ≤ i.kind
end Go.Proofs.Ytkcclefonmnpnaa

/- THE CODE's Uses. -/
namespace Go.Proofs.Ytkcclefonmnpnaa
open Go.RowKit Go.BigFrame

set_option maxRecDepth 1000000 in
/-- append of numbers that are read, or of none -/
theorem run_append_n0 (w : World) (ty : TypeId) (V : Value) (k : List Int) (hown : OwnN w V k) (a : Addr) (cap : Nat) (hn : k.length ≤ 90000) :
    ∃ V' w', (Builtin.append_ #[33, 33] ty #[V, .slice (some a) 0 cap]).run Try.prog w = .ok V' w' ∧ OwnN w' V' k ∧ w.grownBy w' V.ownBlock ∧ (V'.ownBlock = V.ownBlock ∨ V'.ownBlock = some w.heap.size) := by
  obtain ⟨i0, hi, hz0, hz1, hz2⟩ := info_parts info_n
  obtain ⟨V', w', hr, h1, h2, _, h4⟩ := run_append_own_at (P := Try.prog) w 0 33 ty 3 i0 (.int .i64 0) 1 8 (by kernel_rfl) hi hz0 hz1 hz2 rfl (by decide) V k.length (k.map (.int .i64)) hown a 0 cap [] rfl
    (fun j u hu => by simp at hu) (fun u hu => by simp at hu) (by simp only [maxLen]; omega) (by omega) (Nat.zero_le _)
  exact ⟨V', w', hr, by simpa [OwnN] using h1, h2, h4⟩
theorem SlN.of {w : World} {V : Value} {l : List Int} (h : OwnN w V l) : SlN l (.returned V) w := by
  obtain ⟨A, cap, hV, _, hR⟩ := h.form
  exact ⟨A, cap, by rw [hV], hR⟩
set_option maxRecDepth 1000000 in
set_option maxHeartbeats 4000000 in
theorem Uses_call (op dst a b n : Int) (text : ByteArray) (r0 r1 r2 r3 r4 r5 to_ els : Int) (w : World) : Calls Try.prog 84 #[Ins.agg ⟨8, op, dst, a, b, n, text, r0, r1, r2, r3, r4, r5, to_, els⟩] w fun e w' => SlN (Ins.uses ⟨8, op, dst, a, b, n, text, r0, r1, r2, r3, r4, r5, to_, els⟩) e w' ∧ Below w.heap.size w w' := by
  have hk := fun w => uses_any 8 w
  rw [show kA 8 = false from rfl, show kB 8 = false from rfl] at hk
  have hu : Ins.uses ⟨8, op, dst, a, b, n, text, r0, r1, r2, r3, r4, r5, to_, els⟩ = [r0, r1, r2, r3, r4, r5].take n.toNat := rfl
  rw [hu]
  clear hu
  have hb0 := Below.one w (Ins.obj ⟨8, op, dst, a, b, n, text, r0, r1, r2, r3, r4, r5, to_, els⟩)
  have bx := heap_alloc_new w (Ins.obj ⟨8, op, dst, a, b, n, text, r0, r1, r2, r3, r4, r5, to_, els⟩)
  have hR : ∀ m, m ≤ 6 → RdN (w.alloc (Ins.obj ⟨8, op, dst, a, b, n, text, r0, r1, r2, r3, r4, r5, to_, els⟩)) (some ⟨w.heap.size, 7, none⟩) ([r0, r1, r2, r3, r4, r5].take m) := fun m hm j x hj => by
    rw [List.getElem?_take] at hj
    by_cases hjm : j < m
    · rw [if_pos hjm] at hj
      refine ⟨w.heap.size, 7, rfl, by simp, ?_⟩
      have hc : j = 0 ∨ j = 1 ∨ j = 2 ∨ j = 3 ∨ j = 4 ∨ j = 5 := by omega
      rcases hc with rfl | rfl | rfl | rfl | rfl | rfl <;> (simp at hj; subst hj; exact cell_of_heap bx _ _ rfl)
    · rw [if_neg hjm] at hj
      cases hj
  have hap : ∀ m, 1 ≤ m → m ≤ 6 → ∃ V' w', (Builtin.append_ #[33, 33] 33 #[.slice none 0 0, .slice (some ⟨w.heap.size, 7, none⟩) m 6]).run Try.prog (w.alloc (Ins.obj ⟨8, op, dst, a, b, n, text, r0, r1, r2, r3, r4, r5, to_, els⟩)) = .ok V' w' ∧ OwnN w' V' ([r0, r1, r2, r3, r4, r5].take m) ∧ Below w.heap.size w w' := fun m h1 h6 => by
    have hlen : ([r0, r1, r2, r3, r4, r5].take m).length = m := by rw [List.length_take]; simp; omega
    obtain ⟨V', w', hr, ho, hg, _⟩ := run_append_n (w.alloc (Ins.obj ⟨8, op, dst, a, b, n, text, r0, r1, r2, r3, r4, r5, to_, els⟩)) 33 (.slice none 0 0) [] (OwnN.nil _) (some ⟨w.heap.size, 7, none⟩) ([r0, r1, r2, r3, r4, r5].take m) 6 (hR m h6) (by omega) (by simp; omega)
    rw [hlen] at hr
    exact ⟨V', w', hr, by simpa using ho, hb0.grown hg hb0.size (fun k hk => by simp [Value.ownBlock] at hk)⟩
  simp only [Ins.obj] at hb0 hap
  simp only [Ins.agg]
  clear hR bx
  by_cases hn : n ≤ 0
  · have ht : n.toNat = 0 := by omega
    rw [ht]
    clear ht hap
    have hc : n < 0 ∨ n = 0 := by omega
    clear hn
    rcases hc with hc | rfl
    all_goals
      go_enter Try.func84, Try.ntmps84
      go_wp2_with (first
        | (go_at_call 101; refine (hk _).mono ?_; rintro e w1 ⟨rfl, hw⟩; subst hw))
      go_returns
      exact ⟨SlN.of (OwnN.nil _), hb0⟩
  · have hc : n = 1 ∨ n = 2 ∨ n = 3 ∨ n = 4 ∨ n = 5 ∨ n = 6 ∨ 6 < n := by omega
    clear hn
    rcases hc with rfl | rfl | rfl | rfl | rfl | rfl | h6
    · obtain ⟨V', w', hr, ho, hb⟩ := hap 1 (by omega) (by omega)
      clear hap
      go_enter Try.func84, Try.ntmps84
      go_wp2_with (first
        | (go_at_call 101; refine (hk _).mono ?_; rintro e w1 ⟨rfl, hw⟩; subst hw)
        | (at_builtin; refine append_ran (t := 33) rfl _ _ rfl rfl rfl hr ?_))
      go_returns
      exact ⟨SlN.of ho, hb⟩
    · obtain ⟨V', w', hr, ho, hb⟩ := hap 2 (by omega) (by omega)
      clear hap
      go_enter Try.func84, Try.ntmps84
      go_wp2_with (first
        | (go_at_call 101; refine (hk _).mono ?_; rintro e w1 ⟨rfl, hw⟩; subst hw)
        | (at_builtin; refine append_ran (t := 33) rfl _ _ rfl rfl rfl hr ?_))
      go_returns
      exact ⟨SlN.of ho, hb⟩
    · obtain ⟨V', w', hr, ho, hb⟩ := hap 3 (by omega) (by omega)
      clear hap
      go_enter Try.func84, Try.ntmps84
      go_wp2_with (first
        | (go_at_call 101; refine (hk _).mono ?_; rintro e w1 ⟨rfl, hw⟩; subst hw)
        | (at_builtin; refine append_ran (t := 33) rfl _ _ rfl rfl rfl hr ?_))
      go_returns
      exact ⟨SlN.of ho, hb⟩
    · obtain ⟨V', w', hr, ho, hb⟩ := hap 4 (by omega) (by omega)
      clear hap
      go_enter Try.func84, Try.ntmps84
      go_wp2_with (first
        | (go_at_call 101; refine (hk _).mono ?_; rintro e w1 ⟨rfl, hw⟩; subst hw)
        | (at_builtin; refine append_ran (t := 33) rfl _ _ rfl rfl rfl hr ?_))
      go_returns
      exact ⟨SlN.of ho, hb⟩
    · obtain ⟨V', w', hr, ho, hb⟩ := hap 5 (by omega) (by omega)
      clear hap
      go_enter Try.func84, Try.ntmps84
      go_wp2_with (first
        | (go_at_call 101; refine (hk _).mono ?_; rintro e w1 ⟨rfl, hw⟩; subst hw)
        | (at_builtin; refine append_ran (t := 33) rfl _ _ rfl rfl rfl hr ?_))
      go_returns
      exact ⟨SlN.of ho, hb⟩
    · obtain ⟨V', w', hr, ho, hb⟩ := hap 6 (by omega) (by omega)
      clear hap
      go_enter Try.func84, Try.ntmps84
      go_wp2_with (first
        | (go_at_call 101; refine (hk _).mono ?_; rintro e w1 ⟨rfl, hw⟩; subst hw)
        | (at_builtin; refine append_ran (t := 33) rfl _ _ rfl rfl rfl hr ?_))
      go_returns
      exact ⟨SlN.of ho, hb⟩
    · obtain ⟨V', w', hr, ho, hb⟩ := hap 6 (by omega) (by omega)
      clear hap
      have hto : [r0, r1, r2, r3, r4, r5].take n.toNat = [r0, r1, r2, r3, r4, r5].take 6 := by rw [List.take_of_length_le (by simp; omega), List.take_of_length_le (by simp)]
      rw [hto]
      clear hto
      go_enter Try.func84, Try.ntmps84
      go_wp2_with (first
        | (go_at_call 101; refine (hk _).mono ?_; rintro e w1 ⟨rfl, hw⟩; subst hw)
        | (at_builtin; refine append_ran (t := 33) rfl _ _ rfl rfl rfl hr ?_))
      go_returns
      exact ⟨SlN.of ho, hb⟩
set_option maxRecDepth 1000000 in
set_option maxHeartbeats 4000000 in
theorem Uses_any (i : Ins) (w : World) : Calls Try.prog 84 #[i.agg] w fun e w' => SlN i.uses e w' ∧ Below w.heap.size w w' := by
  obtain ⟨k, op, dst, a, b, n, text, r0, r1, r2, r3, r4, r5, to_, els⟩ := i
  by_cases h8 : k = 8
  · subst h8
    exact Uses_call op dst a b n text r0 r1 r2 r3 r4 r5 to_ els w
  have q8 : (k == 8) = false := by simpa using h8
  have hb0 := Below.one w (Ins.obj ⟨k, op, dst, a, b, n, text, r0, r1, r2, r3, r4, r5, to_, els⟩)
  have bx := heap_alloc_new w (Ins.obj ⟨k, op, dst, a, b, n, text, r0, r1, r2, r3, r4, r5, to_, els⟩)
  have hk := fun w => uses_any k w
  simp only [Ins.obj, Ins.agg] at hb0 bx ⊢
  cases hA : kA k
  · have hB : kB k = false := by simp [kA] at hA; simp [kB]; omega
    have hu : Ins.uses ⟨k, op, dst, a, b, n, text, r0, r1, r2, r3, r4, r5, to_, els⟩ = [] := by simp [Ins.uses, hA, hB, h8]
    rw [hu]
    rw [hA, hB] at hk
    clear hu hA hB h8
    go_enter Try.func84, Try.ntmps84
    go_wp2_with (first
      | (go_at_call 101; refine (hk _).mono ?_; rintro e w1 ⟨rfl, hw⟩; subst hw))
    go_returns
    exact ⟨SlN.of (OwnN.nil _), hb0⟩
  · cases hB : kB k
    · have hu : Ins.uses ⟨k, op, dst, a, b, n, text, r0, r1, r2, r3, r4, r5, to_, els⟩ = [a] := by simp [Ins.uses, hA, hB, h8]
      rw [hu]
      rw [hA, hB] at hk
      clear hu hA hB h8
      go_enter Try.func84, Try.ntmps84
      go_wp2_with (first
        | (go_at_call 101; refine (hk _).mono ?_; rintro e w1 ⟨rfl, hw⟩; subst hw)
        | (at_builtin; go_must (refine append_one rfl _ _ rfl (.slice none 0 0) [] rfl (OwnN.nil _) (w.heap.size + 1) a rfl (by simpa using heap_alloc_new (w.alloc _) (.cells #[.int .i64 a] 3)) (by simp) ?_); intro V1 w2 ho1 hg1 hat1; have hx1 := (hg1.block w.heap.size (by simp <;> omega) (by simp [Value.ownBlock])).trans (alloc_keeps bx (.cells #[.int .i64 a] 3)); have c0 := cell_of_heap hx1 0 _ rfl))
      go_returns
      exact ⟨SlN.of ho1, (hb0.alloc hb0.size _).grown hg1 (by simp; omega) (fun k hk => by simp [Value.ownBlock] at hk)⟩
    · have hu : Ins.uses ⟨k, op, dst, a, b, n, text, r0, r1, r2, r3, r4, r5, to_, els⟩ = [a, b] := by simp [Ins.uses, hA, hB, h8]
      rw [hu]
      rw [hA, hB] at hk
      clear hu hA hB h8
      go_enter Try.func84, Try.ntmps84
      go_wp2_with (first
        | (go_at_call 101; refine (hk _).mono ?_; rintro e w1 ⟨rfl, hw⟩; subst hw)
        | (at_builtin; refine append_one rfl _ _ rfl V1 [a] rfl (ho1.alloc _) w2.heap.size b rfl (heap_alloc_new w2 (.cells #[.int .i64 b] 3)) (by simp) ?_; intro V2 w3 ho2 hg2 hat2; have hx2 := (hg2.block w.heap.size (by have := hg1.size; simp at this; simp; omega) (fun e => by rcases hat1 with hh | hh; (rw [hh] at e; simp [Value.ownBlock] at e); (rw [hh] at e; injection e with e; simp at e; omega))).trans (alloc_keeps hx1 (.cells #[.int .i64 b] 3)); have d0 := cell_of_heap hx2 0 _ rfl)
        | (at_builtin; go_must (refine append_one rfl _ _ rfl (.slice none 0 0) [] rfl (OwnN.nil _) (w.heap.size + 1) a rfl (by simpa using heap_alloc_new (w.alloc _) (.cells #[.int .i64 a] 3)) (by simp) ?_); intro V1 w2 ho1 hg1 hat1; have hx1 := (hg1.block w.heap.size (by simp <;> omega) (by simp [Value.ownBlock])).trans (alloc_keeps bx (.cells #[.int .i64 a] 3)); have c0 := cell_of_heap hx1 0 _ rfl; have c4 := cell_of_heap hx1 4 _ rfl))
      go_returns
      have hs1 := hg1.size
      have hB1 : Below w.heap.size w w2 := (hb0.alloc hb0.size _).grown hg1 (by simp; omega) (fun k hk => by simp [Value.ownBlock] at hk)
      exact ⟨SlN.of ho2, (hB1.alloc hB1.size _).grown hg2 (by have := hB1.size; simp; omega) (fun k hk => by
        rcases hat1 with hh | hh
        · rw [hh] at hk; simp [Value.ownBlock] at hk
        · rw [hh] at hk; injection hk with hk; simp at hk; omega)⟩
end Go.Proofs.Ytkcclefonmnpnaa

/- REGIONS THAT DRAW THEIR ORDER AND HOLD CALLS THAT MAKE MEMORY: one walk in the order of the text, in the class of worlds that have more blocks, and the old ones as they were. -/
namespace Go.Proofs.Ytkcclefonmnpnaa
open Go.RowKit

/-- a world that is W with more blocks -/
structure Later (W : World) where
  w : World
  h : Below W.heap.size W w
instance (W : World) : Nonempty (Later W) := ⟨⟨W, Below.refl _ _⟩⟩
theorem Later.cell {W : World} {a : Addr} {v : Value} (h : W.cell? a = some v) (s : Later W) : s.w.cell? a = some v :=
  (s.h.cell (World.block_lt_of_cell? W a h)).trans h
theorem Later.frozen {W : World} {a : Addr} (h : a.block < W.heap.size) (s : Later W) : s.w.frozen? a = W.frozen? a := s.h.frozen h
theorem wp_region_later {P : Program} {id : Nat} {Q : Exit → Act → World → Prop} {a : Act} {W : World} {l : List Oper} (hm : P.follows .mixedOrders = true) (hB : Region.lexB .any l.toArray = true)
    (h : wpQuiet P l.toArray (fun w' => ∃ s : Later W, w' = s.w) (fun a' => ∀ w', (∃ s : Later W, w' = s.w) → Q .normal a' w') l a) : (Code.region id l.toArray true).wp P Q a W :=
  wp_region_quiet (C := fun w' => ∃ s : Later W, w' = s.w) hm hB ⟨⟨{ W with drawn := W.drawn + 1 }, ⟨rfl, rfl, rfl, Nat.le_refl _, fun _ _ => rfl⟩⟩, rfl⟩ (by simpa using h)
theorem Calls.later {P : Program} {f : FuncId} {args : Array Value} {W : World} {s : Later W} {v : Value}
    (h : Calls P f args s.w fun e w' => e = .returned v ∧ Below s.w.heap.size s.w w') : Calls P f args s.w fun e w'' => e = .returned v ∧ ∃ t : Later W, w'' = t.w :=
  h.mono fun _ w' ⟨he, hb⟩ => ⟨he, ⟨w', s.h.trans (hb.mono s.h.size)⟩, rfl⟩
theorem Calls.later_same {P : Program} {f : FuncId} {args : Array Value} {W : World} {s : Later W} {v : Value}
    (h : Calls P f args s.w fun e w' => e = .returned v ∧ s.w = w') : Calls P f args s.w fun e w'' => e = .returned v ∧ ∃ t : Later W, w'' = t.w :=
  h.mono fun _ _ ⟨he, hb⟩ => ⟨he, s, hb.symm⟩
end Go.Proofs.Ytkcclefonmnpnaa

/- THE DOCUMENT's RightFunc. -/
namespace Go.Proofs.Ytkcclefonmnpnaa
open Go.RowKit Go.BigFrame

noncomputable def tb (p : Prop) : Bool := @decide p (Classical.propDecidable p)
theorem tb_true {p : Prop} : tb p = true ↔ p := @decide_eq_true_iff p (Classical.propDecidable p)
theorem tb_false {p : Prop} : tb p = false ↔ ¬ p := @decide_eq_false_iff_not p (Classical.propDecidable p)
theorem Tru.val {p : Prop} {e : Ending} (h : Tru p e) : e = .returned (.bool (tb p)) := by
  obtain ⟨b, rfl, hb⟩ := h
  have : b = tb p := by
    cases b
    · rw [eq_comm, tb_false]; intro hp; have := hb.2 hp; cases this
    · rw [eq_comm, tb_true]; exact hb.1 rfl
  rw [this]
theorem name_some {s : ByteArray} (h : ¬ s.size = 0) : s.toList.isEmpty = false := by
  rw [Go.ByteArray.toList_eq]
  cases s with
  | mk d =>
    have : d.size ≠ 0 := h
    rw [List.isEmpty_eq_false_iff_exists_mem]
    exact ⟨d[0], by simp⟩
set_option maxRecDepth 1000000 in
set_option maxHeartbeats 8000000 in
theorem refRightFunc_any (f : Fn7) (C : Option Addr) (cap : Nat) (w : World) (hC : RdI w C f.code) : Calls Try.prog 18 #[funcAgg f.nm f.ps f.R f.Fr C f.code.length cap] w fun e w' => Tru (OkF f) e ∧ Below w.heap.size w w' := by
  obtain ⟨nm, ps, R, Fr, l⟩ := f
  obtain ⟨L, hL⟩ : ∃ L, l.length = L := ⟨_, rfl⟩
  simp only at hC ⊢
  rw [hL]
  have HL := Lib.hid hL
  clear hL
  have hB := Below.one w (funcObj nm ps R Fr C L cap)
  have bx := heap_alloc_new w (funcObj nm ps R Fr C L cap)
  simp only [funcObj, funcAgg] at hB bx ⊢
  by_cases hn : nm.size = 0
  · have HT := Lib.hid (Tru.no (fun h : OkF ⟨nm, ps, R, Fr, l⟩ => h.nm hn))
    have n0 : ((nm.size : Int) == 0) = true := by rw [hn]; rfl
    have n1 : (nm.size == 0) = true := by rw [hn]; rfl
    clear hn
    go_enter Try.func18, Try.ntmps18
    go_wp2
    go_returns
    exact ⟨HT.out, hB⟩
  have HN := Lib.hid hn
  have n0 : ((nm.size : Int) == 0) = false := by rw [beq_eq_false_iff_ne]; omega
  have n1 : (nm.size == 0) = false := by rw [beq_eq_false_iff_ne]; omega
  clear hn
  by_cases hc : 0 ≤ ps ∧ ps ≤ 6 ∧ ps ≤ R ∧ R ≤ 4096 ∧ 0 ≤ Fr ∧ Fr ≤ 4096 ∧ 1 ≤ L ∧ L ≤ 8192
  case neg =>
    have HT := Lib.hid (Tru.no (fun h : OkF ⟨nm, ps, R, Fr, l⟩ => by
      have h1 := h.ps; have h2 := h.R; have h3 := h.Fr; have h4 := h.len
      simp only at h1 h2 h3 h4
      rw [HL.out] at h4
      omega))
    have hd : (decide (ps < 0) = true) ∨ (decide (ps < 0) = false ∧ decide (ps > 6) = true ∧ decide (6 < ps) = true) ∨ (decide (ps < 0) = false ∧ decide (ps > 6) = false ∧ decide (6 < ps) = false ∧ decide (R < ps) = true) ∨ (decide (ps < 0) = false ∧ decide (ps > 6) = false ∧ decide (6 < ps) = false ∧ decide (R < ps) = false ∧ decide (R > 4096) = true ∧ decide (4096 < R) = true) ∨ (decide (ps < 0) = false ∧ decide (ps > 6) = false ∧ decide (6 < ps) = false ∧ decide (R < ps) = false ∧ decide (R > 4096) = false ∧ decide (4096 < R) = false ∧ decide (Fr < 0) = true) ∨ (decide (ps < 0) = false ∧ decide (ps > 6) = false ∧ decide (6 < ps) = false ∧ decide (R < ps) = false ∧ decide (R > 4096) = false ∧ decide (4096 < R) = false ∧ decide (Fr < 0) = false ∧ decide (Fr > 4096) = true ∧ decide (4096 < Fr) = true) ∨ (decide (ps < 0) = false ∧ decide (ps > 6) = false ∧ decide (6 < ps) = false ∧ decide (R < ps) = false ∧ decide (R > 4096) = false ∧ decide (4096 < R) = false ∧ decide (Fr < 0) = false ∧ decide (Fr > 4096) = false ∧ decide (4096 < Fr) = false ∧ ((L : Int) == 0) = true ∧ (L == 0) = true) ∨ (decide (ps < 0) = false ∧ decide (ps > 6) = false ∧ decide (6 < ps) = false ∧ decide (R < ps) = false ∧ decide (R > 4096) = false ∧ decide (4096 < R) = false ∧ decide (Fr < 0) = false ∧ decide (Fr > 4096) = false ∧ decide (4096 < Fr) = false ∧ ((L : Int) == 0) = false ∧ (L == 0) = false ∧ decide ((L : Int) > 8192) = true ∧ decide (8192 < L) = true ∧ decide (L > 8192) = true) := by simp; omega
    clear hc
    rcases hd with c0 | ⟨c0, c1, c2⟩ | ⟨c0, c1, c2, c3⟩ | ⟨c0, c1, c2, c3, c4, c5⟩ | ⟨c0, c1, c2, c3, c4, c5, c6⟩ | ⟨c0, c1, c2, c3, c4, c5, c6, c7, c8⟩ | ⟨c0, c1, c2, c3, c4, c5, c6, c7, c8, c9, c10⟩ | ⟨c0, c1, c2, c3, c4, c5, c6, c7, c8, c9, c10, c11, c12, c13⟩
    all_goals
      go_enter Try.func18, Try.ntmps18
      go_wp2
      go_returns
      exact ⟨HT.out, hB⟩
  have k0 : decide (ps < 0) = false := by simp; omega
  have k1 : decide (ps > 6) = false := by simp; omega
  have k2 : decide (6 < ps) = false := by simp; omega
  have k3 : decide (R < ps) = false := by simp; omega
  have k4 : decide (R > 4096) = false := by simp; omega
  have k5 : decide (4096 < R) = false := by simp; omega
  have k6 : decide (Fr < 0) = false := by simp; omega
  have k7 : decide (Fr > 4096) = false := by simp; omega
  have k8 : decide (4096 < Fr) = false := by simp; omega
  have k9 : ((L : Int) == 0) = false := by simp; omega
  have k10 : (L == 0) = false := by simp; omega
  have k11 : decide ((L : Int) > 8192) = false := by simp; omega
  have k12 : decide (8192 < L) = false := by simp; omega
  have k13 : decide (L > 8192) = false := by simp; omega
  have hR0 : 0 ≤ R := by omega
  have hL8 : L ≤ 8192 := by omega
  obtain ⟨M, hM⟩ : ∃ M, L = M + 1 := ⟨L - 1, by omega⟩
  have HM := Lib.hid hM
  clear hM
  have HC := Lib.hid hc
  clear hc
  obtain ⟨W, hW⟩ : ∃ W, w.alloc (.cells #[.string nm, .int .i64 ps, .int .i64 R, .int .i64 Fr, .slice C L cap] 24) = W := ⟨_, rfl⟩
  have g0 := cell_of_heap bx 0 (.string nm) rfl
  have g1 := cell_of_heap bx 1 (.int .i64 ps) rfl
  have g2 := cell_of_heap bx 2 (.int .i64 R) rfl
  have g3 := cell_of_heap bx 3 (.int .i64 Fr) rfl
  have g4 := cell_of_heap bx 4 (.slice C L cap) rfl
  rw [hW] at bx hB g0 g1 g2 g3 g4
  go_enter Try.func18, Try.ntmps18
  go_wp2
  clear hW
  go_loopw [3] (fun ix w8 => ∃ m : Nat, m ≤ L ∧ ix = .int .i64 m ∧ Below W.heap.size W w8 ∧ ∀ (j : Nat) i, j < m → l[j]? = some i → Ok i R Fr L) (fun ix _ => L - (intOf ix).toNat)
  case atStart => exact ⟨0, by omega, rfl, Below.refl _ _, fun j i hj => by omega⟩
  case round =>
    obtain ⟨m, hm, rfl, hb, hno⟩ := hrel
    have hBw := hB.trans (hb.mono hB.size)
    have bxr := (hb.block _ (Array.getElem?_eq_some_iff.1 bx).1).trans bx
    have y0 := cell_of_heap bxr 0 (.string nm) rfl
    have y1 := cell_of_heap bxr 1 (.int .i64 ps) rfl
    have y2 := cell_of_heap bxr 2 (.int .i64 R) rfl
    have y3 := cell_of_heap bxr 3 (.int .i64 Fr) rfl
    have y4 := cell_of_heap bxr 4 (.slice C L cap) rfl
    by_cases hlt : m < L
    · have hi : l[m]? = some (l[m]'(by rw [HL.out]; exact hlt)) := by simp
      generalize l[m]'(by rw [HL.out]; exact hlt) = i at hi
      obtain ⟨b, o, rfl, _, hcs⟩ := (hC.below hBw) m i hi
      obtain ⟨x0, x1, x2, x3, x4, x5, x6, x7, x8, x9, x10, x11, x12, x13, x14⟩ := RdI.load hcs
      have hr := fun (s : World) => refright_any i nm ps R Fr (some ⟨b, o, none⟩) L cap s
      obtain ⟨k, op, dst, a, b', n, text, r0, r1, r2, r3, r4, r5, to_, els⟩ := i
      simp only at x0 x1 x2 x3 x4 x5 x6 x7 x8 x9 x10 x11 x12 x13 x14
      simp only [Ins.agg, funcAgg] at hr
      clear hcs
      have hv : ∀ s : World, Calls Try.prog 50 #[.agg #[.int .i64 k, .int .i64 op, .int .i64 dst, .int .i64 a, .int .i64 b', .int .i64 n, .string text, .int .i64 r0, .int .i64 r1, .int .i64 r2, .int .i64 r3, .int .i64 r4, .int .i64 r5, .int .i64 to_, .int .i64 els], .agg #[.string nm, .int .i64 ps, .int .i64 R, .int .i64 Fr, .slice (some ⟨b, o, none⟩) L cap]] s fun e w' => e = .returned (.bool (tb (Ok ⟨k, op, dst, a, b', n, text, r0, r1, r2, r3, r4, r5, to_, els⟩ R Fr L))) ∧ Below s.heap.size s w' := fun s => (hr s).mono fun e w' h => ⟨h.1.val, h.2⟩
      have HO := Lib.hid (⟨(tb_true (p := Ok ⟨k, op, dst, a, b', n, text, r0, r1, r2, r3, r4, r5, to_, els⟩ R Fr L)).1, (tb_false (p := Ok ⟨k, op, dst, a, b', n, text, r0, r1, r2, r3, r4, r5, to_, els⟩ R Fr L)).1⟩ : (tb (Ok ⟨k, op, dst, a, b', n, text, r0, r1, r2, r3, r4, r5, to_, els⟩ R Fr L) = true → Ok ⟨k, op, dst, a, b', n, text, r0, r1, r2, r3, r4, r5, to_, els⟩ R Fr L) ∧ (tb (Ok ⟨k, op, dst, a, b', n, text, r0, r1, r2, r3, r4, r5, to_, els⟩ R Fr L) = false → ¬ Ok ⟨k, op, dst, a, b', n, text, r0, r1, r2, r3, r4, r5, to_, els⟩ R Fr L))
      generalize tb (Ok ⟨k, op, dst, a, b', n, text, r0, r1, r2, r3, r4, r5, to_, els⟩ R Fr L) = bb at *
      have l0 := fun s : Later wr => Later.cell x0 s
      have l1 := fun s : Later wr => Later.cell x1 s
      have l2 := fun s : Later wr => Later.cell x2 s
      have l3 := fun s : Later wr => Later.cell x3 s
      have l4 := fun s : Later wr => Later.cell x4 s
      have l5 := fun s : Later wr => Later.cell x5 s
      have l6 := fun s : Later wr => Later.cell x6 s
      have l7 := fun s : Later wr => Later.cell x7 s
      have l8 := fun s : Later wr => Later.cell x8 s
      have l9 := fun s : Later wr => Later.cell x9 s
      have l10 := fun s : Later wr => Later.cell x10 s
      have l11 := fun s : Later wr => Later.cell x11 s
      have l12 := fun s : Later wr => Later.cell x12 s
      have l13 := fun s : Later wr => Later.cell x13 s
      have l14 := fun s : Later wr => Later.cell x14 s
      have k0 := fun s : Later wr => Later.cell y0 s
      have k1 := fun s : Later wr => Later.cell y1 s
      have k2 := fun s : Later wr => Later.cell y2 s
      have k3 := fun s : Later wr => Later.cell y3 s
      have k4 := fun s : Later wr => Later.cell y4 s
      have lc := fun s : Later wr => hv s.w
      cases bb
      all_goals
        go_wp2
        refine wp_region_later (by kernel_rfl) (by kernel_rfl) ?_
        repeat (go_big_quiet_step ((go_at_call 50; exact Calls.later (lc _))))
        refine wpQuiet_nil ?_
        rintro w3 ⟨s', rfl⟩
        have hb3 := hb.trans (s'.h.mono hb.size)
        generalize s'.w = w3 at *
        go_wp2
      · go_returns
        exact ⟨Tru.no (fun h : OkF ⟨nm, ps, R, Fr, l⟩ => HO.out.2 (by simp) (by have := h.ok _ (List.mem_of_getElem? hi); simp only at this; rw [HL.out] at this; exact this)), hB.trans (hb3.mono hB.size)⟩
      · exact ⟨⟨m + 1, by omega, by simp, hb3, fun j i' hj hi' => by
          by_cases hjm : j = m
          · subst hjm
            rw [hi] at hi'
            injection hi' with hi'
            subst hi'
            exact HO.out.1 (by simp)
          · exact hno j i' (by omega) hi'⟩, by simp [intOf]; omega⟩
    · have hall : ∀ i ∈ l, Ok i R Fr L := fun i hi => by
        obtain ⟨j, hj⟩ := List.mem_iff_getElem?.1 hi
        exact hno j i (by have h1 := (List.getElem?_eq_some_iff.1 hj).1; rw [HL.out] at h1; omega) hj
      have HA := Lib.hid hall
      have hmL : m = L := by omega
      subst hmL
      have hM := HM.out
      have hla : l[M]? = some (l[M]'(by rw [HL.out]; omega)) := by simp
      generalize l[M]'(by rw [HL.out]; omega) = i at hla
      obtain ⟨b, o, rfl, _, hcs⟩ := (hC.below hBw) M i hla
      have xk := (RdI.load hcs).1
      rw [show M = m - 1 by omega] at xk
      have qM : M < m := by omega
      have HLA := Lib.hid hla
      clear hcs hla hno hall hlt
      have hfin : ∀ bb : Bool, bb = decide (11 ≤ i.kind) → Tru (OkF ⟨nm, ps, R, Fr, l⟩) (.returned (.bool bb)) := fun bb hbb => ⟨bb, rfl, by
        rw [hbb, decide_eq_true_eq]
        have hc := HC.out
        have hl := HL.out
        constructor
        · intro h11
          exact ⟨HN.out, ⟨hc.1, hc.2.1⟩, ⟨hc.2.2.1, hc.2.2.2.1⟩, ⟨hc.2.2.2.2.1, hc.2.2.2.2.2.1⟩, by simp only; omega, fun i hi => by simp only at hi ⊢; rw [hl]; exact HA.out i hi, fun i' hi' => by
            simp only at hi'
            rw [hl, show m - 1 = M by omega, HLA.out] at hi'
            injection hi' with hi'
            rw [← hi']
            exact h11⟩
        · intro h
          refine h.last i ?_
          simp only
          rw [hl, show m - 1 = M by omega]
          exact HLA.out⟩
      generalize i.kind = kk at *
      cases h11 : decide (11 ≤ kk)
      · have q11 : decide (kk ≥ 11) = false := h11
        have HF := Lib.hid (hfin false h11.symm)
        clear hfin hM
        go_wp2
        go_returns
        exact ⟨HF.out, hBw⟩
      · have q11 : decide (kk ≥ 11) = true := h11
        have HF := Lib.hid (hfin true h11.symm)
        clear hfin hM
        go_wp2
        go_returns
        exact ⟨HF.out, hBw⟩
end Go.Proofs.Ytkcclefonmnpnaa

/- REGIONS THAT DRAW THEIR ORDER: QUIET OPERATIONS (in a class of worlds) AND, BEHIND ALL OF THEM, A TAIL that goes one by one. -/
namespace Go.Proofs.Ytkcclefonmnpnaa
open Go

section
variable {P : Program} {ops : Array Oper} {md : Region.Mode} {C : World → Prop}
def wpAnyQL (P : Program) (md : Region.Mode) (ops : Array Oper) (C : World → Prop) (n : Nat) (L : Array Bool → Act → Prop) : Nat → Array Bool → Act → Prop
  | 0, listed, a => L listed a
  | f + 1, listed, a =>
    Region.ready md ops listed ≠ [] ∧ ∀ i ∈ Region.ready md ops listed, i < n ∧ qOp P ops C i (wpAnyQL P md ops C n L f (listed.setIfInBounds i true)) a
theorem wpAny_of_headQ {n g : Nat} {L : Array Bool → Act → Prop} {Q' : Exit → Act → World → Prop} (hL : ∀ listed a w, C w → L listed a → wpAny P md ops Q' g listed a w) :
    ∀ (f : Nat) (listed : Array Bool) (a : Act) (w : World), C w → wpAnyQL P md ops C n L f listed a → wpAny P md ops Q' (f + g) listed a w
  | 0, listed, a, w, hC, h => by rw [Nat.zero_add]; exact hL _ _ _ hC h
  | f + 1, listed, a, w, hC, h => by
    rw [show f + 1 + g = (f + g) + 1 by omega]
    exact ⟨fun h0 => absurd h0 h.1, fun i hi => wpOp_of_qOp hC (fun a' w' hC' h' => wpAny_of_headQ hL f _ a' w' hC' h') (h.2 i hi).2⟩
theorem wpAnyQL_first {n i : Nat} {oi : Oper} {v : Value} {L : Array Bool → Act → Prop} (hi : ops[i]? = some oi) (hsel : ∀ (j : Nat) (o : Oper) cs b, ops[j]? = some o → o.op ≠ .select cs b)
    (hs : Region.sinkB md ops n = true) (hc : Region.chainB md ops n = true) (hn : n < ops.size) (hin : i < n)
    (hdone : ∀ listed a, L listed a → ∀ j ∈ Region.ready md ops listed, n ≤ j) :
    ∀ (f : Nat) (listed : Array Bool) (a : Act), HeadInv md ops n listed →
      (∀ j oj, ops[j]? = some oj → j ≠ i → listed.getD j true = false → (∀ e ∈ oj.after, Region.binds md e = true → e.on ≠ i) → oi.apart ops oj = true) →
      i ∈ Region.ready md ops listed → YieldsIn P ops C oi v a →
      wpAnyQL P md ops C n L f (listed.setIfInBounds i true) (a.put oi.dst v) → wpAnyQL P md ops C n L (f + 1) listed a := by
  intro f
  induction f with
  | zero =>
    intro listed a inv _ hr hy H
    have hun := (mem_ready.1 hr).1
    refine ⟨fun h => (by rw [h] at hr; cases hr), fun j hj => ?_⟩
    have hjn : j < n := by
      rcases Nat.lt_or_ge j n with h | h
      · exact h
      · exact absurd hj (tail_waits hs hc hn inv _ i rfl hin hun j h)
    refine ⟨hjn, ?_⟩
    by_cases hji : j = i
    · subst hji; exact hy.qOp hi H
    · have := hdone _ _ H j (ready_mono hj hji)
      omega
  | succ f ih =>
    intro listed a inv hfree hr hy H
    have hun := (mem_ready.1 hr).1
    refine ⟨fun h => (by rw [h] at hr; cases hr), fun j hj => ?_⟩
    have hjn : j < n := by
      rcases Nat.lt_or_ge j n with h | h
      · exact h
      · exact absurd hj (tail_waits hs hc hn inv _ i rfl hin hun j h)
    refine ⟨hjn, ?_⟩
    by_cases hji : j = i
    · subst hji; exact hy.qOp hi H
    · have h1 := (H.2 j (ready_mono hj hji)).2
      obtain ⟨hjun, oj, hoj, hall⟩ := mem_ready.1 hj
      have hnot : ∀ e ∈ oj.after, Region.binds md e = true → e.on ≠ i := fun e he hb heq => by
        have h1 := hall e he hb
        rw [heq, getD_both hun] at h1
        cases h1
      have h2 := qOp_put hoj (hfree j oj hoj hji hjun hnot) (fun cs b => hsel i oi cs b hi) (fun cs b => hsel j oj cs b hoj) hy h1
      have hfree' : ∀ k ok, ops[k]? = some ok → k ≠ i → (listed.setIfInBounds j true).getD k true = false →
          (∀ e ∈ ok.after, Region.binds md e = true → e.on ≠ i) → oi.apart ops ok = true := fun k ok hk hki hun hno => by
        refine hfree k ok hk hki ?_ hno
        by_cases hjk : j = k
        · subst hjk; exact hjun
        · rw [getD_set_ne true hjk] at hun; exact hun
      refine qOp_mono (fun a' h3 => ih (listed.setIfInBounds j true) a' (inv.set hj hjn) hfree' (ready_mono hr (Ne.symm hji)) h3.1 ?_) h2
      rw [Array.setIfInBounds_comm _ _ hji]
      exact h3.2
theorem wpAnyQL_lex {n g : Nat} {Lq : Act → Prop} (hsel : Region.noSelect ops = true) (hs : Region.sinkB md ops n = true) (hc : Region.chainB md ops n = true) (hn : n < ops.size) :
    ∀ (l : List Oper) (k : Nat) (listed : Array Bool) (a : Act), (∀ j, j < l.length → l[j]? = ops[k + j]?) → k + l.length = n → HeadInv md ops n listed →
    Region.lexHead md ops g l.length k listed = true → wpQuiet P ops C Lq l a →
    wpAnyQL P md ops C n (fun listed' a' => Region.seqB md ops g n listed' = true ∧ Lq a') l.length listed a
  | [], k, listed, a, _, hk, _, hB, h => by
    have : k = n := by simpa using hk
    subst this
    exact ⟨by simpa [Region.lexHead] using hB, h⟩
  | o :: l, k, listed, a, hl, hk, inv, hB, h => by
    have h0 : ops[k]? = some o := by simpa using (hl 0 (by simp)).symm
    simp only [List.length_cons, Region.lexHead, Bool.and_eq_true] at hB
    obtain ⟨⟨hr, hf⟩, hB'⟩ := hB
    have hkn : k < n := by simp only [List.length_cons] at hk; omega
    have hr' : k ∈ Region.ready md ops listed := by simpa using hr
    have hst : qOp P ops C k (wpQuiet P ops C Lq l) a := by unfold qOp; simp only [h0]; exact h
    obtain ⟨v, hy, hK⟩ := yieldsIn_of_qOp h0 hst
    exact wpAnyQL_first h0 (Region.noSelect_spec hsel) hs hc hn hkn (fun listed' a' hL => seqB_ready hL.1) l.length listed a inv (Region.free_spec h0 hf) hr' hy
      (wpAnyQL_lex hsel hs hc hn l (k + 1) _ _ (fun j hj => by have := hl (j + 1) (by simp; omega); simpa [Nat.add_assoc, Nat.add_comm 1 j] using this) (by simp only [List.length_cons] at hk; omega) (inv.set hr' hkn) hB' hK)
theorem wp_region_quiet_tail {id : Nat} {Q : Exit → Act → World → Prop} {a : Act} {w : World} {l : List Oper} (n : Nat) (hm : P.follows .mixedOrders = true) (hB : Region.lexTailB .any l.toArray n = true) (hC0 : C { w with drawn := w.drawn + 1 })
    (h : wpQuiet P l.toArray C (fun a' => ∀ w', C w' → wpList P l.toArray Q (l.drop n) a' w') (l.take n) a) : (Code.region id l.toArray true).wp P Q a w := by
  simp only [Region.lexTailB, Bool.and_eq_true, decide_eq_true_eq] at hB
  obtain ⟨⟨⟨⟨hsel, hn⟩, hs⟩, hc⟩, hlex⟩ := hB
  have hn' : n < l.length := by simpa using hn
  have htl : (l.take n).length = n := by simp; omega
  have hdl : (l.drop n).length = l.toArray.size - n := by simp
  have inv0 : HeadInv .any l.toArray n (Array.replicate l.toArray.size false) :=
    ⟨by simp, fun j oj _ hl => (by rw [getD_replicate_false] at hl; cases hl), fun t _ ht => getD_in (by simpa using ht) (getD_replicate_false _ _)⟩
  have H := wpAnyQL_lex (C := C) (md := .any) (g := l.toArray.size - n) hsel hs hc hn (l.take n) 0 _ a (fun j hj => by
    have hj' : j < n := by rw [htl] at hj; exact hj
    simp [hj']) (by simpa using htl) inv0 (by rw [htl]; exact hlex) h
  refine wp_region_any hm ?_
  have := wpAny_of_headQ (C := C) (md := .any) (Q' := Q) (g := l.toArray.size - n) (fun listed a' w' hC' hL => by
    have := wpAny_of_seq (md := .any) (Q' := Q) (l.drop n) n listed a' w' (fun j => by simp [List.getElem?_drop]) (by rw [hdl]; exact hL.1) (hL.2 w' hC')
    rwa [hdl] at this) _ _ _ _ hC0 H
  rw [htl, show n + (l.toArray.size - n) = l.toArray.size by omega] at this
  exact this
end
/-- quiet operations in worlds that have more blocks; then the tail, one by one -/
theorem wp_region_later_tail {P : Program} {id : Nat} {Q : Exit → Act → World → Prop} {a : Act} {W : World} {l : List Oper} (n : Nat) (hm : P.follows .mixedOrders = true) (hB : Region.lexTailB .any l.toArray n = true)
    (h : wpQuiet P l.toArray (fun w' => ∃ s : Later W, w' = s.w) (fun a' => ∀ w', (∃ s : Later W, w' = s.w) → wpList P l.toArray Q (l.drop n) a' w') (l.take n) a) : (Code.region id l.toArray true).wp P Q a W :=
  wp_region_quiet_tail (C := fun w' => ∃ s : Later W, w' = s.w) n hm hB ⟨⟨{ W with drawn := W.drawn + 1 }, ⟨rfl, rfl, rfl, Nat.le_refl _, fun _ _ => rfl⟩⟩, rfl⟩ h
end Go.Proofs.Ytkcclefonmnpnaa

/- THE CODE's right: what is common, and where it tells no. -/
namespace Go.Proofs.Ytkcclefonmnpnaa
open Go.RowKit Go.BigFrame

theorem bare_any (i : Ins) (h : 1 ≤ i.kind ∧ i.kind ≤ 13) (w : World) : Calls Try.prog 97 #[i.agg] w fun e w' => BareT i e ∧ Below w.heap.size w w' := by
  obtain ⟨k, op, dst, a, b, n, text, r0, r1, r2, r3, r4, r5, to_, els⟩ := i
  simp only at h
  rcases kind_cases k with rfl | rfl | rfl | rfl | rfl | rfl | rfl | rfl | rfl | rfl | rfl | rfl | rfl | hk
  · by_cases hx : Ins.mk 1 op dst a b n text r0 r1 r2 r3 r4 r5 to_ els = Ins.mask ⟨1, op, dst, a, b, n, text, r0, r1, r2, r3, r4, r5, to_, els⟩
    · exact bare_1y op dst a b n text r0 r1 r2 r3 r4 r5 to_ els w hx
    · exact bare_1n op dst a b n text r0 r1 r2 r3 r4 r5 to_ els w hx
  · by_cases hx : Ins.mk 2 op dst a b n text r0 r1 r2 r3 r4 r5 to_ els = Ins.mask ⟨2, op, dst, a, b, n, text, r0, r1, r2, r3, r4, r5, to_, els⟩
    · exact bare_2y op dst a b n text r0 r1 r2 r3 r4 r5 to_ els w hx
    · exact bare_2n op dst a b n text r0 r1 r2 r3 r4 r5 to_ els w hx
  · by_cases hx : Ins.mk 3 op dst a b n text r0 r1 r2 r3 r4 r5 to_ els = Ins.mask ⟨3, op, dst, a, b, n, text, r0, r1, r2, r3, r4, r5, to_, els⟩
    · exact bare_3y op dst a b n text r0 r1 r2 r3 r4 r5 to_ els w hx
    · exact bare_3n op dst a b n text r0 r1 r2 r3 r4 r5 to_ els w hx
  · by_cases hx : Ins.mk 4 op dst a b n text r0 r1 r2 r3 r4 r5 to_ els = Ins.mask ⟨4, op, dst, a, b, n, text, r0, r1, r2, r3, r4, r5, to_, els⟩
    · exact bare_4y op dst a b n text r0 r1 r2 r3 r4 r5 to_ els w hx
    · exact bare_4n op dst a b n text r0 r1 r2 r3 r4 r5 to_ els w hx
  · by_cases hx : Ins.mk 5 op dst a b n text r0 r1 r2 r3 r4 r5 to_ els = Ins.mask ⟨5, op, dst, a, b, n, text, r0, r1, r2, r3, r4, r5, to_, els⟩
    · exact bare_5y op dst a b n text r0 r1 r2 r3 r4 r5 to_ els w hx
    · exact bare_5n op dst a b n text r0 r1 r2 r3 r4 r5 to_ els w hx
  · by_cases hx : Ins.mk 6 op dst a b n text r0 r1 r2 r3 r4 r5 to_ els = Ins.mask ⟨6, op, dst, a, b, n, text, r0, r1, r2, r3, r4, r5, to_, els⟩
    · exact bare_6y op dst a b n text r0 r1 r2 r3 r4 r5 to_ els w hx
    · exact bare_6n op dst a b n text r0 r1 r2 r3 r4 r5 to_ els w hx
  · by_cases hx : Ins.mk 7 op dst a b n text r0 r1 r2 r3 r4 r5 to_ els = Ins.mask ⟨7, op, dst, a, b, n, text, r0, r1, r2, r3, r4, r5, to_, els⟩
    · exact bare_7y op dst a b n text r0 r1 r2 r3 r4 r5 to_ els w hx
    · exact bare_7n op dst a b n text r0 r1 r2 r3 r4 r5 to_ els w hx
  · by_cases h1 : n < 0
    · exact bare_8m op dst a b n h1 text r0 r1 r2 r3 r4 r5 to_ els w
    · by_cases h2 : 6 < n
      · exact bare_8g op dst a b n h2 text r0 r1 r2 r3 r4 r5 to_ els w
      · obtain ⟨N, rfl⟩ : ∃ N : Nat, n = N := ⟨n.toNat, by omega⟩
        exact bare_8i op dst a b N (by omega) text r0 r1 r2 r3 r4 r5 to_ els w
  · by_cases hx : Ins.mk 9 op dst a b n text r0 r1 r2 r3 r4 r5 to_ els = Ins.mask ⟨9, op, dst, a, b, n, text, r0, r1, r2, r3, r4, r5, to_, els⟩
    · exact bare_9y op dst a b n text r0 r1 r2 r3 r4 r5 to_ els w hx
    · exact bare_9n op dst a b n text r0 r1 r2 r3 r4 r5 to_ els w hx
  · by_cases hx : Ins.mk 10 op dst a b n text r0 r1 r2 r3 r4 r5 to_ els = Ins.mask ⟨10, op, dst, a, b, n, text, r0, r1, r2, r3, r4, r5, to_, els⟩
    · exact bare_10y op dst a b n text r0 r1 r2 r3 r4 r5 to_ els w hx
    · exact bare_10n op dst a b n text r0 r1 r2 r3 r4 r5 to_ els w hx
  · by_cases hx : Ins.mk 11 op dst a b n text r0 r1 r2 r3 r4 r5 to_ els = Ins.mask ⟨11, op, dst, a, b, n, text, r0, r1, r2, r3, r4, r5, to_, els⟩
    · exact bare_11y op dst a b n text r0 r1 r2 r3 r4 r5 to_ els w hx
    · exact bare_11n op dst a b n text r0 r1 r2 r3 r4 r5 to_ els w hx
  · by_cases hx : Ins.mk 12 op dst a b n text r0 r1 r2 r3 r4 r5 to_ els = Ins.mask ⟨12, op, dst, a, b, n, text, r0, r1, r2, r3, r4, r5, to_, els⟩
    · exact bare_12y op dst a b n text r0 r1 r2 r3 r4 r5 to_ els w hx
    · exact bare_12n op dst a b n text r0 r1 r2 r3 r4 r5 to_ els w hx
  · by_cases hx : Ins.mk 13 op dst a b n text r0 r1 r2 r3 r4 r5 to_ els = Ins.mask ⟨13, op, dst, a, b, n, text, r0, r1, r2, r3, r4, r5, to_, els⟩
    · exact bare_13y op dst a b n text r0 r1 r2 r3 r4 r5 to_ els w hx
    · exact bare_13n op dst a b n text r0 r1 r2 r3 r4 r5 to_ els w hx
  · exact absurd h (by omega)
theorem Ok.build {i : Ins} {R Fr : Int} {L : Nat} (hk : 1 ≤ i.kind ∧ i.kind ≤ 13) (hu : ∀ r ∈ i.uses, 0 ≤ r ∧ r < R) (hd : kS i.kind = true → (0 ≤ i.dst ∧ i.dst < R) ∨ (i.kind = 8 ∧ i.dst = -1 ∧ i.dst < R)) (hm : i = i.mask) :
    Ok i R Fr L ↔ ((i.kind = 1 → -2147483648 ≤ i.n ∧ i.n ≤ 2147483647) ∧ (i.kind = 5 → 0 ≤ i.n ∧ i.n ≤ Fr) ∧ (i.kind = 8 → 0 ≤ i.n ∧ i.n ≤ 6 ∧ i.text ≠ ⟨#[]⟩) ∧ (i.kind = 2 → 20 ≤ i.op ∧ i.op ≤ 23) ∧ (i.kind = 3 → 1 ≤ i.op ∧ i.op ≤ 19) ∧ (i.kind = 11 ∨ i.kind = 12 → 0 ≤ i.to_ ∧ i.to_ < L) ∧ (i.kind = 12 → 0 ≤ i.els ∧ i.els < L)) :=
  ⟨fun h => ⟨h.word, h.fr, h.call, h.one, h.two, h.to_, h.els⟩, fun ⟨h1, h2, h3, h4, h5, h6, h7⟩ => ⟨hk, hu, hd, h1, h2, h3, h4, h5, h6, h7, hm⟩⟩
theorem field0 (k : Int) (w : World) : (Instr.field 32 (.agg #[.int .i64 k, .int .i64 0, .int .i64 (-1), .int .i64 0, .int .i64 0, .int .i64 0, .string ⟨#[]⟩, .int .i64 0, .int .i64 0, .int .i64 0, .int .i64 0, .int .i64 0, .int .i64 0, .int .i64 0, .int .i64 (-1)]) 0).run Try.prog w = .ok (.int .i64 k) w := by kernel_rfl
/-- the two boxes of right -/
structure KSt (w W : World) (i : Ins) (nm : ByteArray) (ps R Fr : Int) (C : Option Addr) (L cap : Nat) : Prop where
  bi : W.heap[w.heap.size]? = some i.obj
  bf : W.heap[w.heap.size + 1]? = some (funcObj nm ps R Fr C L cap)
  below : Below w.heap.size w W
theorem KSt.later {w w1 w2 : World} {i : Ins} {nm : ByteArray} {ps R Fr : Int} {C : Option Addr} {L cap : Nat} (h : KSt w w1 i nm ps R Fr C L cap) (hb : Below w1.heap.size w1 w2) : KSt w w2 i nm ps R Fr C L cap :=
  ⟨(hb.block _ (Array.getElem?_eq_some_iff.1 h.bi).1).trans h.bi, (hb.block _ (Array.getElem?_eq_some_iff.1 h.bf).1).trans h.bf, h.below.trans (hb.mono h.below.size)⟩
theorem KSt.made (w : World) (i : Ins) (nm : ByteArray) (ps R Fr : Int) (C : Option Addr) (L cap : Nat) : KSt w ((w.alloc i.obj).alloc (funcObj nm ps R Fr C L cap)) i nm ps R Fr C L cap := by
  refine ⟨alloc_keeps (heap_alloc_new w i.obj) _, ?_, (Below.one w _).alloc (by simp) _⟩
  have h := heap_alloc_new (w.alloc i.obj) (funcObj nm ps R Fr C L cap)
  rwa [show (w.alloc i.obj).heap.size = w.heap.size + 1 by simp] at h
theorem KSt.fb {w W : World} {i : Ins} {nm : ByteArray} {ps R Fr : Int} {C : Option Addr} {L cap : Nat} (h : KSt w W i nm ps R Fr C L cap) : w.heap.size + 1 < W.heap.size := (Array.getElem?_eq_some_iff.1 h.bf).1
theorem inR_true {n R : Int} (h : inR n R = true) : 0 ≤ n ∧ n < R := by simpa [inR] using h
theorem inR_false {n R : Int} (h : inR n R = false) : ¬ (0 ≤ n ∧ n < R) := fun ⟨h1, h2⟩ => by simp [inR, h1, h2] at h
set_option maxRecDepth 1000000 in
set_option maxHeartbeats 4000000 in
theorem right_bad (k op dst a b n : Int) (text : ByteArray) (r0 r1 r2 r3 r4 r5 to_ els : Int) (nm : ByteArray) (ps R Fr : Int) (C : Option Addr) (L cap : Nat) (w : World) (hk : k < 1 ∨ 13 < k) : Calls Try.prog 80 #[Ins.agg ⟨k, op, dst, a, b, n, text, r0, r1, r2, r3, r4, r5, to_, els⟩, funcAgg nm ps R Fr C L cap] w fun e w' => Tru (Ok ⟨k, op, dst, a, b, n, text, r0, r1, r2, r3, r4, r5, to_, els⟩ R Fr L) e ∧ Below w.heap.size w w' := by
  have hS := KSt.made w ⟨k, op, dst, a, b, n, text, r0, r1, r2, r3, r4, r5, to_, els⟩ nm ps R Fr C L cap
  have HT := Lib.hid (Tru.no (fun h : Ok ⟨k, op, dst, a, b, n, text, r0, r1, r2, r3, r4, r5, to_, els⟩ R Fr L => by have := h.kind; simp only at this; omega))
  have hc : (decide (k < 1) = true) ∨ (decide (k < 1) = false ∧ decide (k > 13) = true ∧ decide (13 < k) = true) := by simp; omega
  obtain ⟨W, hW⟩ : ∃ W, (w.alloc (Ins.obj ⟨k, op, dst, a, b, n, text, r0, r1, r2, r3, r4, r5, to_, els⟩)).alloc (funcObj nm ps R Fr C L cap) = W := ⟨_, rfl⟩
  rw [hW] at hS
  have x0 := cell_of_heap hS.bi 0 (.int .i64 k) rfl
  simp only [Ins.obj, funcObj, Ins.agg, funcAgg] at hW ⊢
  clear hk
  rcases hc with q1 | ⟨q1, q2, q3⟩
  all_goals
    go_enter Try.func80, Try.ntmps80
    go_wp2
    go_returns
    exact ⟨HT.out, hS.below⟩
set_option maxRecDepth 1000000 in
set_option maxHeartbeats 8000000 in
theorem right_nomask (k op dst a b n : Int) (text : ByteArray) (r0 r1 r2 r3 r4 r5 to_ els : Int) (nm : ByteArray) (ps R Fr : Int) (C : Option Addr) (L cap : Nat) (w : World) (hk : 1 ≤ k ∧ k ≤ 13) (hm : ¬ Ins.mk k op dst a b n text r0 r1 r2 r3 r4 r5 to_ els = Ins.mask ⟨k, op, dst, a, b, n, text, r0, r1, r2, r3, r4, r5, to_, els⟩) : Calls Try.prog 80 #[Ins.agg ⟨k, op, dst, a, b, n, text, r0, r1, r2, r3, r4, r5, to_, els⟩, funcAgg nm ps R Fr C L cap] w fun e w' => Tru (Ok ⟨k, op, dst, a, b, n, text, r0, r1, r2, r3, r4, r5, to_, els⟩ R Fr L) e ∧ Below w.heap.size w w' := by
  have HT := Lib.hid (Tru.no (fun h : Ok ⟨k, op, dst, a, b, n, text, r0, r1, r2, r3, r4, r5, to_, els⟩ R Fr L => hm h.mask))
  have hS := KSt.made w ⟨k, op, dst, a, b, n, text, r0, r1, r2, r3, r4, r5, to_, els⟩ nm ps R Fr C L cap
  obtain ⟨W, hW⟩ : ∃ W, (w.alloc (Ins.obj ⟨k, op, dst, a, b, n, text, r0, r1, r2, r3, r4, r5, to_, els⟩)).alloc (funcObj nm ps R Fr C L cap) = W := ⟨_, rfl⟩
  rw [hW] at hS
  have k1 : decide (k < 1) = false := by simp; omega
  have k2 : decide (k > 13) = false := by simp; omega
  have k3 : decide (13 < k) = false := by simp; omega
  have k4 : (k == 0) = false := by simp; omega
  have hba := fun w => bare_any ⟨k, op, dst, a, b, n, text, r0, r1, r2, r3, r4, r5, to_, els⟩ hk w
  simp only [BareT] at hba
  rw [if_neg hm] at hba
  obtain ⟨x0, x1, x2, x3, x4, x5, x6, x7, x8, x9, x10, x11, x12, x13, x14⟩ := Ins.cells hS.bi
  simp only [Ins.obj, funcObj, Ins.agg, funcAgg] at hW hba x0 x1 x2 x3 x4 x5 x6 x7 x8 x9 x10 x11 x12 x13 x14 ⊢
  have hfd := fun w => field0 0 w
  clear hk hm
  go_enter Try.func80, Try.ntmps80
  go_wp2_with (first
    | (go_at_call 97; refine (hba _).mono ?_; rintro e w1 ⟨rfl, hb1⟩; have hS1 := hS.later hb1; have z0 := cell_of_heap hS1.bi 0 (.int .i64 k) rfl; have z2 := cell_of_heap hS1.bi 2 (.int .i64 dst) rfl; have zr := right1_any (cell_of_heap hS1.bf 2 (.int .i64 R) rfl)))
  go_returns
  exact ⟨HT.out, hS1.below⟩
set_option maxRecDepth 1000000 in
set_option maxHeartbeats 8000000 in
theorem right_dst (k op dst a b n : Int) (text : ByteArray) (r0 r1 r2 r3 r4 r5 to_ els : Int) (nm : ByteArray) (ps R Fr : Int) (C : Option Addr) (L cap : Nat) (w : World) (hk : 1 ≤ k ∧ k ≤ 13) (hm : Ins.mk k op dst a b n text r0 r1 r2 r3 r4 r5 to_ els = Ins.mask ⟨k, op, dst, a, b, n, text, r0, r1, r2, r3, r4, r5, to_, els⟩) (hs : kS k = true) (hd : inR dst R = false) (hc : ¬ (k = 8 ∧ dst = -1)) : Calls Try.prog 80 #[Ins.agg ⟨k, op, dst, a, b, n, text, r0, r1, r2, r3, r4, r5, to_, els⟩, funcAgg nm ps R Fr C L cap] w fun e w' => Tru (Ok ⟨k, op, dst, a, b, n, text, r0, r1, r2, r3, r4, r5, to_, els⟩ R Fr L) e ∧ Below w.heap.size w w' := by
  have HT := Lib.hid (Tru.no (fun h : Ok ⟨k, op, dst, a, b, n, text, r0, r1, r2, r3, r4, r5, to_, els⟩ R Fr L => by
    rcases h.dst hs with h1 | h1
    · exact inR_false hd h1
    · exact hc ⟨h1.1, h1.2.1⟩))
  have hS := KSt.made w ⟨k, op, dst, a, b, n, text, r0, r1, r2, r3, r4, r5, to_, els⟩ nm ps R Fr C L cap
  obtain ⟨W, hW⟩ : ∃ W, (w.alloc (Ins.obj ⟨k, op, dst, a, b, n, text, r0, r1, r2, r3, r4, r5, to_, els⟩)).alloc (funcObj nm ps R Fr C L cap) = W := ⟨_, rfl⟩
  rw [hW] at hS
  have k1 : decide (k < 1) = false := by simp; omega
  have k2 : decide (k > 13) = false := by simp; omega
  have k3 : decide (13 < k) = false := by simp; omega
  have k4 : (k == 0) = false := by simp; omega
  have hba := fun w => bare_any ⟨k, op, dst, a, b, n, text, r0, r1, r2, r3, r4, r5, to_, els⟩ hk w
  simp only [BareT] at hba
  rw [if_pos hm] at hba
  obtain ⟨x0, x1, x2, x3, x4, x5, x6, x7, x8, x9, x10, x11, x12, x13, x14⟩ := Ins.cells hS.bi
  simp only [Ins.obj, funcObj, Ins.agg, funcAgg] at hW hba x0 x1 x2 x3 x4 x5 x6 x7 x8 x9 x10 x11 x12 x13 x14 ⊢
  have hst := fun w => sets_any k w
  rw [hs] at hst
  have hq : ((k == 8) = false) ∨ ((k == 8) = true ∧ (dst == -1) = false) := by
    simp; omega
  have hfd := fun w => field0 k w
  clear hk hm hs hc
  rcases hq with q8 | ⟨q8, q1⟩
  all_goals
    go_enter Try.func80, Try.ntmps80
    go_wp2_with (first
      | (go_at_call 97; refine (hba _).mono ?_; rintro e w1 ⟨rfl, hb1⟩; have hS1 := hS.later hb1; have z0 := cell_of_heap hS1.bi 0 (.int .i64 k) rfl; have z2 := cell_of_heap hS1.bi 2 (.int .i64 dst) rfl; have zr := right1_any (cell_of_heap hS1.bf 2 (.int .i64 R) rfl))
      | (go_at_call 83; refine (hst _).mono ?_; rintro e w5 ⟨rfl, hw5⟩; subst hw5)
      | (go_at_call 95; have zz := zr dst; rw [hd] at zz; refine zz.mono ?_; rintro e w5 ⟨rfl, hw5⟩; subst hw5))
    go_returns
    exact ⟨HT.out, hS1.below⟩
end Go.Proofs.Ytkcclefonmnpnaa

/- THE CODE's right. -/
namespace Go.Proofs.Ytkcclefonmnpnaa
open Go.RowKit Go.BigFrame

set_option maxRecDepth 1000000 in
set_option maxHeartbeats 8000000 in
theorem right_n (k op dst a b n : Int) (text : ByteArray) (r0 r1 r2 r3 r4 r5 to_ els : Int) (nm : ByteArray) (ps R Fr : Int) (C : Option Addr) (L cap : Nat) (w : World) (hk : 1 ≤ k ∧ k ≤ 13) (hm : Ins.mk k op dst a b n text r0 r1 r2 r3 r4 r5 to_ els = Ins.mask ⟨k, op, dst, a, b, n, text, r0, r1, r2, r3, r4, r5, to_, els⟩) (hs : kS k = false) : Calls Try.prog 80 #[Ins.agg ⟨k, op, dst, a, b, n, text, r0, r1, r2, r3, r4, r5, to_, els⟩, funcAgg nm ps R Fr C L cap] w fun e w' => Tru (Ok ⟨k, op, dst, a, b, n, text, r0, r1, r2, r3, r4, r5, to_, els⟩ R Fr L) e ∧ Below w.heap.size w w' := by
  have HB := Lib.hid (fun (hu : ∀ r ∈ Ins.uses ⟨k, op, dst, a, b, n, text, r0, r1, r2, r3, r4, r5, to_, els⟩, 0 ≤ r ∧ r < R) => Ok.build (i := ⟨k, op, dst, a, b, n, text, r0, r1, r2, r3, r4, r5, to_, els⟩) (R := R) (Fr := Fr) (L := L) hk hu (fun h => by simp only at h; rw [hs] at h; cases h) hm)
  have HNO := Lib.hid (fun (hu : ¬ ∀ r ∈ Ins.uses ⟨k, op, dst, a, b, n, text, r0, r1, r2, r3, r4, r5, to_, els⟩, 0 ≤ r ∧ r < R) => Tru.no (fun h : Ok ⟨k, op, dst, a, b, n, text, r0, r1, r2, r3, r4, r5, to_, els⟩ R Fr L => hu h.uses))
  have hS := KSt.made w ⟨k, op, dst, a, b, n, text, r0, r1, r2, r3, r4, r5, to_, els⟩ nm ps R Fr C L cap
  obtain ⟨W, hW⟩ : ∃ W, (w.alloc (Ins.obj ⟨k, op, dst, a, b, n, text, r0, r1, r2, r3, r4, r5, to_, els⟩)).alloc (funcObj nm ps R Fr C L cap) = W := ⟨_, rfl⟩
  rw [hW] at hS
  have k1 : decide (k < 1) = false := by simp; omega
  have k2 : decide (k > 13) = false := by simp; omega
  have k3 : decide (13 < k) = false := by simp; omega
  have k4 : (k == 0) = false := by simp; omega
  have hba := fun w => bare_any ⟨k, op, dst, a, b, n, text, r0, r1, r2, r3, r4, r5, to_, els⟩ hk w
  simp only [BareT] at hba
  rw [if_pos hm] at hba
  obtain ⟨x0, x1, x2, x3, x4, x5, x6, x7, x8, x9, x10, x11, x12, x13, x14⟩ := Ins.cells hS.bi
  simp only [Ins.obj, funcObj, Ins.agg, funcAgg] at hW hba x0 x1 x2 x3 x4 x5 x6 x7 x8 x9 x10 x11 x12 x13 x14 ⊢
  have hst := fun w => sets_any k w
  rw [hs] at hst
  have hus := fun w => Uses_any ⟨k, op, dst, a, b, n, text, r0, r1, r2, r3, r4, r5, to_, els⟩ w
  have hul6 := Ins.uses_len ⟨k, op, dst, a, b, n, text, r0, r1, r2, r3, r4, r5, to_, els⟩
  obtain ⟨ul, hul⟩ : ∃ ul, ul = Ins.uses ⟨k, op, dst, a, b, n, text, r0, r1, r2, r3, r4, r5, to_, els⟩ := ⟨_, rfl⟩
  simp only [Ins.agg] at hus
  rw [← hul] at hul6
  simp only [← hul] at hus
  have HUL := Lib.hid hul
  clear hul
  have HK := Lib.hid hk
  have HS := Lib.hid hs
  have hfd := fun w => field0 k w
  clear hk hm hs
  go_enter Try.func80, Try.ntmps80
  go_wp2_with (first
    | (go_at_call 97; refine (hba _).mono ?_; rintro e w1 ⟨rfl, hb1⟩; have hS1 := hS.later hb1; obtain ⟨z0, z1, z2, z3, z4, z5, z6, z7, z8, z9, z10, z11, z12, z13, z14⟩ := Ins.cells hS1.bi; simp only at z0 z1 z2 z3 z4 z5 z6 z7 z8 z9 z10 z11 z12 z13 z14; have zr := right1_any (cell_of_heap hS1.bf 2 (.int .i64 R) rfl))
    | (go_at_call 83; refine (hst _).mono ?_; rintro e w5 ⟨rfl, hw5⟩; subst hw5)
    | (go_at_call 84; refine (hus _).mono ?_; rintro e w2 ⟨⟨A, cA, rfl, hRd⟩, hb2⟩; have hS2 := hS1.later hb2))
  go_at_call 98
  refine (allOf_any (fb := w.heap.size + 1) (R := R) (cell_of_heap hS2.bf 2 (.int .i64 R) rfl) hS2.fb A ul cA hRd (by omega)).mono ?_
  rintro e w3 ⟨⟨bu, rfl, hbu⟩, hb3⟩
  have hS3 := hS2.later hb3
  have HBU := Lib.hid hbu
  clear hbu
  have v0 := cell_of_heap hS3.bi 0 (.int .i64 k) rfl
  have v1 := cell_of_heap hS3.bi 1 (.int .i64 op) rfl
  have v5 := cell_of_heap hS3.bi 5 (.int .i64 n) rfl
  have v6 := cell_of_heap hS3.bi 6 (.string text) rfl
  have v13 := cell_of_heap hS3.bi 13 (.int .i64 to_) rfl
  have v14 := cell_of_heap hS3.bi 14 (.int .i64 els) rfl
  have u3 := cell_of_heap hS3.bf 3 (.int .i64 Fr) rfl
  have zr2 := right2_any (cell_of_heap hS3.bf 4 (.slice C L cap) rfl)
  cases bu
  · go_wp2
    go_returns
    exact ⟨HNO.out (fun h => by have := HBU.out.2 (by rw [HUL.out]; exact h); cases this), hS3.below⟩
  have hB := HB.out (by rw [← HUL.out]; exact HBU.out.1 (by trivial))
  clear HB HNO hba hst hus hS hS1 hS2 hb1 hb2 hb3 hRd hW x0 x1 x2 x3 x4 x5 x6 x7 x8 x9 x10 x11 x12 x13 x14 z0 z1 z2 z3 z4 z5 z6 z7 z8 z9 z10 z11 z12 z13 z14 zr
  have HB := Lib.hid hB
  clear hB k1 k2 k3 k4
  have hkk : k = 7 ∨ k = 10 ∨ k = 11 ∨ k = 12 ∨ k = 13 := by
    have h1 := HK.out
    have h2 := HS.out
    (try simp only at h1)
    simp [kS] at h2
    omega
  rcases hkk with rfl | rfl | rfl | rfl | rfl
  · go_wp2
    go_returns
    exact ⟨⟨true, rfl, by rw [HB.out]; simp⟩, hS3.below⟩
  · go_wp2
    go_returns
    exact ⟨⟨true, rfl, by rw [HB.out]; simp⟩, hS3.below⟩
  · go_wp2_with (first
      | (go_at_call 96; refine (zr2 to_).mono ?_; rintro e w5 ⟨rfl, hw5⟩; subst hw5))
    go_returns
    exact ⟨⟨_, rfl, by rw [HB.out]; simp [inR]⟩, hS3.below⟩
  · have ha := zr2 to_
    have hb := zr2 els
    have HI : Hid ((inR to_ L = true ↔ 0 ≤ to_ ∧ to_ < L) ∧ (inR els L = true ↔ 0 ≤ els ∧ els < L)) := Lib.hid (by simp [inR])
    generalize inR to_ L = t1 at ha HI
    generalize inR els L = t2 at hb HI
    cases t1
    all_goals
      go_wp2_with (first
        | (go_at_call_of 96 (Value.int IntKind.i64 to_); refine ha.mono ?_; rintro e w5 ⟨rfl, hw5⟩; subst hw5)
        | (go_at_call_of 96 (Value.int IntKind.i64 els); refine hb.mono ?_; rintro e w5 ⟨rfl, hw5⟩; subst hw5))
      go_returns
    · exact ⟨⟨_, rfl, by rw [HB.out]; have := HI.out.1; simp at this ⊢; omega⟩, hS3.below⟩
    · exact ⟨⟨_, rfl, by rw [HB.out]; have h1 := HI.out.1; have h2 := HI.out.2; simp at h1; simp [h1, h2]⟩, hS3.below⟩
  · go_wp2
    go_returns
    exact ⟨⟨true, rfl, by rw [HB.out]; simp⟩, hS3.below⟩
end Go.Proofs.Ytkcclefonmnpnaa

/- THE CODE's right. -/
namespace Go.Proofs.Ytkcclefonmnpnaa
open Go.RowKit Go.BigFrame

theorem nonempty_list {s : ByteArray} (h : ¬ s.size = 0) : s.toList.isEmpty = false := by
  rw [Go.ByteArray.toList_eq]
  cases s with
  | mk d =>
    have : d.size ≠ 0 := h
    rw [List.isEmpty_eq_false_iff_exists_mem]
    exact ⟨d[0], by simp⟩
set_option maxRecDepth 1000000 in
set_option maxHeartbeats 8000000 in
theorem right_y (k op dst a b n : Int) (text : ByteArray) (r0 r1 r2 r3 r4 r5 to_ els : Int) (nm : ByteArray) (ps R Fr : Int) (C : Option Addr) (L cap : Nat) (w : World) (hk : 1 ≤ k ∧ k ≤ 13) (hm : Ins.mk k op dst a b n text r0 r1 r2 r3 r4 r5 to_ els = Ins.mask ⟨k, op, dst, a, b, n, text, r0, r1, r2, r3, r4, r5, to_, els⟩) (hs : kS k = true) (hd : inR dst R = true) : Calls Try.prog 80 #[Ins.agg ⟨k, op, dst, a, b, n, text, r0, r1, r2, r3, r4, r5, to_, els⟩, funcAgg nm ps R Fr C L cap] w fun e w' => Tru (Ok ⟨k, op, dst, a, b, n, text, r0, r1, r2, r3, r4, r5, to_, els⟩ R Fr L) e ∧ Below w.heap.size w w' := by
  have HB := Lib.hid (fun (hu : ∀ r ∈ Ins.uses ⟨k, op, dst, a, b, n, text, r0, r1, r2, r3, r4, r5, to_, els⟩, 0 ≤ r ∧ r < R) => Ok.build (i := ⟨k, op, dst, a, b, n, text, r0, r1, r2, r3, r4, r5, to_, els⟩) (R := R) (Fr := Fr) (L := L) hk hu (fun _ => Or.inl (inR_true hd)) hm)
  have HNO := Lib.hid (fun (hu : ¬ ∀ r ∈ Ins.uses ⟨k, op, dst, a, b, n, text, r0, r1, r2, r3, r4, r5, to_, els⟩, 0 ≤ r ∧ r < R) => Tru.no (fun h : Ok ⟨k, op, dst, a, b, n, text, r0, r1, r2, r3, r4, r5, to_, els⟩ R Fr L => hu h.uses))
  have hS := KSt.made w ⟨k, op, dst, a, b, n, text, r0, r1, r2, r3, r4, r5, to_, els⟩ nm ps R Fr C L cap
  obtain ⟨W, hW⟩ : ∃ W, (w.alloc (Ins.obj ⟨k, op, dst, a, b, n, text, r0, r1, r2, r3, r4, r5, to_, els⟩)).alloc (funcObj nm ps R Fr C L cap) = W := ⟨_, rfl⟩
  rw [hW] at hS
  have k1 : decide (k < 1) = false := by simp; omega
  have k2 : decide (k > 13) = false := by simp; omega
  have k3 : decide (13 < k) = false := by simp; omega
  have k4 : (k == 0) = false := by simp; omega
  have hba := fun w => bare_any ⟨k, op, dst, a, b, n, text, r0, r1, r2, r3, r4, r5, to_, els⟩ hk w
  simp only [BareT] at hba
  rw [if_pos hm] at hba
  obtain ⟨x0, x1, x2, x3, x4, x5, x6, x7, x8, x9, x10, x11, x12, x13, x14⟩ := Ins.cells hS.bi
  simp only [Ins.obj, funcObj, Ins.agg, funcAgg] at hW hba x0 x1 x2 x3 x4 x5 x6 x7 x8 x9 x10 x11 x12 x13 x14 ⊢
  have hst := fun w => sets_any k w
  rw [hs] at hst
  have hus := fun w => Uses_any ⟨k, op, dst, a, b, n, text, r0, r1, r2, r3, r4, r5, to_, els⟩ w
  have hul6 := Ins.uses_len ⟨k, op, dst, a, b, n, text, r0, r1, r2, r3, r4, r5, to_, els⟩
  obtain ⟨ul, hul⟩ : ∃ ul, ul = Ins.uses ⟨k, op, dst, a, b, n, text, r0, r1, r2, r3, r4, r5, to_, els⟩ := ⟨_, rfl⟩
  simp only [Ins.agg] at hus
  rw [← hul] at hul6
  simp only [← hul] at hus
  have HUL := Lib.hid hul
  clear hul
  have HK := Lib.hid hk
  have HS := Lib.hid hs
  have hfd := fun w => field0 k w
  clear hk hm hs
  go_enter Try.func80, Try.ntmps80
  go_wp2_with (first
    | (go_at_call 97; refine (hba _).mono ?_; rintro e w1 ⟨rfl, hb1⟩; have hS1 := hS.later hb1; obtain ⟨z0, z1, z2, z3, z4, z5, z6, z7, z8, z9, z10, z11, z12, z13, z14⟩ := Ins.cells hS1.bi; simp only at z0 z1 z2 z3 z4 z5 z6 z7 z8 z9 z10 z11 z12 z13 z14; have zr := right1_any (cell_of_heap hS1.bf 2 (.int .i64 R) rfl))
    | (go_at_call 83; refine (hst _).mono ?_; rintro e w5 ⟨rfl, hw5⟩; subst hw5)
    | (go_at_call 95; have zz := zr dst; rw [hd] at zz; refine zz.mono ?_; rintro e w5 ⟨rfl, hw5⟩; subst hw5)
    | (go_at_call 84; refine (hus _).mono ?_; rintro e w2 ⟨⟨A, cA, rfl, hRd⟩, hb2⟩; have hS2 := hS1.later hb2))
  go_at_call 98
  refine (allOf_any (fb := w.heap.size + 1) (R := R) (cell_of_heap hS2.bf 2 (.int .i64 R) rfl) hS2.fb A ul cA hRd (by omega)).mono ?_
  rintro e w3 ⟨⟨bu, rfl, hbu⟩, hb3⟩
  have hS3 := hS2.later hb3
  have HBU := Lib.hid hbu
  clear hbu
  have v0 := cell_of_heap hS3.bi 0 (.int .i64 k) rfl
  have v1 := cell_of_heap hS3.bi 1 (.int .i64 op) rfl
  have v5 := cell_of_heap hS3.bi 5 (.int .i64 n) rfl
  have v6 := cell_of_heap hS3.bi 6 (.string text) rfl
  have v13 := cell_of_heap hS3.bi 13 (.int .i64 to_) rfl
  have v14 := cell_of_heap hS3.bi 14 (.int .i64 els) rfl
  have u3 := cell_of_heap hS3.bf 3 (.int .i64 Fr) rfl
  have zr2 := right2_any (cell_of_heap hS3.bf 4 (.slice C L cap) rfl)
  cases bu
  · go_wp2
    go_returns
    exact ⟨HNO.out (fun h => by have := HBU.out.2 (by rw [HUL.out]; exact h); cases this), hS3.below⟩
  have hB := HB.out (by rw [← HUL.out]; exact HBU.out.1 (by trivial))
  clear HB HNO hba hst hus hS hS1 hS2 hb1 hb2 hb3 hRd hW x0 x1 x2 x3 x4 x5 x6 x7 x8 x9 x10 x11 x12 x13 x14 z0 z1 z2 z3 z4 z5 z6 z7 z8 z9 z10 z11 z12 z13 z14 zr
  have HB := Lib.hid hB
  clear hB k1 k2 k3 k4
  have hkk : k = 1 ∨ k = 2 ∨ k = 3 ∨ k = 4 ∨ k = 5 ∨ k = 6 ∨ k = 8 ∨ k = 9 := by
    have h1 := HK.out
    have h2 := HS.out
    (try simp only at h1)
    simp [kS] at h2
    omega
  rcases hkk with rfl | rfl | rfl | rfl | rfl | rfl | rfl | rfl
  · go_wp2_with (first
      | (go_at_call 89; refine (is_any n _).mono ?_; rintro e w5 ⟨rfl, hw5⟩; subst hw5))
    go_returns
    exact ⟨⟨_, rfl, by rw [HB.out]; simp⟩, hS3.below⟩
  · go_wp2_with (first
      | (go_at_call 99; refine (one_any op _).mono ?_; rintro e w5 ⟨rfl, hw5⟩; subst hw5))
    go_returns
    exact ⟨⟨_, rfl, by rw [HB.out]; simp⟩, hS3.below⟩
  · go_wp2_with (first
      | (go_at_call 100; refine (two_any op _).mono ?_; rintro e w5 ⟨rfl, hw5⟩; subst hw5))
    go_returns
    exact ⟨⟨_, rfl, by rw [HB.out]; simp⟩, hS3.below⟩
  · go_wp2
    go_returns
    exact ⟨⟨true, rfl, by rw [HB.out]; simp⟩, hS3.below⟩
  · rcases (by simp; omega : (decide (n ≥ 0) = false ∧ decide (0 ≤ n) = false) ∨ (decide (n ≥ 0) = true ∧ decide (0 ≤ n) = true ∧ decide (n ≤ Fr) = false) ∨ (decide (n ≥ 0) = true ∧ decide (0 ≤ n) = true ∧ decide (n ≤ Fr) = true)) with ⟨h1, h2⟩ | ⟨h1, h2, h3⟩ | ⟨h1, h2, h3⟩
    all_goals
      go_wp2
      go_returns
    · exact ⟨⟨_, rfl, by rw [HB.out]; simp at h2 ⊢; omega⟩, hS3.below⟩
    · exact ⟨⟨_, rfl, by rw [HB.out]; simp at h2 h3 ⊢; omega⟩, hS3.below⟩
    · exact ⟨⟨_, rfl, by rw [HB.out]; simp at h2 h3 ⊢; omega⟩, hS3.below⟩
  · go_wp2
    go_returns
    exact ⟨⟨true, rfl, by rw [HB.out]; simp⟩, hS3.below⟩
  · have ht : (text.toList.isEmpty = true ∧ (text.toList == ([] : List UInt8)) = true ∧ text = ⟨#[]⟩) ∨ (text.toList.isEmpty = false ∧ (text.toList == ([] : List UInt8)) = false ∧ text ≠ ⟨#[]⟩) := by
      by_cases h0 : text.size = 0
      · left
        rw [size_zero h0, Go.ByteArray.toList_eq]
        exact ⟨rfl, rfl, rfl⟩
      · right
        have h := nonempty_list h0
        exact ⟨h, by cases hl : text.toList with | nil => rw [hl] at h; cases h | cons a l => rfl, fun e => h0 (by rw [e]; rfl)⟩
    rcases (by simp; omega : (decide (n ≥ 0) = false ∧ decide (0 ≤ n) = false) ∨ (decide (n ≥ 0) = true ∧ decide (0 ≤ n) = true ∧ decide (n ≤ 6) = false) ∨ (decide (n ≥ 0) = true ∧ decide (0 ≤ n) = true ∧ decide (n ≤ 6) = true)) with ⟨h1, h2⟩ | ⟨h1, h2, h3⟩ | ⟨h1, h2, h3⟩
    · clear ht
      go_wp2
      go_returns
      exact ⟨⟨_, rfl, by rw [HB.out]; simp at h2 ⊢; omega⟩, hS3.below⟩
    · clear ht
      go_wp2
      go_returns
      exact ⟨⟨_, rfl, by rw [HB.out]; simp at h2 h3 ⊢; omega⟩, hS3.below⟩
    · rcases ht with ⟨t1, t2, t3⟩ | ⟨t1, t2, t3⟩
      all_goals
        have HT3 := Lib.hid t3
        clear t3
        go_wp2
        go_returns
      · exact ⟨⟨_, rfl, by rw [HB.out]; have := HT3.out; simp [this]⟩, hS3.below⟩
      · exact ⟨⟨_, rfl, by rw [HB.out]; have := HT3.out; simp at h2 h3; simp [this, h2, h3]⟩, hS3.below⟩
  · go_wp2
    go_returns
    exact ⟨⟨true, rfl, by rw [HB.out]; simp⟩, hS3.below⟩
end Go.Proofs.Ytkcclefonmnpnaa

/- THE CODE's right. -/
namespace Go.Proofs.Ytkcclefonmnpnaa
open Go.RowKit Go.BigFrame

set_option maxRecDepth 1000000 in
set_option maxHeartbeats 8000000 in
theorem right_c (k op dst a b n : Int) (text : ByteArray) (r0 r1 r2 r3 r4 r5 to_ els : Int) (nm : ByteArray) (ps R Fr : Int) (C : Option Addr) (L cap : Nat) (w : World) (hk : 1 ≤ k ∧ k ≤ 13) (hm : Ins.mk k op dst a b n text r0 r1 r2 r3 r4 r5 to_ els = Ins.mask ⟨k, op, dst, a, b, n, text, r0, r1, r2, r3, r4, r5, to_, els⟩) (hs : kS k = true) (hc : k = 8 ∧ dst = -1) (hR0 : 0 ≤ R) : Calls Try.prog 80 #[Ins.agg ⟨k, op, dst, a, b, n, text, r0, r1, r2, r3, r4, r5, to_, els⟩, funcAgg nm ps R Fr C L cap] w fun e w' => Tru (Ok ⟨k, op, dst, a, b, n, text, r0, r1, r2, r3, r4, r5, to_, els⟩ R Fr L) e ∧ Below w.heap.size w w' := by
  have HB := Lib.hid (fun (hu : ∀ r ∈ Ins.uses ⟨k, op, dst, a, b, n, text, r0, r1, r2, r3, r4, r5, to_, els⟩, 0 ≤ r ∧ r < R) => Ok.build (i := ⟨k, op, dst, a, b, n, text, r0, r1, r2, r3, r4, r5, to_, els⟩) (R := R) (Fr := Fr) (L := L) hk hu (fun _ => Or.inr ⟨hc.1, hc.2, by simp only; omega⟩) hm)
  have HNO := Lib.hid (fun (hu : ¬ ∀ r ∈ Ins.uses ⟨k, op, dst, a, b, n, text, r0, r1, r2, r3, r4, r5, to_, els⟩, 0 ≤ r ∧ r < R) => Tru.no (fun h : Ok ⟨k, op, dst, a, b, n, text, r0, r1, r2, r3, r4, r5, to_, els⟩ R Fr L => hu h.uses))
  have hS := KSt.made w ⟨k, op, dst, a, b, n, text, r0, r1, r2, r3, r4, r5, to_, els⟩ nm ps R Fr C L cap
  obtain ⟨W, hW⟩ : ∃ W, (w.alloc (Ins.obj ⟨k, op, dst, a, b, n, text, r0, r1, r2, r3, r4, r5, to_, els⟩)).alloc (funcObj nm ps R Fr C L cap) = W := ⟨_, rfl⟩
  rw [hW] at hS
  have k1 : decide (k < 1) = false := by simp; omega
  have k2 : decide (k > 13) = false := by simp; omega
  have k3 : decide (13 < k) = false := by simp; omega
  have k4 : (k == 0) = false := by simp; omega
  have hba := fun w => bare_any ⟨k, op, dst, a, b, n, text, r0, r1, r2, r3, r4, r5, to_, els⟩ hk w
  simp only [BareT] at hba
  rw [if_pos hm] at hba
  obtain ⟨x0, x1, x2, x3, x4, x5, x6, x7, x8, x9, x10, x11, x12, x13, x14⟩ := Ins.cells hS.bi
  simp only [Ins.obj, funcObj, Ins.agg, funcAgg] at hW hba x0 x1 x2 x3 x4 x5 x6 x7 x8 x9 x10 x11 x12 x13 x14 ⊢
  have hst := fun w => sets_any k w
  rw [hs] at hst
  have hd : inR dst R = false := by simp [inR]; omega
  have q8 : (k == 8) = true := by simp; omega
  have q1 : (dst == -1) = true := by simp; omega
  have hus := fun w => Uses_any ⟨k, op, dst, a, b, n, text, r0, r1, r2, r3, r4, r5, to_, els⟩ w
  have hul6 := Ins.uses_len ⟨k, op, dst, a, b, n, text, r0, r1, r2, r3, r4, r5, to_, els⟩
  obtain ⟨ul, hul⟩ : ∃ ul, ul = Ins.uses ⟨k, op, dst, a, b, n, text, r0, r1, r2, r3, r4, r5, to_, els⟩ := ⟨_, rfl⟩
  simp only [Ins.agg] at hus
  rw [← hul] at hul6
  simp only [← hul] at hus
  have HUL := Lib.hid hul
  clear hul
  have HK := Lib.hid hk
  have HS := Lib.hid hs
  have hfd := fun w => field0 k w
  clear hk hm hs hc
  go_enter Try.func80, Try.ntmps80
  go_wp2_with (first
    | (go_at_call 97; refine (hba _).mono ?_; rintro e w1 ⟨rfl, hb1⟩; have hS1 := hS.later hb1; obtain ⟨z0, z1, z2, z3, z4, z5, z6, z7, z8, z9, z10, z11, z12, z13, z14⟩ := Ins.cells hS1.bi; simp only at z0 z1 z2 z3 z4 z5 z6 z7 z8 z9 z10 z11 z12 z13 z14; have zr := right1_any (cell_of_heap hS1.bf 2 (.int .i64 R) rfl))
    | (go_at_call 83; refine (hst _).mono ?_; rintro e w5 ⟨rfl, hw5⟩; subst hw5)
    | (go_at_call 95; have zz := zr dst; rw [hd] at zz; refine zz.mono ?_; rintro e w5 ⟨rfl, hw5⟩; subst hw5)
    | (go_at_call 84; refine (hus _).mono ?_; rintro e w2 ⟨⟨A, cA, rfl, hRd⟩, hb2⟩; have hS2 := hS1.later hb2))
  go_at_call 98
  refine (allOf_any (fb := w.heap.size + 1) (R := R) (cell_of_heap hS2.bf 2 (.int .i64 R) rfl) hS2.fb A ul cA hRd (by omega)).mono ?_
  rintro e w3 ⟨⟨bu, rfl, hbu⟩, hb3⟩
  have hS3 := hS2.later hb3
  have HBU := Lib.hid hbu
  clear hbu
  have v0 := cell_of_heap hS3.bi 0 (.int .i64 k) rfl
  have v1 := cell_of_heap hS3.bi 1 (.int .i64 op) rfl
  have v5 := cell_of_heap hS3.bi 5 (.int .i64 n) rfl
  have v6 := cell_of_heap hS3.bi 6 (.string text) rfl
  have v13 := cell_of_heap hS3.bi 13 (.int .i64 to_) rfl
  have v14 := cell_of_heap hS3.bi 14 (.int .i64 els) rfl
  have u3 := cell_of_heap hS3.bf 3 (.int .i64 Fr) rfl
  have zr2 := right2_any (cell_of_heap hS3.bf 4 (.slice C L cap) rfl)
  cases bu
  · go_wp2
    go_returns
    exact ⟨HNO.out (fun h => by have := HBU.out.2 (by rw [HUL.out]; exact h); cases this), hS3.below⟩
  have hB := HB.out (by rw [← HUL.out]; exact HBU.out.1 (by trivial))
  clear HB HNO hba hst hus hS hS1 hS2 hb1 hb2 hb3 hRd hW x0 x1 x2 x3 x4 x5 x6 x7 x8 x9 x10 x11 x12 x13 x14 z0 z1 z2 z3 z4 z5 z6 z7 z8 z9 z10 z11 z12 z13 z14 zr
  have HB := Lib.hid hB
  clear hB k1 k2 k3 k4
  obtain rfl : k = 8 := by simpa using q8
  have ht : (text.toList.isEmpty = true ∧ (text.toList == ([] : List UInt8)) = true ∧ text = ⟨#[]⟩) ∨ (text.toList.isEmpty = false ∧ (text.toList == ([] : List UInt8)) = false ∧ text ≠ ⟨#[]⟩) := by
    by_cases h0 : text.size = 0
    · left
      rw [size_zero h0, Go.ByteArray.toList_eq]
      exact ⟨rfl, rfl, rfl⟩
    · right
      have h := nonempty_list h0
      exact ⟨h, by cases hl : text.toList with | nil => rw [hl] at h; cases h | cons a l => rfl, fun e => h0 (by rw [e]; rfl)⟩
  rcases (by simp; omega : (decide (n ≥ 0) = false ∧ decide (0 ≤ n) = false) ∨ (decide (n ≥ 0) = true ∧ decide (0 ≤ n) = true ∧ decide (n ≤ 6) = false) ∨ (decide (n ≥ 0) = true ∧ decide (0 ≤ n) = true ∧ decide (n ≤ 6) = true)) with ⟨h1, h2⟩ | ⟨h1, h2, h3⟩ | ⟨h1, h2, h3⟩
  · clear ht
    go_wp2
    go_returns
    exact ⟨⟨_, rfl, by rw [HB.out]; simp at h2 ⊢; omega⟩, hS3.below⟩
  · clear ht
    go_wp2
    go_returns
    exact ⟨⟨_, rfl, by rw [HB.out]; simp at h2 h3 ⊢; omega⟩, hS3.below⟩
  · rcases ht with ⟨t1, t2, t3⟩ | ⟨t1, t2, t3⟩
    all_goals
      have HT3 := Lib.hid t3
      clear t3
      go_wp2
      go_returns
    · exact ⟨⟨_, rfl, by rw [HB.out]; have := HT3.out; simp [this]⟩, hS3.below⟩
    · exact ⟨⟨_, rfl, by rw [HB.out]; have := HT3.out; simp at h2 h3; simp [this, h2, h3]⟩, hS3.below⟩
end Go.Proofs.Ytkcclefonmnpnaa

/- THE CODE's right. -/
namespace Go.Proofs.Ytkcclefonmnpnaa
open Go.RowKit Go.BigFrame

theorem right_any (i : Ins) (nm : ByteArray) (ps R Fr : Int) (C : Option Addr) (L cap : Nat) (w : World) (hR0 : 0 ≤ R) :
    Calls Try.prog 80 #[i.agg, funcAgg nm ps R Fr C L cap] w fun e w' => Tru (Ok i R Fr L) e ∧ Below w.heap.size w w' := by
  obtain ⟨k, op, dst, a, b, n, text, r0, r1, r2, r3, r4, r5, to_, els⟩ := i
  by_cases hk : 1 ≤ k ∧ k ≤ 13
  · by_cases hm : Ins.mk k op dst a b n text r0 r1 r2 r3 r4 r5 to_ els = Ins.mask ⟨k, op, dst, a, b, n, text, r0, r1, r2, r3, r4, r5, to_, els⟩
    · cases hs : kS k
      · exact right_n k op dst a b n text r0 r1 r2 r3 r4 r5 to_ els nm ps R Fr C L cap w hk hm hs
      · cases hd : inR dst R
        · by_cases hc : k = 8 ∧ dst = -1
          · exact right_c k op dst a b n text r0 r1 r2 r3 r4 r5 to_ els nm ps R Fr C L cap w hk hm hs hc hR0
          · exact right_dst k op dst a b n text r0 r1 r2 r3 r4 r5 to_ els nm ps R Fr C L cap w hk hm hs hd hc
        · exact right_y k op dst a b n text r0 r1 r2 r3 r4 r5 to_ els nm ps R Fr C L cap w hk hm hs hd
    · exact right_nomask k op dst a b n text r0 r1 r2 r3 r4 r5 to_ els nm ps R Fr C L cap w hk hm
  · exact right_bad k op dst a b n text r0 r1 r2 r3 r4 r5 to_ els nm ps R Fr C L cap w (by omega)
end Go.Proofs.Ytkcclefonmnpnaa

/- THE CODE's RightFunc. -/
namespace Go.Proofs.Ytkcclefonmnpnaa
open Go.RowKit Go.BigFrame

set_option maxRecDepth 1000000 in
set_option maxHeartbeats 8000000 in
theorem RightFunc_any (f : Fn7) (C : Option Addr) (cap : Nat) (w : World) (hC : RdI w C f.code) : Calls Try.prog 48 #[funcAgg f.nm f.ps f.R f.Fr C f.code.length cap] w fun e w' => Tru (OkF f) e ∧ Below w.heap.size w w' := by
  obtain ⟨nm, ps, R, Fr, l⟩ := f
  obtain ⟨L, hL⟩ : ∃ L, l.length = L := ⟨_, rfl⟩
  simp only at hC ⊢
  rw [hL]
  have HL := Lib.hid hL
  clear hL
  have hB := Below.one w (funcObj nm ps R Fr C L cap)
  have bx := heap_alloc_new w (funcObj nm ps R Fr C L cap)
  simp only [funcObj, funcAgg] at hB bx ⊢
  by_cases hn : nm.size = 0
  · have HT := Lib.hid (Tru.no (fun h : OkF ⟨nm, ps, R, Fr, l⟩ => h.nm hn))
    have n0 : nm.toList.isEmpty = true := by rw [size_zero hn, Go.ByteArray.toList_eq]; rfl
    have n1 : (nm.toList == ([] : List UInt8)) = true := by rw [size_zero hn, Go.ByteArray.toList_eq]; rfl
    clear hn
    go_enter Try.func48, Try.ntmps48
    go_wp2
    go_returns
    exact ⟨HT.out, hB⟩
  have HN := Lib.hid hn
  have n0 : nm.toList.isEmpty = false := name_some hn
  have n1 : (nm.toList == ([] : List UInt8)) = false := by
    have h := name_some hn
    cases hl : nm.toList with
    | nil => rw [hl] at h; cases h
    | cons a l => rfl
  clear hn
  by_cases hc : 0 ≤ ps ∧ ps ≤ 6 ∧ ps ≤ R ∧ R ≤ 4096 ∧ 0 ≤ Fr ∧ Fr ≤ 4096 ∧ 1 ≤ L ∧ L ≤ 8192
  case neg =>
    have HT := Lib.hid (Tru.no (fun h : OkF ⟨nm, ps, R, Fr, l⟩ => by
      have h1 := h.ps; have h2 := h.R; have h3 := h.Fr; have h4 := h.len
      simp only at h1 h2 h3 h4
      rw [HL.out] at h4
      omega))
    have hd : (decide (ps < 0) = true) ∨ (decide (ps < 0) = false ∧ decide (ps > 6) = true ∧ decide (6 < ps) = true) ∨ (decide (ps < 0) = false ∧ decide (ps > 6) = false ∧ decide (6 < ps) = false ∧ decide (R < ps) = true) ∨ (decide (ps < 0) = false ∧ decide (ps > 6) = false ∧ decide (6 < ps) = false ∧ decide (R < ps) = false ∧ decide (R > 4096) = true ∧ decide (4096 < R) = true) ∨ (decide (ps < 0) = false ∧ decide (ps > 6) = false ∧ decide (6 < ps) = false ∧ decide (R < ps) = false ∧ decide (R > 4096) = false ∧ decide (4096 < R) = false ∧ decide (Fr < 0) = true) ∨ (decide (ps < 0) = false ∧ decide (ps > 6) = false ∧ decide (6 < ps) = false ∧ decide (R < ps) = false ∧ decide (R > 4096) = false ∧ decide (4096 < R) = false ∧ decide (Fr < 0) = false ∧ decide (Fr > 4096) = true ∧ decide (4096 < Fr) = true) ∨ (decide (ps < 0) = false ∧ decide (ps > 6) = false ∧ decide (6 < ps) = false ∧ decide (R < ps) = false ∧ decide (R > 4096) = false ∧ decide (4096 < R) = false ∧ decide (Fr < 0) = false ∧ decide (Fr > 4096) = false ∧ decide (4096 < Fr) = false ∧ decide ((L : Int) < 1) = true ∧ decide (L < 1) = true) ∨ (decide (ps < 0) = false ∧ decide (ps > 6) = false ∧ decide (6 < ps) = false ∧ decide (R < ps) = false ∧ decide (R > 4096) = false ∧ decide (4096 < R) = false ∧ decide (Fr < 0) = false ∧ decide (Fr > 4096) = false ∧ decide (4096 < Fr) = false ∧ decide ((L : Int) < 1) = false ∧ decide (L < 1) = false ∧ decide ((L : Int) > 8192) = true ∧ decide (8192 < L) = true ∧ decide (L > 8192) = true) := by simp; omega
    clear hc
    rcases hd with c0 | ⟨c0, c1, c2⟩ | ⟨c0, c1, c2, c3⟩ | ⟨c0, c1, c2, c3, c4, c5⟩ | ⟨c0, c1, c2, c3, c4, c5, c6⟩ | ⟨c0, c1, c2, c3, c4, c5, c6, c7, c8⟩ | ⟨c0, c1, c2, c3, c4, c5, c6, c7, c8, c9, c10⟩ | ⟨c0, c1, c2, c3, c4, c5, c6, c7, c8, c9, c10, c11, c12, c13⟩
    all_goals
      go_enter Try.func48, Try.ntmps48
      go_wp2
      go_returns
      exact ⟨HT.out, hB⟩
  have k0 : decide (ps < 0) = false := by simp; omega
  have k1 : decide (ps > 6) = false := by simp; omega
  have k2 : decide (6 < ps) = false := by simp; omega
  have k3 : decide (R < ps) = false := by simp; omega
  have k4 : decide (R > 4096) = false := by simp; omega
  have k5 : decide (4096 < R) = false := by simp; omega
  have k6 : decide (Fr < 0) = false := by simp; omega
  have k7 : decide (Fr > 4096) = false := by simp; omega
  have k8 : decide (4096 < Fr) = false := by simp; omega
  have k9 : decide ((L : Int) < 1) = false := by simp; omega
  have k10 : decide (L < 1) = false := by simp; omega
  have k11 : decide ((L : Int) > 8192) = false := by simp; omega
  have k12 : decide (8192 < L) = false := by simp; omega
  have k13 : decide (L > 8192) = false := by simp; omega
  have hR0 : 0 ≤ R := by omega
  have hL8 : L ≤ 8192 := by omega
  obtain ⟨M, hM⟩ : ∃ M, L = M + 1 := ⟨L - 1, by omega⟩
  have HM := Lib.hid hM
  clear hM
  have HC := Lib.hid hc
  clear hc
  obtain ⟨W, hW⟩ : ∃ W, w.alloc (.cells #[.string nm, .int .i64 ps, .int .i64 R, .int .i64 Fr, .slice C L cap] 24) = W := ⟨_, rfl⟩
  have g0 := cell_of_heap bx 0 (.string nm) rfl
  have g1 := cell_of_heap bx 1 (.int .i64 ps) rfl
  have g2 := cell_of_heap bx 2 (.int .i64 R) rfl
  have g3 := cell_of_heap bx 3 (.int .i64 Fr) rfl
  have g4 := cell_of_heap bx 4 (.slice C L cap) rfl
  rw [hW] at bx hB g0 g1 g2 g3 g4
  go_enter Try.func48, Try.ntmps48
  go_wp2
  clear hW
  go_loopw [55] (fun ix w8 => ∃ m : Nat, m ≤ L ∧ ix = .int .i64 m ∧ Below W.heap.size W w8 ∧ ∀ (j : Nat) i, j < m → l[j]? = some i → Ok i R Fr L) (fun ix _ => L - (intOf ix).toNat)
  case atStart => exact ⟨0, by omega, rfl, Below.refl _ _, fun j i hj => by omega⟩
  case round =>
    obtain ⟨m, hm, rfl, hb, hno⟩ := hrel
    have hBw := hB.trans (hb.mono hB.size)
    have bxr := (hb.block _ (Array.getElem?_eq_some_iff.1 bx).1).trans bx
    have y0 := cell_of_heap bxr 0 (.string nm) rfl
    have y1 := cell_of_heap bxr 1 (.int .i64 ps) rfl
    have y2 := cell_of_heap bxr 2 (.int .i64 R) rfl
    have y3 := cell_of_heap bxr 3 (.int .i64 Fr) rfl
    have y4 := cell_of_heap bxr 4 (.slice C L cap) rfl
    by_cases hlt : m < L
    · have hi : l[m]? = some (l[m]'(by rw [HL.out]; exact hlt)) := by simp
      generalize l[m]'(by rw [HL.out]; exact hlt) = i at hi
      obtain ⟨b, o, rfl, _, hcs⟩ := (hC.below hBw) m i hi
      obtain ⟨x0, x1, x2, x3, x4, x5, x6, x7, x8, x9, x10, x11, x12, x13, x14⟩ := RdI.load hcs
      have hr := fun (s : World) => right_any i nm ps R Fr (some ⟨b, o, none⟩) L cap s hR0
      obtain ⟨k, op, dst, a, b', n, text, r0, r1, r2, r3, r4, r5, to_, els⟩ := i
      simp only at x0 x1 x2 x3 x4 x5 x6 x7 x8 x9 x10 x11 x12 x13 x14
      simp only [Ins.agg, funcAgg] at hr
      clear hcs
      have hv : ∀ s : World, Calls Try.prog 80 #[.agg #[.int .i64 k, .int .i64 op, .int .i64 dst, .int .i64 a, .int .i64 b', .int .i64 n, .string text, .int .i64 r0, .int .i64 r1, .int .i64 r2, .int .i64 r3, .int .i64 r4, .int .i64 r5, .int .i64 to_, .int .i64 els], .agg #[.string nm, .int .i64 ps, .int .i64 R, .int .i64 Fr, .slice (some ⟨b, o, none⟩) L cap]] s fun e w' => e = .returned (.bool (tb (Ok ⟨k, op, dst, a, b', n, text, r0, r1, r2, r3, r4, r5, to_, els⟩ R Fr L))) ∧ Below s.heap.size s w' := fun s => (hr s).mono fun e w' h => ⟨h.1.val, h.2⟩
      have HO := Lib.hid (⟨(tb_true (p := Ok ⟨k, op, dst, a, b', n, text, r0, r1, r2, r3, r4, r5, to_, els⟩ R Fr L)).1, (tb_false (p := Ok ⟨k, op, dst, a, b', n, text, r0, r1, r2, r3, r4, r5, to_, els⟩ R Fr L)).1⟩ : (tb (Ok ⟨k, op, dst, a, b', n, text, r0, r1, r2, r3, r4, r5, to_, els⟩ R Fr L) = true → Ok ⟨k, op, dst, a, b', n, text, r0, r1, r2, r3, r4, r5, to_, els⟩ R Fr L) ∧ (tb (Ok ⟨k, op, dst, a, b', n, text, r0, r1, r2, r3, r4, r5, to_, els⟩ R Fr L) = false → ¬ Ok ⟨k, op, dst, a, b', n, text, r0, r1, r2, r3, r4, r5, to_, els⟩ R Fr L))
      generalize tb (Ok ⟨k, op, dst, a, b', n, text, r0, r1, r2, r3, r4, r5, to_, els⟩ R Fr L) = bb at *
      have hlb : b < wr.heap.size := World.block_lt_of_cell? wr ⟨b, _, none⟩ x0
      have hlf : w.heap.size < wr.heap.size := World.block_lt_of_cell? wr ⟨w.heap.size, _, none⟩ y0
      have hbox := Below.one wr (Ins.obj ⟨k, op, dst, a, b', n, text, r0, r1, r2, r3, r4, r5, to_, els⟩)
      simp only [Ins.obj] at hbox
      have hv1 := hv (wr.alloc (.cells #[.int .i64 k, .int .i64 op, .int .i64 dst, .int .i64 a, .int .i64 b', .int .i64 n, .string text, .int .i64 r0, .int .i64 r1, .int .i64 r2, .int .i64 r3, .int .i64 r4, .int .i64 r5, .int .i64 to_, .int .i64 els] 32))
      clear hv
      cases bb
      all_goals
        go_wp2_with (first
          | (go_at_call 80; refine hv1.mono ?_; rintro e w3 ⟨rfl, hbr⟩; have hb3 := hb.trans ((hbox.trans (hbr.mono hbox.size)).mono hb.size)))
      · go_returns
        exact ⟨Tru.no (fun h : OkF ⟨nm, ps, R, Fr, l⟩ => HO.out.2 (by trivial) (by have := h.ok _ (List.mem_of_getElem? hi); simp only at this; rw [HL.out] at this; exact this)), hB.trans (hb3.mono hB.size)⟩
      · exact ⟨⟨m + 1, by omega, by simp, hb3, fun j i' hj hi' => by
          by_cases hjm : j = m
          · subst hjm
            rw [hi] at hi'
            injection hi' with hi'
            subst hi'
            exact HO.out.1 (by trivial)
          · exact hno j i' (by omega) hi'⟩, by simp [intOf]; omega⟩
    · have hall : ∀ i ∈ l, Ok i R Fr L := fun i hi => by
        obtain ⟨j, hj⟩ := List.mem_iff_getElem?.1 hi
        exact hno j i (by have h1 := (List.getElem?_eq_some_iff.1 hj).1; rw [HL.out] at h1; omega) hj
      have HA := Lib.hid hall
      have hmL : m = L := by omega
      subst hmL
      have hM := HM.out
      have hla : l[M]? = some (l[M]'(by rw [HL.out]; omega)) := by simp
      generalize l[M]'(by rw [HL.out]; omega) = i at hla
      obtain ⟨b, o, rfl, _, hcs⟩ := (hC.below hBw) M i hla
      have xk := (RdI.load hcs).1
      rw [show M = m - 1 by omega] at xk
      have qM : M < m := by omega
      have HLA := Lib.hid hla
      clear hcs hla hno hall hlt
      have hfin : ∀ bb : Bool, bb = decide (11 ≤ i.kind) → Tru (OkF ⟨nm, ps, R, Fr, l⟩) (.returned (.bool bb)) := fun bb hbb => ⟨bb, rfl, by
        rw [hbb, decide_eq_true_eq]
        have hc := HC.out
        have hl := HL.out
        constructor
        · intro h11
          exact ⟨HN.out, ⟨hc.1, hc.2.1⟩, ⟨hc.2.2.1, hc.2.2.2.1⟩, ⟨hc.2.2.2.2.1, hc.2.2.2.2.2.1⟩, by simp only; omega, fun i hi => by simp only at hi ⊢; rw [hl]; exact HA.out i hi, fun i' hi' => by
            simp only at hi'
            rw [hl, show m - 1 = M by omega, HLA.out] at hi'
            injection hi' with hi'
            rw [← hi']
            exact h11⟩
        · intro h
          refine h.last i ?_
          simp only
          rw [hl, show m - 1 = M by omega]
          exact HLA.out⟩
      generalize i.kind = kk at *
      cases h11 : decide (11 ≤ kk)
      · have q11 : decide (kk ≥ 11) = false := h11
        have HF := Lib.hid (hfin false h11.symm)
        clear hfin hM
        go_wp2
        go_returns
        exact ⟨HF.out, hBw⟩
      · have q11 : decide (kk ≥ 11) = true := h11
        have HF := Lib.hid (hfin true h11.symm)
        clear hfin hM
        go_wp2
        go_returns
        exact ⟨HF.out, hBw⟩
end Go.Proofs.Ytkcclefonmnpnaa

/- The laws' Small and few: may a function be gone through? -/
namespace Go.Proofs.Ytkcclefonmnpnaa
open Go.RowKit Go.BigFrame

def Sm (f : Fn7) : Prop := f.nm.size ≤ 50 ∧ f.code.length ≤ 60 ∧ ¬ (40 < f.R ∧ f.R ≤ 4096) ∧ ∀ i ∈ f.code, i.text.size ≤ 50
theorem Tru.yes {p : Prop} (h : p) : Tru p (.returned (.bool true)) := ⟨true, rfl, by simp [h]⟩
set_option maxRecDepth 1000000 in
set_option maxHeartbeats 8000000 in
theorem Small_any (f : Fn7) (C : Option Addr) (cap : Nat) (hl9 : f.code.length ≤ 9223372036854775807) (w : World) (hC : RdI w C f.code) : Calls Try.prog 38 #[funcAgg f.nm f.ps f.R f.Fr C f.code.length cap] w fun e w' => Tru (Sm f) e ∧ Below w.heap.size w w' := by
  obtain ⟨nm, ps, R, Fr, l⟩ := f
  obtain ⟨L, hL⟩ : ∃ L, l.length = L := ⟨_, rfl⟩
  simp only at hC hl9 ⊢
  rw [hL] at hl9 ⊢
  have HL := Lib.hid hL
  clear hL
  have hB := Below.one w (funcObj nm ps R Fr C L cap)
  have bx := heap_alloc_new w (funcObj nm ps R Fr C L cap)
  simp only [funcObj, funcAgg] at hB bx ⊢
  by_cases hc : nm.size ≤ 50 ∧ L ≤ 60 ∧ ¬ (40 < R ∧ R ≤ 4096)
  case neg =>
    have HT := Lib.hid (Tru.no (fun h : Sm ⟨nm, ps, R, Fr, l⟩ => by
      obtain ⟨h1, h2, h3, _⟩ := h
      simp only at h1 h2 h3
      rw [HL.out] at h2
      exact hc ⟨h1, h2, h3⟩))
    have hd : (decide ((nm.size : Int) > 50) = true ∧ decide (50 < nm.size) = true) ∨ (decide ((nm.size : Int) > 50) = false ∧ decide (50 < nm.size) = false ∧ decide ((L : Int) > 60) = true ∧ decide (60 < L) = true) ∨ (decide ((nm.size : Int) > 50) = false ∧ decide (50 < nm.size) = false ∧ decide ((L : Int) > 60) = false ∧ decide (60 < L) = false ∧ decide (R > 40) = true ∧ decide (40 < R) = true ∧ decide (R ≤ 4096) = true) := by
      simp; omega
    clear hc
    rcases hd with ⟨c0, c1⟩ | ⟨c0, c1, c2, c3⟩ | ⟨c0, c1, c2, c3, c4, c5, c6⟩
    all_goals
      go_enter Try.func38, Try.ntmps38
      go_wp2
      go_returns
      exact ⟨HT.out, hB⟩
  have k0 : decide ((nm.size : Int) > 50) = false := by simp; omega
  have k1 : decide (50 < nm.size) = false := by simp; omega
  have k2 : decide ((L : Int) > 60) = false := by simp; omega
  have k3 : decide (60 < L) = false := by simp; omega
  have hL60 : L ≤ 60 := by omega
  have HCC := Lib.hid hc
  have hd : (decide (R > 40) = false ∧ decide (40 < R) = false) ∨ (decide (R > 40) = true ∧ decide (40 < R) = true ∧ decide (R ≤ 4096) = false) := by simp; omega
  clear hc
  obtain ⟨W, hW⟩ : ∃ W, w.alloc (.cells #[.string nm, .int .i64 ps, .int .i64 R, .int .i64 Fr, .slice C L cap] 24) = W := ⟨_, rfl⟩
  have g0 := cell_of_heap bx 0 (.string nm) rfl
  have g1 := cell_of_heap bx 1 (.int .i64 ps) rfl
  have g2 := cell_of_heap bx 2 (.int .i64 R) rfl
  have g4 := cell_of_heap bx 4 (.slice C L cap) rfl
  rw [hW] at bx hB g0 g1 g2 g4
  rcases hd with ⟨c4, c5⟩ | ⟨c4, c5, c6⟩
  all_goals
    go_enter Try.func38, Try.ntmps38
    go_wp2
    clear hW
    go_loopw [28] (fun ix w8 => ∃ m : Nat, m ≤ L ∧ ix = .int .i64 m ∧ Below W.heap.size W w8 ∧ ∀ (j : Nat) (i : Ins), j < m → l[j]? = some i → i.text.size ≤ 50) (fun ix _ => L - (intOf ix).toNat)
    case atStart => exact ⟨0, by omega, rfl, Below.refl _ _, fun j i hj => by omega⟩
    case round =>
      obtain ⟨m, hm, rfl, hb, hno⟩ := hrel
      have hBw := hB.trans (hb.mono hB.size)
      by_cases hlt : m < L
      · have hi : l[m]? = some (l[m]'(by rw [HL.out]; exact hlt)) := by simp
        generalize l[m]'(by rw [HL.out]; exact hlt) = i at hi
        obtain ⟨b, o, rfl, _, hcs⟩ := (hC.below hBw) m i hi
        obtain ⟨x0, x1, x2, x3, x4, x5, x6, x7, x8, x9, x10, x11, x12, x13, x14⟩ := RdI.load hcs
        obtain ⟨k, op, dst, a, b', n, text, r0, r1, r2, r3, r4, r5, to_, els⟩ := i
        simp only at x0 x1 x2 x3 x4 x5 x6 x7 x8 x9 x10 x11 x12 x13 x14
        clear hcs
        have hlb : b < wr.heap.size := World.block_lt_of_cell? wr ⟨b, _, none⟩ x0
        have hbox := hb.alloc hb.size (Ins.obj ⟨k, op, dst, a, b', n, text, r0, r1, r2, r3, r4, r5, to_, els⟩)
        simp only [Ins.obj] at hbox
        have hno2 := Lib.hid hno
        clear hno
        by_cases ht : text.size ≤ 50
        · have t0 : decide ((text.size : Int) > 50) = false := by simp; omega
          have t1 : decide (50 < text.size) = false := by simp; omega
          have HTX := Lib.hid ht
          clear ht
          go_wp2
          exact ⟨⟨m + 1, by omega, by simp, hbox, fun j i' hj hi' => by
            by_cases hjm : j = m
            · subst hjm
              rw [hi] at hi'
              injection hi' with hi'
              subst hi'
              exact HTX.out
            · exact hno2.out j i' (by omega) hi'⟩, by simp [intOf]; omega⟩
        · have t0 : decide ((text.size : Int) > 50) = true := by simp; omega
          have t1 : decide (50 < text.size) = true := by simp; omega
          have HTX := Lib.hid ht
          clear ht
          go_wp2
          go_returns
          exact ⟨Tru.no (fun h : Sm ⟨nm, ps, R, Fr, l⟩ => HTX.out (h.2.2.2 _ (List.mem_of_getElem? hi))), hB.trans (hbox.mono hB.size)⟩
      · have HS : Hid (Sm ⟨nm, ps, R, Fr, l⟩) := Lib.hid ⟨HCC.out.1, by simp only; rw [HL.out]; exact HCC.out.2.1, HCC.out.2.2, fun i hi => by
          obtain ⟨j, hj⟩ := List.mem_iff_getElem?.1 hi
          exact hno j i (by have h1 := (List.getElem?_eq_some_iff.1 hj).1; simp only at h1; rw [HL.out] at h1; omega) hj⟩
        clear hno
        go_wp2
        go_returns
        exact ⟨Tru.yes HS.out, hBw⟩
def Few (f : Fn7) : Prop := Sm f ∧ f.code.length ≤ 25
end Go.Proofs.Ytkcclefonmnpnaa
