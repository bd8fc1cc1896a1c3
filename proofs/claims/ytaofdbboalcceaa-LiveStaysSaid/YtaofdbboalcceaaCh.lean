import Derived.Test.YtaofdbboalcceaaCda
import Derived.Test.YtaofdbboalcceaaCdb
import Derived.Test.YtaofdbboalcceaaCdc
import Derived.Test.YtaofdbboalcceaaCdd
import Derived.Test.YtaofdbboalcceaaCde
import Derived.Test.YtaofdbboalcceaaCdf
import Derived.Test.YtaofdbboalcceaaCdg
/- THE DOCUMENT's right and RightFunc. -/
namespace Go.Proofs.Ytaofdbboalcceaa
open Go.RowKit Go.BigFrame

set_option maxRecDepth 1000000 in
set_option maxHeartbeats 4000000 in
/-- the document's right, of any instruction -/
theorem refright_any (i : Ins) (nm : ByteArray) (ps R Fr : Int) (C : Option Addr) (L cap : Nat) (w : World) :
    Calls Try.prog 53 #[i.agg, funcAgg nm ps R Fr C L cap] w fun e w' => Tru (Ok i R Fr L) e ∧ Below w.heap.size w w' := by
  obtain ⟨k, op, dst, a, b, n, text, r0, r1, r2, r3, r4, r5, to_, els⟩ := i
  rcases kind_cases k with rfl | rfl | rfl | rfl | rfl | rfl | rfl | rfl | rfl | rfl | rfl | rfl | rfl | hk
  · exact refright_1 op dst a b n text r0 r1 r2 r3 r4 r5 to_ els nm ps R Fr C L cap w
  · exact refright_2 op dst a b n text r0 r1 r2 r3 r4 r5 to_ els nm ps R Fr C L cap w
  · exact refright_3 op dst a b n text r0 r1 r2 r3 r4 r5 to_ els nm ps R Fr C L cap w
  · exact refright_4 op dst a b n text r0 r1 r2 r3 r4 r5 to_ els nm ps R Fr C L cap w
  · exact refright_5 op dst a b n text r0 r1 r2 r3 r4 r5 to_ els nm ps R Fr C L cap w
  · exact refright_6 op dst a b n text r0 r1 r2 r3 r4 r5 to_ els nm ps R Fr C L cap w
  · exact refright_7 op dst a b n text r0 r1 r2 r3 r4 r5 to_ els nm ps R Fr C L cap w
  · by_cases hx : (dst < 0 ∧ dst ≠ -1) ∨ R ≤ dst
    · exact refright_8a op dst a b n text r0 r1 r2 r3 r4 r5 to_ els nm ps R Fr C L cap w hx
    · by_cases eN : 0 ≤ n ∧ n ≤ 6 ∧ text.size ≠ 0
      · by_cases hm1 : dst = -1
        · exact refright_8m op dst a b n text r0 r1 r2 r3 r4 r5 to_ els nm ps R Fr C L cap w hx eN hm1
        · exact refright_8p op dst a b n text r0 r1 r2 r3 r4 r5 to_ els nm ps R Fr C L cap w hx eN hm1
      · exact refright_8n op dst a b n text r0 r1 r2 r3 r4 r5 to_ els nm ps R Fr C L cap w hx eN
  · exact refright_9 op dst a b n text r0 r1 r2 r3 r4 r5 to_ els nm ps R Fr C L cap w
  · exact refright_10 op dst a b n text r0 r1 r2 r3 r4 r5 to_ els nm ps R Fr C L cap w
  · exact refright_11 op dst a b n text r0 r1 r2 r3 r4 r5 to_ els nm ps R Fr C L cap w
  · exact refright_12 op dst a b n text r0 r1 r2 r3 r4 r5 to_ els nm ps R Fr C L cap w
  · exact refright_13 op dst a b n text r0 r1 r2 r3 r4 r5 to_ els nm ps R Fr C L cap w
  · have hno : ¬ Ok ⟨k, op, dst, a, b, n, text, r0, r1, r2, r3, r4, r5, to_, els⟩ R Fr L := fun h => by have := h.kind; simp only at this; omega
    have hT := Tru.no hno
    have hB3 := (Below.one w (Ins.obj ⟨k, op, dst, a, b, n, text, r0, r1, r2, r3, r4, r5, to_, els⟩)).alloc (by simp) (funcObj nm ps R Fr C L cap)
    simp only [Ins.obj, funcObj, Ins.agg, funcAgg] at hB3 ⊢
    have HT := Lib.hid hT
    clear hT hno
    have hc : (decide (k < 1) = true) ∨ (decide (k < 1) = false ∧ decide (k > 13) = true ∧ decide (13 < k) = true) := by simp; omega
    rcases hc with q1 | ⟨q1, q2, q3⟩
    all_goals
      clear hk
      go_enter Try.func53, Try.ntmps53
      go_wp2
      go_returns
      exact ⟨HT.out, hB3⟩
/-- the slice (A, length of l) reads as the instructions l, wherever it begins -/
def RdI (w : World) (A : Option Addr) (l : List Ins) : Prop := ∀ (j : Nat) i, l[j]? = some i → ∃ b o, A = some ⟨b, o, none⟩ ∧ b < w.heap.size ∧ ∀ k, k < 15 → w.cell? ⟨b, o + (j * 15 + k), none⟩ = i.l[k]?
theorem RdI.below {w w' : World} {A : Option Addr} {l : List Ins} (h : RdI w A l) (hb : Below w.heap.size w w') : RdI w' A l := fun j i hi => by
  obtain ⟨b, o, e1, e2, e3⟩ := h j i hi
  exact ⟨b, o, e1, Nat.lt_of_lt_of_le e2 hb.size, fun k hk => (hb.cell (p := ⟨b, _, none⟩) e2).trans (e3 k hk)⟩
/-- a load of an instruction that is read in a slice -/
theorem RdI.load {w : World} {b o : Nat} {i : Ins} {j : Nat} (h : ∀ k, k < 15 → w.cell? ⟨b, o + (j * 15 + k), none⟩ = i.l[k]?) : w.cell? ⟨b, o + j * 15, none⟩ = some (.int .i64 i.kind) ∧ w.cell? ⟨b, o + j * 15 + 1, none⟩ = some (.int .i64 i.op) ∧ w.cell? ⟨b, o + j * 15 + 2, none⟩ = some (.int .i64 i.dst) ∧ w.cell? ⟨b, o + j * 15 + 3, none⟩ = some (.int .i64 i.a) ∧ w.cell? ⟨b, o + j * 15 + 4, none⟩ = some (.int .i64 i.b) ∧
    w.cell? ⟨b, o + j * 15 + 5, none⟩ = some (.int .i64 i.n) ∧ w.cell? ⟨b, o + j * 15 + 6, none⟩ = some (.string i.text) ∧ w.cell? ⟨b, o + j * 15 + 7, none⟩ = some (.int .i64 i.r0) ∧ w.cell? ⟨b, o + j * 15 + 8, none⟩ = some (.int .i64 i.r1) ∧ w.cell? ⟨b, o + j * 15 + 9, none⟩ = some (.int .i64 i.r2) ∧ w.cell? ⟨b, o + j * 15 + 10, none⟩ = some (.int .i64 i.r3) ∧
    w.cell? ⟨b, o + j * 15 + 11, none⟩ = some (.int .i64 i.r4) ∧ w.cell? ⟨b, o + j * 15 + 12, none⟩ = some (.int .i64 i.r5) ∧ w.cell? ⟨b, o + j * 15 + 13, none⟩ = some (.int .i64 i.to_) ∧ w.cell? ⟨b, o + j * 15 + 14, none⟩ = some (.int .i64 i.els) :=
  ⟨h 0 (by omega), h 1 (by omega), h 2 (by omega), h 3 (by omega), h 4 (by omega), h 5 (by omega), h 6 (by omega), h 7 (by omega), h 8 (by omega), h 9 (by omega), h 10 (by omega), h 11 (by omega), h 12 (by omega), h 13 (by omega), h 14 (by omega)⟩
/-- a function of the unit, as its fields are; may it be? -/
structure Fn7 where
  nm : ByteArray
  ps : Int
  R : Int
  Fr : Int
  code : List Ins
structure OkF (f : Fn7) : Prop where
  nm : f.nm.size ≠ 0
  ps : 0 ≤ f.ps ∧ f.ps ≤ 6
  R : f.ps ≤ f.R ∧ f.R ≤ 4096
  Fr : 0 ≤ f.Fr ∧ f.Fr ≤ 4096
  len : 1 ≤ f.code.length ∧ f.code.length ≤ 8192
  ok : ∀ i ∈ f.code, Ok i f.R f.Fr f.code.length
  last : ∀ i, f.code[f.code.length - 1]? = some i → 11 ≤ i.kind
end Go.Proofs.Ytaofdbboalcceaa
