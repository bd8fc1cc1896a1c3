import Derived.Test.YtgdbkoncaojmoaaDn
import Derived.Test.YtgdbkoncaojmoaaCw
/- graph.Loop: memory. -/
namespace Go.Proofs.Ytgdbkoncaojmoaa
open Go.RowKit Go.BigFrame

theorem append_queue {ops : Array Oper} {rest : List Oper} {o : Oper} {a : Act} {w : World} {Q : Exit → Act → World → Prop} (hgd : o.guard = none) (s x : Operand)
    (ho : o.op = .call { callee := .builtin .append, args := #[s, x], argTypes := #[31, 31] }) (V : Value) (k : List Int) (hs : a.eval s = V) (hown : OwnQ w V k)
    (A : Option Addr) (l : List Int) (cap : Nat) (hx : a.eval x = .slice A l.length cap) (hR : RdN w A l) (hl : 0 < l.length) (hl2 : l.length ≤ 90000) (hn : k.length + l.length ≤ 90000000)
    (h : ∀ V' w', OwnQ w' V' (k ++ l) → w.grownBy w' V.ownBlock → (V'.ownBlock = V.ownBlock ∨ V'.ownBlock = some w.heap.size) → wpList Try.prog ops Q rest (a.put o.dst V') w') :
    wpList Try.prog ops Q (o :: rest) a w := by
  obtain ⟨V', w', hr, h1, h2, h3⟩ := run_append_q w o.type V k hown A l cap hR hl hl2 hn
  exact append_ran hgd s x ho hs hx hr (h V' w' h1 h2 h3)
theorem wpList_insert_map {P : Program} {k : TypeId} {κ : Type} [DecidableEq κ] {kv : κ → Value} (K : KeyV P k kv) (w : World) {ops : Array Oper} {rest : List Oper} {o : Oper} {a : Act} {Q : Exit → Act → World → Prop} (hg : o.guard = none) (m x v : Operand) (t : TypeId) (hop : o.op = Op.insert t m x v) {e : TypeId} (ht : P.underlying t = some (.map k e)) (b : Nat) (g : κ → Option Value) (hm : a.eval m = .map (some b)) (h : MapK kv w b g) (s : κ) (u : Value) (hx : a.eval x = kv s) (hv : a.eval v = u)
    (hK : ∀ w', MapK kv w' b (updK g s (some u)) → w.grownBy w' (some b) → w'.heap.size = w.heap.size → wpList P ops Q rest (a.put o.dst undef) w') : wpList P ops Q (o :: rest) a w := by
  refine wpList_plain hg fun K' hK' => ?_
  obtain ⟨w', hrun, r1, r2, r3⟩ := h.update K ht s u
  unfold Oper.wp
  simp [execOp, hop, hm, hx, hv, hrun, Result.andThen]
  exact hK' _ _ (hK w' r1 r2 r3)
def cntV (cnt : Nat → Nat) (x : Int) : Option Value := if 0 ≤ x ∧ 0 < cnt x.toNat then some (.int .i64 (cnt x.toNat : Int)) else none
theorem cntV_at (cnt : Nat → Nat) (n : Nat) : (cntV cnt (n : Int)).getD (.int .i64 0) = .int .i64 (cnt n : Int) := by
  unfold cntV
  rw [Int.toNat_natCast]
  by_cases h : 0 < cnt n
  · rw [if_pos ⟨by omega, h⟩]; rfl
  · rw [if_neg (fun g => h g.2)]
    have : cnt n = 0 := by omega
    rw [this]; rfl
theorem cntV_bump (cnt : Nat → Nat) (n : Nat) : updK (cntV cnt) (n : Int) (some (.int .i64 ((cnt n : Int) + 1))) = cntV (bump cnt n) := by
  funext x
  unfold updK cntV bump
  by_cases e : x = (n : Int)
  · subst e
    rw [if_pos rfl, Int.toNat_natCast, if_pos rfl, if_pos ⟨by omega, by omega⟩]
    congr 2
  · rw [if_neg e]
    by_cases h0 : 0 ≤ x
    · rw [if_neg (show ¬ x.toNat = n by omega)]
    · rw [if_neg (fun g => h0 g.1), if_neg (fun g => h0 g.1)]
theorem cntV_one (h : Nat) : updK (fun _ : Int => (none : Option Value)) (h : Int) (some (.int .i64 1)) = cntV (oneAt h) := by
  funext x
  unfold updK cntV oneAt
  by_cases e : x = (h : Int)
  · subst e
    rw [if_pos rfl, Int.toNat_natCast, if_pos rfl, if_pos ⟨by omega, by omega⟩]
    rfl
  · rw [if_neg e]
    by_cases h0 : 0 ≤ x
    · rw [if_neg (show ¬ x.toNat = h by omega), if_neg (by omega)]
    · rw [if_neg (fun g => h0 g.1)]
/-- which blocks stay: below e0, and from S1 to S2 -/
def Stay (e0 S1 S2 b : Nat) : Prop := b < e0 ∨ (S1 ≤ b ∧ b < S2)
abbrev asI (l : List Nat) : List Int := l.map fun n : Nat => (n : Int)
structure LpM (we w0 wr : World) (e0 S1 S2 mb : Nat) (V V9 : Value) (T Vs : List Nat) (cnt : Nat → Nat) : Prop where
  q : OwnQ wr V (asI T)
  o : OwnN wr V9 (asI Vs)
  m : MapK kI wr mb (cntV cnt)
  qb : ∀ b, V.ownBlock = some b → ¬ Stay e0 S1 S2 b ∧ b ≠ mb
  ob : ∀ b, V9.ownBlock = some b → ¬ Stay e0 S1 S2 b ∧ b ≠ mb ∧ V.ownBlock ≠ some b
  mb : ¬ Stay e0 S1 S2 mb
  bel : Below e0 we wr
  st : ∀ b, Stay e0 S1 S2 b → wr.heap[b]? = w0.heap[b]?
  sz : S2 ≤ wr.heap.size ∧ e0 ≤ S1 ∧ S1 ≤ S2
theorem Stay.not {e0 S1 S2 b : Nat} (h : ¬ Stay e0 S1 S2 b) : e0 ≤ b := by
  unfold Stay at h
  omega
theorem OwnN.lt3 {w : World} {V : Value} {l : List Int} (h : OwnN w V l) : ∀ b, V.ownBlock = some b → b < w.heap.size := fun b hb => (World.ownsRow.lt h b hb).2
theorem LpM.pop {we w0 wr : World} {e0 S1 S2 mb g o c : Nat} {V9 : Value} {t : Nat} {T Vs : List Nat} {cnt : Nat → Nat} {n : Nat} (h : LpM we w0 wr e0 S1 S2 mb (.slice (some ⟨g, o, none⟩) n c) V9 (t :: T) Vs cnt) {A : Option Addr} {m c' : Nat} (hq : OwnQ wr (.slice A m c') (asI T)) (hA : A = some ⟨g, o, none⟩ ∨ A = some ⟨g, o + 1, none⟩) : LpM we w0 wr e0 S1 S2 mb (.slice A m c') V9 T Vs cnt := by
  have e : (Value.slice A m c').ownBlock = some g := by rcases hA with rfl | rfl <;> rfl
  exact ⟨hq, h.o, h.m, fun b hb => h.qb b (by rw [e] at hb; exact hb), fun b hb => ⟨(h.ob b hb).1, (h.ob b hb).2.1, by rw [e]; exact (h.ob b hb).2.2⟩, h.mb, h.bel, h.st, h.sz⟩
theorem LpM.count {we w0 wr w' : World} {e0 S1 S2 mb : Nat} {V V9 : Value} {T Vs : List Nat} {cnt : Nat → Nat} {n : Nat} (h : LpM we w0 wr e0 S1 S2 mb V V9 T Vs cnt) (hm : MapK kI w' mb (cntV (bump cnt n))) (hg : wr.grownBy w' (some mb)) : LpM we w0 w' e0 S1 S2 mb V V9 T Vs (bump cnt n) := by
  have hml := h.m.lt
  refine ⟨h.q.keepS fun b hb => hg.block b (h.q.lt b hb) (fun e => (h.qb b hb).2 (by injection e)), h.o.keepS fun b hb => hg.block b (h.o.lt3 b hb) (fun e => (h.ob b hb).2.1 (by injection e)), hm, h.qb, h.ob, h.mb, Below.grown h.bel hg (by have := h.sz; omega) (fun k hk => by injection hk with hk; have := Stay.not h.mb; omega), fun b hb => ?_, by have := h.sz; have := hg.size; omega⟩
  have hbl : b < wr.heap.size := by have := h.sz; have := Stay.not h.mb; unfold Stay at hb; omega
  exact (hg.block b hbl (fun e => h.mb (by injection e with e; subst e; exact hb))).trans (h.st b hb)
theorem LpM.out {we w0 wr w' : World} {e0 S1 S2 mb : Nat} {V V9 V' : Value} {T Vs : List Nat} {cnt : Nat → Nat} {n : Nat} {o : Obj} (h : LpM we w0 wr e0 S1 S2 mb V V9 T Vs cnt) (ho : OwnN w' V' (asI Vs ++ [(n : Int)])) (hg : (wr.alloc o).grownBy w' V9.ownBlock) (hv : V'.ownBlock = V9.ownBlock ∨ V'.ownBlock = some (wr.alloc o).heap.size) : LpM we w0 w' e0 S1 S2 mb V V' T (Vs ++ [n]) cnt := by
  have hv' : V'.ownBlock = V9.ownBlock ∨ V'.ownBlock = some (wr.heap.size + 1) := by simpa using hv
  obtain ⟨s1, s2, s3⟩ := h.sz
  have hml := h.m.lt
  have hkeep : ∀ b, b < wr.heap.size → V9.ownBlock ≠ some b → w'.heap[b]? = wr.heap[b]? := fun b hb hne => (hg.block b (by simp; omega) (fun e => hne e.symm)).trans (heap_alloc_old wr o hb)
  have hgs := hg.size
  simp only [World.size_alloc] at hgs
  refine ⟨h.q.keepS fun b hb => hkeep b (h.q.lt b hb) (fun e => (h.ob b e).2.2 hb), by unfold asI; rw [List.map_append]; exact ho, h.m.of_block (hkeep mb hml (fun e => (h.ob mb e).2.1 rfl)), h.qb, fun b hb => ?_, h.mb, Below.grown (h.bel.alloc (by omega) o) hg (by simp; omega) (fun k hk => Stay.not (h.ob k hk).1), fun b hb => ?_, by omega⟩
  · rcases hv' with e | e
    · rw [e] at hb; exact h.ob b hb
    · rw [e] at hb; injection hb with hb; subst hb
      refine ⟨fun hs => by unfold Stay at hs; omega, by omega, fun e2 => by have := h.q.lt _ e2; omega⟩
  · have hbl : b < wr.heap.size := by unfold Stay at hb; omega
    exact (hkeep b hbl (fun e => (h.ob b e).1 hb)).trans (h.st b hb)
theorem LpM.more {we w0 wr w' : World} {e0 S1 S2 mb : Nat} {V V9 V' : Value} {T Vs L : List Nat} {cnt : Nat → Nat} (h : LpM we w0 wr e0 S1 S2 mb V V9 T Vs cnt) (ho : OwnQ w' V' (asI T ++ asI L)) (hg : wr.grownBy w' V.ownBlock) (hv : V'.ownBlock = V.ownBlock ∨ V'.ownBlock = some wr.heap.size) : LpM we w0 w' e0 S1 S2 mb V' V9 (T ++ L) Vs cnt := by
  obtain ⟨s1, s2, s3⟩ := h.sz
  have hml := h.m.lt
  have hgs := hg.size
  refine ⟨by unfold asI; rw [List.map_append]; exact ho, h.o.keepS fun b hb => hg.block b (h.o.lt3 b hb) (fun e => (h.ob b hb).2.2 e.symm), h.m.of_block (hg.block mb hml (fun e => (h.qb mb e.symm).2 rfl)), fun b hb => ?_, fun b hb => ⟨(h.ob b hb).1, (h.ob b hb).2.1, ?_⟩, h.mb, Below.grown h.bel hg (by omega) (fun k hk => Stay.not (h.qb k hk).1), fun b hb => ?_, by omega⟩
  · rcases hv with e | e
    · rw [e] at hb; exact h.qb b hb
    · rw [e] at hb; injection hb with hb; subst hb
      exact ⟨fun hs => by unfold Stay at hs; omega, by omega⟩
  · rcases hv with e | e
    · rw [e]; exact (h.ob b hb).2.2
    · rw [e]; intro e2; injection e2 with e2; have := h.o.lt3 b hb; omega
  · have hbl : b < wr.heap.size := by unfold Stay at hb; omega
    exact (hg.block b hbl (fun e => (h.qb b e.symm).1 hb)).trans (h.st b hb)
theorem RdN.keepS2 {w0 wr : World} {A : Option Addr} {l : List Int} {P : Nat → Prop} (h : RdN w0 A l) (hk : ∀ b, P b → wr.heap[b]? = w0.heap[b]?) (hA : ∀ b o, A = some ⟨b, o, none⟩ → b < w0.heap.size → P b) : RdN wr A l := fun j n hn => by
  obtain ⟨b, o, e1, e2, e3⟩ := h j n hn
  have hb := hk b (hA b o e1 e2)
  refine ⟨b, o, e1, ?_, (World.cell?_of_block (a := ⟨b, o + j, none⟩) hb).trans e3⟩
  have h1 : w0.heap[b]? = some w0.heap[b] := Array.getElem?_eq_getElem e2
  rw [← hb] at h1
  exact (Array.getElem?_eq_some_iff.1 h1).1
/-- who is searched has one ahead -/
theorem InL.pre {E : Nat → Nat → Prop} {h n : Nat} (hh : R0 E h) (hl : InL E h n) (hne : n ≠ h) : ∃ p, E p n := by
  have hd := hl.dom hh
  cases hd.1 with
  | zero => exact absurd hd.at0.symm hne
  | step _ he => exact ⟨_, he⟩
end Go.Proofs.Ytgdbkoncaojmoaa
