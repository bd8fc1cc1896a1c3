import Derived.Test.YtaofdbboalcceaaChecked
import Derived.WalkLawsBesides
import Derived.WalkSpells
import Derived.Outline
import Derived.Laws.Rows
import Derived.Laws.EntriesVeiled
import Derived.Lib.Hide
import Derived.Handy
import Derived.OwnWalk
import Derived.Maps.AppendAt
import Derived.Deep.QuietTactic
import Derived.BigQuiet
import Derived.Laws.AppendOwnNone
/- INSTRUCTIONS, AS LISTS OF CELLS; WHAT THEY READ AND SET (plain). -/
namespace Go.Proofs.Ytaofdbboalcceaa
open Go.RowKit Go.BigFrame

structure Ins where
  kind : Int
  op : Int
  dst : Int
  a : Int
  b : Int
  n : Int
  text : ByteArray
  r0 : Int
  r1 : Int
  r2 : Int
  r3 : Int
  r4 : Int
  r5 : Int
  to_ : Int
  els : Int
abbrev Ins.l (i : Ins) : List Value := [.int .i64 i.kind, .int .i64 i.op, .int .i64 i.dst, .int .i64 i.a, .int .i64 i.b, .int .i64 i.n, .string i.text, .int .i64 i.r0, .int .i64 i.r1, .int .i64 i.r2, .int .i64 i.r3, .int .i64 i.r4, .int .i64 i.r5, .int .i64 i.to_, .int .i64 i.els]
abbrev Ins.agg (i : Ins) : Value := .agg #[.int .i64 i.kind, .int .i64 i.op, .int .i64 i.dst, .int .i64 i.a, .int .i64 i.b, .int .i64 i.n, .string i.text, .int .i64 i.r0, .int .i64 i.r1, .int .i64 i.r2, .int .i64 i.r3, .int .i64 i.r4, .int .i64 i.r5, .int .i64 i.to_, .int .i64 i.els]
def Ins.args (i : Ins) : List Int := [i.r0, i.r1, i.r2, i.r3, i.r4, i.r5]
instance : DecidableEq Ins := fun x y => decidable_of_iff (x.kind = y.kind ∧ x.op = y.op ∧ x.dst = y.dst ∧ x.a = y.a ∧ x.b = y.b ∧ x.n = y.n ∧ x.text = y.text ∧ x.r0 = y.r0 ∧ x.r1 = y.r1 ∧ x.r2 = y.r2 ∧ x.r3 = y.r3 ∧ x.r4 = y.r4 ∧ x.r5 = y.r5 ∧ x.to_ = y.to_ ∧ x.els = y.els)
  ⟨fun h => by cases x; cases y; simp_all, fun h => by subst h; simp⟩
/-- kinds that read A; that read B; that set a register -/
def kA (k : Int) : Bool := decide (k = 2) || decide (k = 3) || decide (k = 4) || decide (k = 6) || decide (k = 7) || decide (k = 10) || decide (k = 12) || decide (k = 13)
def kB (k : Int) : Bool := decide (k = 3) || decide (k = 7)
def kS (k : Int) : Bool := (decide (1 ≤ k) && decide (k ≤ 6)) || decide (k = 8) || decide (k = 9)
def Ins.uses (i : Ins) : List Int := (if kA i.kind then [i.a] else []) ++ ((if kB i.kind then [i.b] else []) ++ (if i.kind = 8 then i.args.take i.n.toNat else []))
def Ins.sets (i : Ins) : Int := if kS i.kind then i.dst else -1
def Ins.next (i : Ins) (p : Int) : List Int := if i.kind = 11 then [i.to_] else if i.kind = 12 then [i.to_, i.els] else if i.kind = 13 then [] else [p + 1]
/-- what an instruction of its kind may have; the rest is 0, or -1 -/
def Ins.mask (i : Ins) : Ins :=
  { kind := i.kind, op := if i.kind = 2 ∨ i.kind = 3 then i.op else 0, dst := if kS i.kind then i.dst else -1, a := if kA i.kind then i.a else 0, b := if kB i.kind then i.b else 0,
    n := if i.kind = 1 ∨ i.kind = 5 ∨ i.kind = 8 then i.n else 0, text := if i.kind = 8 then i.text else ⟨#[]⟩,
    r0 := if i.kind = 8 ∧ 0 < i.n then i.r0 else 0, r1 := if i.kind = 8 ∧ 1 < i.n then i.r1 else 0, r2 := if i.kind = 8 ∧ 2 < i.n then i.r2 else 0,
    r3 := if i.kind = 8 ∧ 3 < i.n then i.r3 else 0, r4 := if i.kind = 8 ∧ 4 < i.n then i.r4 else 0, r5 := if i.kind = 8 ∧ 5 < i.n then i.r5 else 0,
    to_ := if i.kind = 11 ∨ i.kind = 12 then i.to_ else 0, els := if i.kind = 12 then i.els else -1 }
/-- may an instruction be, in a function of R registers, a frame of Fr words and L instructions? -/
structure Ok (i : Ins) (R Fr : Int) (L : Nat) : Prop where
  kind : 1 ≤ i.kind ∧ i.kind ≤ 13
  uses : ∀ r ∈ i.uses, 0 ≤ r ∧ r < R
  dst : kS i.kind = true → (0 ≤ i.dst ∧ i.dst < R) ∨ (i.kind = 8 ∧ i.dst = -1 ∧ i.dst < R)
  word : i.kind = 1 → -2147483648 ≤ i.n ∧ i.n ≤ 2147483647
  fr : i.kind = 5 → 0 ≤ i.n ∧ i.n ≤ Fr
  call : i.kind = 8 → 0 ≤ i.n ∧ i.n ≤ 6 ∧ i.text ≠ ⟨#[]⟩
  one : i.kind = 2 → 20 ≤ i.op ∧ i.op ≤ 23
  two : i.kind = 3 → 1 ≤ i.op ∧ i.op ≤ 19
  to_ : i.kind = 11 ∨ i.kind = 12 → 0 ≤ i.to_ ∧ i.to_ < L
  els : i.kind = 12 → 0 ≤ i.els ∧ i.els < L
  mask : i = i.mask
theorem cell_of_heap {w : World} {p : Nat} {cs : Array Value} {t : TypeId} {fz : Nat × Nat} (h : w.heap[p]? = some (.cells cs t fz)) (j : Nat) (v : Value) (hj : cs[j]? = some v) : w.cell? ⟨p, j, none⟩ = some v := by
  simp [World.cell?, h, hj]
theorem alloc_keeps {w : World} {p : Nat} {o : Obj} (h : w.heap[p]? = some o) (o' : Obj) : (w.alloc o').heap[p]? = some o := by
  rw [Below.heap_alloc _ _ _ (Array.getElem?_eq_some_iff.1 h).1]
  exact h
theorem bytes_same {a b : ByteArray} (h : (a.toList == b.toList) = true) : a = b := by
  rw [Go.ByteArray.toList_eq, Go.ByteArray.toList_eq] at h
  have h1 := eq_of_beq h
  cases a
  cases b
  simp at h1
  rw [h1]
theorem bytes_other {a b : ByteArray} (h : (a.toList == b.toList) = false) : a ≠ b := by
  rintro rfl
  simp at h
theorem bytes_beq (a b : ByteArray) : (a.toList == b.toList) = decide (a = b) := by
  by_cases h : a = b
  · subst h; simp
  · cases hh : (a.toList == b.toList)
    · simp [h]
    · exact absurd (bytes_same hh) h
theorem heap_setCell {w : World} {p j : Nat} {cs : Array Value} {t : TypeId} {fz : Nat × Nat} (h : w.heap[p]? = some (.cells cs t fz)) (v : Value) : (w.setCell ⟨p, j, none⟩ v).heap[p]? = some (.cells (cs.setIfInBounds j v) t fz) := by
  simp [World.setCell, Array.getElem?_modify, h]
theorem free_of_heap {w : World} {p : Nat} {cs : Array Value} {t : TypeId} (h : w.heap[p]? = some (.cells cs t (0, 0))) (j : Nat) : w.frozen? ⟨p, j, none⟩ = false := by simp [World.frozen?, h]
theorem size_zero {s : ByteArray} (h : s.size = 0) : s = ⟨#[]⟩ := by
  cases s with
  | mk d =>
    have : d.size = 0 := h
    rw [Array.eq_empty_of_size_eq_zero this]
theorem Below.one (w : World) (o : Obj) : Below w.heap.size w (w.alloc o) := (Below.refl _ _).alloc (Nat.le_refl _) _
/-- a list of numbers of the call's own -/
def OwnN (w : World) (V : Value) (l : List Int) : Prop := w.ownsRow 0 3 1 V l.length (l.map (.int .i64))
theorem OwnN.nil (w : World) : OwnN w (.slice none 0 0) [] := World.ownsRow_nil w 0 3 1
theorem OwnN.alloc {w : World} {V : Value} {l : List Int} (h : OwnN w V l) (o : Obj) : OwnN (w.alloc o) V l := World.ownsRow.alloc h o
/-- the slice (A, length of l) reads as the numbers l, wherever it begins -/
def RdN (w : World) (A : Option Addr) (l : List Int) : Prop := ∀ (j : Nat) n, l[j]? = some n → ∃ b o, A = some ⟨b, o, none⟩ ∧ b < w.heap.size ∧ w.cell? ⟨b, o + j, none⟩ = some (.int .i64 n)
theorem RdN.below {w w' : World} {A : Option Addr} {l : List Int} (h : RdN w A l) (hb : Below w.heap.size w w') : RdN w' A l := fun j n hn => by
  obtain ⟨b, o, e1, e2, e3⟩ := h j n hn
  exact ⟨b, o, e1, Nat.lt_of_lt_of_le e2 hb.size, (hb.cell (p := ⟨b, _, none⟩) e2).trans e3⟩
/-- a slice of numbers is told, that reads so -/
def SlN (l : List Int) (e : Ending) (w : World) : Prop := ∃ A cap, e = .returned (.slice A l.length cap) ∧ RdN w A l
theorem OwnN.form {w : World} {V : Value} {l : List Int} (h : OwnN w V l) : ∃ A cap, V = .slice A l.length cap ∧ (∀ b, V.ownBlock = some b → b < w.heap.size) ∧ RdN w A l := by
  have h0 := h
  obtain ⟨h1, h2⟩ := h
  rcases h2 with ⟨rfl, hn⟩ | ⟨g, cap, cur, rfl, hB, hg, hnc, _, hsz, htake⟩
  · refine ⟨none, 0, by rw [hn], fun b hb => by simp [Value.ownBlock] at hb, fun j n hj => ?_⟩
    have := (List.getElem?_eq_some_iff.1 hj).1
    omega
  · have hlt := (Array.getElem?_eq_some_iff.1 hg).1
    refine ⟨_, _, rfl, fun b hb => by simp [Value.ownBlock] at hb; omega, fun j n hj => ⟨g, 0, rfl, hlt, ?_⟩⟩
    have hjl := (List.getElem?_eq_some_iff.1 hj).1
    have := World.ownsRow.cellAt h0 j (by omega)
    rw [Nat.zero_add, this, List.getElem?_map, hj]
    rfl
theorem info_n : (Try.prog.info? 3).map (fun i => (i.zero, i.size, i.bytes)) = some (some (.int .i64 0), 1, 8) := by kernel_rfl
set_option maxRecDepth 1000000 in
/-- append of numbers that are read onto a list of the call's own -/
theorem run_append_n (w : World) (ty : TypeId) (V : Value) (k : List Int) (hown : OwnN w V k) (A : Option Addr) (l : List Int) (cap : Nat) (hR : RdN w A l) (hl : 0 < l.length) (hn : k.length + l.length ≤ 100000) :
    ∃ V' w', (Builtin.append_ #[42, 42] ty #[V, .slice A l.length cap]).run Try.prog w = .ok V' w' ∧ OwnN w' V' (k ++ l) ∧ w.grownBy w' V.ownBlock ∧ (V'.ownBlock = V.ownBlock ∨ V'.ownBlock = some w.heap.size) := by
  obtain ⟨i0, hi, hz0, hz1, hz2⟩ := info_parts info_n
  obtain ⟨b, o, rfl, hlt, _⟩ := hR 0 (l[0]'hl) (by simp)
  obtain ⟨V', w', hr, h1, h2, _, h4⟩ := run_append_own_at (P := Try.prog) w 0 42 ty 3 i0 (.int .i64 0) 1 8 (by kernel_rfl) hi hz0 hz1 hz2 rfl (by decide) V k.length (k.map (.int .i64)) hown ⟨b, o, none⟩ l.length cap (l.map (.int .i64)) (by simp)
    (fun j u hu => by
      rw [List.getElem?_map] at hu
      cases hj : l[j]? with
      | none => rw [hj] at hu; cases hu
      | some n =>
        rw [hj] at hu
        injection hu with hu
        subst hu
        have hadd : (⟨b, o, none⟩ : Addr).add j = ⟨b, o + j, none⟩ := by
          unfold Addr.add; split
          · rename_i h0; rw [h0, Nat.add_zero]
          · rfl
        rw [hadd]
        obtain ⟨b', o', e1, _, c0⟩ := hR j n hj
        injection e1 with e1
        injection e1 with e1 e2
        subst e1 e2
        exact c0) (fun u hu => by
          obtain ⟨n, _, rfl⟩ := List.mem_map.1 hu
          rfl) (by simp only [maxLen]; omega) (by omega) (Nat.zero_le _)
  exact ⟨V', w', hr, by unfold OwnN; rw [List.length_append, List.map_append]; exact h1, h2, h4⟩
theorem append_ran {P : Program} {ops : Array Oper} {rest : List Oper} {o : Oper} {a : Act} {w w' : World} {Q : Exit → Act → World → Prop} {t : TypeId} {vs vx V : Value} (hgd : o.guard = none) (s x : Operand)
    (ho : o.op = .call { callee := .builtin .append, args := #[s, x], argTypes := #[t, t] }) (hs : a.eval s = vs) (hx : a.eval x = vx) (hr : (Builtin.append_ #[t, t] o.type #[vs, vx]).run P w = .ok V w')
    (h : wpList P ops Q rest (a.put o.dst V) w') : wpList P ops Q (o :: rest) a w := by
  refine wpList_plain hgd fun K' hK' => ?_
  unfold Oper.wp execOp
  simp only [ho, resolve, invoke, builtin, Sem.run_bind, Sem.run_pure, Result.andThen_ok, List.map_toArray, List.map_cons, List.map_nil, hs, hx, hr]
  exact hK' _ _ h
/-- append of one number that was just built -/
theorem append_one {ops : Array Oper} {rest : List Oper} {o : Oper} {a : Act} {w : World} {Q : Exit → Act → World → Prop} (hgd : o.guard = none) (s x : Operand)
    (ho : o.op = .call { callee := .builtin .append, args := #[s, x], argTypes := #[42, 42] }) (V : Value) (k : List Int) (hs : a.eval s = V) (hown : OwnN w V k)
    (g : Nat) (y : Int) (hx : a.eval x = .slice (some ⟨g, 0, none⟩) 1 1) (hg : w.heap[g]? = some (.cells #[.int .i64 y] 3 (0, 0))) (hn : k.length ≤ 90000)
    (h : ∀ V' w', OwnN w' V' (k ++ [y]) → w.grownBy w' V.ownBlock → (V'.ownBlock = V.ownBlock ∨ V'.ownBlock = some w.heap.size) → wpList Try.prog ops Q rest (a.put o.dst V') w') :
    wpList Try.prog ops Q (o :: rest) a w := by
  obtain ⟨V', w', hr, h1, h2, h3⟩ := run_append_n w o.type V k hown (some ⟨g, 0, none⟩) [y] 1 (fun j n hj => by
    cases j with
    | succ j => simp at hj
    | zero =>
      simp at hj
      subst hj
      exact ⟨g, 0, rfl, (Array.getElem?_eq_some_iff.1 hg).1, cell_of_heap hg 0 _ rfl⟩) (by simp) (by simp; omega)
  exact append_ran hgd s x ho hs hx hr (h V' w' h1 h2 h3)
end Go.Proofs.Ytaofdbboalcceaa
