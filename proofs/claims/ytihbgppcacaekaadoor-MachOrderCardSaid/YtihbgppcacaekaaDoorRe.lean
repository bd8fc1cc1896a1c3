import Derived.Test.YtihbgppcacaekaaDoorRb
import Derived.Test.YtihbgppcacaekaaDoorQl
/- WHAT IS READ (plain): an object. Lines appended, in memory. -/
namespace Go.Proofs.YtihbgppcacaekaaDoor
open Go.RowKit Go.BigFrame

def objectB : ByteArray := ⟨#[111, 98, 106, 101, 99, 116]⟩
def lnD (x : ByteArray) : Ln := (lineF x).getD Ln.zero
/-- how many lines are right, from the first -/
def goodN : List ByteArray → Nat
  | [] => 0
  | x :: t => if (lineF x).isSome then goodN t + 1 else 0
def headW (l0 : ByteArray) : Option (ByteArray × Int × Int) := match spB 32 l0 with
  | [a, b, c, d] => if objectB = a ∧ namedL b.data.toList = true ∧ (numF c).2 = true ∧ (numF d).2 = true then some (b, (numF c).1, (numF d).1) else none
  | _ => none
/-- what is read of a text's lines: the object, the line that was told, the error -/
def readL (l : List ByteArray) : Ob × Int × Int :=
  if l.length < 2 ∨ l.getLast? ≠ some ⟨#[]⟩ then (Ob.zero, l.length, 11)
  else match headW (l.headD ⟨#[]⟩) with
  | none => (Ob.zero, 1, 11)
  | some h =>
    if goodN l.dropLast.tail < l.dropLast.tail.length then (Ob.zero, goodN l.dropLast.tail + 2, 11)
    else if rightO ⟨h.1, h.2.1, h.2.2, l.dropLast.tail.map lnD⟩ then (⟨h.1, h.2.1, h.2.2, l.dropLast.tail.map lnD⟩, 0, 0) else (Ob.zero, l.length, 11)
def readF (s : ByteArray) : Ob × Int × Int := readL (spB 10 s)
theorem goodN_le : ∀ l : List ByteArray, goodN l ≤ l.length
  | [] => Nat.le_refl _
  | x :: t => by
    unfold goodN
    have := goodN_le t
    split <;> simp <;> omega
theorem goodN_is : ∀ (l : List ByteArray) (k : Nat), (∀ j x, j < k → l[j]? = some x → (lineF x).isSome = true) → (∀ x, l[k]? = some x → (lineF x).isSome = false) → k ≤ l.length → goodN l = k
  | [], k, _, _, hk => by simp at hk; subst hk; rfl
  | y :: t, 0, _, h2, _ => by
    unfold goodN
    rw [h2 y rfl]
    rfl
  | y :: t, k + 1, h1, h2, hk => by
    unfold goodN
    rw [h1 0 y (by omega) rfl, goodN_is t k (fun j x hj hx => h1 (j + 1) x (by omega) (by simpa using hx)) (fun x hx => h2 x (by simpa using hx)) (by simpa using hk)]
    rfl

theorem readL_short {l : List ByteArray} (h : l.length < 2) : readL l = (Ob.zero, ((l.length : Nat) : Int), 11) := by
  unfold readL
  rw [if_pos (Or.inl h)]
theorem readL_last (h z : ByteArray) (xs : List ByteArray) (hz : z ≠ ⟨#[]⟩) : readL (h :: (xs ++ [z])) = (Ob.zero, ((xs.length + 2 : Nat) : Int), 11) := by
  unfold readL
  rw [if_pos (Or.inr (by
    rw [← List.cons_append, List.getLast?_concat]
    simpa using hz))]
  simp
  omega
theorem readL_head (h : ByteArray) (xs : List ByteArray) (hh : headW h = none) : readL (h :: (xs ++ [⟨#[]⟩])) = (Ob.zero, 1, 11) := by
  unfold readL
  rw [if_neg (by
    rintro (h1 | h1)
    · simp at h1
      omega
    · rw [← List.cons_append, List.getLast?_concat] at h1
      exact h1 rfl)]
  simp only [List.headD_cons, hh]
theorem readL_body (h : ByteArray) (xs : List ByteArray) (q : ByteArray × Int × Int) (hh : headW h = some q) : readL (h :: (xs ++ [⟨#[]⟩])) =
    if goodN xs < xs.length then (Ob.zero, ((goodN xs : Nat) : Int) + 2, 11) else if rightO ⟨q.1, q.2.1, q.2.2, xs.map lnD⟩ then (⟨q.1, q.2.1, q.2.2, xs.map lnD⟩, 0, 0) else (Ob.zero, ((xs.length + 2 : Nat) : Int), 11) := by
  unfold readL
  rw [if_neg (by
    rintro (h1 | h1)
    · simp at h1
      omega
    · rw [← List.cons_append, List.getLast?_concat] at h1
      exact h1 rfl)]
  have e : (h :: (xs ++ [(⟨#[]⟩ : ByteArray)])).dropLast.tail = xs := by
    rw [← List.cons_append, List.dropLast_concat]
    rfl
  simp only [List.headD_cons, hh, e]
  have e2 : (h :: (xs ++ [(⟨#[]⟩ : ByteArray)])).length = xs.length + 2 := by simp
  rw [e2]
theorem headW_4 {h a b c d : ByteArray} (e : spB 32 h = [a, b, c, d]) : headW h = if objectB = a ∧ namedL b.data.toList = true ∧ (numF c).2 = true ∧ (numF d).2 = true then some (b, (numF c).1, (numF d).1) else none := by
  unfold headW
  rw [e]
theorem headW_n {h : ByteArray} (e : (spB 32 h).length ≠ 4) : headW h = none := by
  unfold headW
  split
  · rename_i he
    rw [he] at e
    exact absurd rfl e
  · rfl
/-! lines in memory -/
theorem flatL_len (v : List Ln) : (v.flatMap Ln.l).length = v.length * 6 := by
  induction v with
  | nil => rfl
  | cons x t ih => rw [List.flatMap_cons, List.length_append, ih]; simp; omega
theorem flatL_get : ∀ (v : List Ln) (j k : Nat), k < 6 → (v.flatMap Ln.l)[j * 6 + k]? = (v[j]?).bind fun x => (Ln.l x)[k]?
  | [], j, k, _ => by simp
  | x :: t, 0, k, hk => by
    rw [List.flatMap_cons, List.getElem?_append_left (by simp; omega)]
    simp
  | x :: t, j + 1, k, hk => by
    rw [List.flatMap_cons, List.getElem?_append_right (by simp; omega), show (j + 1) * 6 + k - (Ln.l x).length = j * 6 + k by simp; omega, flatL_get t j k hk]
    simp
theorem flatL_one (v : List Ln) : ∀ u ∈ v.flatMap Ln.l, u.oneCell' = true := fun u hu => by
  obtain ⟨x, _, hx⟩ := List.mem_flatMap.1 hu
  simp at hx
  rcases hx with rfl | rfl | rfl | rfl | rfl | rfl <;> rfl
/-- lines that are being gathered -/
def OwnL (w : World) (base : Nat) (V : Value) (l : List Ln) : Prop := w.ownsRow base 36 6 V l.length (l.flatMap Ln.l)
theorem OwnL.read {w : World} {base : Nat} {V : Value} {l : List Ln} (h : OwnL w base V l) : ∃ A cap, V = .slice A l.length cap ∧ RdL w A l := by
  have h0 := h
  obtain ⟨h1, h2⟩ := h
  rcases h2 with ⟨rfl, hn⟩ | ⟨g, cap, cur, rfl, hB, hg, hnc, _, hsz, htake⟩
  · refine ⟨none, 0, by rw [hn], fun j n hj => ?_⟩
    have := (List.getElem?_eq_some_iff.1 hj).1
    omega
  · have hlt := (Array.getElem?_eq_some_iff.1 hg).1
    refine ⟨_, _, rfl, fun j n hj => ⟨g, 0, rfl, hlt, fun k hk => ?_⟩⟩
    have hjl := (List.getElem?_eq_some_iff.1 hj).1
    have := World.ownsRow.cellAt h0 (j * 6 + k) (by omega)
    rw [Nat.zero_add, this, flatL_get l j k hk, hj]
    rfl
theorem info_ln : (Tryd.prog.info? 36).map (fun i => (i.zero, i.size, i.bytes)) = some (some (.agg #[.int .i64 0, .int .i64 0, .int .i64 0, .int .i64 0, .int .i64 0, .string ⟨#[]⟩]), 6, 56) := by kernel_rfl
/-- append of one line that was just built, in a statement's own order -/
theorem wpList_append_ln {ops : Array Oper} {rest : List Oper} {o : Oper} {a : Act} {w : World} {Q : Exit → Act → World → Prop} (hgd : o.guard = none) (s x : Operand)
    (ho : o.op = .call { callee := .builtin .append, args := #[s, x], argTypes := #[37, 37] }) (base : Nat) (V : Value) (k : List Ln) (hs : a.eval s = V) (hown : OwnL w base V k)
    (g : Nat) (y : Ln) (hx : a.eval x = .slice (some ⟨g, 0, none⟩) 1 1) (hg : w.heap[g]? = some y.obj) (hn : k.length ≤ 1000000) (hb : base ≤ w.heap.size)
    (h : ∀ V' w', OwnL w' base V' (k ++ [y]) → w.grownBy w' V.ownBlock → wpList Tryd.prog ops Q rest (a.put o.dst V') w') :
    wpList Tryd.prog ops Q (o :: rest) a w := by
  refine wpList_plain hgd fun K hK => ?_
  obtain ⟨i0, hi, hz0, hz1, hz2⟩ := info_parts info_ln
  obtain ⟨V', w', hr, h1, h2, _, h4⟩ := run_append_own_at (P := Tryd.prog) w base 37 o.type 36 i0 (.agg #[.int .i64 0, .int .i64 0, .int .i64 0, .int .i64 0, .int .i64 0, .string ⟨#[]⟩]) 6 56 (by kernel_rfl) hi hz0 hz1 hz2 rfl (by decide) V k.length (k.flatMap Ln.l) hown ⟨g, 0, none⟩ 1 1 (Ln.l y) (by rfl)
    (fun j u hu => by
      have hadd : (⟨g, 0, none⟩ : Addr).add j = ⟨g, j, none⟩ := by
        unfold Addr.add; split
        · rename_i h0; rw [h0]
        · simp
      rw [hadd]
      exact cell_of_heap hg j u (by simpa using hu)) (fun u hu => flatL_one [y] u (by simpa using hu)) (by simp only [maxLen]; omega) (by omega) hb
  have hfl : (k ++ [y]).flatMap Ln.l = k.flatMap Ln.l ++ Ln.l y := by simp
  unfold Oper.wp execOp
  simp only [ho, resolve, invoke, builtin, Sem.run_bind, Sem.run_pure, Result.andThen_ok, List.map_toArray, List.map_cons, List.map_nil, hs, hx, hr]
  refine hK _ _ (h V' w' ?_ h2)
  unfold OwnL
  rw [List.length_append, hfl]
  exact h1
theorem OwnL.later {w w' : World} {base : Nat} {V : Value} {l : List Ln} (h : OwnL w base V l) (hb : Below w.heap.size w w') : OwnL w' base V l := ownsRow_later h hb
theorem OwnL.nil (w : World) (base : Nat) : OwnL w base (.slice none 0 0) [] := World.ownsRow_nil w base 36 6
/-- the object that is being gathered: its box, and its lines' own memory; what lies below base is as before -/
structure RdS (W w : World) (o : Ob) (V : Value) (pb : Nat) (base : Nat) : Prop where
  b : Below W.heap.size W w
  box : w.heap[pb]? = some (.cells #[.string o.name, .int .i64 o.slots, .int .i64 o.frame, V] 39 (0, 0))
  own : OwnL w base V o.lines
  lo : W.heap.size ≤ pb
  hi : pb < w.heap.size
theorem RdS.later {W w w' : World} {o : Ob} {V : Value} {pb base : Nat} (h : RdS W w o V pb base) (hb : Below w.heap.size w w') : RdS W w' o V pb base :=
  ⟨h.b.trans (hb.mono h.b.size), keepB hb h.box, h.own.later hb, h.lo, Nat.lt_of_lt_of_le h.hi hb.size⟩
theorem RdS.push {W w w' : World} {o : Ob} {V V' : Value} {pb base : Nat} (h : RdS W w o V pb base) (hbase : W.heap.size ≤ base) (y : Ln) (hg : w.grownBy w' V.ownBlock) (ho : OwnL w' base V' (o.lines ++ [y])) :
    RdS W (w'.setCell ⟨pb, 3, none⟩ V') { o with lines := o.lines ++ [y] } V' pb base := by
  have hob : ∀ g, V.ownBlock = some g → base ≤ g := by
    intro g hgo
    obtain ⟨_, h2⟩ := h.own
    rcases h2 with ⟨rfl, hn⟩ | ⟨g', cap, cur, rfl, hB, hg', _⟩
    · simp [Value.ownBlock] at hgo
    · simp [Value.ownBlock] at hgo
      omega
  have hbx : w'.heap[pb]? = w.heap[pb]? := hg.block pb h.hi (Ne.symm (own_ne h.own h.box (by decide)))
  have hb2 : Below W.heap.size W w' := h.b.grown hg h.b.size fun k hk => Nat.le_trans hbase (hob k hk)
  refine ⟨hb2.setCell (p := ⟨pb, 3, none⟩) h.lo V', ?_, ?_, h.lo, ?_⟩
  · have := heap_setCell (j := 3) (hbx.trans h.box) V'
    exact this
  · refine ownsRow_keep ho fun g _ _ cur hcu => heap_setCell_other w' ⟨pb, 3, none⟩ g _ ?_
    exact ty_ne hcu (hbx.trans h.box) (by decide)
  · have := hg.size
    have := h.hi
    simp
    omega
end Go.Proofs.YtihbgppcacaekaaDoor
