import Derived.Test.YtihbgppcacaekaaDoorMc
/- WHAT A MACHINE's RUN HOLDS ON TO IN MEMORY. -/
namespace Go.Proofs.YtihbgppcacaekaaDoor
open Go.RowKit Go.BigFrame

def RdB (w : World) (A : Option Addr) (l : List Int) : Prop := ∀ (j : Nat) n, l[j]? = some n → ∃ b o, A = some ⟨b, o, none⟩ ∧ b < w.heap.size ∧ w.cell? ⟨b, o + j, none⟩ = some (.int .u8 n)
theorem RdB.below {w w' : World} {A : Option Addr} {l : List Int} (h : RdB w A l) (hb : Below w.heap.size w w') : RdB w' A l := fun j n hn => by
  obtain ⟨b, o, e1, e2, e3⟩ := h j n hn
  exact ⟨b, o, e1, Nat.lt_of_lt_of_le e2 hb.size, (hb.cell (p := ⟨b, _, none⟩) e2).trans e3⟩
abbrev regO (ρ : List Int) : Obj := .cells (ρ.map (.int .i64)).toArray 3 (0, 0)
theorem ownsRow_keep {w w' : World} {base : Nat} {e : TypeId} {size n : Nat} {V : Value} {xs : List Value} (h : w.ownsRow base e size V n xs) (hk : ∀ g, base ≤ g → V.ownBlock = some g → ∀ cur, w.heap[g]? = some (.cells cur e (0, 0)) → w'.heap[g]? = w.heap[g]?) : w'.ownsRow base e size V n xs := by
  obtain ⟨h1, h2⟩ := h
  refine ⟨h1, ?_⟩
  rcases h2 with h2 | ⟨g, cap, cur, rfl, hB, hg, h3⟩
  · exact Or.inl h2
  · exact Or.inr ⟨g, cap, cur, rfl, hB, (hk g hB rfl cur hg).trans hg, h3⟩
theorem ownsRow_later {w w' : World} {base : Nat} {e : TypeId} {size n : Nat} {V : Value} {xs : List Value} (h : w.ownsRow base e size V n xs) (hb : Below w.heap.size w w') : w'.ownsRow base e size V n xs :=
  ownsRow_keep h fun g _ _ _ hg => hb.block g (Array.getElem?_eq_some_iff.1 hg).1
theorem ty_ne {w : World} {a b : Nat} {x y : Array Value} {s t : TypeId} {f g : Nat × Nat} (h : w.heap[a]? = some (.cells x s f)) (h' : w.heap[b]? = some (.cells y t g)) (hst : s ≠ t) : a ≠ b := by
  rintro rfl
  rw [h] at h'
  injection h' with h'
  injection h' with _ h2 _
  exact hst h2
theorem regs_cell {w : World} {b : Nat} {ρ : List Int} (h : w.heap[b]? = some (regO ρ)) {r : Nat} (hr : r < ρ.length) : w.cell? ⟨b, r, none⟩ = some (.int .i64 (ρ.getD r 0)) := by
  refine cell_of_heap h r _ ?_
  rw [List.getElem?_toArray, List.getElem?_map, List.getElem?_eq_getElem hr, List.getD_eq_getElem?_getD, List.getElem?_eq_getElem hr]
  rfl
theorem regs_set {w : World} {b : Nat} {ρ : List Int} (h : w.heap[b]? = some (regO ρ)) (r : Nat) (v : Int) : (w.setCell ⟨b, r, none⟩ (.int .i64 v)).heap[b]? = some (regO (ρ.set r v)) := by
  have := heap_setCell (j := r) h (.int .i64 v)
  rw [this]
  unfold regO
  rw [List.map_set]
  simp
/-- the output, told -/
theorem out_read {w : World} {base : Nat} {V : Value} {l : List Int} (h : w.ownsRow base 5 1 V l.length (l.map (.int .u8))) : ∃ A cap, V = .slice A l.length cap ∧ RdB w A l ∧ (∀ g, V.ownBlock = some g → ∃ cur, w.heap[g]? = some (.cells cur 5 (0, 0)) ∧ base ≤ g) := by
  have h0 := h
  obtain ⟨h1, h2⟩ := h
  rcases h2 with ⟨rfl, hn⟩ | ⟨g, cap, cur, rfl, hB, hg, hnc, _, hsz, htake⟩
  · refine ⟨none, 0, by rw [hn], fun j n hj => ?_, fun g hg => by simp [Value.ownBlock] at hg⟩
    have := (List.getElem?_eq_some_iff.1 hj).1
    omega
  · have hlt := (Array.getElem?_eq_some_iff.1 hg).1
    refine ⟨_, _, rfl, fun j n hj => ⟨g, 0, rfl, hlt, ?_⟩, fun g' hg' => by simp [Value.ownBlock] at hg'; subst hg'; exact ⟨cur, hg, hB⟩⟩
    have hjl := (List.getElem?_eq_some_iff.1 hj).1
    have := World.ownsRow.cellAt h0 j (by omega)
    rw [Nat.zero_add, this, List.getElem?_map, hj]
    rfl
theorem own_ne {w : World} {base : Nat} {e : TypeId} {size n : Nat} {V : Value} {xs : List Value} (h : w.ownsRow base e size V n xs) {b : Nat} {cs : Array Value} {t : TypeId} {f : Nat × Nat} (hb : w.heap[b]? = some (.cells cs t f)) (ht : e ≠ t) : V.ownBlock ≠ some b := fun h0 => by
  obtain ⟨_, h2⟩ := h
  rcases h2 with ⟨rfl, _⟩ | ⟨g, cap, cur, rfl, _, hg, _⟩
  · simp [Value.ownBlock] at h0
  · simp [Value.ownBlock] at h0
    subst h0
    exact ty_ne hg hb ht rfl

/-- a called function, where its frame and its slots lie, and its lines -/
structure Fb where
  f : Fm
  b : Nat
  t : Nat
  C : Option Addr
  cap : Nat
abbrev xTl (R : Rn) (iv sv ov : Value) : List Value := [.int .i64 R.sp, .int .i64 R.told, iv, sv, .bool R.over, .int .i64 R.how, .int .i64 R.code, ov]
def xL (R : Rn) (mp mb : Nat) (iv sv ov : Value) : List Value := [.map (some mp), .slice (some ⟨mb, 0, none⟩) 4096 4096] ++ (R.reg.map (.int .i64) ++ xTl R iv sv ov)
abbrev xO (R : Rn) (mp mb : Nat) (iv sv ov : Value) : Obj := .cells (xL R mp mb iv sv ov).toArray 64 (0, 0)
abbrev fHd (x : Fb) : List Value := [.string x.f.o.name, .int .i64 x.f.o.slots, .int .i64 x.f.o.frame, .slice x.C x.f.o.lines.length x.cap, .slice (some ⟨x.t, 0, none⟩) x.f.slots.length x.f.slots.length]
def fL (x : Fb) : List Value := fHd x ++ (x.f.inn.map (.int .i64) ++ (x.f.out.map (.int .i64) ++ [.int .i64 x.f.base, .int .i64 x.f.at_]))
abbrev fO (x : Fb) : Obj := .cells (fL x).toArray 88 (0, 0)
abbrev fP (x : Fb) : Value := .pointer (some ⟨x.b, 0, none⟩)
/-- a frame in memory -/
structure FrS (w0 w : World) (mb : Nat) (x : Fb) : Prop where
  fr : w.heap[x.b]? = some (fO x)
  bB : w0.heap.size ≤ x.b
  sl : w.heap[x.t]? = some (regO x.f.slots)
  tB : w0.heap.size ≤ x.t
  tm : x.t ≠ mb
  il : x.f.inn.length = 6
  ol : x.f.out.length = 6
  rd : RdL w0 x.C x.f.o.lines
/-- all but the run's own block -/
structure XM (w0 w : World) (mb mp : Nat) (gv : ByteArray → Option Value) (me inq ouq : List Int) (iv sv ov : Value) (l : List Fb) : Prop where
  b : Below w0.heap.size w0 w
  mem : w.heap[mb]? = some (regO me)
  ml : me.length = 4096
  mB : w0.heap.size ≤ mb
  mpk : MapK (fun s : ByteArray => .string s) w mp gv
  inp : ∃ A cap, iv = .slice A inq.length cap ∧ RdB w0 A inq ∧ inq.length ≤ cap ∧ ∀ a ∈ inq, 0 ≤ a ∧ a ≤ 255
  out : w.ownsRow w0.heap.size 5 1 ov ouq.length (ouq.map (.int .u8))
  stk : w.ownsRow w0.heap.size 86 1 sv l.length (l.map fP)
  frs : ∀ x ∈ l, FrS w0 w mb x
  nb : (l.map (·.b)).Nodup
  nt : (l.map (·.t)).Nodup
structure XS (w0 w : World) (xb mb mp : Nat) (gv : ByteArray → Option Value) (R : Rn) (iv sv ov : Value) (l : List Fb) : Prop where
  x : w.heap[xb]? = some (xO R mp mb iv sv ov)
  xB : w0.heap.size ≤ xb
  rl : R.reg.length = 8
  st : R.stack = (l.map (·.f)).reverse
  M : XM w0 w mb mp gv R.mem R.input R.outp iv sv ov l
section
variable {w0 w : World} {xb mb mp : Nat} {gv : ByteArray → Option Value} {R : Rn} {me inq ouq : List Int} {iv sv ov : Value} {l : List Fb}
theorem map_ne {b : Nat} {cs : Array Value} {t : TypeId} {f : Nat × Nat} (h : MapK (fun s : ByteArray => .string s) w mp gv) (hb : w.heap[b]? = some (.cells cs t f)) : mp ≠ b := by
  rintro rfl
  obtain ⟨es, clock, h1, _⟩ := h
  rw [h1] at hb
  injection hb with hb
  cases hb
theorem XM.later {w' : World} (h : XM w0 w mb mp gv me inq ouq iv sv ov l) (hb : Below w.heap.size w w') : XM w0 w' mb mp gv me inq ouq iv sv ov l where
  b := h.b.trans (hb.mono h.b.size)
  mem := (hb.block _ (Array.getElem?_eq_some_iff.1 h.mem).1).trans h.mem
  ml := h.ml
  mB := h.mB
  mpk := h.mpk.below hb h.mpk.lt
  inp := h.inp
  out := ownsRow_later h.out hb
  stk := ownsRow_later h.stk hb
  frs := fun x hx => by
    obtain ⟨h1, h2, h3, h4, h5, h6, h7, h8⟩ := h.frs x hx
    exact ⟨(hb.block _ (Array.getElem?_eq_some_iff.1 h1).1).trans h1, h2, (hb.block _ (Array.getElem?_eq_some_iff.1 h3).1).trans h3, h4, h5, h6, h7, h8⟩
  nb := h.nb
  nt := h.nt
theorem XS.later {w' : World} (h : XS w0 w xb mb mp gv R iv sv ov l) (hb : Below w.heap.size w w') : XS w0 w' xb mb mp gv R iv sv ov l :=
  ⟨(hb.block _ (Array.getElem?_eq_some_iff.1 h.x).1).trans h.x, h.xB, h.rl, h.st, h.M.later hb⟩
/-- a cell of a block of another kind is written -/
theorem XM.other {c : Nat} {cs : Array Value} {ty : TypeId} (h : XM w0 w mb mp gv me inq ouq iv sv ov l) (hc : w.heap[c]? = some (.cells cs ty (0, 0))) (hB : w0.heap.size ≤ c) (h1 : 3 ≠ ty) (h2 : 5 ≠ ty) (h3 : 86 ≠ ty) (h4 : 88 ≠ ty) (j : Nat) (v : Value) :
    XM w0 (w.setCell ⟨c, j, none⟩ v) mb mp gv me inq ouq iv sv ov l where
  b := h.b.setCell hB _
  mem := (heap_setCell_other w ⟨c, j, none⟩ mb _ (ty_ne h.mem hc h1)).trans h.mem
  ml := h.ml
  mB := h.mB
  mpk := h.mpk.of_block (heap_setCell_other w ⟨c, j, none⟩ mp _ (map_ne h.mpk hc))
  inp := h.inp
  out := ownsRow_keep h.out fun g _ hg cur hcu => heap_setCell_other w ⟨c, j, none⟩ g _ (ty_ne hcu hc h2)
  stk := ownsRow_keep h.stk fun g _ hg cur hcu => heap_setCell_other w ⟨c, j, none⟩ g _ (ty_ne hcu hc h3)
  frs := fun x hx => by
    obtain ⟨q1, q2, q3, q4, q5, q6, q7, q8⟩ := h.frs x hx
    exact ⟨(heap_setCell_other w ⟨c, j, none⟩ x.b _ (ty_ne q1 hc h4)).trans q1, q2, (heap_setCell_other w ⟨c, j, none⟩ x.t _ (ty_ne q3 hc h1)).trans q3, q4, q5, q6, q7, q8⟩
  nb := h.nb
  nt := h.nt
theorem xL_lo (i : Nat) (hi : i < 2) : (xL R mp mb iv sv ov)[i]? = [Value.map (some mp), .slice (some ⟨mb, 0, none⟩) 4096 4096][i]? := by
  unfold xL
  rw [List.getElem?_append_left (by simpa using hi)]
theorem xL_reg {r : Nat} (hr : r < R.reg.length) : (xL R mp mb iv sv ov)[2 + r]? = some (.int .i64 (R.reg.getD r 0)) := by
  unfold xL
  rw [List.getElem?_append_right (by simp), List.getElem?_append_left (by simp; omega), List.getElem?_map]
  simp only [List.length_cons, List.length_nil]
  rw [show 2 + r - (0 + 1 + 1) = r by omega, List.getElem?_eq_getElem hr, List.getD_eq_getElem?_getD, List.getElem?_eq_getElem hr]
  rfl
theorem xL_hi (hl : R.reg.length = 8) (k : Nat) : (xL R mp mb iv sv ov)[10 + k]? = (xTl R iv sv ov)[k]? := by
  unfold xL
  rw [List.getElem?_append_right (by simp; omega), List.getElem?_append_right (by simp [hl]; omega)]
  simp only [List.length_cons, List.length_nil, List.length_map, hl]
  rw [show 10 + k - (0 + 1 + 1) - 8 = k by omega]
theorem xL_set_reg {r : Nat} (hr : r < R.reg.length) (v : Int) : (xL R mp mb iv sv ov).set (2 + r) (.int .i64 v) = xL { R with reg := R.reg.set r v } mp mb iv sv ov := by
  unfold xL
  rw [List.set_append_right _ _ (by simp), List.set_append_left _ _ (by simp; omega)]
  simp only [List.length_cons, List.length_nil]
  rw [show 2 + r - (0 + 1 + 1) = r by omega, List.map_set]
theorem xL_set_hi (hl : R.reg.length = 8) (k : Nat) (v : Value) {R' : Rn} {iv' sv' ov' : Value} (hr : R'.reg = R.reg) (h : (xTl R iv sv ov).set k v = xTl R' iv' sv' ov') : (xL R mp mb iv sv ov).set (10 + k) v = xL R' mp mb iv' sv' ov' := by
  unfold xL
  rw [List.set_append_right _ _ (by simp; omega), List.set_append_right _ _ (by simp [hl]; omega)]
  simp only [List.length_cons, List.length_nil, List.length_map, hl]
  rw [show 10 + k - (0 + 1 + 1) - 8 = k by omega, h, hr]
theorem XS.cell (h : XS w0 w xb mb mp gv R iv sv ov l) (j : Nat) (v : Value) (hj : (xL R mp mb iv sv ov)[j]? = some v) : w.cell? ⟨xb, j, none⟩ = some v := cell_of_heap h.x j v (by simpa using hj)
theorem XS.c_reg (h : XS w0 w xb mb mp gv R iv sv ov l) {r : Nat} (hr : r < 8) : w.cell? ⟨xb, 2 + r, none⟩ = some (.int .i64 (R.reg.getD r 0)) := h.cell _ _ (xL_reg (by rw [h.rl]; exact hr))
theorem XS.c_hi (h : XS w0 w xb mb mp gv R iv sv ov l) (k : Nat) (v : Value) (hv : (xTl R iv sv ov)[k]? = some v) : w.cell? ⟨xb, 10 + k, none⟩ = some v := h.cell _ _ (by rw [xL_hi h.rl]; exact hv)
theorem XS.free (h : XS w0 w xb mb mp gv R iv sv ov l) (j : Nat) : w.frozen? ⟨xb, j, none⟩ = false := free_of_heap h.x j
theorem XS.row {R' : Rn} {iv' sv' ov' : Value} (h : XS w0 w xb mb mp gv R iv sv ov l) (j : Nat) (v : Value) (hr : (xL R mp mb iv sv ov).set j v = xL R' mp mb iv' sv' ov') : (w.setCell ⟨xb, j, none⟩ v).heap[xb]? = some (xO R' mp mb iv' sv' ov') := by
  rw [heap_setCell h.x, List.setIfInBounds_toArray, hr]
/-- a register is set -/
theorem XS.set_reg (h : XS w0 w xb mb mp gv R iv sv ov l) {r : Nat} (hr : r < 8) (v : Int) : XS w0 (w.setCell ⟨xb, 2 + r, none⟩ (.int .i64 v)) xb mb mp gv { R with reg := R.reg.set r v } iv sv ov l :=
  ⟨h.row _ _ (xL_set_reg (by rw [h.rl]; exact hr) v), h.xB, by simp [h.rl], h.st, h.M.other h.x h.xB (by decide) (by decide) (by decide) (by decide) _ _⟩
/-- one of the numbers behind the registers -/
theorem XS.set_hi (h : XS w0 w xb mb mp gv R iv sv ov l) (k : Nat) (v : Value) {R' : Rn} (hr : R'.reg = R.reg) (hs : R'.stack = R.stack) (hm : R'.mem = R.mem) (hi : R'.input = R.input) (ho : R'.outp = R.outp) (hx : (xTl R iv sv ov).set k v = xTl R' iv sv ov) :
    XS w0 (w.setCell ⟨xb, 10 + k, none⟩ v) xb mb mp gv R' iv sv ov l :=
  ⟨h.row _ _ (xL_set_hi h.rl k v hr hx), h.xB, by rw [hr]; exact h.rl, by rw [hs]; exact h.st, by rw [hm, hi, ho]; exact h.M.other h.x h.xB (by decide) (by decide) (by decide) (by decide) _ _⟩
end
end Go.Proofs.YtihbgppcacaekaaDoor
