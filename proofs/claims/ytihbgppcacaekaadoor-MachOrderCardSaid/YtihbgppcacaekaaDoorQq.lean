import Derived.Test.YtihbgppcacaekaaDoorQe
/- WHAT HOLDS OF A RUN (plain), step by step. -/
namespace Go.Proofs.YtihbgppcacaekaaDoor

theorem rightL_parts {i : Ln} {o : Ob} (h : rightL i o = true) : (1 ≤ i.op ∧ i.op ≤ 18) ∧ (shp i.op).2.all (partOk i) = true ∧ numOk i o = true := by
  unfold rightL at h
  simp only [Bool.and_eq_true, Bool.not_eq_true'] at h
  obtain ⟨⟨⟨⟨h1, _⟩, h3⟩, _⟩, h5⟩ := h
  refine ⟨Classical.byContradiction fun hc => ?_, h3, h5⟩
  rw [shp_out hc] at h1
  cases h1
theorem right_regs {i : Ln} {o : Ob} (h : rightL i o = true) :
    ((i.op = 1 ∨ i.op = 2 ∨ i.op = 3 ∨ i.op = 4 ∨ i.op = 5 ∨ i.op = 6 ∨ i.op = 8 ∨ i.op = 11 ∨ i.op = 13 ∨ i.op = 14) → 0 ≤ i.r ∧ i.r < 8) ∧
    ((i.op = 2 ∨ i.op = 3 ∨ i.op = 4 ∨ i.op = 6 ∨ i.op = 7 ∨ i.op = 9 ∨ i.op = 10 ∨ i.op = 15 ∨ i.op = 17 ∨ i.op = 18) → 0 ≤ i.a ∧ i.a < 8) ∧
    ((i.op = 3 ∨ i.op = 7) → 0 ≤ i.b ∧ i.b < 8) := by
  obtain ⟨hop, hall, _⟩ := rightL_parts h
  rcases op_cases hop with e | e | e | e | e | e | e | e | e | e | e | e | e | e | e | e | e | e
  all_goals
    rw [e] at hall ⊢
    simp [shp, shapes, partOk, isReg, Ln.get] at hall
    simp
    try omega
/-- the image's functions, by name -/
structure BySo (by_ : ByteArray → Option Ob) : Prop where
  right : ∀ s o, by_ s = some o → rightO o = true
  calls : ∀ s o, by_ s = some o → ∀ l ∈ o.lines, l.op = 12 → ∃ o', by_ l.text = some o'
/-- a frame of a run -/
structure FrOk (by_ : ByteArray → Option Ob) (f : Fm) : Prop where
  src : ∃ s, by_ s = some f.o
  at0 : 0 ≤ f.at_
  at1 : f.at_ < f.o.lines.length
  sl : (f.slots.length : Int) = f.o.slots
/-- the first free word -/
def spOf (top : Int) : List Fm → Int
  | [] => top
  | f :: _ => f.base + f.o.frame
def ChOk (top : Int) : List Fm → Prop
  | [] => True
  | f :: r => f.base = spOf top r ∧ ChOk top r
structure ROk (by_ : ByteArray → Option Ob) (top : Int) (n : Nat) (R : Rn) : Prop where
  frs : ∀ f ∈ R.stack, FrOk by_ f
  ch : ChOk top R.stack
  sp : R.sp = spOf top R.stack
  sp4 : R.sp ≤ 4096
  len : R.stack.length ≤ 200
  out : R.outp.length ≤ n
  go : R.over = false → R.stack ≠ []
theorem rightO_parts {o : Ob} (h : rightO o = true) : (0 ≤ o.slots ∧ o.slots ≤ 4096) ∧ (0 ≤ o.frame ∧ o.frame ≤ 4096) ∧ (1 ≤ o.lines.length ∧ o.lines.length ≤ 65536) ∧ (∀ l ∈ o.lines, rightL l o = true) ∧ lastOk o = true := by
  unfold rightO headOk at h
  simp only [Bool.and_eq_true, decide_eq_true_eq, List.all_eq_true] at h
  obtain ⟨⟨⟨⟨⟨_, h2⟩, h3⟩, h4⟩, h5⟩, h6⟩ := h
  exact ⟨h2, h3, h4, h5, h6⟩
variable {by_ : ByteArray → Option Ob} {top : Int} {n : Nat} {R : Rn}
theorem BySo.frame (hb : BySo by_) {f : Fm} (h : FrOk by_ f) : rightO f.o = true := by
  obtain ⟨s, hs⟩ := h.src
  exact hb.right s _ hs
theorem spOf_ge (hb : BySo by_) (ht : 0 ≤ top) : ∀ (l : List Fm), (∀ f ∈ l, FrOk by_ f) → ChOk top l → 0 ≤ spOf top l
  | [], _, _ => ht
  | f :: r, hf, hc => by
    have h1 := spOf_ge hb ht r (fun g hg => hf g (by simp [hg])) hc.2
    have h2 := (rightO_parts (hb.frame (hf f (by simp)))).2.1
    have h3 := hc.1
    show 0 ≤ f.base + f.o.frame
    omega
/-- the line that is done, and that the next one is there -/
theorem line_at (hb : BySo by_) {f : Fm} (h : FrOk by_ f) : ∃ i, f.o.lines[f.at_.toNat]? = some i ∧ rightL i f.o = true ∧ f.o.lines.getD f.at_.toNat Ln.zero = i ∧ (i.op ≠ 16 → i.op ≠ 18 → f.at_ + 1 < f.o.lines.length) := by
  have h0 := h.at0
  have h1 := h.at1
  obtain ⟨i, hi⟩ : ∃ i, f.o.lines[f.at_.toNat]? = some i := ⟨_, List.getElem?_eq_getElem (by omega)⟩
  have hp := rightO_parts (hb.frame h)
  refine ⟨i, hi, hp.2.2.2.1 i (List.mem_of_getElem? hi), by rw [List.getD_eq_getElem?_getD, hi]; rfl, fun n1 n2 => ?_⟩
  apply Classical.byContradiction
  intro hc
  have hlast := hp.2.2.2.2
  have e : f.o.lines.length - 1 = f.at_.toNat := by omega
  unfold lastOk at hlast
  rw [List.getLast?_eq_getElem?, e, hi] at hlast
  simp at hlast
  rcases hlast with h | h
  · exact n1 h
  · exact n2 h
end Go.Proofs.YtihbgppcacaekaaDoor
