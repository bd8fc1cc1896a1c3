import Derived.Test.YtaofdbboalcceaaVm
import Derived.Test.YtaofdbboalcceaaFy
import Derived.Laws.OwnMore
import Derived.Laws.AppendOwnNone
import Derived.Test.YtaofdbboalcceaaVp
/- A function without some of its instructions; what is reached (plain). -/
namespace Go.Proofs.Ytaofdbboalcceaa

/-- kept places below k; how many -/
def kl (G : Nat → Bool) (k : Nat) : List Nat := (List.range k).filter fun p => !G p
def toI (G : Nat → Bool) (p : Nat) : Nat := (kl G p).length
theorem kl_succ (G : Nat → Bool) (k : Nat) : kl G (k + 1) = if G k = true then kl G k else kl G k ++ [k] := by
  unfold kl
  rw [List.range_succ, List.filter_append]
  cases h : G k <;> simp [h]
theorem toI_zero (G : Nat → Bool) : toI G 0 = 0 := rfl
theorem toI_succ (G : Nat → Bool) (k : Nat) : toI G (k + 1) = if G k = true then toI G k else toI G k + 1 := by
  unfold toI
  rw [kl_succ]
  split <;> simp
theorem toI_le (G : Nat → Bool) : ∀ k, toI G k ≤ k
  | 0 => Nat.le_refl _
  | k + 1 => by
    have := toI_le G k
    rw [toI_succ]
    split <;> omega
theorem toI_mono (G : Nat → Bool) {p q : Nat} (h : p ≤ q) : toI G p ≤ toI G q := by
  induction q with
  | zero => obtain rfl : p = 0 := by omega
            exact Nat.le_refl _
  | succ q ih =>
    by_cases hpq : p = q + 1
    · subst hpq; exact Nat.le_refl _
    · have := ih (by omega)
      rw [toI_succ]
      split <;> omega
theorem toI_lt (G : Nat → Bool) {p q : Nat} (h : p < q) (hG : G p = false) : toI G p < toI G q := by
  have h1 := toI_mono G (show p + 1 ≤ q from h)
  rw [toI_succ, hG] at h1
  simp at h1
  omega
theorem kl_get (G : Nat → Bool) : ∀ {N p : Nat}, p < N → G p = false → (kl G N)[toI G p]? = some p
  | 0, p, h, _ => by omega
  | N + 1, p, h, hG => by
    rw [kl_succ]
    by_cases hp : p = N
    · subst hp
      rw [hG]
      simp [toI]
    · have ih := kl_get G (show p < N by omega) hG
      have hl := (List.getElem?_eq_some_iff.1 ih).1
      split
      · exact ih
      · rw [List.getElem?_append_left hl]; exact ih
theorem kl_inv (G : Nat → Bool) : ∀ {N q p : Nat}, (kl G N)[q]? = some p → p < N ∧ G p = false ∧ toI G p = q
  | 0, q, p, h => by simp [kl] at h
  | N + 1, q, p, h => by
    rw [kl_succ] at h
    split at h
    · obtain ⟨h1, h2, h3⟩ := kl_inv G h
      exact ⟨by omega, h2, h3⟩
    · rename_i hG
      by_cases hq : q < (kl G N).length
      · rw [List.getElem?_append_left hq] at h
        obtain ⟨h1, h2, h3⟩ := kl_inv G h
        exact ⟨by omega, h2, h3⟩
      · rw [List.getElem?_append_right (by omega)] at h
        have hq2 : q - (kl G N).length = 0 := by
          have := (List.getElem?_eq_some_iff.1 h).1
          simp at this
          omega
        rw [hq2] at h
        injection h with h
        subst h
        exact ⟨by omega, by simpa using hG, by show (kl G N).length = q; omega⟩
theorem toI_none {G : Nat → Bool} : ∀ {k : Nat}, (∀ p, p < k → G p = false) → toI G k = k
  | 0, _ => rfl
  | k + 1, h => by rw [toI_succ, h k (by omega), toI_none fun p hp => h p (by omega)]; rfl
/-- an instruction whose jumps are turned -/
def fixI (G : Nat → Bool) (i : Ins) : Ins := { i with to_ := if i.kind = 11 ∨ i.kind = 12 then (toI G i.to_.toNat : Int) else i.to_, els := if i.kind = 12 then (toI G i.els.toNat : Int) else i.els }
def insD (l : List Ins) (p : Nat) : Ins := l.getD p ⟨0, 0, 0, 0, 0, 0, ⟨#[]⟩, 0, 0, 0, 0, 0, 0, 0, 0⟩
theorem insD_some {l : List Ins} {p : Nat} {i : Ins} (h : l[p]? = some i) : insD l p = i := by simp [insD, List.getD, h]
theorem insD_in {l : List Ins} {p : Nat} (h : p < l.length) : l[p]? = some (insD l p) := by simp [insD, List.getD, h]
def wout (G : Nat → Bool) (l : List Ins) : List Ins := (kl G l.length).map fun p => fixI G (insD l p)
theorem wout_len (G : Nat → Bool) (l : List Ins) : (wout G l).length = toI G l.length := by simp [wout, toI]
theorem wout_get {G : Nat → Bool} {l : List Ins} {p : Nat} {i : Ins} (h : l[p]? = some i) (hG : G p = false) : (wout G l)[toI G p]? = some (fixI G i) := by
  unfold wout
  rw [List.getElem?_map, kl_get G (List.getElem?_eq_some_iff.1 h).1 hG, Option.map_some, insD_some h]
theorem wout_inv {G : Nat → Bool} {l : List Ins} {q : Nat} {j : Ins} (h : (wout G l)[q]? = some j) : ∃ p i, l[p]? = some i ∧ G p = false ∧ toI G p = q ∧ j = fixI G i := by
  unfold wout at h
  rw [List.getElem?_map] at h
  cases hk : (kl G l.length)[q]? with
  | none => rw [hk] at h; cases h
  | some p =>
    rw [hk] at h
    injection h with h
    obtain ⟨h1, h2, h3⟩ := kl_inv G hk
    exact ⟨p, insD l p, insD_in h1, h2, h3, h.symm⟩
theorem fixI_kind (G : Nat → Bool) (i : Ins) : (fixI G i).kind = i.kind := rfl
theorem fixI_uses (G : Nat → Bool) (i : Ins) : (fixI G i).uses = i.uses := rfl
theorem fixI_sets (G : Nat → Bool) (i : Ins) : (fixI G i).sets = i.sets := rfl
theorem fixI_pur (G : Nat → Bool) (i : Ins) : pur (fixI G i) = pur i := rfl
theorem fixI_ok {G : Nat → Bool} {i : Ins} {R Fr : Int} {L L' : Nat} (h : Ok i R Fr L) (hn : ∀ n : Nat, (n : Int) ∈ i.next 0 → i.kind = 11 ∨ i.kind = 12 → toI G n < L') : Ok (fixI G i) R Fr L' := by
  have hk := h.kind
  have hm := h.mask
  refine ⟨h.kind, h.uses, h.dst, h.word, h.fr, h.call, h.one, h.two, fun e => ?_, fun e => ?_, ?_⟩
  · have e' : i.kind = 11 ∨ i.kind = 12 := e
    have h1 := h.to_ e'
    show (0 : Int) ≤ (if i.kind = 11 ∨ i.kind = 12 then (toI G i.to_.toNat : Int) else i.to_) ∧ (if i.kind = 11 ∨ i.kind = 12 then (toI G i.to_.toNat : Int) else i.to_) < (L' : Int)
    rw [if_pos e']
    have := hn i.to_.toNat (by
      rw [Int.toNat_of_nonneg h1.1]
      unfold Ins.next
      rcases e' with e' | e'
      · rw [if_pos e']; simp
      · rw [if_neg (by omega), if_pos e']; simp) e'
    omega
  · have e' : i.kind = 12 := e
    have h1 := h.els e'
    show (0 : Int) ≤ (if i.kind = 12 then (toI G i.els.toNat : Int) else i.els) ∧ (if i.kind = 12 then (toI G i.els.toNat : Int) else i.els) < (L' : Int)
    rw [if_pos e']
    have := hn i.els.toNat (by
      rw [Int.toNat_of_nonneg h1.1]
      unfold Ins.next
      rw [if_neg (by omega), if_pos e']; simp) (Or.inr e')
    omega
  · obtain ⟨k, op, dst, a, b, n, text, r0, r1, r2, r3, r4, r5, to_, els⟩ := i
    simp only [Ins.mask, fixI, Ins.mk.injEq] at hm ⊢
    obtain ⟨_, m1, m2, m3, m4, m5, m6, m7, m8, m9, m10, m11, m12, m13, m14⟩ := hm
    refine ⟨trivial, m1, m2, m3, m4, m5, m6, m7, m8, m9, m10, m11, m12, ?_, ?_⟩
    · by_cases e : k = 11 ∨ k = 12
      · rw [if_pos e, if_pos e]
      · rw [if_neg e, if_neg e]; rw [if_neg e] at m13; exact m13
    · by_cases e : k = 12
      · rw [if_pos e, if_pos e]
      · rw [if_neg e, if_neg e]; rw [if_neg e] at m14; exact m14
/-- what is reached -/
inductive Rch (l : List Ins) : Nat → Prop
  | zero (h : 0 < l.length) : Rch l 0
  | step {p : Nat} {i : Ins} {n : Int} (hr : Rch l p) (h : l[p]? = some i) (hn : n ∈ i.next p) : Rch l n.toNat
theorem Rch.lt {f : Fn7} (hf : OkF f) {p : Nat} (h : Rch f.code p) : p < f.code.length := by
  cases h with
  | zero h => exact h
  | step _ h hn => exact (hf.next h _ hn).2
/-- which may go -/
structure Fits (G : Nat → Bool) (f : Fn7) : Prop where
  tgt : ∀ (p : Nat) i, f.code[p]? = some i → G p = false → ∀ n ∈ i.next p, toI G n.toNat < toI G f.code.length
  last : ∀ (p : Nat) i, f.code[p]? = some i → G p = false → toI G p + 1 = toI G f.code.length → 11 ≤ i.kind
  pos : 0 < toI G f.code.length
def wF (G : Nat → Bool) (f : Fn7) : Fn7 := { f with code := wout G f.code }
theorem next0 {i : Ins} (h : i.kind = 11 ∨ i.kind = 12) (p q : Int) : i.next p = i.next q := by
  unfold Ins.next
  rcases h with h | h
  · rw [if_pos h, if_pos h]
  · rw [if_neg (by omega), if_pos h, if_neg (by omega), if_pos h]
theorem Fits.ok {G : Nat → Bool} {f : Fn7} (hf : OkF f) (h : Fits G f) : OkF (wF G f) := by
  have hlen : (wF G f).code.length = toI G f.code.length := wout_len G f.code
  refine ⟨hf.nm, hf.ps, hf.R, hf.Fr, by rw [hlen]; have := toI_le G f.code.length; have := hf.len; have := h.pos; omega, fun i hi => ?_, fun i hi => ?_⟩
  · obtain ⟨q, hq⟩ := List.mem_iff_getElem?.1 hi
    obtain ⟨p, j, h1, h2, h3, rfl⟩ := wout_inv (show (wout G f.code)[q]? = some i from hq)
    rw [hlen]
    exact fixI_ok (hf.ok j (List.mem_of_getElem? h1)) (fun n hn hk => by
      have := h.tgt p j h1 h2 n (by rw [next0 hk p 0]; exact hn)
      simpa using this)
  · rw [hlen] at hi
    obtain ⟨p, j, h1, h2, h3, rfl⟩ := wout_inv (show (wout G f.code)[toI G f.code.length - 1]? = some i from hi)
    have := h.pos
    exact h.last p j h1 h2 (by omega)
theorem next_low {i : Ins} (h : ¬ 11 ≤ i.kind) (p : Int) : i.next p = [p + 1] := by
  unfold Ins.next
  rw [if_neg (by omega), if_neg (by omega), if_neg (by omega)]
/-- where a kept one goes on, in what is left -/
theorem fix_next {G : Nat → Bool} {f : Fn7} (hf : OkF f) {p : Nat} {i : Ins} (hi : f.code[p]? = some i) (hG : G p = false) : (fixI G i).next (toI G p : Int) = (i.next p).map fun n => (toI G n.toNat : Int) := by
  have hk := (hf.ok i (List.mem_of_getElem? hi)).kind
  unfold Ins.next
  show (if i.kind = 11 then [(fixI G i).to_] else if i.kind = 12 then [(fixI G i).to_, (fixI G i).els] else if i.kind = 13 then [] else [(toI G p : Int) + 1]) = _
  by_cases h1 : i.kind = 11
  · rw [if_pos h1, if_pos h1]
    simp [fixI, h1]
  · rw [if_neg h1, if_neg h1]
    by_cases h2 : i.kind = 12
    · rw [if_pos h2, if_pos h2]
      simp [fixI, h2]
    · rw [if_neg h2, if_neg h2]
      by_cases h3 : i.kind = 13
      · rw [if_pos h3, if_pos h3]; rfl
      · rw [if_neg h3, if_neg h3]
        have e : ((p : Int) + 1).toNat = p + 1 := by omega
        simp only [List.map_cons, List.map_nil, e]
        rw [toI_succ, hG]
        simp
/-- what is not reached goes -/
noncomputable def GU (f : Fn7) (p : Nat) : Bool := !tb (Rch f.code p)
theorem GU_false {f : Fn7} {p : Nat} : GU f p = false ↔ Rch f.code p := by
  unfold GU
  rw [Bool.not_eq_false', tb_true]
theorem GU_fits {f : Fn7} (hf : OkF f) : Fits (GU f) f := by
  have hz : Rch f.code 0 := Rch.zero (by have := hf.len; omega)
  have hN := hf.len
  refine ⟨fun p i hi hG n hn => ?_, fun p i hi hG he => ?_, ?_⟩
  · exact toI_lt _ (hf.next hi n hn).2 (GU_false.2 (Rch.step (GU_false.1 hG) hi hn))
  · by_cases hk : 11 ≤ i.kind
    · exact hk
    · exfalso
      have hm : (p : Int) + 1 ∈ i.next p := by rw [next_low hk]; simp
      have hr := Rch.step (GU_false.1 hG) hi hm
      have hl := (hf.next hi _ hm).2
      have e : ((p : Int) + 1).toNat = p + 1 := by omega
      rw [e] at hr hl
      have h1 := toI_lt (GU f) hl (GU_false.2 hr)
      rw [toI_succ, hG] at h1
      simp at h1
      omega
  · have := toI_lt (GU f) (show 0 < f.code.length by omega) (GU_false.2 hz)
    omega
/-- what is dead goes -/
theorem GD_low {f : Fn7} {p : Nat} {i : Ins} (hi : f.code[p]? = some i) (h : deadB f.code p = true) : ¬ 11 ≤ i.kind := by
  have := ((deadB_iff hi).1 h).1
  unfold pur at this
  simp at this
  omega
theorem GD_fits {f : Fn7} (hf : OkF f) : Fits (deadB f.code) f := by
  have hN := hf.len
  have hl : f.code[f.code.length - 1]? = some (insD f.code (f.code.length - 1)) := insD_in (by omega)
  have hlk := hf.last _ hl
  have hG : deadB f.code (f.code.length - 1) = false := by
    rw [Bool.eq_false_iff]
    intro h
    exact GD_low hl h hlk
  have ht := toI_lt (deadB f.code) (show f.code.length - 1 < f.code.length by omega) hG
  refine ⟨fun p i hi hGp n hn => ?_, fun p i hi hGp he => ?_, by omega⟩
  · have h1 := (hf.next hi n hn).2
    have := toI_mono (deadB f.code) (show n.toNat ≤ f.code.length - 1 by omega)
    omega
  · have hp := (List.getElem?_eq_some_iff.1 hi).1
    by_cases hpl : p = f.code.length - 1
    · subst hpl
      rw [hl] at hi
      injection hi with hi
      subst hi
      exact hlk
    · have := toI_lt (deadB f.code) (show p < f.code.length - 1 by omega) hGp
      omega
/-- what is reached stays so -/
theorem reach_step {G : Nat → Bool} {f : Fn7} (hf : OkF f) (hfit : Fits G f) (hgone : ∀ (p : Nat) i, f.code[p]? = some i → Rch f.code p → G p = true → ¬ 11 ≤ i.kind) {p : Nat} (h : Rch f.code p) : Rch (wout G f.code) (toI G p) := by
  induction h with
  | zero h0 => exact Rch.zero (by rw [wout_len]; exact hfit.pos)
  | @step p i n hr hi hn ih =>
    cases hG : G p with
    | true =>
      have hk := hgone p i hi hr hG
      rw [next_low hk] at hn
      have hn : n = (p : Int) + 1 := by simpa using hn
      subst hn
      have e : ((p : Int) + 1).toNat = p + 1 := by omega
      rw [e, toI_succ, hG]
      exact ih
    | false =>
      have h1 := wout_get hi hG
      have h2 := Rch.step ih h1 (n := (toI G n.toNat : Int)) (by rw [fix_next hf hi hG]; exact List.mem_map.2 ⟨n, hn, rfl⟩)
      simpa using h2
def AllRch (f : Fn7) : Prop := ∀ p, p < f.code.length → Rch f.code p
theorem GU_all {f : Fn7} (hf : OkF f) : AllRch (wF (GU f) f) := fun q hq => by
  obtain ⟨p, i, h1, h2, h3, _⟩ := wout_inv (show (wout (GU f) f.code)[q]? = some _ from insD_in hq)
  have := reach_step hf (GU_fits hf) (fun p i _ h3 h4 => by rw [GU_false.2 h3] at h4; cases h4) (GU_false.1 h2)
  rw [h3] at this
  exact this
theorem wout_none {f : Fn7} (hf : OkF f) {G : Nat → Bool} (h : ∀ p, p < f.code.length → G p = false) : wF G f = f := by
  have hlen : toI G f.code.length = f.code.length := toI_none h
  have hcode : wout G f.code = f.code := by
    apply List.ext_getElem?
    intro q
    by_cases hq : q < f.code.length
    · have hi := insD_in hq
      have hid : ∀ n : Nat, n ≤ f.code.length → toI G n = n := fun n hn => toI_none fun p hp => h p (by omega)
      have h1 := wout_get hi (h q hq)
      rw [hid q (by omega)] at h1
      rw [h1, hi]
      have ho := hf.ok _ (List.mem_of_getElem? hi)
      generalize insD f.code q = i at *
      have : fixI G i = i := by
        obtain ⟨k, op, dst, a, b, n, text, r0, r1, r2, r3, r4, r5, to_, els⟩ := i
        have h2 := ho.to_
        have h3 := ho.els
        simp only at h2 h3
        simp only [fixI, Ins.mk.injEq, true_and]
        constructor
        · by_cases e : k = 11 ∨ k = 12
          · rw [if_pos e, hid _ (by have := h2 e; omega)]; have := h2 e; omega
          · rw [if_neg e]
        · by_cases e : k = 12
          · rw [if_pos e, hid _ (by have := h3 e; omega)]; have := h3 e; omega
          · rw [if_neg e]
      rw [this]
    · rw [List.getElem?_eq_none (by rw [wout_len, hlen]; omega), List.getElem?_eq_none (by omega)]
  unfold wF
  rw [hcode]
noncomputable def uF (f : Fn7) : Fn7 := wF (GU f) f
noncomputable def dF (f : Fn7) : Fn7 := wF (deadB f.code) f
theorem uF_ok {f : Fn7} (hf : OkF f) : OkF (uF f) := (GU_fits hf).ok hf
theorem dF_ok {f : Fn7} (hf : OkF f) : OkF (dF f) := (GD_fits hf).ok hf
theorem uF_same {f : Fn7} (hf : OkF f) (h : AllRch f) : uF f = f := wout_none hf fun p hp => GU_false.2 (h p hp)
theorem dF_all {f : Fn7} (hf : OkF f) (h : AllRch f) : AllRch (dF f) := fun q hq => by
  obtain ⟨p, i, h1, h2, h3, _⟩ := wout_inv (show (wout (deadB f.code) f.code)[q]? = some _ from insD_in hq)
  have := reach_step hf (GD_fits hf) (fun p i hi _ hd => GD_low hi hd) (h p (List.getElem?_eq_some_iff.1 h1).1)
  rw [h3] at this
  exact this
theorem dead_nil {f : Fn7} : deadL f.code = [] ↔ ∀ p, p < f.code.length → deadB f.code p = false := by
  show deadK f.code f.code.length = [] ↔ _
  rw [List.eq_nil_iff_forall_not_mem]
  constructor
  · intro h p hp
    rw [Bool.eq_false_iff]
    intro hd
    exact h p ((deadK_mem _ _ _).2 ⟨p, hp, rfl, hd⟩)
  · rintro h x hx
    obtain ⟨p, h1, _, h2⟩ := (deadK_mem _ _ _).1 hx
    rw [h p h1] at h2
    cases h2
theorem toI_less {G : Nat → Bool} {N p : Nat} (hp : p < N) (h : G p = true) : toI G N < N := by
  have h1 := toI_le G p
  have h2 : toI G (p + 1) = toI G p := by rw [toI_succ, h]; rfl
  have h3 : ∀ k, toI G (p + 1 + k) ≤ toI G (p + 1) + k := fun k => by
    induction k with
    | zero => exact Nat.le_refl _
    | succ k ih =>
      rw [show p + 1 + (k + 1) = p + 1 + k + 1 by omega, toI_succ]
      split <;> omega
  have h4 := h3 (N - (p + 1))
  rw [show p + 1 + (N - (p + 1)) = N by omega] at h4
  omega
/-- what Sweep makes -/
inductive Swp : Fn7 → Fn7 → Prop
  | done {f : Fn7} (h : deadL (uF f).code = []) : Swp f (uF f)
  | more {f g : Fn7} (h : deadL (uF f).code ≠ []) (hs : Swp (dF (uF f)) g) : Swp f g
theorem Swp.end_ {f g : Fn7} (h : Swp f g) (hf : OkF f) : OkF g ∧ deadL g.code = [] ∧ AllRch g ∧ g.nm = f.nm ∧ g.ps = f.ps ∧ g.R = f.R ∧ g.Fr = f.Fr ∧ g.code.length ≤ f.code.length := by
  induction h with
  | @done f h => exact ⟨uF_ok hf, h, GU_all hf, rfl, rfl, rfl, rfl, by show (wout _ _).length ≤ _; rw [wout_len]; exact toI_le _ _⟩
  | @more f g h hs ih =>
    obtain ⟨h1, h2, h3, h4, h5, h6, h7, h8⟩ := ih (dF_ok (uF_ok hf))
    have h9 : (dF (uF f)).code.length ≤ (uF f).code.length := by show (wout _ _).length ≤ _; rw [wout_len]; exact toI_le _ _
    have h10 : (uF f).code.length ≤ f.code.length := by show (wout _ _).length ≤ _; rw [wout_len]; exact toI_le _ _
    exact ⟨h1, h2, h3, h4, h5, h6, h7, by omega⟩
theorem Swp.again {f g : Fn7} (h : Swp f g) (hf : OkF f) (hd : deadL f.code = []) (ha : AllRch f) : g = f := by
  cases h with
  | done h => exact uF_same hf ha
  | more h hs =>
    rw [uF_same hf ha] at h
    exact absurd hd h
end Go.Proofs.Ytaofdbboalcceaa

/- live.reached. -/
namespace Go.Proofs.Ytaofdbboalcceaa
open Go.RowKit Go.BigFrame

theorem Next_ret (i : Ins) (h : i.kind = 13) (p : Int) (w : World) : Calls Try.prog 48 #[i.agg, .int .i64 p] w fun e w' => e = .returned (.slice none 0 0) ∧ Below w.heap.size w w' := by
  have hB := Below.one w i.obj
  obtain ⟨k, op, dst, a, b, n, text, r0, r1, r2, r3, r4, r5, to_, els⟩ := i
  simp only at h
  subst h
  simp only [Ins.agg, Ins.obj] at hB ⊢
  go_enter Try.func48, Try.ntmps48
  go_wp2
  go_returns
  exact ⟨rfl, hB⟩
theorem next_some {i : Ins} (h : i.kind ≠ 13) (p : Int) : 0 < (i.next p).length := by
  unfold Ins.next
  rw [if_neg h]
  split
  · simp
  · split <;> simp
theorem OwnN.pop {w : World} {g cap n : Nat} {l : List Int} {x : Int} (h : OwnN w (.slice (some ⟨g, 0, none⟩) (n + 1) cap) (l ++ [x])) (hl : l.length = n) : OwnN w (.slice (some ⟨g, 0, none⟩) n cap) l := by
  obtain ⟨h1, h2⟩ := h
  refine ⟨by simp, ?_⟩
  rcases h2 with ⟨h2, _⟩ | ⟨g', cap', cur, e, hB, hg, hnc, hcm, hsz, htake⟩
  · cases h2
  · injection e with e1 e2 e3
    injection e1 with e1
    injection e1 with e1
    subst e1 e3
    refine Or.inr ⟨g, cap, cur, by rw [hl], hB, hg, by rw [List.length_append] at hnc; omega, hcm, hsz, ?_⟩
    have := congrArg (List.take l.length) htake
    rw [List.take_take] at this
    simp only [List.length_append, List.length_singleton, Nat.mul_one, List.map_append] at this ⊢
    rw [Nat.min_eq_left (by omega)] at this
    rw [this, List.take_append_of_le_length (by simp), List.take_of_length_le (by simp)]
def bl (N : Nat) (m : Nat → Bool) : List Bool := (List.range N).map m
def setM (m : Nat → Bool) (p : Nat) : Nat → Bool := fun q => decide (q = p) || m q
theorem bl_get {N : Nat} {m : Nat → Bool} {p : Nat} (h : p < N) : (bl N m)[p]? = some (m p) := by simp [bl, h]
theorem bl_set {N : Nat} {m : Nat → Bool} {p : Nat} : (bl N m).set p true = bl N (setM m p) := by
  apply List.ext_getElem?
  intro j
  by_cases hj : j < N
  · rw [List.getElem?_set, bl_get hj, bl_get hj]
    by_cases h : p = j
    · subst h; simp [bl, hj, setM]
    · rw [if_neg h]; simp [setM, Ne.symm h]
  · rw [List.getElem?_eq_none (by simp [bl]; omega), List.getElem?_eq_none (by simp [bl]; omega)]
def cntF (N : Nat) (m : Nat → Bool) : Nat := (List.range N).countP fun p => !m p
theorem cntF_lt {N : Nat} {m : Nat → Bool} {p : Nat} (hp : p < N) (h : m p = false) : cntF N (setM m p) < cntF N m :=
  countP_lt (fun x _ hx => by simp [setM] at hx ⊢; exact hx.2) ⟨p, List.mem_range.2 hp, by simp [h], by simp [setM]⟩
/-- what is marked, and what is still to do -/
structure Mk (f : Fn7) (m : Nat → Bool) (T : List Int) : Prop where
  lo : ∀ p, m p = true → Rch f.code p
  td : ∀ x ∈ T, 0 ≤ x ∧ Rch f.code x.toNat
  z : m 0 = true ∨ (0 : Int) ∈ T
  cl : ∀ p i, m p = true → f.code[p]? = some i → ∀ n ∈ i.next p, m n.toNat = true ∨ n ∈ T
  len : T.length + 2 * cntF f.code.length m ≤ 2 * f.code.length + 1
theorem Mk.start {f : Fn7} (hf : OkF f) : Mk f (fun _ => false) [0] :=
  ⟨(fun p h => by cases h), fun x hx => by
    simp only [List.mem_singleton] at hx
    subst hx
    exact ⟨Int.le_refl _, Rch.zero (by have := hf.len; omega)⟩, Or.inr (by simp), (fun p i h => by cases h), by
    have : cntF f.code.length (fun _ => false) ≤ f.code.length := by
      unfold cntF
      have := List.countP_le_length (p := fun p => !(fun _ : Nat => false) p) (l := List.range f.code.length)
      rwa [List.length_range] at this
    simp; omega⟩
theorem Mk.skip {f : Fn7} {m : Nat → Bool} {T : List Int} {x : Int} (h : Mk f m (T ++ [x])) (hm : m x.toNat = true) : Mk f m T := by
  refine ⟨h.lo, fun y hy => h.td y (by simp [hy]), ?_, fun p i hp hi n hn => ?_, by have := h.len; simp at this; omega⟩
  · rcases h.z with hz | hz
    · exact Or.inl hz
    · rcases List.mem_append.1 hz with hz | hz
      · exact Or.inr hz
      · simp only [List.mem_singleton] at hz
        subst hz
        exact Or.inl hm
  · rcases h.cl p i hp hi n hn with h1 | h1
    · exact Or.inl h1
    · rcases List.mem_append.1 h1 with h1 | h1
      · exact Or.inr h1
      · simp only [List.mem_singleton] at h1
        subst h1
        exact Or.inl hm
theorem Mk.add {f : Fn7} (hf : OkF f) {m : Nat → Bool} {T : List Int} {p : Nat} {i : Ins} (h : Mk f m (T ++ [(p : Int)])) (hm : m p = false) (hi : f.code[p]? = some i) : Mk f (setM m p) (T ++ i.next p) := by
  have hr : Rch f.code p := by have := (h.td (p : Int) (by simp)).2; simpa using this
  have hp := (List.getElem?_eq_some_iff.1 hi).1
  refine ⟨fun q hq => ?_, fun y hy => ?_, ?_, fun q j hq hj n hn => ?_, ?_⟩
  · unfold setM at hq
    rw [Bool.or_eq_true, decide_eq_true_eq] at hq
    rcases hq with rfl | hq
    · exact hr
    · exact h.lo q hq
  · rcases List.mem_append.1 hy with hy | hy
    · exact h.td y (by simp [hy])
    · exact ⟨(hf.next hi y hy).1, Rch.step hr hi hy⟩
  · rcases h.z with hz | hz
    · exact Or.inl (by simp [setM, hz])
    · rcases List.mem_append.1 hz with hz | hz
      · exact Or.inr (by simp [hz])
      · simp only [List.mem_singleton] at hz
        have : p = 0 := by omega
        subst this
        exact Or.inl (by simp [setM])
  · unfold setM at hq
    rw [Bool.or_eq_true, decide_eq_true_eq] at hq
    rcases hq with rfl | hq
    · rw [hi] at hj
      injection hj with hj
      subst hj
      exact Or.inr (by simp [hn])
    · rcases h.cl q j hq hj n hn with h1 | h1
      · exact Or.inl (by simp [setM, h1])
      · rcases List.mem_append.1 h1 with h1 | h1
        · exact Or.inr (by simp [h1])
        · simp only [List.mem_singleton] at h1
          subst h1
          exact Or.inl (by simp [setM])
  · have h1 := cntF_lt hp hm
    have h2 := h.len
    have h3 := Ins.next_len i p
    rw [List.length_append] at h2 ⊢
    simp at h2
    omega
theorem Mk.done {f : Fn7} {m : Nat → Bool} (h : Mk f m []) (p : Nat) : m p = tb (Rch f.code p) := by
  rw [Bool.eq_iff_iff, tb_true]
  refine ⟨h.lo p, fun hr => ?_⟩
  induction hr with
  | zero _ => rcases h.z with hz | hz
              · exact hz
              · cases hz
  | step _ hi hn ih => rcases h.cl _ _ ih hi _ hn with h1 | h1
                       · exact h1
                       · cases h1
def ReachT (f : Fn7) (N base : Nat) (e : Ending) (w : World) : Prop := ∃ ob, e = .returned (.slice (some ⟨ob, 0, none⟩) N N) ∧ base ≤ ob ∧ Pre gB 1 4 w ob (bl N fun p => tb (Rch f.code p))
set_option maxRecDepth 1000000 in
set_option maxHeartbeats 16000000 in
theorem reached_any (f : Fn7) (hf : OkF f) (C : Option Addr) (cap : Nat) (w : World) (hC : RdI w C f.code) :
    Calls Try.prog 68 #[funcAgg f.nm f.ps f.R f.Fr C f.code.length cap] w fun e w' => ReachT f f.code.length w.heap.size e w' ∧ Below w.heap.size w w' := by
  obtain ⟨N, hN⟩ : ∃ N, f.code.length = N := ⟨_, rfl⟩
  have hN2 : N ≤ 8192 := by rw [← hN]; exact hf.len.2
  have hN1 : 1 ≤ N := by rw [← hN]; exact hf.len.1
  have hB := Below.one w (funcObj f.nm f.ps f.R f.Fr C f.code.length cap)
  have bx := heap_alloc_new w (funcObj f.nm f.ps f.R f.Fr C f.code.length cap)
  have hsz : (w.alloc (funcObj f.nm f.ps f.R f.Fr C f.code.length cap)).heap.size = w.heap.size + 1 := by simp
  have hC1 := hC.below hB
  have HMK := Lib.hid (Mk.start hf)
  rw [hN] at hB bx hC1 hsz ⊢
  simp only [funcObj, funcAgg] at hB bx hC1 hsz ⊢
  have HF := Lib.hid hf
  have HN := Lib.hid hN
  have HC1 := Lib.hid hC1
  have HB := Lib.hid hB
  obtain ⟨W, hW⟩ : ∃ W, w.alloc (.cells #[.string f.nm, .int .i64 f.ps, .int .i64 f.R, .int .i64 f.Fr, .slice C N cap] 24) = W := ⟨_, rfl⟩
  rw [hW] at bx HC1 HB hsz
  have HBX := Lib.hid bx
  have HSZ := Lib.hid hsz
  have hBl := (Array.getElem?_eq_some_iff.1 bx).1
  have hmk := fun W => make_bools N (by omega) W
  have g4 := cell_of_heap bx 4 _ rfl
  clear hf hN hC hB hC1 bx hsz
  have hpm := made_pre (g := gB) (d := 1) (t := 4) W #[.bool false] N false rfl (fun k hk => by
    obtain rfl : k = 0 := by omega
    rfl)
  rw [Nat.mul_one, show List.replicate N false = bl N (fun _ => false) by
    apply List.ext_getElem?
    intro j
    by_cases hj : j < N
    · rw [bl_get hj]; simp [hj]
    · rw [List.getElem?_eq_none (by simp; omega), List.getElem?_eq_none (by simp [bl]; omega)]] at hpm
  have h1n := OwnN.one (W.alloc (.cells (madeCells #[.bool false] N) 4)) 0
  rw [show (W.alloc (.cells (madeCells #[.bool false] N) 4)).heap.size = W.heap.size + 1 by simp] at h1n
  have H0 := Lib.hid (show Pre gB 1 4 ((W.alloc (.cells (madeCells #[.bool false] N) 4)).alloc (.cells #[.int .i64 0] 3)) W.heap.size (bl N (fun _ => false)) ∧ OwnN ((W.alloc (.cells (madeCells #[.bool false] N) 4)).alloc (.cells #[.int .i64 0] 3)) (.slice (some ⟨W.heap.size + 1, 0, none⟩) 1 1) [0] ∧ (∀ b, (Value.slice (some ⟨W.heap.size + 1, 0, none⟩) 1 1).ownBlock = some b → W.heap.size < b) ∧ Below W.heap.size W ((W.alloc (.cells (madeCells #[.bool false] N) 4)).alloc (.cells #[.int .i64 0] 3)) from ⟨Pre.later hpm (Below.one _ _), h1n, (fun b hb => by simp [Value.ownBlock] at hb; omega), (Below.one W _).alloc (by simp) _⟩)
  clear hpm h1n
  go_enter Try.func68, Try.ntmps68
  go_wp2
  clear hW hmk g4
  go_loopg [4] (3 * cntF N (fun _ => false) + 1) (fun g V wr => ∃ (m : Nat → Bool) (T : List Int), g = 3 * cntF N m + T.length ∧ Pre gB 1 4 wr W.heap.size (bl N m) ∧ OwnN wr V T ∧ (∀ b, V.ownBlock = some b → W.heap.size < b) ∧ Below W.heap.size W wr ∧ Mk f m T)
  case atStart => exact ⟨_, [0], rfl, H0.out.1, H0.out.2.1, H0.out.2.2.1, H0.out.2.2.2, HMK.out⟩
  case round =>
    obtain ⟨m, T, hg, hpre, hown, hV, hb, hmk⟩ := hrel
    clear H0
    have HG := Lib.hid hg
    have HP := Lib.hid hpre
    have HO := Lib.hid hown
    have HV := Lib.hid hV
    have HBB := Lib.hid hb
    have HM := Lib.hid hmk
    rcases List.eq_nil_or_concat T with hT | ⟨T', x, hT⟩
    · subst hT
      obtain ⟨A, c, hVf, _, _⟩ := hown.form
      subst hVf
      have HR : Hid (ReachT f N w.heap.size (.returned (.slice (some ⟨W.heap.size, 0, none⟩) N N)) wr) := Lib.hid ⟨W.heap.size, rfl, by have := HSZ.out; omega, by
        have e : bl N m = bl N (fun p => tb (Rch f.code p)) := by
          unfold bl
          apply List.map_congr_left
          intro p _
          exact HM.out.done p
        rw [← e]
        exact HP.out⟩
      clear hg hpre hown hV hb hmk
      go_wp2
      go_returns
      exact ⟨HR.out, HB.out.trans (HBB.out.mono HB.out.size)⟩
    · rw [List.concat_eq_append] at hT
      subst hT
      have hx := HM.out.td x (by simp)
      obtain ⟨p, rfl⟩ : ∃ p : Nat, x = (p : Int) := ⟨x.toNat, by omega⟩
      have hpr : Rch f.code p := by simpa using hx.2
      have hpN : p < N := by have := hpr.lt HF.out; rwa [HN.out] at this
      have hlen := HM.out.len
      rw [HN.out] at hlen
      obtain ⟨n, hn⟩ : ∃ n, T'.length = n := ⟨_, rfl⟩
      have hTl : (T' ++ [(p : Int)]).length = n + 1 := by simp [hn]
      rw [hTl] at hlen
      have hsm : n + 1 ≤ 20000 := by omega
      have hsz2 := hb.size
      obtain ⟨_, ho2⟩ := hown
      rcases ho2 with ⟨_, h0⟩ | ⟨gg, cp, cur, hVf, _, hgg, hnc, hcm, _, _⟩
      · rw [hTl] at h0; omega
      · have hcv : wr.cell? ⟨gg, n, none⟩ = ((T' ++ [(p : Int)]).map (Value.int .i64))[n]? := by
          have h := HO.out
          rw [hVf] at h
          exact World.ownsRow.cellAt h n (by rw [hTl]; omega)
        rw [hTl] at hVf hnc
        subst hVf
        have hcell : wr.cell? ⟨gg, n, none⟩ = some (.int .i64 p) := by
          rw [hcv, List.getElem?_map, List.getElem?_append_right (by omega)]
          simp [hn]
        have hgl : gg ≠ W.heap.size := by have := HV.out gg rfl; omega
        have HOP : Hid (OwnN wr (.slice (some ⟨gg, 0, none⟩) n cp) T') := Lib.hid (OwnN.pop (by have := HO.out; exact this) hn)
        obtain ⟨i, hi⟩ : ∃ i, f.code[p]? = some i := ⟨_, List.getElem?_eq_getElem (by rw [HN.out]; exact hpN)⟩
        have hmc := PreB.cell HP.out (bl_get hpN)
        have hmf := Pre.free HP.out p
        have hol := Pre.lt HP.out
        have hx4 : wr.heap[w.heap.size]? = _ := (hb.block _ hBl).trans HBX.out
        have g4 := cell_of_heap hx4 4 _ rfl
        have hGn : Hid (gk = 3 * cntF N m + (n + 1)) := Lib.hid (by rw [HG.out, hTl])
        have HI := Lib.hid hi
        have HLT := Lib.hid hn
        have hll4 := (Array.getElem?_eq_some_iff.1 hx4).1
        clear hg hpre hV hb hmk hx hpr hlen hTl hcv hgg hi hn hcm
        cases hm : m p with
        | true =>
          rw [hm] at hmc
          have HK := Lib.hid (HM.out.skip (by simpa using hm))
          clear hm
          go_wp2
          go_roundg (3 * cntF N m + n)
          case measure => rw [hGn.out]; omega
          case rel => exact ⟨m, T', by rw [HLT.out], HP.out, HOP.out, HV.out, HBB.out, HK.out⟩
        | false =>
          rw [hm] at hmc
          have HK := Lib.hid (HM.out.add HF.out hm HI.out)
          have HCL : Hid (cntF N (setM m p) < cntF N m) := Lib.hid (cntF_lt hpN hm)
          have hP2 := PreB.set HP.out (j := p) (by simp [bl]; exact hpN) true
          rw [bl_set] at hP2
          have hb2 := HBB.out.setCell (p := ⟨W.heap.size, p, none⟩) (Nat.le_refl _) (.bool true)
          have hO2 : OwnN (wr.setCell ⟨W.heap.size, p, none⟩ (.bool true)) (.slice (some ⟨gg, 0, none⟩) n cp) T' := by
            obtain ⟨h1, h2⟩ := HOP.out
            refine ⟨h1, ?_⟩
            rcases h2 with h2 | ⟨g', cap', cur', e1, e2, e3, e4⟩
            · exact Or.inl h2
            · have e1' := e1
              injection e1' with e5
              injection e5 with e5
              injection e5 with e5
              subst e5
              exact Or.inr ⟨gg, cap', cur', e1, e2, (heap_setCell_other wr ⟨W.heap.size, p, none⟩ gg _ hgl).trans e3, e4⟩
          obtain ⟨bb, oo, rfl, hbl, hcs⟩ := (HC1.out.below hb2) p i HI.out
          obtain ⟨x0, x1, x2, x3, x4, x5, x6, x7, x8, x9, x10, x11, x12, x13, x14⟩ := RdI.load hcs
          have hx5 : (wr.setCell ⟨W.heap.size, p, none⟩ (.bool true)).heap[w.heap.size]? = _ := (hb2.block _ hBl).trans HBX.out
          have k4 := cell_of_heap hx5 4 _ rfl
          have HP2 := Lib.hid hP2
          have HB2 := Lib.hid hb2
          have HO2 := Lib.hid hO2
          have hn13 := fun (h : i.kind = 13) W => Next_ret i h p W
          have hnn := fun W => Next_any i p (by omega) W
          have hpos := fun (h : i.kind ≠ 13) => next_some h p
          have hl2 := Ins.next_len i p
          have hz : i.kind = 13 → i.next p = [] := fun h => by unfold Ins.next; rw [if_neg (by omega), if_neg (by omega), if_pos h]
          obtain ⟨nx, hnx⟩ : ∃ nx, i.next p = nx := ⟨_, rfl⟩
          rw [hnx] at hnn hpos hl2 hz HK
          obtain ⟨kk, op, dst, a', b', nn, text, r0, r1, r2, r3, r4, r5, to_, els⟩ := i
          simp only [Ins.agg] at x0 x1 x2 x3 x4 x5 x6 x7 x8 x9 x10 x11 x12 x13 x14 hn13 hnn hpos hz
          have HN13 := Lib.hid hn13
          have HNN := Lib.hid hnn
          clear hm hP2 hb2 hO2 hcs hx5 hn13 hnn hnx hx4
          by_cases hk13 : kk = 13
          · have hzz := hz hk13
            subst hzz
            have HK13 := Lib.hid hk13
            clear hz hpos hk13
            go_wp2_with fail
            refine (HN13.out HK13.out _).mono ?_
            rintro e w5 ⟨rfl, hb5⟩
            have ho5 := HO2.out.later hb5
            go_wp2_with (first
              | (at_builtin; refine wpList_append_own_none rfl (.tmp 33) (.tmp 40) 42 rfl 0 3 _ 1 (by kernel_rfl) (info_parts info_n).choose_spec.1 _ _ _ rfl ho5 rfl ?_))
            go_roundg (3 * cntF N (setM m p) + n)
            case measure => rw [hGn.out]; have := HCL.out; omega
            case rel => exact ⟨setM m p, T', by rw [HLT.out], Pre.later HP2.out hb5, ho5, HV.out, HB2.out.trans (hb5.mono HB2.out.size), by have := HK.out; rwa [List.append_nil] at this⟩
          · have hpos := hpos hk13
            obtain ⟨Ln, hLn⟩ : ∃ Ln, nx.length = Ln := ⟨_, rfl⟩
            have HNN2 : Hid (∀ W, Calls Try.prog 48 #[.agg #[.int .i64 kk, .int .i64 op, .int .i64 dst, .int .i64 a', .int .i64 b', .int .i64 nn, .string text, .int .i64 r0, .int .i64 r1, .int .i64 r2, .int .i64 r3, .int .i64 r4, .int .i64 r5, .int .i64 to_, .int .i64 els], .int .i64 p] W fun e w' => (∃ A c, e = .returned (.slice A Ln c) ∧ RdN w' A nx) ∧ Below W.heap.size W w') := Lib.hid fun W => (HNN.out W).mono fun e w' ⟨⟨A, c, h1, h2⟩, h3⟩ => ⟨⟨A, c, by rw [h1, hLn], h2⟩, h3⟩
            have HLN := Lib.hid hLn
            have HPOS := Lib.hid hpos
            have hl22 : Ln ≤ 2 := by omega
            clear hz hpos hk13 hLn HN13 HNN
            go_wp2_with fail
            refine (HNN2.out _).mono ?_
            rintro e w5 ⟨⟨A5, c5, rfl, hrd5⟩, hb5⟩
            have ho5 := HO2.out.later hb5
            obtain ⟨V6, w6, hrun, ho6, hg6, hb6⟩ := run_append_n w5 42 _ T' ho5 A5 nx c5 hrd5 HPOS.out (by rw [HLT.out, HLN.out]; omega)
            rw [HLN.out] at hrun
            have hs5 : wr.heap.size ≤ w5.heap.size := by have := hb5.size; simpa using this
            have HP6 : Hid (Pre gB 1 4 w6 W.heap.size (bl N (setM m p))) := Lib.hid ((Pre.later HP2.out hb5).of_heap (hg6.block _ (by omega) (fun e => by have := HV.out gg rfl; simp [Value.ownBlock] at e; omega)))
            have HV6 : Hid (∀ b, V6.ownBlock = some b → W.heap.size < b) := Lib.hid fun b hb' => by
              rcases hb6 with e | e
              · rw [e] at hb'; exact HV.out b hb'
              · rw [e] at hb'; injection hb' with hb'; omega
            have HB6 : Hid (Below W.heap.size W w6) := Lib.hid (Below.grown (HB2.out.trans (hb5.mono HB2.out.size)) hg6 (by omega) (fun b hb' => by have := HV.out b hb'; omega))
            have HO6 := Lib.hid ho6
            clear ho5 ho6 hg6 hb6 hrd5 hb5
            go_wp2_with (first
              | (at_builtin; refine append_ran rfl (.tmp 33) (.tmp 40) rfl rfl rfl hrun ?_))
            go_roundg (3 * cntF N (setM m p) + (n + Ln))
            case measure => rw [hGn.out]; have := HCL.out; omega
            case rel => exact ⟨setM m p, T' ++ nx, by rw [List.length_append, HLT.out, HLN.out], HP6.out, HO6.out, HV6.out, HB6.out, HK.out⟩
end Go.Proofs.Ytaofdbboalcceaa
