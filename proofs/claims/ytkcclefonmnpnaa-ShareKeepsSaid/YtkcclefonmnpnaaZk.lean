import Derived.Test.YtkcclefonmnpnaaZf
import Derived.Test.YtkcclefonmnpnaaZg
import Derived.Test.YtkcclefonmnpnaaZj
import Derived.Test.YtkcclefonmnpnaaZh
/- WHAT A UNIT DOES (plain), AND WHEN ANOTHER ONE DOES THE SAME. -/
namespace Go.Proofs.Ytkcclefonmnpnaa

structure Gl where
  nm : ByteArray
  at_ : Int
  size : Int
  init : Int
structure Un7 where
  funcs : List Fn7
  globs : List Gl
  top : Int
/-- what a run works on -/
structure Env where
  mem : List Int
  inp : List Int
  out : List Int
structure Res where
  e : Int
  c : Int
  out : List Int
/-- a function that was called -/
structure Fr7 where
  k : Nat
  base : Int
  p : Nat
  dst : Int
  ρ : List Int
/-- where a function stands: the first of its name -/
def findU (l : List Fn7) (nm : ByteArray) : Option Nat := l.findIdx? fun f => decide (f.nm = nm)
def rg (ρ : List Int) (r : Int) : Int := ρ.getD r.toNat 0
def setd (d v : Int) (ρ : List Int) : List Int := if 0 ≤ d then ρ.set d.toNat v else ρ
/-- what one instruction brings about -/
inductive Deed
  | go (p : Nat) (ρ : List Int) (E : Env)
  | stop (c : Int)
  | call (nm : ByteArray) (args : List Int) (d : Int)
  | ret (v : Int)
def Ins.bv (i : Ins) (ρ : List Int) : Int := if i.kind = 3 then rg ρ i.b else 0
def lstep (i : Ins) (p : Nat) (base : Int) (ρ : List Int) (E : Env) : Deed :=
  if i.kind = 1 then .go (p + 1) (setd i.dst i.n ρ) E
  else if i.kind = 2 ∨ i.kind = 3 then
    (if (dov i.op (rg ρ i.a) (i.bv ρ)).2 = true then .go (p + 1) (setd i.dst (dov i.op (rg ρ i.a) (i.bv ρ)).1 ρ) E else .stop 2)
  else if i.kind = 4 then .go (p + 1) (setd i.dst (rg ρ i.a) ρ) E
  else if i.kind = 5 then .go (p + 1) (setd i.dst (base + i.n) ρ) E
  else if i.kind = 6 then
    (if pln (rg ρ i.a) < 1 ∨ 4096 ≤ pln (rg ρ i.a) then .stop 1 else .go (p + 1) (setd i.dst (E.mem.getD (pln (rg ρ i.a)).toNat 0) ρ) E)
  else if i.kind = 7 then
    (if pln (rg ρ i.a) < 1 ∨ 4096 ≤ pln (rg ρ i.a) then .stop 1 else .go (p + 1) ρ { E with mem := E.mem.set (pln (rg ρ i.a)).toNat (rg ρ i.b) })
  else if i.kind = 8 then .call i.text ((i.args.take i.n.toNat).map (rg ρ)) i.dst
  else if i.kind = 9 then .go (p + 1) (setd i.dst (E.inp.headD (-1)) ρ) { E with inp := E.inp.tail }
  else if i.kind = 10 then .go (p + 1) ρ { E with out := E.out ++ [pln (rg ρ i.a) % 256] }
  else if i.kind = 11 then .go i.to_.toNat ρ E
  else if i.kind = 12 then .go (if rg ρ i.a = 0 then i.els.toNat else i.to_.toNat) ρ E
  else .ret (rg ρ i.a)
def backS (d v : Int) (E : Env) : List Fr7 → (List Fr7 × Env) ⊕ Res
  | [] => .inr ⟨1, v, E.out⟩
  | c :: s' => .inl ({ c with ρ := setd d v c.ρ } :: s', E)
/-- a step of a run: the top of the stack is first -/
def ustep (u : Un7) : List Fr7 → Env → (List Fr7 × Env) ⊕ Res
  | [], E => .inr ⟨4, 0, E.out⟩
  | t :: s, E =>
    match u.funcs[t.k]? with
    | none => .inr ⟨4, 0, E.out⟩
    | some f => match f.code[t.p]? with
      | none => .inr ⟨4, 0, E.out⟩
      | some i => match lstep i t.p t.base t.ρ E with
        | .go p ρ E' => .inl ({ t with p := p, ρ := ρ } :: s, E')
        | .stop c => .inr ⟨2, c, E.out⟩
        | .call nm args d => match findU u.funcs nm with
          | none => .inr ⟨4, 0, E.out⟩
          | some k => match u.funcs[k]? with
            | none => .inr ⟨4, 0, E.out⟩
            | some g => if 4096 < t.base + f.Fr + g.Fr then .inr ⟨3, 0, E.out⟩
              else .inl (⟨k, t.base + f.Fr, 0, d, args ++ List.replicate (g.R.toNat - args.length) 0⟩ :: { t with p := t.p + 1 } :: s, E)
        | .ret v => backS t.dst v E s
def urun (u : Un7) : Nat → List Fr7 → Env → Res
  | 0, _, E => ⟨4, 0, E.out⟩
  | n + 1, s, E => match ustep u s E with
    | .inl (s', E') => urun u n s' E'
    | .inr r => r
/-- the memory that a run begins with -/
def gmem (l : List Gl) : List Int := l.foldl (fun m g => if g.at_ < 4096 then m.set g.at_.toNat g.init else m) (List.replicate 4096 0)
def startU (u : Un7) (m : Nat) (f : Fn7) : List Fr7 := [⟨m, u.top, 0, -1, List.replicate f.R.toNat 0⟩]
def mainNm : ByteArray := ⟨#[109, 97, 105, 110]⟩
/-- what comes of a unit -/
def runU (u : Un7) (inp : List Int) (n : Nat) : Res :=
  match findU u.funcs mainNm with
  | none => ⟨4, 0, []⟩
  | some m => match u.funcs[m]? with
    | none => ⟨4, 0, []⟩
    | some f => if 0 < f.ps then ⟨4, 0, []⟩ else if 4096 < u.top + f.Fr then ⟨3, 0, []⟩ else urun u n (startU u m f) ⟨gmem u.globs, inp, []⟩
/-- the latter does what the former does, and maybe sooner -/
def Fast (x y : Res) : Prop := (x.e ≠ 4 → y = x) ∧ x.out <+: y.out
theorem Fast.refl (x : Res) : Fast x x := ⟨fun _ => rfl, List.prefix_refl _⟩
theorem Fast.trans {x y z : Res} (h : Fast x y) (h' : Fast y z) : Fast x z :=
  ⟨fun hx => by
    have h1 := h.1 hx
    have h2 := h'.1 (by rw [h1]; exact hx)
    rw [h2, h1], h.2.trans h'.2⟩
theorem lstep_ind {i : Ins} {p : Nat} {base : Int} {ρ : List Int} {E : Env} {P : Deed → Prop}
    (h1 : i.kind = 1 → P (.go (p + 1) (setd i.dst i.n ρ) E))
    (h2 : i.kind = 2 ∨ i.kind = 3 → (dov i.op (rg ρ i.a) (i.bv ρ)).2 = true → P (.go (p + 1) (setd i.dst (dov i.op (rg ρ i.a) (i.bv ρ)).1 ρ) E))
    (h3 : i.kind = 2 ∨ i.kind = 3 → (dov i.op (rg ρ i.a) (i.bv ρ)).2 = false → P (.stop 2))
    (h4 : i.kind = 4 → P (.go (p + 1) (setd i.dst (rg ρ i.a) ρ) E))
    (h5 : i.kind = 5 → P (.go (p + 1) (setd i.dst (base + i.n) ρ) E))
    (h6 : i.kind = 6 ∨ i.kind = 7 → (pln (rg ρ i.a) < 1 ∨ 4096 ≤ pln (rg ρ i.a)) → P (.stop 1))
    (h7 : i.kind = 6 → ¬ (pln (rg ρ i.a) < 1 ∨ 4096 ≤ pln (rg ρ i.a)) → P (.go (p + 1) (setd i.dst (E.mem.getD (pln (rg ρ i.a)).toNat 0) ρ) E))
    (h8 : i.kind = 7 → ¬ (pln (rg ρ i.a) < 1 ∨ 4096 ≤ pln (rg ρ i.a)) → P (.go (p + 1) ρ { E with mem := E.mem.set (pln (rg ρ i.a)).toNat (rg ρ i.b) }))
    (h9 : i.kind = 8 → P (.call i.text ((i.args.take i.n.toNat).map (rg ρ)) i.dst))
    (h10 : i.kind = 9 → P (.go (p + 1) (setd i.dst (E.inp.headD (-1)) ρ) { E with inp := E.inp.tail }))
    (h11 : i.kind = 10 → P (.go (p + 1) ρ { E with out := E.out ++ [pln (rg ρ i.a) % 256] }))
    (h12 : i.kind = 11 → P (.go i.to_.toNat ρ E))
    (h13 : i.kind = 12 → P (.go (if rg ρ i.a = 0 then i.els.toNat else i.to_.toNat) ρ E))
    (h14 : (¬ (1 ≤ i.kind ∧ i.kind ≤ 12)) → P (.ret (rg ρ i.a))) : P (lstep i p base ρ E) := by
  unfold lstep
  by_cases k1 : i.kind = 1
  · rw [if_pos k1]; exact h1 k1
  rw [if_neg k1]
  by_cases k2 : i.kind = 2 ∨ i.kind = 3
  · rw [if_pos k2]
    by_cases d : (dov i.op (rg ρ i.a) (i.bv ρ)).2 = true
    · rw [if_pos d]; exact h2 k2 d
    · rw [if_neg d]; exact h3 k2 (by simpa using d)
  rw [if_neg k2]
  by_cases k4 : i.kind = 4
  · rw [if_pos k4]; exact h4 k4
  rw [if_neg k4]
  by_cases k5 : i.kind = 5
  · rw [if_pos k5]; exact h5 k5
  rw [if_neg k5]
  by_cases k6 : i.kind = 6
  · rw [if_pos k6]
    by_cases d : pln (rg ρ i.a) < 1 ∨ 4096 ≤ pln (rg ρ i.a)
    · rw [if_pos d]; exact h6 (Or.inl k6) d
    · rw [if_neg d]; exact h7 k6 d
  rw [if_neg k6]
  by_cases k7 : i.kind = 7
  · rw [if_pos k7]
    by_cases d : pln (rg ρ i.a) < 1 ∨ 4096 ≤ pln (rg ρ i.a)
    · rw [if_pos d]; exact h6 (Or.inr k7) d
    · rw [if_neg d]; exact h8 k7 d
  rw [if_neg k7]
  by_cases k8 : i.kind = 8
  · rw [if_pos k8]; exact h9 k8
  rw [if_neg k8]
  by_cases k9 : i.kind = 9
  · rw [if_pos k9]; exact h10 k9
  rw [if_neg k9]
  by_cases k10 : i.kind = 10
  · rw [if_pos k10]; exact h11 k10
  rw [if_neg k10]
  by_cases k11 : i.kind = 11
  · rw [if_pos k11]; exact h12 k11
  rw [if_neg k11]
  by_cases k12 : i.kind = 12
  · rw [if_pos k12]; exact h13 k12
  rw [if_neg k12]
  exact h14 (by omega)
theorem lstep_out {i : Ins} {p : Nat} {base : Int} {ρ : List Int} {E E' : Env} {p' : Nat} {ρ' : List Int} (h : lstep i p base ρ E = .go p' ρ' E') : E.out <+: E'.out := by
  revert h
  apply lstep_ind (P := fun d => d = .go p' ρ' E' → E.out <+: E'.out)
  all_goals
    intros
    rename_i h
    first
      | (cases h; done)
      | (injection h with h1 h2 h3; subst h3; first | exact List.prefix_refl _ | exact List.prefix_append _ _)
theorem ustep_out {u : Un7} {s s' : List Fr7} {E E' : Env} (h : ustep u s E = .inl (s', E')) : E.out <+: E'.out := by
  unfold ustep at h
  split at h
  · cases h
  · split at h
    · cases h
    · split at h
      · cases h
      · split at h
        · rename_i hl
          injection h with h; injection h with h1 h2; subst h2
          exact lstep_out hl
        · cases h
        · split at h
          · cases h
          · split at h
            · cases h
            · split at h
              · cases h
              · injection h with h; injection h with h1 h2; subst h2; exact List.prefix_refl _
        · unfold backS at h
          split at h
          · cases h
          · injection h with h; injection h with h1 h2; subst h2; exact List.prefix_refl _
theorem ustep_end {u : Un7} {s : List Fr7} {E : Env} {r : Res} (h : ustep u s E = .inr r) : r.out = E.out := by
  unfold ustep backS at h
  repeat' split at h
  all_goals first
    | (cases h; done)
    | (injection h with h; subst h; rfl)
theorem urun_out (u : Un7) : ∀ (n : Nat) (s : List Fr7) (E : Env), E.out <+: (urun u n s E).out
  | 0, _, _ => List.prefix_refl _
  | n + 1, s, E => by
    unfold urun
    split
    · rename_i s' E' h
      exact (ustep_out h).trans (urun_out u n s' E')
    · rename_i r h
      rw [ustep_end h]
      exact List.prefix_refl _

/-- ONE FUNCTION FOR ANOTHER ONE: what each instruction does is done, at once or later on -/
structure Loc (stay : Prop) (f g : Fn7) where
  R : Int → Nat → List Int → Nat → List Int → Prop
  nm : g.nm = f.nm
  ps : g.ps = f.ps
  Rs : g.R = f.R
  Fr : g.Fr = f.Fr
  start : ∀ (base : Int) (args : List Int), (args.length : Int) = f.ps → R base 0 (args ++ List.replicate (f.R.toNat - args.length) 0) 0 (args ++ List.replicate (f.R.toNat - args.length) 0)
  at_ : ∀ base p ρ p' ρ', R base p ρ p' ρ' → ∃ i i', f.code[p]? = some i ∧ g.code[p']? = some i'
  go : ∀ p ρ p' ρ' i i' base E q σ E', R base p ρ p' ρ' → f.code[p]? = some i → g.code[p']? = some i' → lstep i p base ρ E = .go q σ E' →
    (stay ∧ E' = E ∧ R base q σ p' ρ') ∨ ∃ q' σ', lstep i' p' base ρ' E = .go q' σ' E' ∧ R base q σ q' σ'
  stop : ∀ p ρ p' ρ' i i' base E c, R base p ρ p' ρ' → f.code[p]? = some i → g.code[p']? = some i' → lstep i p base ρ E = .stop c → lstep i' p' base ρ' E = .stop c
  call : ∀ p ρ p' ρ' i i' base E nm args d, R base p ρ p' ρ' → f.code[p]? = some i → g.code[p']? = some i' → lstep i p base ρ E = .call nm args d →
    lstep i' p' base ρ' E = .call nm args d ∧ ∀ v, R base (p + 1) (setd d v ρ) (p' + 1) (setd d v ρ')
  ret : ∀ p ρ p' ρ' i i' base E v, R base p ρ p' ρ' → f.code[p]? = some i → g.code[p']? = some i' → lstep i p base ρ E = .ret v → lstep i' p' base ρ' E = .ret v
/-- frames that wait for what was called -/
def WaitS {stay : Prop} {f g : Fn7} (L : Loc stay f g) (k : Nat) : Int → List Fr7 → List Fr7 → Prop
  | _, [], [] => True
  | d, a :: s, b :: s' => (a.k = b.k ∧ a.base = b.base ∧ a.dst = b.dst ∧ (if a.k = k then ∀ v, L.R a.base a.p (setd d v a.ρ) b.p (setd d v b.ρ) else a = b)) ∧ WaitS L k a.dst s s'
  | _, _, _ => False
def TopS {stay : Prop} {f g : Fn7} (L : Loc stay f g) (k : Nat) : List Fr7 → List Fr7 → Prop
  | [], [] => True
  | a :: s, b :: s' => (a.k = b.k ∧ a.base = b.base ∧ a.dst = b.dst ∧ (if a.k = k then L.R a.base a.p a.ρ b.p b.ρ else a = b)) ∧ WaitS L k a.dst s s'
  | _, _ => False
/-- calls are of functions that are there, with as many arguments as they have parameters -/
def Calls7 (u : Un7) : Prop := ∀ f ∈ u.funcs, ∀ i ∈ f.code, i.kind = 8 → 0 ≤ i.n ∧ i.n ≤ 6 ∧ ∃ k g, findU u.funcs i.text = some k ∧ u.funcs[k]? = some g ∧ g.ps = i.n
theorem findIdx_set (l : List Fn7) (k : Nat) (f g : Fn7) (hk : l[k]? = some f) (hn : g.nm = f.nm) (nm : ByteArray) : findU (l.set k g) nm = findU l nm := by
  unfold findU
  induction l generalizing k with
  | nil => cases hk
  | cons x l ih =>
    cases k with
    | zero =>
      simp at hk
      subst hk
      simp [List.findIdx?_cons, hn]
    | succ k =>
      simp only [List.set_cons_succ, List.findIdx?_cons]
      rw [ih k (by simpa using hk)]
theorem lstep_call {i : Ins} {p : Nat} {base : Int} {ρ : List Int} {E : Env} {nm : ByteArray} {args : List Int} {d : Int} (h : lstep i p base ρ E = .call nm args d) : i.kind = 8 ∧ nm = i.text ∧ args = (i.args.take i.n.toNat).map (rg ρ) ∧ d = i.dst := by
  revert h
  apply lstep_ind (P := fun x => x = .call nm args d → i.kind = 8 ∧ nm = i.text ∧ args = (i.args.take i.n.toNat).map (rg ρ) ∧ d = i.dst)
  all_goals
    intros
    rename_i h
    first
      | (cases h; done)
      | (injection h with h1 h2 h3; exact ⟨by assumption, h1.symm, h2.symm, h3.symm⟩)
end Go.Proofs.Ytkcclefonmnpnaa

/- A UNIT WITH ANOTHER FUNCTION DOES THE SAME (plain). -/
namespace Go.Proofs.Ytkcclefonmnpnaa

/-- the unit with another function at k -/
def swapU (u : Un7) (k : Nat) (g : Fn7) : Un7 := { u with funcs := u.funcs.set k g }
section
variable {stay : Prop} {f g : Fn7} (L : Loc stay f g) {u : Un7} {k : Nat}
def SimTo (L : Loc stay f g) (k : Nat) (s' : List Fr7) (E : Env) (y : (List Fr7 × Env) ⊕ Res) : (List Fr7 × Env) ⊕ Res → Prop
  | .inl (s2, E2) => (stay ∧ E2 = E ∧ TopS L k s2 s') ∨ ∃ s2', y = .inl (s2', E2) ∧ TopS L k s2 s2'
  | .inr r => y = .inr r
theorem sim_step (hf : u.funcs[k]? = some f) (hc : Calls7 u) {s s' : List Fr7} (h : TopS L k s s') (E : Env) : SimTo L k s' E (ustep (swapU u k g) s' E) (ustep u s E) := by
  cases s with
  | nil =>
    cases s' with
    | nil => rfl
    | cons b s' => exact h.elim
  | cons a s =>
    cases s' with
    | nil => exact h.elim
    | cons b s' =>
      obtain ⟨⟨e1, e2, e3, hR⟩, hW⟩ := h
      obtain ⟨ak, ab, ap, ad, aρ⟩ := a
      obtain ⟨bk, bb, bp, bd, bρ⟩ := b
      simp only at e1 e2 e3 hR hW
      subst e1 e2 e3
      have hklt := (List.getElem?_eq_some_iff.1 hf).1
      have hfind : ∀ nm, findU (swapU u k g).funcs nm = findU u.funcs nm := fun nm => findIdx_set u.funcs k f g hf L.nm nm
      -- what a call brings about
      have hcall : ∀ (aF : Int) (nm : ByteArray) (args : List Int) (d : Int) (i : Ins), i.kind = 8 → nm = i.text → (args.length : Int) = i.n → (∃ F ∈ u.funcs, i ∈ F.code) → ∀ (p p' : Nat) (ρ ρ' : List Int),
          ((if ak = k then ∀ v, L.R ab p (setd d v ρ) p' (setd d v ρ') else (⟨ak, ab, p, ad, ρ⟩ : Fr7) = ⟨ak, ab, p', ad, ρ'⟩)) →
          SimTo L k ((⟨ak, ab, bp, ad, bρ⟩ : Fr7) :: s') E
            (match findU (swapU u k g).funcs nm with | none => .inr ⟨4, 0, E.out⟩ | some k' => match (swapU u k g).funcs[k']? with | none => .inr ⟨4, 0, E.out⟩ | some g' => if 4096 < ab + aF + g'.Fr then .inr ⟨3, 0, E.out⟩ else .inl (⟨k', ab + aF, 0, d, args ++ List.replicate (g'.R.toNat - args.length) 0⟩ :: (⟨ak, ab, p', ad, ρ'⟩ : Fr7) :: s', E))
            (match findU u.funcs nm with | none => .inr ⟨4, 0, E.out⟩ | some k' => match u.funcs[k']? with | none => .inr ⟨4, 0, E.out⟩ | some g' => if 4096 < ab + aF + g'.Fr then .inr ⟨3, 0, E.out⟩ else .inl (⟨k', ab + aF, 0, d, args ++ List.replicate (g'.R.toNat - args.length) 0⟩ :: (⟨ak, ab, p, ad, ρ⟩ : Fr7) :: s, E)) := by
        intro aF nm args d i hk8 hnm hal ⟨F, hF, hi⟩ p p' ρ ρ' hfr
        rw [hfind]
        obtain ⟨_, _, k', g', hk', hg', hps⟩ := hc F hF i hi hk8
        rw [← hnm] at hk'
        rw [hk']
        by_cases hkk : k' = k
        · subst hkk
          obtain rfl : g' = f := by rw [hf] at hg'; exact (Option.some.inj hg').symm
          have hv : (swapU u k' g).funcs[k']? = some g := by simp [swapU, hklt]
          simp only [hv, hg']
          rw [L.Fr, L.Rs]
          by_cases hb : 4096 < ab + aF + g'.Fr
          · rw [if_pos hb, if_pos hb]; rfl
          · rw [if_neg hb, if_neg hb]
            refine Or.inr ⟨_, rfl, ⟨rfl, rfl, rfl, ?_⟩, ⟨rfl, rfl, rfl, hfr⟩, hW⟩
            rw [if_pos rfl]
            exact L.start _ args (by rw [hal, hps])
        · have hv : (swapU u k g).funcs[k']? = some g' := by
            simp only [swapU]
            rw [List.getElem?_set_ne (Ne.symm hkk)]
            exact hg'
          simp only [hv, hg']
          by_cases hb : 4096 < ab + aF + g'.Fr
          · rw [if_pos hb, if_pos hb]; rfl
          · rw [if_neg hb, if_neg hb]
            refine Or.inr ⟨_, rfl, ⟨rfl, rfl, rfl, ?_⟩, ⟨rfl, rfl, rfl, hfr⟩, hW⟩
            rw [if_neg hkk]
      have hret : ∀ v : Int, SimTo L k ((⟨ak, ab, bp, ad, bρ⟩ : Fr7) :: s') E (backS ad v E s') (backS ad v E s) := by
        intro v
        cases s with
        | nil =>
          cases s' with
          | nil => rfl
          | cons b s' => exact hW.elim
        | cons c s =>
          cases s' with
          | nil => exact hW.elim
          | cons c' s' =>
            obtain ⟨⟨e1, e2, e3, hR'⟩, hW'⟩ := hW
            refine Or.inr ⟨_, rfl, ⟨e1, e2, e3, ?_⟩, hW'⟩
            by_cases hck : c.k = k
            · rw [if_pos hck] at hR' ⊢
              exact hR' v
            · rw [if_neg hck] at hR' ⊢
              rw [hR']
      by_cases hak : ak = k
      · rw [if_pos hak] at hR
        have hua : u.funcs[ak]? = some f := by rw [hak]; exact hf
        have hva : (swapU u k g).funcs[ak]? = some g := by rw [hak]; simp [swapU, hklt]
        obtain ⟨i, i', hi, hi'⟩ := L.at_ _ _ _ _ _ hR
        unfold ustep
        simp only [hua, hva, hi, hi']
        cases hl : lstep i ap ab aρ E with
        | go q σ E' =>
          simp only
          rcases L.go _ _ _ _ _ _ _ _ _ _ _ hR hi hi' hl with ⟨h1, h2, h3⟩ | ⟨q', σ', h1, h2⟩
          · exact Or.inl ⟨h1, h2, ⟨rfl, rfl, rfl, by simp only; rw [if_pos hak]; exact h3⟩, hW⟩
          · rw [h1]
            exact Or.inr ⟨_, rfl, ⟨rfl, rfl, rfl, by simp only; rw [if_pos hak]; exact h2⟩, hW⟩
        | stop c =>
          rw [L.stop _ _ _ _ _ _ _ _ _ hR hi hi' hl]
          rfl
        | ret v =>
          rw [L.ret _ _ _ _ _ _ _ _ _ hR hi hi' hl]
          exact hret v
        | call nm args d =>
          obtain ⟨h1, h2⟩ := L.call _ _ _ _ _ _ _ _ _ _ _ hR hi hi' hl
          obtain ⟨q1, q2, q3, q4⟩ := lstep_call hl
          rw [h1]
          simp only [L.Fr]
          have hFm : f ∈ u.funcs := List.mem_of_getElem? hf
          have hn := hc f hFm i (List.mem_of_getElem? hi) q1
          refine hcall f.Fr nm args d i q1 q2 ?_ ⟨f, hFm, List.mem_of_getElem? hi⟩ (ap + 1) (bp + 1) aρ bρ (by rw [if_pos hak]; exact h2)
          rw [q3]
          simp only [List.length_map, List.length_take, Ins.args, List.length_cons, List.length_nil]
          omega
      · rw [if_neg hak] at hR
        injection hR with _ _ e3 _ e5
        subst e3 e5
        have hva : (swapU u k g).funcs[ak]? = u.funcs[ak]? := by
          simp only [swapU]
          rw [List.getElem?_set_ne (Ne.symm hak)]
        unfold ustep
        simp only [hva]
        cases hF : u.funcs[ak]? with
        | none => rfl
        | some F =>
          simp only
          cases hi : F.code[ap]? with
          | none => rfl
          | some i =>
            simp only
            cases hl : lstep i ap ab aρ E with
            | go q σ E' => exact Or.inr ⟨_, rfl, ⟨rfl, rfl, rfl, (if_neg hak).mpr rfl⟩, hW⟩
            | stop c => rfl
            | ret v => exact hret v
            | call nm args d =>
              obtain ⟨q1, q2, q3, q4⟩ := lstep_call hl
              have hFm : F ∈ u.funcs := List.mem_of_getElem? hF
              have hn := hc F hFm i (List.mem_of_getElem? hi) q1
              refine hcall F.Fr nm args d i q1 q2 ?_ ⟨F, hFm, List.mem_of_getElem? hi⟩ (ap + 1) (ap + 1) aρ aρ (by rw [if_neg hak])
              rw [q3]
              simp only [List.length_map, List.length_take, Ins.args, List.length_cons, List.length_nil]
              omega
theorem sim_fast (hf : u.funcs[k]? = some f) (hc : Calls7 u) : ∀ (n m : Nat) (s s' : List Fr7) (E : Env), n ≤ m → TopS L k s s' → Fast (urun u n s E) (urun (swapU u k g) m s' E)
  | 0, m, s, s', E, _, _ => ⟨fun h => absurd rfl h, urun_out _ _ _ _⟩
  | n + 1, m, s, s', E, hnm, h => by
    obtain ⟨m, rfl⟩ : ∃ m', m = m' + 1 := ⟨m - 1, by omega⟩
    have hs := sim_step L hf hc h E
    unfold urun
    cases hu : ustep u s E with
    | inr r =>
      rw [hu] at hs
      have hs : ustep (swapU u k g) s' E = .inr r := hs
      rw [hs]
      exact Fast.refl _
    | inl x =>
      obtain ⟨s2, E2⟩ := x
      rw [hu] at hs
      rcases hs with ⟨_, rfl, h3⟩ | ⟨s2', h1, h2⟩
      · have := sim_fast hf hc n (m + 1) s2 s' E2 (by omega) h3
        simp only [urun] at this
        exact this
      · rw [h1]
        exact sim_fast hf hc n m s2 s2' E2 (by omega) h2
theorem sim_same (hst : ¬ stay) (hf : u.funcs[k]? = some f) (hc : Calls7 u) : ∀ (n : Nat) (s s' : List Fr7) (E : Env), TopS L k s s' → urun u n s E = urun (swapU u k g) n s' E
  | 0, s, s', E, _ => rfl
  | n + 1, s, s', E, h => by
    have hs := sim_step L hf hc h E
    unfold urun
    cases hu : ustep u s E with
    | inr r =>
      rw [hu] at hs
      have hs : ustep (swapU u k g) s' E = .inr r := hs
      rw [hs]
    | inl x =>
      obtain ⟨s2, E2⟩ := x
      rw [hu] at hs
      rcases hs with ⟨h1, _, _⟩ | ⟨s2', h1, h2⟩
      · exact absurd h1 hst
      · rw [h1]
        exact sim_same hst hf hc n s2 s2' E2 h2
end
/-- a run of a unit, from its beginning -/
theorem swap_run {stay : Prop} {f g : Fn7} (L : Loc stay f g) {u : Un7} {k : Nat} (hf : u.funcs[k]? = some f) (hc : Calls7 u) (hp : ∀ f ∈ u.funcs, 0 ≤ f.ps) (inp : List Int) (n : Nat) :
    Fast (runU u inp n) (runU (swapU u k g) inp n) ∧ (¬ stay → runU u inp n = runU (swapU u k g) inp n) := by
  have hklt := (List.getElem?_eq_some_iff.1 hf).1
  unfold runU
  rw [show findU (swapU u k g).funcs mainNm = findU u.funcs mainNm from findIdx_set u.funcs k f g hf L.nm mainNm]
  cases hm : findU u.funcs mainNm with
  | none => exact ⟨Fast.refl _, fun _ => rfl⟩
  | some m =>
    simp only
    have hgl : (swapU u k g).globs = u.globs := rfl
    have htp : (swapU u k g).top = u.top := rfl
    by_cases hmk : m = k
    · subst hmk
      have hv : (swapU u m g).funcs[m]? = some g := by simp [swapU, hklt]
      simp only [hv, hf, hgl, htp]
      rw [L.Fr, L.ps]
      by_cases h0 : 0 < f.ps
      · rw [if_pos h0, if_pos h0]; exact ⟨Fast.refl _, fun _ => rfl⟩
      · rw [if_neg h0, if_neg h0]
        have hp0 : f.ps = 0 := by have := hp f (List.mem_of_getElem? hf); omega
        by_cases h1 : 4096 < u.top + f.Fr
        · rw [if_pos h1, if_pos h1]; exact ⟨Fast.refl _, fun _ => rfl⟩
        · rw [if_neg h1, if_neg h1]
          have hT : TopS L m (startU u m f) (startU (swapU u m g) m g) := by
            refine ⟨⟨rfl, rfl, rfl, ?_⟩, trivial⟩
            simp only [if_pos]
            have := L.start u.top [] (by simp [hp0])
            simpa [L.Rs] using this
          exact ⟨sim_fast L hf hc n n _ _ _ (Nat.le_refl _) hT, fun hst => sim_same L hst hf hc n _ _ _ hT⟩
    · have hv : (swapU u k g).funcs[m]? = u.funcs[m]? := by
        simp only [swapU]
        rw [List.getElem?_set_ne (Ne.symm hmk)]
      simp only [hv, hgl, htp]
      cases hF : u.funcs[m]? with
      | none => exact ⟨Fast.refl _, fun _ => rfl⟩
      | some F =>
        simp only
        by_cases h0 : 0 < F.ps
        · rw [if_pos h0, if_pos h0]; exact ⟨Fast.refl _, fun _ => rfl⟩
        · rw [if_neg h0, if_neg h0]
          by_cases h1 : 4096 < u.top + F.Fr
          · rw [if_pos h1, if_pos h1]; exact ⟨Fast.refl _, fun _ => rfl⟩
          · rw [if_neg h1, if_neg h1]
            have hT : TopS L k (startU u m F) (startU (swapU u k g) m F) := by
              refine ⟨⟨rfl, rfl, rfl, ?_⟩, trivial⟩
              simp only
              rw [if_neg hmk]
              rfl
            exact ⟨sim_fast L hf hc n n _ _ _ (Nat.le_refl _) hT, fun hst => sim_same L hst hf hc n _ _ _ hT⟩
end Go.Proofs.Ytkcclefonmnpnaa

/- A FUNCTION WITHOUT WHAT IS NOT REACHED, OR IS DEAD, DOES THE SAME, AND MAYBE SOONER (plain). -/
namespace Go.Proofs.Ytkcclefonmnpnaa

section
variable (i : Ins) (p : Nat) (base : Int) (ρ : List Int) (E : Env)
theorem ls1 (h : i.kind = 1) : lstep i p base ρ E = .go (p + 1) (setd i.dst i.n ρ) E := by unfold lstep; rw [if_pos h]
theorem ls2 (h : i.kind = 2 ∨ i.kind = 3) : lstep i p base ρ E = if (dov i.op (rg ρ i.a) (i.bv ρ)).2 = true then .go (p + 1) (setd i.dst (dov i.op (rg ρ i.a) (i.bv ρ)).1 ρ) E else .stop 2 := by unfold lstep; rw [if_neg (by omega), if_pos h]
theorem ls4 (h : i.kind = 4) : lstep i p base ρ E = .go (p + 1) (setd i.dst (rg ρ i.a) ρ) E := by unfold lstep; rw [if_neg (by omega), if_neg (by omega), if_pos h]
theorem ls5 (h : i.kind = 5) : lstep i p base ρ E = .go (p + 1) (setd i.dst (base + i.n) ρ) E := by unfold lstep; rw [if_neg (by omega), if_neg (by omega), if_neg (by omega), if_pos h]
theorem ls6 (h : i.kind = 6) : lstep i p base ρ E = if pln (rg ρ i.a) < 1 ∨ 4096 ≤ pln (rg ρ i.a) then .stop 1 else .go (p + 1) (setd i.dst (E.mem.getD (pln (rg ρ i.a)).toNat 0) ρ) E := by
  unfold lstep; rw [if_neg (by omega), if_neg (by omega), if_neg (by omega), if_neg (by omega), if_pos h]
theorem ls7 (h : i.kind = 7) : lstep i p base ρ E = if pln (rg ρ i.a) < 1 ∨ 4096 ≤ pln (rg ρ i.a) then .stop 1 else .go (p + 1) ρ { E with mem := E.mem.set (pln (rg ρ i.a)).toNat (rg ρ i.b) } := by
  unfold lstep; rw [if_neg (by omega), if_neg (by omega), if_neg (by omega), if_neg (by omega), if_neg (by omega), if_pos h]
theorem ls8 (h : i.kind = 8) : lstep i p base ρ E = .call i.text ((i.args.take i.n.toNat).map (rg ρ)) i.dst := by
  unfold lstep; rw [if_neg (by omega), if_neg (by omega), if_neg (by omega), if_neg (by omega), if_neg (by omega), if_neg (by omega), if_pos h]
theorem ls9 (h : i.kind = 9) : lstep i p base ρ E = .go (p + 1) (setd i.dst (E.inp.headD (-1)) ρ) { E with inp := E.inp.tail } := by
  unfold lstep; rw [if_neg (by omega), if_neg (by omega), if_neg (by omega), if_neg (by omega), if_neg (by omega), if_neg (by omega), if_neg (by omega), if_pos h]
theorem ls10 (h : i.kind = 10) : lstep i p base ρ E = .go (p + 1) ρ { E with out := E.out ++ [pln (rg ρ i.a) % 256] } := by
  unfold lstep; rw [if_neg (by omega), if_neg (by omega), if_neg (by omega), if_neg (by omega), if_neg (by omega), if_neg (by omega), if_neg (by omega), if_neg (by omega), if_pos h]
theorem ls11 (h : i.kind = 11) : lstep i p base ρ E = .go i.to_.toNat ρ E := by
  unfold lstep; rw [if_neg (by omega), if_neg (by omega), if_neg (by omega), if_neg (by omega), if_neg (by omega), if_neg (by omega), if_neg (by omega), if_neg (by omega), if_neg (by omega), if_pos h]
theorem ls12 (h : i.kind = 12) : lstep i p base ρ E = .go (if rg ρ i.a = 0 then i.els.toNat else i.to_.toNat) ρ E := by
  unfold lstep; rw [if_neg (by omega), if_neg (by omega), if_neg (by omega), if_neg (by omega), if_neg (by omega), if_neg (by omega), if_neg (by omega), if_neg (by omega), if_neg (by omega), if_neg (by omega), if_pos h]
theorem ls13 (h : ¬ (1 ≤ i.kind ∧ i.kind ≤ 12)) : lstep i p base ρ E = .ret (rg ρ i.a) := by
  unfold lstep; rw [if_neg (by omega), if_neg (by omega), if_neg (by omega), if_neg (by omega), if_neg (by omega), if_neg (by omega), if_neg (by omega), if_neg (by omega), if_neg (by omega), if_neg (by omega), if_neg (by omega)]
end
/-- v is put where the instruction sets -/
def Put (i : Ins) (v : Int) (ρ σ : List Int) : Prop := σ = if kS i.kind = true then setd i.dst v ρ else ρ
/-- what an instruction does elsewhere, with registers of which those that it reads are the same -/
def Alike (G : Nat → Bool) (i : Ins) (p p' : Nat) (ρ ρ' : List Int) (y : Deed) : Deed → Prop
  | .go q σ E' => (q : Int) ∈ i.next p ∧ ∃ σ', y = .go (if i.kind < 11 then p' + 1 else toI G q) σ' E' ∧ ∃ v, Put i v ρ σ ∧ Put i v ρ' σ'
  | x => y = x
theorem fix_step {G : Nat → Bool} {i : Ins} {R Fr : Int} {L : Nat} (hok : Ok i R Fr L) {ρ ρ' : List Int} (h : ∀ r ∈ i.uses, rg ρ r = rg ρ' r) (p p' : Nat) (base : Int) (E : Env) :
    Alike G i p p' ρ ρ' (lstep (fixI G i) p' base ρ' E) (lstep i p base ρ E) := by
  have hA : kA i.kind = true → rg ρ i.a = rg ρ' i.a := fun hk => h _ (by simp [Ins.uses, hk])
  have hB : kB i.kind = true → rg ρ i.b = rg ρ' i.b := fun hk => h _ (by simp [Ins.uses, hk])
  have hk := hok.kind
  have one : i.kind < 11 → ((p + 1 : Nat) : Int) ∈ i.next p := fun hlt => by
    rw [next_low (by omega)]; simp
  have put : ∀ v, kS i.kind = true → ∀ E' : Env, Alike G i p p' ρ ρ' (.go (p' + 1) (setd i.dst v ρ') E') (.go (p + 1) (setd i.dst v ρ) E') := fun v hs E' => by
    have hlt : i.kind < 11 := by
      have : kS i.kind = true := hs
      unfold kS at this
      simp at this
      omega
    exact ⟨one hlt, _, by rw [if_pos hlt], v, by unfold Put; rw [if_pos hs], by unfold Put; rw [if_pos hs]⟩
  have keep : kS i.kind = false → i.kind < 11 → ∀ E' : Env, Alike G i p p' ρ ρ' (.go (p' + 1) ρ' E') (.go (p + 1) ρ E') := fun hs hlt E' =>
    ⟨one hlt, _, by rw [if_pos hlt], 0, by unfold Put; rw [hs]; rfl, by unfold Put; rw [hs]; rfl⟩
  have cases : i.kind = 1 ∨ (i.kind = 2 ∨ i.kind = 3) ∨ i.kind = 4 ∨ i.kind = 5 ∨ i.kind = 6 ∨ i.kind = 7 ∨ i.kind = 8 ∨ i.kind = 9 ∨ i.kind = 10 ∨ i.kind = 11 ∨ i.kind = 12 ∨ i.kind = 13 := by omega
  rcases cases with k | k | k | k | k | k | k | k | k | k | k | k
  · rw [ls1 i p base ρ E k, ls1 (fixI G i) p' base ρ' E k]
    exact put _ (by rw [k]; decide) _
  · have e1 := hA (by rcases k with k | k <;> rw [k] <;> decide)
    have e2 : (fixI G i).bv ρ' = i.bv ρ := by
      unfold Ins.bv
      show (if i.kind = 3 then rg ρ' i.b else 0) = _
      by_cases h3 : i.kind = 3
      · rw [if_pos h3, if_pos h3]; exact (hB (by rw [h3]; decide)).symm
      · rw [if_neg h3, if_neg h3]
    rw [ls2 i p base ρ E k, ls2 (fixI G i) p' base ρ' E k, e2]
    show Alike G i p p' ρ ρ' (if (dov i.op (rg ρ' i.a) (i.bv ρ)).2 = true then .go (p' + 1) (setd i.dst (dov i.op (rg ρ' i.a) (i.bv ρ)).1 ρ') E else .stop 2) _
    rw [← e1]
    by_cases hd : (dov i.op (rg ρ i.a) (i.bv ρ)).2 = true
    · rw [if_pos hd, if_pos hd]
      exact put _ (by rcases k with k | k <;> rw [k] <;> decide) _
    · rw [if_neg hd, if_neg hd]
      rfl
  · rw [ls4 i p base ρ E k, ls4 (fixI G i) p' base ρ' E k]
    show Alike G i p p' ρ ρ' (.go (p' + 1) (setd i.dst (rg ρ' i.a) ρ') E) _
    rw [← hA (by rw [k]; decide)]
    exact put _ (by rw [k]; decide) _
  · rw [ls5 i p base ρ E k, ls5 (fixI G i) p' base ρ' E k]
    exact put _ (by rw [k]; decide) _
  · rw [ls6 i p base ρ E k, ls6 (fixI G i) p' base ρ' E k]
    show Alike G i p p' ρ ρ' (if pln (rg ρ' i.a) < 1 ∨ 4096 ≤ pln (rg ρ' i.a) then _ else .go (p' + 1) (setd i.dst (E.mem.getD (pln (rg ρ' i.a)).toNat 0) ρ') E) _
    rw [← hA (by rw [k]; decide)]
    by_cases hd : pln (rg ρ i.a) < 1 ∨ 4096 ≤ pln (rg ρ i.a)
    · rw [if_pos hd, if_pos hd]; rfl
    · rw [if_neg hd, if_neg hd]
      exact put _ (by rw [k]; decide) _
  · rw [ls7 i p base ρ E k, ls7 (fixI G i) p' base ρ' E k]
    show Alike G i p p' ρ ρ' (if pln (rg ρ' i.a) < 1 ∨ 4096 ≤ pln (rg ρ' i.a) then _ else .go (p' + 1) ρ' { E with mem := E.mem.set (pln (rg ρ' i.a)).toNat (rg ρ' i.b) }) _
    rw [← hA (by rw [k]; decide), ← hB (by rw [k]; decide)]
    by_cases hd : pln (rg ρ i.a) < 1 ∨ 4096 ≤ pln (rg ρ i.a)
    · rw [if_pos hd, if_pos hd]; rfl
    · rw [if_neg hd, if_neg hd]
      exact keep (by rw [k]; decide) (by omega) _
  · rw [ls8 i p base ρ E k, ls8 (fixI G i) p' base ρ' E k]
    show Deed.call i.text ((i.args.take i.n.toNat).map (rg ρ')) i.dst = _
    have : (i.args.take i.n.toNat).map (rg ρ') = (i.args.take i.n.toNat).map (rg ρ) := by
      apply List.map_congr_left
      intro r hr
      exact (h r (by simp [Ins.uses, k, hr])).symm
    rw [this]
  · rw [ls9 i p base ρ E k, ls9 (fixI G i) p' base ρ' E k]
    exact put _ (by rw [k]; decide) _
  · rw [ls10 i p base ρ E k, ls10 (fixI G i) p' base ρ' E k]
    show Alike G i p p' ρ ρ' (.go (p' + 1) ρ' { E with out := E.out ++ [pln (rg ρ' i.a) % 256] }) _
    rw [← hA (by rw [k]; decide)]
    exact keep (by rw [k]; decide) (by omega) _
  · rw [ls11 i p base ρ E k, ls11 (fixI G i) p' base ρ' E k]
    have := hok.to_ (Or.inl k)
    refine ⟨by unfold Ins.next; rw [if_pos k]; simp; omega, ρ', ?_, 0, by unfold Put; rw [k]; rfl, by unfold Put; rw [k]; rfl⟩
    rw [if_neg (by omega)]
    simp [fixI, k]
  · rw [ls12 i p base ρ E k, ls12 (fixI G i) p' base ρ' E k]
    have h1 := hok.to_ (Or.inr k)
    have h2 := hok.els k
    have hnx : i.next p = [i.to_, i.els] := by unfold Ins.next; rw [if_neg (by omega), if_pos k]
    refine ⟨?_, ρ', ?_, 0, by unfold Put; rw [k]; rfl, by unfold Put; rw [k]; rfl⟩
    · rw [hnx]
      by_cases h0 : rg ρ i.a = 0
      · rw [if_pos h0]; simp; omega
      · rw [if_neg h0]; simp; omega
    · rw [if_neg (show ¬ i.kind < 11 by omega)]
      show Deed.go (if rg ρ' i.a = 0 then (fixI G i).els.toNat else (fixI G i).to_.toNat) ρ' E = _
      rw [← hA (by rw [k]; decide)]
      by_cases h0 : rg ρ i.a = 0
      · rw [if_pos h0, if_pos h0]; simp [fixI, k]
      · rw [if_neg h0, if_neg h0]; simp [fixI, k]
  · rw [ls13 i p base ρ E (by omega), ls13 (fixI G i) p' base ρ' E (by show ¬ (1 ≤ i.kind ∧ i.kind ≤ 12); omega)]
    show Deed.ret (rg ρ' i.a) = Deed.ret (rg ρ i.a)
    rw [← hA (by rw [k]; decide)]
theorem dov_stdy {op : Int} (h : (20 ≤ op ∧ op ≤ 23) ∨ stdy op = true) (a b : Int) : (dov op a b).2 = true := by
  have h : (20 ≤ op ∧ op ≤ 23) ∨ (1 ≤ op ∧ op ≤ 23 ∧ ¬ (4 ≤ op ∧ op ≤ 7)) := by
    rcases h with h | h
    · exact Or.inl h
    · exact Or.inr (of_decide_eq_true h)
  have : op = 1 ∨ op = 2 ∨ op = 3 ∨ op = 8 ∨ op = 9 ∨ op = 10 ∨ op = 11 ∨ op = 12 ∨ op = 13 ∨ op = 14 ∨ op = 15 ∨ op = 16 ∨ op = 17 ∨ op = 18 ∨ op = 19 ∨ op = 20 ∨ op = 21 ∨ op = 22 ∨ op = 23 := by omega
  rcases this with e | e | e | e | e | e | e | e | e | e | e | e | e | e | e | e | e | e | e <;> subst e <;> rfl
/-- a pure instruction sets its register, and that is all -/
theorem pur_step {i : Ins} {R Fr : Int} {L : Nat} (hok : Ok i R Fr L) (hp : pur i = true) (p : Nat) (base : Int) (ρ : List Int) (E : Env) : kS i.kind = true ∧ ∃ v, lstep i p base ρ E = .go (p + 1) (setd i.dst v ρ) E := by
  unfold pur at hp
  simp only [Bool.or_eq_true, decide_eq_true_eq, Bool.and_eq_true] at hp
  have cases : i.kind = 1 ∨ i.kind = 2 ∨ (i.kind = 3 ∧ stdy i.op = true) ∨ i.kind = 4 ∨ i.kind = 5 := by
    rcases hp with (h | h | h | h) | h
    · exact Or.inl h
    · exact Or.inr (Or.inl h)
    · exact Or.inr (Or.inr (Or.inr (Or.inl h)))
    · exact Or.inr (Or.inr (Or.inr (Or.inr h)))
    · exact Or.inr (Or.inr (Or.inl h))
  rcases cases with k | k | ⟨k, hs⟩ | k | k
  · exact ⟨by rw [k]; decide, _, ls1 i p base ρ E k⟩
  · exact ⟨by rw [k]; decide, _, by rw [ls2 i p base ρ E (Or.inl k), if_pos (dov_stdy (Or.inl (hok.one k)) _ _)]⟩
  · exact ⟨by rw [k]; decide, _, by rw [ls2 i p base ρ E (Or.inr k), if_pos (dov_stdy (Or.inr hs) _ _)]⟩
  · exact ⟨by rw [k]; decide, _, ls4 i p base ρ E k⟩
  · exact ⟨by rw [k]; decide, _, ls5 i p base ρ E k⟩
theorem setd_len2 (d v : Int) (ρ : List Int) : (setd d v ρ).length = ρ.length := by unfold setd; split <;> simp
theorem rg_other {d r : Int} (v : Int) (ρ : List Int) (hr : 0 ≤ r) (h : d ≠ r) : rg (setd d v ρ) r = rg ρ r := by
  unfold rg setd
  by_cases hd : 0 ≤ d
  · rw [if_pos hd, List.getD_eq_getElem?_getD, List.getElem?_set_ne (by omega), ← List.getD_eq_getElem?_getD]
  · rw [if_neg hd]
theorem rg_same {d : Int} (v : Int) {ρ ρ' : List Int} (hl : ρ.length = ρ'.length) (hd : 0 ≤ d) : rg (setd d v ρ) d = rg (setd d v ρ') d := by
  unfold rg setd
  rw [if_pos hd, if_pos hd, List.getD_eq_getElem?_getD, List.getD_eq_getElem?_getD, List.getElem?_set, List.getElem?_set]
  simp [hl]
/-- A FUNCTION WITHOUT SOME OF ITS INSTRUCTIONS -/
def wF_loc {G : Nat → Bool} {f : Fn7} (hf : OkF f) (hgone : ∀ p i, f.code[p]? = some i → Rch f.code p → G p = true → pur i = true ∧ ¬ Bh f.code p i.dst)
    (hlow : ∀ p, Rch f.code p → toI G p < toI G f.code.length) : Loc True f (wF G f) where
  R := fun _ p ρ p' ρ' => Rch f.code p ∧ p' = toI G p ∧ ρ.length = ρ'.length ∧ ∀ r, Lv f.code p r → rg ρ r = rg ρ' r
  nm := rfl
  ps := rfl
  Rs := rfl
  Fr := rfl
  start := fun _ args hargs => ⟨Rch.zero (by have := hf.len; omega), rfl, rfl, fun _ _ => rfl⟩
  at_ := fun _ p ρ p' ρ' h => by
    obtain ⟨hr, rfl, _, _⟩ := h
    refine ⟨_, _, insD_in (hr.lt hf), insD_in ?_⟩
    show toI G p < (wout G f.code).length
    rw [wout_len]
    exact hlow p hr
  go := fun p ρ p' ρ' i i' base E q σ E' h hi hi' hl => by
    obtain ⟨hr, rfl, hlen, hv⟩ := h
    have hok := hf.ok i (List.mem_of_getElem? hi)
    cases hG : G p with
    | true =>
      obtain ⟨h1, h2⟩ := hgone p i hi hr hG
      obtain ⟨hs, v, h3⟩ := pur_step hok h1 p base ρ E
      rw [h3] at hl
      injection hl with e1 e2 e3
      subst e1 e2 e3
      have hlt : i.kind < 11 := by
        unfold kS at hs
        simp at hs
        omega
      have hn : ((p + 1 : Nat) : Int) ∈ i.next p := by rw [next_low (by omega)]; simp
      refine Or.inl ⟨trivial, rfl, by simpa using Rch.step hr hi hn, by rw [toI_succ, hG]; rfl, by rw [setd_len2]; exact hlen, fun r hrl => ?_⟩
      have hne : i.dst ≠ r := fun e => h2 ⟨i, hi, _, hn, by rw [e]; simpa using hrl⟩
      have hb := Lv.bound hf hrl
      rw [rg_other v ρ hb.1.1 hne]
      refine hv r (Lv.step hi hn ?_ (by simpa using hrl))
      unfold Ins.sets
      rw [if_pos hs]
      exact hne
    | false =>
      have hw := wout_get hi hG
      have hi' : (wout G f.code)[toI G p]? = some i' := hi'
      rw [hw] at hi'
      injection hi' with hi'
      subst hi'
      have ha := fix_step (G := G) hok (ρ := ρ) (ρ' := ρ') (fun r hr => hv r (Lv.use hi hr)) p (toI G p) base E
      rw [hl] at ha
      obtain ⟨hn, σ', he, v, hp1, hp2⟩ := ha
      refine Or.inr ⟨_, σ', he, by simpa using Rch.step hr hi hn, ?_, ?_, fun r hrl => ?_⟩
      · split
        · rename_i hk
          rw [next_low (by omega)] at hn
          have : q = p + 1 := by simp at hn; omega
          rw [this, toI_succ, hG]; rfl
        · rfl
      · rw [hp1, hp2]
        split
        · rw [setd_len2, setd_len2]; exact hlen
        · exact hlen
      · have hb := Lv.bound hf hrl
        rw [hp1, hp2]
        by_cases hs : kS i.kind = true
        · rw [if_pos hs, if_pos hs]
          by_cases hd : i.dst = r
          · subst hd; exact rg_same v hlen hb.1.1
          · rw [rg_other v ρ hb.1.1 hd, rg_other v ρ' hb.1.1 hd]
            exact hv r (Lv.step hi hn (by unfold Ins.sets; rw [if_pos hs]; exact hd) (by simpa using hrl))
        · rw [if_neg hs, if_neg hs]
          exact hv r (Lv.step hi hn (by unfold Ins.sets; rw [if_neg hs]; omega) (by simpa using hrl))
  stop := fun p ρ p' ρ' i i' base E c h hi hi' hl => by
    obtain ⟨hr, rfl, hlen, hv⟩ := h
    have hok := hf.ok i (List.mem_of_getElem? hi)
    cases hG : G p with
    | true =>
      obtain ⟨h1, h2⟩ := hgone p i hi hr hG
      obtain ⟨hs, v, h3⟩ := pur_step hok h1 p base ρ E
      rw [h3] at hl
      cases hl
    | false =>
      have hw := wout_get hi hG
      have hi' : (wout G f.code)[toI G p]? = some i' := hi'
      rw [hw] at hi'
      injection hi' with hi'
      subst hi'
      have ha := fix_step (G := G) hok (ρ := ρ) (ρ' := ρ') (fun r hr => hv r (Lv.use hi hr)) p (toI G p) base E
      rw [hl] at ha
      exact ha
  call := fun p ρ p' ρ' i i' base E nm args d h hi hi' hl => by
    obtain ⟨hr, rfl, hlen, hv⟩ := h
    have hok := hf.ok i (List.mem_of_getElem? hi)
    cases hG : G p with
    | true =>
      obtain ⟨h1, h2⟩ := hgone p i hi hr hG
      obtain ⟨hs, v, h3⟩ := pur_step hok h1 p base ρ E
      rw [h3] at hl
      cases hl
    | false =>
      have hw := wout_get hi hG
      have hi' : (wout G f.code)[toI G p]? = some i' := hi'
      rw [hw] at hi'
      injection hi' with hi'
      subst hi'
      have ha := fix_step (G := G) hok (ρ := ρ) (ρ' := ρ') (fun r hr => hv r (Lv.use hi hr)) p (toI G p) base E
      rw [hl] at ha
      obtain ⟨q1, _, _, q4⟩ := lstep_call hl
      have hn : ((p + 1 : Nat) : Int) ∈ i.next p := by rw [next_low (by omega)]; simp
      have hs : kS i.kind = true := by rw [q1]; decide
      refine ⟨ha, fun v => ⟨by simpa using Rch.step hr hi hn, by rw [toI_succ, hG]; rfl, by rw [setd_len2, setd_len2]; exact hlen, fun r hrl => ?_⟩⟩
      have hb := Lv.bound hf hrl
      by_cases hd : d = r
      · subst hd; exact rg_same v hlen hb.1.1
      · rw [rg_other v ρ hb.1.1 hd, rg_other v ρ' hb.1.1 hd]
        exact hv r (Lv.step hi hn (by unfold Ins.sets; rw [if_pos hs, ← q4]; exact hd) (by simpa using hrl))
  ret := fun p ρ p' ρ' i i' base E v h hi hi' hl => by
    obtain ⟨hr, rfl, hlen, hv⟩ := h
    have hok := hf.ok i (List.mem_of_getElem? hi)
    cases hG : G p with
    | true =>
      obtain ⟨h1, h2⟩ := hgone p i hi hr hG
      obtain ⟨hs, v, h3⟩ := pur_step hok h1 p base ρ E
      rw [h3] at hl
      cases hl
    | false =>
      have hw := wout_get hi hG
      have hi' : (wout G f.code)[toI G p]? = some i' := hi'
      rw [hw] at hi'
      injection hi' with hi'
      subst hi'
      have ha := fix_step (G := G) hok (ρ := ρ) (ρ' := ρ') (fun r hr => hv r (Lv.use hi hr)) p (toI G p) base E
      rw [hl] at ha
      exact ha
/-- nothing but what may fall on goes -/
theorem toI_low {G : Nat → Bool} {f : Fn7} (hf : OkF f) (hgone : ∀ p i, f.code[p]? = some i → Rch f.code p → G p = true → ¬ 11 ≤ i.kind) : ∀ (n p : Nat), f.code.length - p = n → Rch f.code p → toI G p < toI G f.code.length
  | n, p, hn, hr => by
    have hp := hr.lt hf
    cases hG : G p with
    | false => exact toI_lt G hp hG
    | true =>
      have hi := insD_in hp
      have hk := hgone p _ hi hr hG
      have h2 := Rch.step hr hi (n := (p : Int) + 1) (by rw [next_low hk]; simp)
      have h2 : Rch f.code (p + 1) := by simpa using h2
      have := toI_low hf hgone (f.code.length - (p + 1)) (p + 1) rfl h2
      rw [toI_succ, hG] at this
      exact this
termination_by n _ => n
decreasing_by omega
noncomputable def uF_loc {f : Fn7} (hf : OkF f) : Loc True f (uF f) :=
  wF_loc hf (fun _ _ _ hr hG => by rw [GU_false.2 hr] at hG; cases hG) (fun p hr => toI_low hf (fun _ _ _ hr hG => by rw [GU_false.2 hr] at hG; cases hG) _ p rfl hr)
noncomputable def dF_loc {f : Fn7} (hf : OkF f) : Loc True f (dF f) :=
  wF_loc hf (fun _ _ hi _ hG => (deadB_iff hi).1 hG) (fun p hr => toI_low hf (fun _ _ hi _ hG => GD_low hi hG) _ p rfl hr)
end Go.Proofs.Ytkcclefonmnpnaa

/- WHAT WAS RECKONED IS SHARED (plain): it may be, and does the same. -/
namespace Go.Proofs.Ytkcclefonmnpnaa

/-- what is known within a run -/
structure ShS where
  am : Int → Option Int
  has : Ins → Option Int
def ShS.none : ShS := ⟨fun _ => .none, fun _ => .none⟩
def ShS.thr (x : ShS) (r : Int) : Int := (x.am r).getD r
def ShS.read (x : ShS) (i : Ins) : Ins :=
  { i with a := if kA i.kind = true then x.thr i.a else i.a, b := if kB i.kind = true then x.thr i.b else i.b,
           r0 := if i.kind = 8 ∧ 0 < i.n then x.thr i.r0 else i.r0, r1 := if i.kind = 8 ∧ 1 < i.n then x.thr i.r1 else i.r1, r2 := if i.kind = 8 ∧ 2 < i.n then x.thr i.r2 else i.r2,
           r3 := if i.kind = 8 ∧ 3 < i.n then x.thr i.r3 else i.r3, r4 := if i.kind = 8 ∧ 4 < i.n then x.thr i.r4 else i.r4, r5 := if i.kind = 8 ∧ 5 < i.n then x.thr i.r5 else i.r5 }
def ShS.forget (x : ShS) (r : Int) : ShS :=
  ⟨fun k => if k = r ∨ x.am k = some r then .none else x.am k, fun i => if x.has i = some r ∨ r ∈ i.uses then .none else x.has i⟩
def keyI (i : Ins) : Ins := { i with dst := 0 }
def copyI (d a : Int) : Ins := ⟨4, 0, d, a, 0, 0, ⟨#[]⟩, 0, 0, 0, 0, 0, 0, 0, -1⟩
/-- a pure one that is more than a number or a copy -/
def more (i : Ins) : Bool := pur i && decide (1 < i.kind) && decide (i.kind ≠ 4)
def ShS.new (x : ShS) (i : Ins) : Ins :=
  match x.has (keyI (x.read i)) with
  | some r => if more (x.read i) = true then copyI i.dst r else x.read i
  | .none => x.read i
def ShS.step (x : ShS) (i : Ins) : ShS :=
  let o := x.new i
  let r := o.sets
  if r < 0 then x
  else
    let y := x.forget r
    if o.kind = 4 ∧ o.a ≠ r then ⟨fun k => if k = r then some (y.thr o.a) else y.am k, y.has⟩
    else if more o = true ∧ r ∉ o.uses then ⟨y.am, fun k => if k = keyI (x.read i) then some r else y.has k⟩
    else y
/-- the first of a run -/
def first (l : List Ins) (p : Nat) : Bool :=
  decide (p = 0) || (List.range l.length).any fun q => decide (11 ≤ (insD l q).kind) && (decide (q + 1 = p) || decide ((p : Int) ∈ (insD l q).next q))
def shOut (l : List Ins) : Nat → ShS
  | 0 => ShS.none
  | p + 1 => (if first l p = true then ShS.none else shOut l p).step (insD l p)
def shIn (l : List Ins) (p : Nat) : ShS := if first l p = true then ShS.none else shOut l p
theorem shOut_succ (l : List Ins) (p : Nat) : shOut l (p + 1) = (shIn l p).step (insD l p) := rfl
def shL (l : List Ins) : List Ins := (List.range l.length).map fun p => (shIn l p).new (insD l p)
def shN (l : List Ins) (k : Nat) : Nat := ((List.range k).filter fun p => decide ((shIn l p).new (insD l p) ≠ insD l p)).length
def shF (f : Fn7) : Fn7 := { f with code := shL f.code }
theorem shL_len (l : List Ins) : (shL l).length = l.length := by simp [shL]
theorem shL_at {l : List Ins} {p : Nat} {i : Ins} (h : l[p]? = some i) : (shL l)[p]? = some ((shIn l p).new i) := by
  have hp := (List.getElem?_eq_some_iff.1 h).1
  simp [shL, hp, insD_some h]
/-- what is known is of registers, and of pure instructions -/
structure ShI (R : Int) (x : ShS) : Prop where
  am : ∀ r a, x.am r = some a → (0 ≤ r ∧ r < R) ∧ 0 ≤ a ∧ a < R
  has : ∀ k r, x.has k = some r → (0 ≤ r ∧ r < R) ∧ more k = true ∧ ∀ u ∈ k.uses, 0 ≤ u ∧ u < R
theorem ShI.none (R : Int) : ShI R ShS.none := ⟨fun _ _ h => (by simp [ShS.none] at h), fun _ _ h => (by simp [ShS.none] at h)⟩
theorem ShI.thr {R : Int} {x : ShS} (h : ShI R x) {r : Int} (h0 : 0 ≤ r ∧ r < R) : 0 ≤ x.thr r ∧ x.thr r < R := by
  unfold ShS.thr
  cases ha : x.am r with
  | none => exact h0
  | some a => exact (h.am r a ha).2
theorem read_uses {x : ShS} {i : Ins} (hk : i.kind = 8 → 0 ≤ i.n ∧ i.n ≤ 6) : (x.read i).uses = i.uses.map x.thr := by
  obtain ⟨k, op, dst, a, b, n, text, r0, r1, r2, r3, r4, r5, to_, els⟩ := i
  unfold Ins.uses ShS.read
  simp only [List.map_append]
  by_cases h8 : k = 8
  · subst h8
    obtain ⟨h0, h6⟩ := hk rfl
    simp only at h0 h6
    have : n = 0 ∨ n = 1 ∨ n = 2 ∨ n = 3 ∨ n = 4 ∨ n = 5 ∨ n = 6 := by omega
    rcases this with e | e | e | e | e | e | e <;> subst e <;> simp [Ins.args, kA, kB]
  · simp only [h8, if_false]
    cases hA : kA k <;> cases hB : kB k <;> simp
theorem read_ok {x : ShS} {i : Ins} {R Fr : Int} {L : Nat} (hx : ShI R x) (h : Ok i R Fr L) : Ok (x.read i) R Fr L := by
  have hu := read_uses (x := x) (i := i) (fun hk => by have := h.call hk; omega)
  refine ⟨h.kind, fun r hr => ?_, h.dst, h.word, h.fr, h.call, h.one, h.two, h.to_, h.els, ?_⟩
  · rw [hu] at hr
    obtain ⟨u, hu', rfl⟩ := List.mem_map.1 hr
    exact hx.thr (h.uses u hu')
  · have hm := h.mask
    obtain ⟨k, op, dst, a, b, n, text, r0, r1, r2, r3, r4, r5, to_, els⟩ := i
    unfold Ins.mask at hm ⊢
    unfold ShS.read
    simp only [Ins.mk.injEq, true_and] at hm ⊢
    obtain ⟨m1, m2, m3, m4, m5, m6, m7, m8, m9, m10, m11, m12, m13, m14⟩ := hm
    refine ⟨m1, m2, ?_, ?_, m5, m6, ?_, ?_, ?_, ?_, ?_, ?_, m13, m14⟩
    · cases hA : kA k <;> simp only [hA, if_true, Bool.false_eq_true, if_false] at m3 ⊢
      exact m3
    · cases hB : kB k <;> simp only [hB, if_true, Bool.false_eq_true, if_false] at m4 ⊢
      exact m4
    · by_cases e : k = 8 ∧ 0 < n <;> simp only [e, if_false] at m7 ⊢; all_goals first | exact m7 | trivial
    · by_cases e : k = 8 ∧ 1 < n <;> simp only [e, if_false] at m8 ⊢; all_goals first | exact m8 | trivial
    · by_cases e : k = 8 ∧ 2 < n <;> simp only [e, if_false] at m9 ⊢; all_goals first | exact m9 | trivial
    · by_cases e : k = 8 ∧ 3 < n <;> simp only [e, if_false] at m10 ⊢; all_goals first | exact m10 | trivial
    · by_cases e : k = 8 ∧ 4 < n <;> simp only [e, if_false] at m11 ⊢; all_goals first | exact m11 | trivial
    · by_cases e : k = 8 ∧ 5 < n <;> simp only [e, if_false] at m12 ⊢; all_goals first | exact m12 | trivial
theorem more_kind {i : Ins} (h : more i = true) : pur i = true ∧ 1 < i.kind ∧ i.kind ≠ 4 := by
  unfold more at h
  simpa [Bool.and_eq_true, and_assoc] using h
theorem pur_kind {i : Ins} (h : pur i = true) : 1 ≤ i.kind ∧ i.kind ≤ 5 := by
  unfold pur at h
  simp only [Bool.or_eq_true, decide_eq_true_eq, Bool.and_eq_true] at h
  rcases h with (h | h | h | h) | h <;> omega
/-- what a new one is -/
theorem new_cases (x : ShS) (i : Ins) : x.new i = x.read i ∨ ∃ r, x.has (keyI (x.read i)) = some r ∧ more (x.read i) = true ∧ x.new i = copyI i.dst r := by
  unfold ShS.new
  cases h : x.has (keyI (x.read i)) with
  | none => exact Or.inl rfl
  | some r =>
    simp only
    by_cases hm : more (x.read i) = true
    · rw [if_pos hm]; exact Or.inr ⟨r, rfl, hm, rfl⟩
    · rw [if_neg hm]; exact Or.inl rfl
theorem kS_small {k : Int} (h : 1 ≤ k ∧ k ≤ 6) : kS k = true := by unfold kS; simp; omega
theorem new_ok {x : ShS} {i : Ins} {R Fr : Int} {L : Nat} (hx : ShI R x) (h : Ok i R Fr L) : Ok (x.new i) R Fr L := by
  rcases new_cases x i with e | ⟨r, hr, hm, e⟩
  · rw [e]; exact read_ok hx h
  · rw [e]
    obtain ⟨hp, h1, h4⟩ := more_kind hm
    have hk := pur_kind hp
    have hk : 1 ≤ i.kind ∧ i.kind ≤ 5 := hk
    have hd := h.dst (kS_small (by omega))
    have hr' := (hx.has _ _ hr).1
    refine ⟨⟨by show (1 : Int) ≤ 4; decide, by show (4 : Int) ≤ 13; decide⟩, fun u hu => ?_, fun _ => Or.inl ?_, fun e => (by cases e), fun e => (by cases e), fun e => (by cases e), fun e => (by cases e), fun e => (by cases e), fun e => (by rcases e with e | e <;> cases e), fun e => (by cases e), rfl⟩
    · have : u = r := by simpa [copyI, Ins.uses, kA, kB] using hu
      rw [this]; exact hr'
    · show 0 ≤ i.dst ∧ i.dst < R
      rcases hd with hd | hd
      · exact hd
      · omega
theorem new_sets {x : ShS} {i : Ins} : (x.new i).sets = i.sets := by
  rcases new_cases x i with e | ⟨r, hr, hm, e⟩
  · rw [e]; rfl
  · rw [e]
    have hk : 1 ≤ i.kind ∧ i.kind ≤ 5 := pur_kind (more_kind hm).1
    unfold Ins.sets
    rw [kS_small (k := i.kind) (by omega)]
    rfl
theorem step_inv {x : ShS} {i : Ins} {R Fr : Int} {L : Nat} (hx : ShI R x) (h : Ok i R Fr L) : ShI R (x.step i) := by
  have ho := new_ok hx h
  unfold ShS.step
  simp only
  by_cases hr : (x.new i).sets < 0
  · rw [if_pos hr]; exact hx
  rw [if_neg hr]
  have hset : 0 ≤ (x.new i).sets ∧ (x.new i).sets < R := by
    have hs : kS (x.new i).kind = true := by
      cases e : kS (x.new i).kind with
      | true => rfl
      | false =>
        exfalso
        apply hr
        unfold Ins.sets
        rw [e]
        simp
    have hd := ho.dst hs
    have : (x.new i).sets = (x.new i).dst := by unfold Ins.sets; rw [hs]; rfl
    rw [this] at hr ⊢
    rcases hd with hd | hd <;> omega
  generalize hrr : (x.new i).sets = r at *
  have hy : ShI R (x.forget r) := by
    refine ⟨fun k a ha => ?_, fun k q hq => ?_⟩
    · unfold ShS.forget at ha
      simp only at ha
      split at ha
      · cases ha
      · exact hx.am k a ha
    · unfold ShS.forget at hq
      simp only at hq
      split at hq
      · cases hq
      · exact hx.has k q hq
  split
  · rename_i h4
    refine ⟨fun k a ha => ?_, hy.has⟩
    simp only at ha
    split at ha
    · rename_i hk
      injection ha with ha
      subst hk ha
      exact ⟨hset, hy.thr (ho.uses _ (by unfold Ins.uses; rw [h4.1]; simp [kA]))⟩
    · exact hy.am k a ha
  · split
    · rename_i h4 hm
      refine ⟨hy.am, fun k q hq => ?_⟩
      simp only at hq
      split at hq
      · rename_i hk
        injection hq with hq
        subst hk hq
        have hor := read_ok hx h
        refine ⟨hset, ?_, hor.uses⟩
        have : x.new i = x.read i := by
          rcases new_cases x i with e | ⟨r', hr', hm', e⟩
          · exact e
          · rw [e] at hm
            have := more_kind hm.1
            exact absurd rfl this.2.2
        rw [this] at hm
        exact hm.1
      · exact hy.has k q hq
    · exact hy
theorem shIn_inv {f : Fn7} (hf : OkF f) : ∀ p, p ≤ f.code.length → ShI f.R (shOut f.code p)
  | 0, _ => ShI.none _
  | p + 1, hp => by
    rw [shOut_succ]
    refine step_inv ?_ (hf.ok _ (List.mem_of_getElem? (insD_in (by omega))))
    unfold shIn
    split
    · exact ShI.none _
    · exact shIn_inv hf p (by omega)
theorem shIn_inv' {f : Fn7} (hf : OkF f) {p : Nat} (hp : p ≤ f.code.length) : ShI f.R (shIn f.code p) := by
  unfold shIn
  split
  · exact ShI.none _
  · exact shIn_inv hf p hp
theorem shF_ok {f : Fn7} (hf : OkF f) : OkF (shF f) := by
  have hl : (shF f).code.length = f.code.length := shL_len _
  refine ⟨hf.nm, hf.ps, hf.R, hf.Fr, by rw [hl]; exact hf.len, fun i hi => ?_, fun i hi => ?_⟩
  · obtain ⟨p, hp⟩ := List.mem_iff_getElem?.1 hi
    have hlt : p < f.code.length := by
      have := (List.getElem?_eq_some_iff.1 hp).1
      rw [hl] at this; exact this
    have h1 := insD_in hlt
    have h2 : (shL f.code)[p]? = some i := hp
    rw [shL_at h1] at h2
    injection h2 with h2
    rw [← h2, hl]
    exact new_ok (shIn_inv' hf (by omega)) (hf.ok _ (List.mem_of_getElem? h1))
  · have hlt : f.code.length - 1 < f.code.length := by have := hf.len; omega
    rw [hl] at hi
    have h1 := insD_in hlt
    have h2 : (shL f.code)[f.code.length - 1]? = some i := hi
    rw [shL_at h1] at h2
    injection h2 with h2
    have hk := hf.last _ h1
    rcases new_cases (shIn f.code (f.code.length - 1)) (insD f.code (f.code.length - 1)) with e | ⟨r, hr, hm, e⟩
    · rw [← h2, e]; exact hk
    · have := pur_kind (more_kind hm).1
      have : (insD f.code (f.code.length - 1)).kind ≤ 5 := this.2
      omega
/-- what a pure instruction tells -/
def lval (i : Ins) (base : Int) (ρ : List Int) : Int :=
  if i.kind = 1 then i.n else if i.kind = 2 ∨ i.kind = 3 then (dov i.op (rg ρ i.a) (i.bv ρ)).1 else if i.kind = 4 then rg ρ i.a else base + i.n
theorem pur_val {i : Ins} {R Fr : Int} {L : Nat} (hok : Ok i R Fr L) (hp : pur i = true) (p : Nat) (base : Int) (ρ : List Int) (E : Env) : lstep i p base ρ E = .go (p + 1) (setd i.dst (lval i base ρ) ρ) E := by
  have hp0 := hp
  unfold pur at hp
  simp only [Bool.or_eq_true, decide_eq_true_eq, Bool.and_eq_true] at hp
  have cases : i.kind = 1 ∨ i.kind = 2 ∨ (i.kind = 3 ∧ stdy i.op = true) ∨ i.kind = 4 ∨ i.kind = 5 := by
    rcases hp with (h | h | h | h) | h
    · exact Or.inl h
    · exact Or.inr (Or.inl h)
    · exact Or.inr (Or.inr (Or.inr (Or.inl h)))
    · exact Or.inr (Or.inr (Or.inr (Or.inr h)))
    · exact Or.inr (Or.inr (Or.inl h))
  unfold lval
  rcases cases with k | k | ⟨k, hs⟩ | k | k
  · rw [if_pos k, ls1 i p base ρ E k]
  · rw [if_neg (by omega), if_pos (Or.inl k), ls2 i p base ρ E (Or.inl k), if_pos (dov_stdy (Or.inl (hok.one k)) _ _)]
  · rw [if_neg (by omega), if_pos (Or.inr k), ls2 i p base ρ E (Or.inr k), if_pos (dov_stdy (Or.inr hs) _ _)]
  · rw [if_neg (by omega), if_neg (by omega), if_pos k, ls4 i p base ρ E k]
  · rw [if_neg (by omega), if_neg (by omega), if_neg (by omega), ls5 i p base ρ E k]
/-- it hangs on what is read, and not on where it is put -/
theorem lval_congr {i j : Ins} (hk : i.kind = j.kind) (ho : i.op = j.op) (hn : i.n = j.n) (base : Int) (ρ ρ' : List Int) (ha : kA i.kind = true → rg ρ i.a = rg ρ' j.a) (hb : kB i.kind = true → rg ρ i.b = rg ρ' j.b) : lval i base ρ = lval j base ρ' := by
  unfold lval Ins.bv
  rw [← hk, ← ho, ← hn]
  by_cases h1 : i.kind = 1
  · rw [if_pos h1, if_pos h1]
  rw [if_neg h1, if_neg h1]
  by_cases h2 : i.kind = 2 ∨ i.kind = 3
  · rw [if_pos h2, if_pos h2, ha (by rcases h2 with e | e <;> rw [e] <;> decide)]
    by_cases h3 : i.kind = 3
    · rw [if_pos h3, if_pos h3, hb (by rw [h3]; decide)]
    · rw [if_neg h3, if_neg h3]
  rw [if_neg h2, if_neg h2]
  by_cases h4 : i.kind = 4
  · rw [if_pos h4, if_pos h4, ha (by rw [h4]; decide)]
  rw [if_neg h4, if_neg h4]
/-- what is known holds -/
structure ShV (base : Int) (x : ShS) (ρ : List Int) : Prop where
  am : ∀ r a, x.am r = some a → rg ρ r = rg ρ a
  has : ∀ k r, x.has k = some r → lval k base ρ = rg ρ r
theorem ShV.none (base : Int) (ρ : List Int) : ShV base ShS.none ρ := ⟨fun _ _ h => (by simp [ShS.none] at h), fun _ _ h => (by simp [ShS.none] at h)⟩
theorem ShV.thr {base : Int} {x : ShS} {ρ : List Int} (h : ShV base x ρ) (r : Int) : rg ρ (x.thr r) = rg ρ r := by
  unfold ShS.thr
  cases ha : x.am r with
  | none => rfl
  | some a => exact (h.am r a ha).symm
theorem ShV.read {base : Int} {x : ShS} {ρ : List Int} (h : ShV base x ρ) (i : Ins) (p : Nat) (E : Env) : lstep (x.read i) p base ρ E = lstep i p base ρ E := by
  have ha : rg ρ (x.read i).a = rg ρ i.a := by
    show rg ρ (if kA i.kind = true then x.thr i.a else i.a) = _
    split
    · exact h.thr _
    · rfl
  have hb : rg ρ (x.read i).b = rg ρ i.b := by
    show rg ρ (if kB i.kind = true then x.thr i.b else i.b) = _
    split
    · exact h.thr _
    · rfl
  have hargs : ((x.read i).args.take i.n.toNat).map (rg ρ) = (i.args.take i.n.toNat).map (rg ρ) := by
    have e : ∀ (c : Prop) [Decidable c] (r : Int), rg ρ (if c then x.thr r else r) = rg ρ r := fun c _ r => by
      split
      · exact h.thr _
      · rfl
    rw [List.map_take, List.map_take]
    congr 1
    unfold Ins.args ShS.read
    simp only [List.map_cons, List.map_nil, e]
  unfold lstep Ins.bv
  rw [ha, hb, show (x.read i).kind = i.kind from rfl, show (x.read i).n = i.n from rfl, hargs]
  rfl
theorem ShV.new {base : Int} {x : ShS} {ρ : List Int} (h : ShV base x ρ) {i : Ins} {R Fr : Int} {L : Nat} (hx : ShI R x) (hok : Ok i R Fr L) (p : Nat) (E : Env) : lstep (x.new i) p base ρ E = lstep i p base ρ E := by
  rcases new_cases x i with e | ⟨r, hr, hm, e⟩
  · rw [e]; exact h.read i p E
  · rw [e, ← h.read i p E, pur_val (read_ok hx hok) (more_kind hm).1 p base ρ E]
    rw [ls4 (copyI i.dst r) p base ρ E rfl]
    show Deed.go (p + 1) (setd i.dst (rg ρ r) ρ) E = Deed.go (p + 1) (setd i.dst (lval (x.read i) base ρ) ρ) E
    rw [← h.has _ _ hr]
    rw [lval_congr (i := keyI (x.read i)) (j := x.read i) rfl rfl rfl base ρ ρ (fun _ => rfl) (fun _ => rfl)]
/-- what is known behind a step -/
theorem ShV.step {base : Int} {x : ShS} {ρ : List Int} (h : ShV base x ρ) {i : Ins} {R Fr : Int} {L : Nat} (hx : ShI R x) (hok : Ok i R Fr L) (hl : ρ.length = R.toNat) (v : Int)
    (hv : pur i = true → v = lval (x.read i) base ρ) : ShV base (x.step i) (if kS i.kind = true then setd i.dst v ρ else ρ) := by
  have ho := new_ok hx hok
  unfold ShS.step
  simp only
  have hse : (x.new i).sets = i.sets := new_sets
  by_cases hr : (x.new i).sets < 0
  · rw [if_pos hr]
    rw [hse] at hr
    have : (if kS i.kind = true then setd i.dst v ρ else ρ) = ρ := by
      split
      · rename_i hs
        have : i.sets = i.dst := by unfold Ins.sets; rw [if_pos hs]
        unfold setd
        rw [if_neg (by omega)]
      · rfl
    rw [this]
    exact h
  rw [if_neg hr]
  have hs : kS i.kind = true := by
    cases e : kS i.kind with
    | true => rfl
    | false =>
      exfalso
      apply hr
      rw [hse]
      unfold Ins.sets
      rw [e]
      simp
  have hd : i.sets = i.dst := by unfold Ins.sets; rw [if_pos hs]
  rw [if_pos hs]
  rw [hse, hd] at hr ⊢
  have hdR : 0 ≤ i.dst ∧ i.dst < R := by rcases hok.dst hs with e | e <;> omega
  generalize hrr : i.dst = r at *
  have hval : rg (setd r v ρ) r = v := by
    unfold rg setd
    rw [if_pos hdR.1, List.getD_eq_getElem?_getD, List.getElem?_set_self (by omega)]
    rfl
  have hoth : ∀ q, 0 ≤ q → q ≠ r → rg (setd r v ρ) q = rg ρ q := fun q hq hne => rg_other v ρ hq (Ne.symm hne)
  have hlv : ∀ k, (∀ u ∈ k.uses, 0 ≤ u ∧ u < R) → r ∉ k.uses → lval k base (setd r v ρ) = lval k base ρ := fun k hku hnr =>
    lval_congr rfl rfl rfl base _ _ (fun hA => hoth _ (hku _ (by simp [Ins.uses, hA])).1 (fun e => hnr (by simp [Ins.uses, hA, e]))) (fun hB => hoth _ (hku _ (by simp [Ins.uses, hB])).1 (fun e => hnr (by simp [Ins.uses, hB, e])))
  have hy : ShV base (x.forget r) (setd r v ρ) := by
    refine ⟨fun k a ha => ?_, fun k q hq => ?_⟩
    · unfold ShS.forget at ha
      simp only at ha
      split at ha
      · cases ha
      · rename_i hn
        have hi := hx.am k a ha
        rw [hoth k hi.1.1 (fun e => hn (Or.inl e)), hoth a hi.2.1 (fun e => hn (Or.inr (by rw [ha, e])))]
        exact h.am k a ha
    · unfold ShS.forget at hq
      simp only at hq
      split at hq
      · cases hq
      · rename_i hn
        have hi := hx.has k q hq
        rw [hoth q hi.1.1 (fun e => hn (Or.inl (by rw [hq, e]))), hlv k hi.2.2 (fun e => hn (Or.inr e))]
        exact h.has k q hq
  split
  · rename_i h4
    refine ⟨fun k a ha => ?_, hy.has⟩
    simp only at ha
    split at ha
    · rename_i hk
      injection ha with ha
      subst ha
      rw [hk, hval, hy.thr]
      have hoa := ho.uses (x.new i).a (by unfold Ins.uses; rw [h4.1]; simp [kA])
      rw [hoth _ hoa.1 h4.2]
      -- a copy's value
      have e0 := pur_val ho (show pur (x.new i) = true by unfold pur; simp [h4.1]) 0 base ρ ⟨[], [], []⟩
      rcases new_cases x i with e | ⟨q, hq, hm, e⟩
      · have hpi : pur i = true := by
          have : (x.read i).kind = 4 := by rw [← e]; exact h4.1
          have : i.kind = 4 := this
          unfold pur; simp [this]
        rw [hv hpi, e]
        have hk4 : (x.read i).kind = 4 := by rw [← e]; exact h4.1
        unfold lval
        rw [if_neg (by omega), if_neg (by omega), if_pos hk4]
      · have hpi : pur i = true := by
          have := (more_kind hm).1
          exact this
        rw [hv hpi, e]
        show lval (x.read i) base ρ = rg ρ q
        rw [← h.has _ _ hq]
        exact (lval_congr (i := keyI (x.read i)) (j := x.read i) rfl rfl rfl base ρ ρ (fun _ => rfl) (fun _ => rfl)).symm
    · exact hy.am k a ha
  · split
    · rename_i h4 hm
      refine ⟨hy.am, fun k q hq => ?_⟩
      simp only at hq
      split at hq
      · rename_i hk
        injection hq with hq
        subst hq
        have e : x.new i = x.read i := by
          rcases new_cases x i with e | ⟨r', hr', hm', e⟩
          · exact e
          · rw [e] at hm
            have := more_kind hm.1
            exact absurd rfl this.2.2
        rw [e] at hm
        have hor := read_ok hx hok
        rw [hk, hval, hlv (keyI (x.read i)) hor.uses hm.2]
        have hpi : pur i = true := (more_kind hm.1).1
        rw [hv hpi]
        exact lval_congr (i := keyI (x.read i)) (j := x.read i) rfl rfl rfl base ρ ρ (fun _ => rfl) (fun _ => rfl)
      · exact hy.has k q hq
    · exact hy
/-- where a run goes on -/
theorem lstep_next {i : Ins} {R Fr : Int} {L : Nat} (hok : Ok i R Fr L) {p : Nat} {base : Int} {ρ : List Int} {E E' : Env} {q : Nat} {σ : List Int} (h : lstep i p base ρ E = .go q σ E') : (q : Int) ∈ i.next p ∧ ∃ v, Put i v ρ σ := by
  have := fix_step (G := fun _ => false) hok (ρ := ρ) (ρ' := ρ) (fun _ _ => rfl) p p base E
  rw [h] at this
  obtain ⟨h1, _, _, v, h2, _⟩ := this
  exact ⟨h1, v, h2⟩
/-- A FUNCTION IN WHICH WHAT WAS RECKONED IS SHARED -/
def sh_loc {f : Fn7} (hf : OkF f) : Loc False f (shF f) where
  R := fun base p ρ p' ρ' => p' = p ∧ ρ' = ρ ∧ p < f.code.length ∧ ρ.length = f.R.toNat ∧ ShV base (shIn f.code p) ρ
  nm := rfl
  ps := rfl
  Rs := rfl
  Fr := rfl
  start := fun base args hargs => by
    have hR := hf.R
    refine ⟨rfl, rfl, by have := hf.len; omega, by simp; omega, ?_⟩
    unfold shIn
    rw [if_pos (by unfold first; simp)]
    exact ShV.none _ _
  at_ := fun base p ρ p' ρ' h => by
    obtain ⟨rfl, rfl, hp, _⟩ := h
    have hi := insD_in hp
    exact ⟨_, _, hi, shL_at hi⟩
  go := fun p ρ p' ρ' i i' base E q σ E' h hi hi' hl => by
    obtain ⟨rfl, rfl, hp, hlen, hv⟩ := h
    have hi2 : (shL f.code)[p']? = some i' := hi'
    rw [shL_at hi] at hi2
    injection hi2 with hi2
    subst hi2
    have hok := hf.ok i (List.mem_of_getElem? hi)
    have hx := shIn_inv' hf (p := p') (by omega)
    obtain ⟨hn, v, hput⟩ := lstep_next hok hl
    have hq := hf.next hi q hn
    refine Or.inr ⟨q, σ, by rw [hv.new hx hok]; exact hl, rfl, rfl, by simpa using hq.2, ?_, ?_⟩
    · rw [hput]; split
      · rw [setd_len2]; exact hlen
      · exact hlen
    · unfold shIn
      cases hfq : first f.code q with
      | true => exact ShV.none _ _
      | false =>
        -- then the step was to the next one
        have hk : ¬ 11 ≤ i.kind := fun hk => by
          have : first f.code q = true := by
            unfold first
            rw [Bool.or_eq_true]
            refine Or.inr (List.any_eq_true.2 ⟨p', List.mem_range.2 hp, ?_⟩)
            rw [insD_some hi]
            simp [hk, hn]
          rw [this] at hfq
          cases hfq
        rw [next_low hk] at hn
        have hq1 : q = p' + 1 := by simp at hn; omega
        subst hq1
        simp only [Bool.false_eq_true, if_false]
        rw [shOut_succ, insD_some hi, hput]
        by_cases hp2 : pur i = true
        · have e := pur_val (read_ok hx hok) (show pur ((shIn f.code p').read i) = true from hp2) p' base ρ' E
          rw [hv.read i, hl] at e
          have hs : kS i.kind = true := kS_small (by have := pur_kind hp2; omega)
          have hst := hv.step hx hok hlen (lval ((shIn f.code p').read i) base ρ') (fun _ => rfl)
          injection e with _ e2 _
          have e3 : (if kS i.kind = true then setd i.dst v ρ' else ρ') = σ := hput.symm
          rw [e3, e2]
          rw [if_pos hs] at hst
          exact hst
        · exact hv.step hx hok hlen v (fun h => absurd h hp2)
  stop := fun p ρ p' ρ' i i' base E c h hi hi' hl => by
    obtain ⟨rfl, rfl, hp, hlen, hv⟩ := h
    have hi2 : (shL f.code)[p']? = some i' := hi'
    rw [shL_at hi] at hi2
    injection hi2 with hi2
    subst hi2
    rw [hv.new (shIn_inv' hf (p := p') (by omega)) (hf.ok i (List.mem_of_getElem? hi))]
    exact hl
  call := fun p ρ p' ρ' i i' base E nm args d h hi hi' hl => by
    obtain ⟨rfl, rfl, hp, hlen, hv⟩ := h
    have hi2 : (shL f.code)[p']? = some i' := hi'
    rw [shL_at hi] at hi2
    injection hi2 with hi2
    subst hi2
    have hok := hf.ok i (List.mem_of_getElem? hi)
    have hx := shIn_inv' hf (p := p') (by omega)
    obtain ⟨q1, _, _, q4⟩ := lstep_call hl
    refine ⟨by rw [hv.new hx hok]; exact hl, fun v => ⟨rfl, rfl, ?_, by rw [setd_len2]; exact hlen, ?_⟩⟩
    · have := hf.next hi ((p' + 1 : Nat) : Int) (by rw [next_low (by omega)]; simp)
      simpa using this.2
    · unfold shIn
      cases hfq : first f.code (p' + 1) with
      | true => exact ShV.none _ _
      | false =>
        simp only [Bool.false_eq_true, if_false]
        rw [shOut_succ, insD_some hi]
        have hst := hv.step hx hok hlen v (fun h => by have := pur_kind h; omega)
        rw [if_pos (by rw [q1]; decide), ← q4] at hst
        exact hst
  ret := fun p ρ p' ρ' i i' base E v h hi hi' hl => by
    obtain ⟨rfl, rfl, hp, hlen, hv⟩ := h
    have hi2 : (shL f.code)[p']? = some i' := hi'
    rw [shL_at hi] at hi2
    injection hi2 with hi2
    subst hi2
    rw [hv.new (shIn_inv' hf (p := p') (by omega)) (hf.ok i (List.mem_of_getElem? hi))]
    exact hl
end Go.Proofs.Ytkcclefonmnpnaa

/- WHAT FOLD MAKES (plain): it may be; folded again it stays. -/
namespace Go.Proofs.Ytkcclefonmnpnaa
open Go.RowKit Go.BigFrame

abbrev kIn7 (dst n : Int) : Ins := ⟨1, 0, dst, 0, 0, n, ⟨#[]⟩, 0, 0, 0, 0, 0, 0, 0, -1⟩
abbrev jI (n : Int) : Ins := ⟨11, 0, -1, 0, 0, 0, ⟨#[]⟩, 0, 0, 0, 0, 0, 0, n, -1⟩
/-- a value is a word, if it is known -/
def Wd (x : Vl) : Prop := x.k = 1 → -2147483648 ≤ x.n ∧ x.n ≤ 2147483647
instance (x : Vl) : Decidable (Wd x) := by unfold Wd; infer_instance
theorem setV_wd {i : Ins} {R Fr : Int} {L : Nat} (h : Ok i R Fr L) {v : List Vl} (hv : ∀ r, Wd (at_ v r)) : Wd (setV i v).1 := by
  unfold setV
  split
  · rename_i h1; exact fun _ => h.word h1
  · split
    · exact hv _
    · split
      · split
        · intro h; cases h
        · exact fun _ => dov_bd _ _ _
      · intro h; cases h
theorem upd_wd {i : Ins} {R Fr : Int} {L : Nat} (h : Ok i R Fr L) {v : List Vl} (hv : ∀ r, Wd (at_ v r)) (r : Nat) : Wd (at_ (upd i v) r) := by
  rw [upd_at]
  split
  · exact setV_wd h hv
  · exact hv r
theorem inil_len (f : Fn7) : (ini f).length = f.R.toNat := by simp [ini]
theorem ini_at {f : Fn7} {r : Nat} (h : r < f.R.toNat) : at_ (ini f) r = if (r : Int) < f.ps then av else ⟨1, 0⟩ := by
  simp [ini, h]
theorem inil_ok (f : Fn7) : rok (ini f) := by
  intro x hx
  obtain ⟨r, hr, rfl⟩ := List.mem_iff_getElem.1 hx
  rw [inil_len] at hr
  have h := ini_at hr
  rw [at_in (by rw [inil_len]; exact hr)] at h
  rw [h]
  split
  · exact Or.inr rfl
  · exact Or.inl rfl
theorem OkF.at_ {f : Fn7} (hf : OkF f) {p : Nat} {i : Ins} (h : f.code[p]? = some i) : Ok i (f.R.toNat : Int) f.Fr f.code.length := by
  have h1 := hf.ok _ (List.mem_of_getElem? h)
  have h2 := hf.ps
  have h3 := hf.R
  rwa [show ((f.R.toNat : Nat) : Int) = f.R by omega]
/-- known values that are no words, taken out -/
def keepW (x : Vl) : Vl := if Wd x then x else nv
theorem keepW_wf {x : Vl} (h : x.wf) : (keepW x).wf := by unfold keepW; split; exact h; exact Or.inl rfl
theorem at_map (g : Vl → Vl) (hg : g nv = nv) (v : List Vl) (r : Nat) : at_ (v.map g) r = g (at_ v r) := by
  by_cases hr : r < v.length
  · rw [at_in (by simpa using hr), at_in hr]; simp
  · rw [at_out (by simp; omega), at_out (by omega), hg]
theorem row_map (g : List Vl → List Vl) (hg : g [] = []) (M : List (List Vl)) (p : Nat) : row (M.map g) p = g (row M p) := by
  by_cases hp : p < M.length
  · simp [row, List.getD, hp]
  · simp [row, List.getD, hp, hg]
theorem keepW_nv : keepW nv = nv := by unfold keepW; split <;> rfl
theorem row_nil {M : List (List Vl)} {p : Nat} (h : M.length ≤ p) : row M p = [] := by simp [row, List.getD, h]
/-- a row below another one: seen through values that may be -/
theorem le_keep {u x : Vl} (hu : u.ok) (hw : Wd u) (h : le u x) : le u (keepW x) := by
  unfold keepW
  split
  · exact h
  · rename_i hx
    rcases h with rfl | rfl | rfl
    · exact Or.inl rfl
    · exact absurd hw hx
    · exact absurd (fun e : (2 : Int) = 1 => absurd e (by decide)) hx
theorem Ans.words {f : Fn7} {M : List (List Vl)} (hf : OkF f) (h : Ans f M) (p r : Nat) : Wd (Go.Proofs.Ytkcclefonmnpnaa.at_ (row M p) r) := by
  have hm0 : ∀ v : List Vl, (v.map keepW).length = v.length := fun v => by simp
  have hN : Holds f (M.map fun v => v.map keepW) := by
    refine ⟨⟨by simp [h.holds.shp.len], fun v hv => ?_⟩, fun r => ?_, fun p n u hE r => ?_⟩
    · obtain ⟨v', hv', rfl⟩ := List.mem_map.1 hv
      have := h.holds.shp.rows v' hv'
      refine ⟨by rw [hm0]; exact this.1, fun x hx => ?_⟩
      obtain ⟨y, hy, rfl⟩ := List.mem_map.1 hx
      exact keepW_wf (this.2 y hy)
    · rw [row_map _ rfl, at_map _ keepW_nv]
      by_cases hr : r < f.R.toNat
      · have hw : Wd (Go.Proofs.Ytkcclefonmnpnaa.at_ (ini f) r) := by
          rw [ini_at hr]
          split
          · intro e; cases e
          · intro _; exact ⟨by simp, by simp⟩
        exact le_keep ((inil_ok f).at_ (by rw [inil_len]; exact hr)) hw (h.holds.start r)
      · rw [at_out (by rw [inil_len]; omega)]; exact Or.inl rfl
    · obtain ⟨i, v, h1, h2, h3, h4, h5, rfl⟩ := hE
      have hp : p < f.code.length := (List.getElem?_eq_some_iff.1 h1).1
      have hpM : p < M.length := by rw [h.holds.shp.len]; exact hp
      have hv0 : v = (row M p).map keepW := by
        have e := row_some h2
        rw [row_map _ rfl] at e
        exact e.symm
      have hwd : ∀ r, Wd (Go.Proofs.Ytkcclefonmnpnaa.at_ (row M p) r) := fun r => by
        by_cases hr : r < v.length
        · have ho := h3.at_ hr
          rw [hv0, at_map _ keepW_nv] at ho
          unfold keepW at ho
          split at ho
          · assumption
          · rcases ho with e | e <;> cases e
        · rw [hv0, hm0] at hr
          rw [at_out (by omega)]; intro e; cases e
      have hv : v = row M p := by
        rw [hv0]
        apply List.ext_getElem (by simp)
        intro r ha hb
        have := hwd r
        rw [at_in hb] at this
        simp [keepW, this]
      rw [hv] at h3 h4 h5 ⊢
      rw [row_map _ rfl, at_map _ keepW_nv]
      have hE : Edge f M p n (upd i (row M p)) := ⟨i, row M p, h1, row_in hpM, h3, h4, h5, rfl⟩
      have hle := h.holds.edge _ _ _ hE r
      by_cases hr : r < (upd i (row M p)).length
      · exact le_keep ((upd_ok (hf.at_ h1) h3 (h.holds.shp.at_ hp).1).at_ hr) (upd_wd (hf.at_ h1) hwd r) hle
      · rw [at_out (by omega)]; exact Or.inl rfl
  have := h.least _ hN p r
  rw [row_map _ rfl, at_map _ keepW_nv] at this
  unfold keepW at this
  split at this
  · assumption
  · intro e
    rcases this with h1 | h1 | h1
    · rw [h1] at e; cases e
    · rw [h1] at e; cases e
    · cases h1
/-- what is folded may be -/
theorem foldI_ok {i : Ins} {p : Nat} {v : List Vl} {R Fr : Int} {L : Nat} (h : Ok i R Fr L) (hw : ∀ r, Wd (at_ v r)) : Ok (foldI i p v) R Fr L := by
  unfold foldI
  split
  · exact h
  · split
    · rename_i hk
      split
      · rename_i hs
        have hd : 0 ≤ i.dst ∧ i.dst < R := by
          rcases h.dst (by rcases hk with e | e | e <;> rw [e] <;> rfl) with e | e
          · exact e
          · omega
        have hw := setV_wd h hw hs.2
        refine ⟨⟨by show (1 : Int) ≤ 1; decide, by show (1 : Int) ≤ 13; decide⟩, fun r hr => ?_, fun _ => Or.inl hd, fun _ => hw, fun e => ?_, fun e => ?_, fun e => ?_, fun e => ?_, fun e => ?_, fun e => ?_, ?_⟩
        · simp [Ins.uses, kA, kB] at hr
        · simp at e
        · simp at e
        · simp at e
        · simp at e
        · simp at e
        · simp at e
        · simp [Ins.mask, kA, kB, kS]
      · exact h
    · split
      · rename_i h12
        split
        · rename_i n hn
          have hb : 0 ≤ n ∧ n < L := by
            unfold nextV at hn
            rw [if_pos h12] at hn
            split at hn
            · split at hn
              · injection hn with hn; rw [← hn]; exact h.els h12
              · injection hn with hn; rw [← hn]; exact h.to_ (Or.inr h12)
            · injection hn with _ hn; cases hn
          refine ⟨⟨by show (1 : Int) ≤ 11; decide, by show (11 : Int) ≤ 13; decide⟩, fun r hr => ?_, fun e => ?_, fun e => ?_, fun e => ?_, fun e => ?_, fun e => ?_, fun e => ?_, fun _ => hb, fun e => ?_, ?_⟩
          · simp [Ins.uses, kA, kB] at hr
          · simp [kS] at e
          · simp at e
          · simp at e
          · simp at e
          · simp at e
          · simp at e
          · simp at e
          · simp [Ins.mask, kA, kB, kS]
        · exact h
      · exact h
theorem foldI_last {i : Ins} {p : Nat} {v : List Vl} (h : 11 ≤ i.kind) : 11 ≤ (foldI i p v).kind := by
  unfold foldI
  split
  · exact h
  · split
    · omega
    · split
      · split
        · simp
        · exact h
      · exact h
def foldF (f : Fn7) (M : List (List Vl)) : Fn7 := ⟨f.nm, f.ps, f.R, f.Fr, foldL f M⟩
theorem foldF_okf {f : Fn7} {M : List (List Vl)} (hf : OkF f) (h : Ans f M) : OkF (foldF f M) := by
  have hl : (foldF f M).code.length = f.code.length := foldL_len f M
  refine ⟨hf.nm, hf.ps, hf.R, hf.Fr, by rw [hl]; exact hf.len, fun j hj => ?_, fun j hj => ?_⟩
  · rw [hl]
    obtain ⟨p, hp⟩ := List.mem_iff_getElem?.1 hj
    have hpl : p < f.code.length := by rw [← hl]; exact (List.getElem?_eq_some_iff.1 hp).1
    have e : (foldF f M).code[p]? = _ := foldL_at (M := M) hpl
    rw [e] at hp
    injection hp with hp
    rw [← hp]
    exact foldI_ok (hf.ok _ (List.mem_of_getElem? (insAt_in hpl))) (fun r => h.words hf p r)
  · rw [hl] at hj
    have h0 := hf.len
    have hpl : f.code.length - 1 < f.code.length := by omega
    have e : (foldF f M).code[f.code.length - 1]? = _ := foldL_at (M := M) hpl
    rw [e] at hj
    injection hj with hj
    rw [← hj]
    exact foldI_last (hf.last _ (insAt_in hpl))
/-- the same, or what a known value makes, or a jump -/
theorem foldI_cases (i : Ins) (p : Nat) (v : List Vl) : foldI i p v = i ∨
    ((i.kind = 4 ∨ i.kind = 2 ∨ i.kind = 3) ∧ (setV i v).2 = true ∧ (setV i v).1.k = 1 ∧ foldI i p v = kIn7 i.dst (setV i v).1.n) ∨
    (i.kind = 12 ∧ ∃ n, nextV i p v = [n] ∧ foldI i p v = jI n) := by
  unfold foldI
  split
  · exact Or.inl rfl
  · split
    · rename_i hk
      split
      · rename_i hs; exact Or.inr (Or.inl ⟨hk, hs.1, hs.2, rfl⟩)
      · exact Or.inl rfl
    · split
      · rename_i h12
        split
        · rename_i n hn; exact Or.inr (Or.inr ⟨h12, n, hn, rfl⟩)
        · exact Or.inl rfl
      · exact Or.inl rfl
theorem kS_of {i : Ins} (hk : i.kind = 4 ∨ i.kind = 2 ∨ i.kind = 3) : i.sets = i.dst := by unfold Ins.sets; rw [if_pos (by rcases hk with e | e | e <;> rw [e] <;> rfl)]
theorem kI_sets (d n : Int) : (kIn7 d n).sets = d := rfl
theorem upd_kI {i : Ins} (d n : Int) (v : List Vl) (hs : i.sets = d) : upd (kIn7 d n) v = if 0 ≤ i.sets then v.set i.sets.toNat ⟨1, n⟩ else v := by
  unfold upd
  rw [kI_sets, ← hs]
  rfl
theorem upd_jI (n : Int) (v : List Vl) : upd (jI n) v = v := by unfold upd; rw [if_neg (by simp [Ins.sets, kS])]
theorem upd_12 {i : Ins} (h : i.kind = 12) (v : List Vl) : upd i v = v := by unfold upd; rw [if_neg (kS_not12 h)]
theorem nextV_plain {i : Ins} (hk : i.kind = 4 ∨ i.kind = 2 ∨ i.kind = 3) (p : Nat) (v : List Vl) : nextV i p v = [(p : Int) + 1] := by
  unfold nextV Ins.next
  rw [if_neg (by omega), if_neg (by omega), if_neg (by omega), if_neg (by omega)]
theorem nextV_kI (d n : Int) (p : Nat) (v : List Vl) : nextV (kIn7 d n) p v = [(p : Int) + 1] := rfl
theorem nextV_jI (n : Int) (p : Nat) (v : List Vl) : nextV (jI n) p v = [n] := rfl
theorem foldF_code {f : Fn7} {M : List (List Vl)} {p : Nat} {j : Ins} (h : (foldF f M).code[p]? = some j) : ∃ i, f.code[p]? = some i ∧ j = foldI i p (row M p) := by
  have hpl : p < f.code.length := by rw [← foldL_len f M]; exact (List.getElem?_eq_some_iff.1 h).1
  have e : (foldF f M).code[p]? = _ := foldL_at (M := M) hpl
  rw [e] at h
  injection h with h
  exact ⟨_, insAt_in hpl, h.symm⟩
theorem foldF_at {f : Fn7} {M : List (List Vl)} {p : Nat} {i : Ins} (h : f.code[p]? = some i) : (foldF f M).code[p]? = some (foldI i p (row M p)) := by
  have hpl : p < f.code.length := (List.getElem?_eq_some_iff.1 h).1
  have e : (foldF f M).code[p]? = _ := foldL_at (M := M) hpl
  rw [e]
  rw [insAt_in hpl] at h
  injection h with h
  rw [h]
/-- what is in two -/
def glb (a b : Vl) : Vl := if a = av then b else if b = av then a else if a = b then a else nv
theorem glb_wf {a b : Vl} (ha : a.wf) (hb : b.wf) : (glb a b).wf := by
  unfold glb
  split
  · exact hb
  · split
    · exact ha
    · split
      · exact ha
      · exact Or.inl rfl
theorem glb_left (a b : Vl) : le (glb a b) a := by
  unfold glb
  split
  · rename_i h; rw [h]; exact Or.inr (Or.inr rfl)
  · split
    · exact le.refl _
    · split
      · exact le.refl _
      · exact Or.inl rfl
theorem glb_right (a b : Vl) : le (glb a b) b := by
  unfold glb
  split
  · exact le.refl _
  · split
    · rename_i h; rw [h]; exact Or.inr (Or.inr rfl)
    · split
      · rename_i h; rw [h]; exact le.refl _
      · exact Or.inl rfl
theorem glb_most {a b c : Vl} (h1 : le c a) (h2 : le c b) : le c (glb a b) := by
  unfold glb
  split
  · exact h2
  · rename_i ha
    split
    · exact h1
    · rename_i hb
      split
      · exact h1
      · rename_i hab
        rcases h1 with h | h | h
        · exact Or.inl h
        · rcases h2 with e | e | e
          · exact Or.inl e
          · exact absurd (h.symm.trans e) hab
          · exact absurd e hb
        · exact absurd h ha
def glbR (a b : List Vl) : List Vl := List.zipWith glb a b
theorem glbR_len {a b : List Vl} {R : Nat} (ha : a.length = R) (hb : b.length = R) : (glbR a b).length = R := by simp [glbR, ha, hb]
theorem glbR_at {a b : List Vl} {R : Nat} (ha : a.length = R) (hb : b.length = R) (r : Nat) : at_ (glbR a b) r = if r < R then glb (at_ a r) (at_ b r) else nv := by
  by_cases hr : r < R
  · rw [at_in (by rw [glbR_len ha hb]; exact hr), at_in (by omega), at_in (by omega), if_pos hr]
    simp [glbR]
  · rw [at_out (by rw [glbR_len ha hb]; omega), if_neg hr]
def glbM (M N : List (List Vl)) : List (List Vl) := List.zipWith glbR M N
theorem glbM_len {M N : List (List Vl)} (h : M.length = N.length) : (glbM M N).length = M.length := by simp [glbM, h]
theorem glbM_row {M N : List (List Vl)} (h : M.length = N.length) (p : Nat) : row (glbM M N) p = glbR (row M p) (row N p) := by
  by_cases hp : p < M.length
  · have hp' : p < N.length := by omega
    simp [row, glbM, List.getD, List.getElem?_zipWith, hp, hp']
  · rw [row_nil (by rw [glbM_len h]; omega), row_nil (by omega)]; simp [glbR]
/-- what holds together of the one, with what is folded: of the other -/
theorem foldF_ans {f : Fn7} {M : List (List Vl)} (hf : OkF f) (h : Ans f M) : Ans (foldF f M) M := by
  have hl : (foldF f M).code.length = f.code.length := foldL_len f M
  have hi0 : ini (foldF f M) = ini f := rfl
  have hsame : ∀ p i, f.code[p]? = some i → rok (row M p) → (setV i (row M p)).2 = true → ((setV (foldI i p (row M p)) (row M p)).2 = true ∧ upd (foldI i p (row M p)) (row M p) = upd i (row M p) ∧ nextV (foldI i p (row M p)) p (upd i (row M p)) = nextV i p (upd i (row M p))) := fun p i hi ho hs => by
    rcases foldI_cases i p (row M p) with e | ⟨hk, h1, h2, e⟩ | ⟨h12, n, h1, e⟩
    · rw [e]; exact ⟨hs, rfl, rfl⟩
    · rw [e]
      refine ⟨rfl, ?_, by rw [nextV_kI, nextV_plain hk]⟩
      rw [upd_kI _ _ _ (kS_of hk)]
      unfold upd
      have : (setV i (row M p)).1 = ⟨1, (setV i (row M p)).1.n⟩ := by rw [← h2]
      rw [← this]
    · rw [e]
      exact ⟨rfl, by rw [upd_jI, upd_12 h12], by rw [nextV_jI, upd_12 h12, h1]⟩
  refine ⟨⟨⟨by rw [hl]; exact h.holds.shp.len, h.holds.shp.rows⟩, by rw [hi0]; exact h.holds.start, fun p n u hE => ?_⟩, fun N hN => ?_⟩
  · obtain ⟨j, v, h1, h2, h3, h4, h5, rfl⟩ := hE
    obtain ⟨i, hi, rfl⟩ := foldF_code h1
    have hv := row_some h2
    subst hv
    have hs : (setV i (row M p)).2 = true := by
      rcases foldI_cases i p (row M p) with e | ⟨hk, h1, h2, e⟩ | ⟨h12, n, h1, e⟩
      · rwa [e] at h4
      · exact h1
      · unfold setV; rw [if_neg (by omega), if_neg (by omega), if_neg (by omega)]
    obtain ⟨e1, e2, e3⟩ := hsame p i hi h3 hs
    rw [e2, e3] at h5
    rw [e2]
    exact h.holds.edge _ _ _ ⟨i, row M p, hi, h2, h3, hs, h5, rfl⟩
  · have hMN : M.length = N.length := by rw [h.holds.shp.len, hN.shp.len, hl]
    have hrow : ∀ p, p < f.code.length → (row M p).length = f.R.toNat ∧ (row N p).length = f.R.toNat := fun p hp => ⟨(h.holds.shp.at_ hp).1, (hN.shp.at_ (by rw [hl]; exact hp)).1⟩
    have hK : Holds f (glbM M N) := by
      refine ⟨⟨by rw [glbM_len hMN]; exact h.holds.shp.len, fun v hv => ?_⟩, fun r => ?_, fun p n u hE r => ?_⟩
      · obtain ⟨p, hp⟩ := List.mem_iff_getElem?.1 hv
        have hpl : p < f.code.length := by rw [← h.holds.shp.len, ← glbM_len hMN]; exact (List.getElem?_eq_some_iff.1 hp).1
        have e := row_some hp
        rw [glbM_row hMN] at e
        obtain ⟨l1, l2⟩ := hrow p hpl
        rw [← e]
        refine ⟨glbR_len l1 l2, fun x hx => ?_⟩
        obtain ⟨r, hr, rfl⟩ := List.mem_iff_getElem.1 hx
        have hr' : r < f.R.toNat := by rwa [glbR_len l1 l2] at hr
        have := glbR_at l1 l2 r
        rw [at_in hr, if_pos hr'] at this
        rw [this]
        exact glb_wf ((h.holds.shp.at_ hpl).at_ r) ((hN.shp.at_ (by rw [hl]; exact hpl)).at_ r)
      · have h0 : 0 < f.code.length := by have := hf.len; omega
        obtain ⟨l1, l2⟩ := hrow 0 h0
        rw [glbM_row hMN, glbR_at l1 l2]
        by_cases hr : r < f.R.toNat
        · rw [if_pos hr]; exact glb_most (h.holds.start r) (hi0 ▸ hN.start r)
        · rw [at_out (by rw [inil_len]; omega)]; exact Or.inl rfl
      · obtain ⟨i, v, h1, h2, h3, h4, h5, rfl⟩ := hE
        have hp : p < f.code.length := (List.getElem?_eq_some_iff.1 h1).1
        obtain ⟨l1, l2⟩ := hrow p hp
        have hv := row_some h2
        rw [glbM_row hMN] at hv
        subst hv
        have hlen : (glbR (row M p) (row N p)).length = f.R.toNat := glbR_len l1 l2
        have leM : rle (glbR (row M p) (row N p)) (row M p) := fun r => by
          rw [glbR_at l1 l2]; split; exact glb_left _ _; exact Or.inl rfl
        have leN : rle (glbR (row M p) (row N p)) (row N p) := fun r => by
          rw [glbR_at l1 l2]; split; exact glb_right _ _; exact Or.inl rfl
        have okM := leM.rok h3 (by rw [hlen, l1])
        have okN := leN.rok h3 (by rw [hlen, l2])
        have hok := hf.at_ h1
        have mM := setV_mono hok h3 hlen leM h4
        have nM := nextV_mono hok h3 hlen leM p _ h5
        have uM := upd_mono hok h3 hlen l1 leM h4
        have eM := h.holds.edge p n _ ⟨i, row M p, h1, row_in (by rw [h.holds.shp.len]; exact hp), okM, mM.1, nM, rfl⟩
        have eN : rle (upd i (glbR (row M p) (row N p))) (row N n) := by
          have hj := foldF_at (M := M) h1
          have hrN : N[p]? = some (row N p) := row_in (by rw [← hMN, h.holds.shp.len]; exact hp)
          rcases foldI_cases i p (row M p) with e | ⟨hk, a1, a2, e⟩ | ⟨h12, m, a1, e⟩
          · rw [e] at hj
            have mN := setV_mono hok h3 hlen leN h4
            have nN := nextV_mono hok h3 hlen leN p _ h5
            exact (upd_mono hok h3 hlen l2 leN h4).trans (hN.edge p n _ ⟨i, row N p, hj, hrN, okN, mN.1, nN, rfl⟩)
          · rw [e] at hj
            have hE := hN.edge p n _ ⟨_, row N p, hj, hrN, okN, rfl, by rw [nextV_kI]; rwa [nextV_plain hk] at h5, rfl⟩
            refine rle.trans (fun r => ?_) hE
            rw [upd_at, upd_at, kI_sets, kS_of hk, hlen, l2]
            split
            · have : (setV (kIn7 i.dst (setV i (row M p)).1.n) (row N p)).1 = (setV i (row M p)).1 := by rw [show (setV (kIn7 i.dst (setV i (row M p)).1.n) (row N p)).1 = ⟨1, (setV i (row M p)).1.n⟩ from rfl, ← a2]
              rw [this]; exact mM.2
            · exact leN r
          · rw [e] at hj
            have hn : (n : Int) = m := by rw [upd_12 h12, a1] at nM; simpa using nM
            have hE := hN.edge p n _ ⟨_, row N p, hj, hrN, okN, rfl, by rw [nextV_jI, hn]; simp, rfl⟩
            rw [upd_jI] at hE
            rw [upd_12 h12]
            exact leN.trans hE
        have hlu : (upd i (glbR (row M p) (row N p))).length = f.R.toNat := by rw [upd_len]; exact hlen
        by_cases hr : r < f.R.toNat
        · have hn : n < f.code.length := by
            by_cases hn : n < f.code.length
            · exact hn
            · have := eM r
              rw [row_nil (M := M) (p := n) (by rw [h.holds.shp.len]; omega)] at this
              have ho := (upd_ok hok okM l1).at_ (r := r) (by rw [upd_len, l1]; exact hr)
              have h0 : at_ ([] : List Vl) r = nv := at_out (by simp)
              rw [h0] at this
              rcases this with e | e | e
              · rw [e] at ho; rcases ho with e | e <;> cases e
              · rw [e] at ho; rcases ho with e | e <;> cases e
              · cases e
          obtain ⟨k1, k2⟩ := hrow n hn
          rw [glbM_row hMN, glbR_at k1 k2, if_pos hr]
          exact glb_most ((uM r).trans (eM r)) (eN r)
        · rw [at_out (by omega)]; exact Or.inl rfl
    have hle := h.least _ hK
    intro p r
    refine (hle p r).trans ?_
    by_cases hp : p < f.code.length
    · obtain ⟨l1, l2⟩ := hrow p hp
      rw [glbM_row hMN, glbR_at l1 l2]
      split
      · exact glb_right _ _
      · exact Or.inl rfl
    · rw [row_nil (by rw [glbM_len hMN, h.holds.shp.len]; omega)]
      have h0 : at_ ([] : List Vl) r = nv := at_out (by simp)
      rw [h0]; exact Or.inl rfl
theorem foldI_twice (i : Ins) (p : Nat) (v : List Vl) : foldI (foldI i p v) p v = foldI i p v := by
  rcases foldI_cases i p v with e | ⟨hk, a1, a2, e⟩ | ⟨h12, m, a1, e⟩
  · rw [e, e]
  · rw [e]
    rcases foldI_cases (kIn7 i.dst (setV i v).1.n) p v with e' | ⟨hk', _⟩ | ⟨h12', _⟩
    · exact e'
    · simp at hk'
    · simp at h12'
  · rw [e]
    rcases foldI_cases (jI m) p v with e' | ⟨hk', _⟩ | ⟨h12', _⟩
    · exact e'
    · simp at hk'
    · simp at h12'
theorem foldF_insAt {f : Fn7} {M : List (List Vl)} {p : Nat} (hp : p < f.code.length) : insAt (foldF f M).code p = foldI (insAt f.code p) p (row M p) := by
  have := foldF_at (M := M) (insAt_in hp)
  simp [insAt, List.getD, this]
/-- folded again it stays -/
theorem foldL_twice (f : Fn7) (M : List (List Vl)) : foldL (foldF f M) M = foldL f M := by
  have hl : (foldF f M).code.length = f.code.length := foldL_len f M
  unfold foldL
  rw [show ((foldF f M).code.length) = f.code.length from hl]
  apply List.map_congr_left
  intro p hp
  have hp : p < f.code.length := by simpa using hp
  rw [foldF_insAt hp, foldI_twice]
theorem foldN_twice (f : Fn7) (M : List (List Vl)) : ∀ p, p ≤ f.code.length → foldN (foldF f M) M p = 0
  | 0, _ => rfl
  | p + 1, h => by
    have := foldN_twice f M p (by omega)
    unfold foldN
    rw [this, foldF_insAt (by omega), foldI_twice, if_pos rfl]
end Go.Proofs.Ytkcclefonmnpnaa

/- JOINS AND EDGES, AS THE LAWS GO THROUGH THEM (plain). -/
namespace Go.Proofs.Ytkcclefonmnpnaa
open Go.RowKit Go.BigFrame

theorem join_comm {a b : Vl} (ha : a.wf) (hb : b.wf) : join a b = join b a :=
  (join.least (join.right ha) (join.left hb)).anti (join.least (join.right hb) (join.left ha))
theorem join_self (a : Vl) : join a a = a := by unfold join; split <;> simp
theorem join_assoc {a b c : Vl} (ha : a.wf) (hb : b.wf) (hc : c.wf) : join (join a b) c = join a (join b c) := by
  have hab := join.wf ha hb
  have hbc := join.wf hb hc
  apply le.anti
  · exact join.least (join.least (join.left ha) ((join.left hb).trans (join.right hbc))) ((join.right hc).trans (join.right hbc))
  · exact join.least ((join.left ha).trans (join.left hab)) (join.least ((join.right hb).trans (join.left hab)) (join.right hc))
theorem join_nv {a : Vl} (ha : a.wf) : join a nv = a := by
  unfold join
  split
  · rename_i h
    rcases ha with e | e | e
    · exact e.symm
    · omega
    · rw [e] at h; cases h
  · rw [if_pos (Or.inl rfl)]
theorem join_last (a b : Vl) (h1 : a ≠ b) (h2 : a.k ≠ 0) (h3 : b.k ≠ 0) : join a b = av := by
  unfold join
  rw [if_neg h2, if_neg (by rintro (h | h); exact h3 h; exact h1 h)]
/-- is the k-th of the next ones not gone? -/
def skip (i : Ins) (u : List Vl) (k : Nat) : Bool := decide (i.kind = 12) && (decide ((at_ u i.a.toNat).k = 1) && (decide ((at_ u i.a.toNat).n ≠ 0) != decide (k = 0)))
theorem skip_next {i : Ins} {p : Nat} {u : List Vl} {k : Nat} {n : Int} (h : (i.next p)[k]? = some n) (hs : skip i u k = false) : n ∈ nextV i p u := by
  unfold nextV
  by_cases h12 : i.kind = 12
  · have e : i.next p = [i.to_, i.els] := by unfold Ins.next; rw [if_neg (by omega), if_pos h12]
    rw [e] at h
    rw [if_pos h12]
    unfold skip at hs
    rw [decide_eq_true h12, Bool.true_and] at hs
    obtain ⟨x, hx⟩ : ∃ x, at_ u i.a.toNat = x := ⟨_, rfl⟩
    rw [hx] at hs ⊢
    by_cases h1 : x.k = 1
    · rw [decide_eq_true h1, Bool.true_and] at hs
      rw [if_pos h1]
      by_cases h0 : x.n = 0
      · rw [if_pos h0]
        match k, h with
        | 0, h => simp [h0] at hs
        | 1, h => simp at h; simp [h]
        | k + 2, h => simp at h
      · rw [if_neg h0]
        match k, h with
        | 0, h => simp at h; simp [h]
        | 1, h => simp [h0] at hs
        | k + 2, h => simp at h
    · rw [if_neg h1]; exact List.mem_of_getElem? h
  · rw [if_neg h12]; exact List.mem_of_getElem? h
theorem next_skip {i : Ins} {p : Nat} {u : List Vl} {n : Int} (h : n ∈ nextV i p u) : ∃ k, (i.next p)[k]? = some n ∧ skip i u k = false := by
  unfold nextV at h
  by_cases h12 : i.kind = 12
  · have e : i.next p = [i.to_, i.els] := by unfold Ins.next; rw [if_neg (by omega), if_pos h12]
    rw [e]
    rw [if_pos h12] at h
    unfold skip
    rw [decide_eq_true h12]
    obtain ⟨x, hx⟩ : ∃ x, at_ u i.a.toNat = x := ⟨_, rfl⟩
    rw [hx] at h ⊢
    by_cases h1 : x.k = 1
    · rw [if_pos h1] at h
      by_cases h0 : x.n = 0
      · rw [if_pos h0] at h
        exact ⟨1, by simp at h; simp [h], by simp [h0]⟩
      · rw [if_neg h0] at h
        exact ⟨0, by simp at h; simp [h], by simp [h0]⟩
    · rw [if_neg h1] at h
      obtain ⟨k, hk⟩ := List.mem_iff_getElem?.1 h
      exact ⟨k, hk, by simp [h1]⟩
  · rw [if_neg h12] at h
    obtain ⟨k, hk⟩ := List.mem_iff_getElem?.1 h
    exact ⟨k, hk, by simp [skip, h12]⟩
theorem nextL_in {f : Fn7} (hf : OkF f) {p : Nat} {i : Ins} (hi : f.code[p]? = some i) {n : Int} (hn : n ∈ i.next p) : 0 ≤ n ∧ n < f.code.length := by
  have hp : p < f.code.length := (List.getElem?_eq_some_iff.1 hi).1
  have h := hf.ok _ (List.mem_of_getElem? hi)
  unfold Ins.next at hn
  split at hn
  · rename_i h11; simp at hn; subst hn; exact h.to_ (Or.inl h11)
  · split at hn
    · rename_i h12
      simp at hn
      rcases hn with rfl | rfl
      · exact h.to_ (Or.inr h12)
      · exact h.els h12
    · split at hn
      · simp at hn
      · rename_i h1 h2 h3
        simp at hn
        subst hn
        have hk := h.kind
        have : p ≠ f.code.length - 1 := fun e => by
          have := hf.last i (by rw [← e]; exact hi)
          omega
        omega
/-- what comes, edge by edge -/
def cedge (i : Ins) (p : Nat) (u : List Vl) (C : List (List Vl)) (k : Nat) : List (List Vl) :=
  match (i.next p)[k]? with
  | some n => if skip i u k then C else C.set n.toNat (jrow (row C n.toNat) u)
  | none => C
def cedges (i : Ins) (p : Nat) (u : List Vl) (C : List (List Vl)) : Nat → List (List Vl)
  | 0 => C
  | k + 1 => cedge i p u (cedges i p u C k) k
def goes (f : Fn7) (M : List (List Vl)) (p : Nat) : Bool := !(row M p).any (fun x => x.k == 0) && (setV (insAt f.code p) (row M p)).2
def cstep (f : Fn7) (M C : List (List Vl)) (p : Nat) : List (List Vl) :=
  if goes f M p then cedges (insAt f.code p) p (upd (insAt f.code p) (row M p)) C ((insAt f.code p).next p).length else C
def cinit (f : Fn7) : List (List Vl) := (List.replicate f.code.length (List.replicate f.R.toNat nv)).set 0 (ini f)
def call (f : Fn7) (M : List (List Vl)) : Nat → List (List Vl)
  | 0 => cinit f
  | p + 1 => cstep f M (call f M p) p
theorem rok_of {R : Nat} {v : List Vl} (h : Rw R v) (hn : v.any (fun x => x.k == 0) = false) : rok v := fun x hx => by
  refine (h.2 x hx).ok fun e => ?_
  have : v.any (fun x => x.k == 0) = true := List.any_eq_true.2 ⟨x, hx, by simpa using e⟩
  rw [hn] at this; cases this
theorem any_of_rok {v : List Vl} (h : rok v) : v.any (fun x => x.k == 0) = false := by
  rw [List.any_eq_false]
  intro x hx
  rcases h x hx with e | e
  · simp [e]
  · simp [e]
theorem Holds.row0 {f : Fn7} {M : List (List Vl)} (h : Holds f M) : rle (ini f) (row M 0) := h.start
/-- within: it is joined to no more -/
theorem within_iff {a b : Vl} (ha : a.wf) (hb : b.wf) : (join a b = b) ↔ le a b := le.join ha hb
structure CI (f : Fn7) (M C : List (List Vl)) : Prop where
  shp : Shp f C
  below : mle C M
  start : rle (ini f) (row C 0)
theorem cinit_ci {f : Fn7} (hf : OkF f) {M : List (List Vl)} (h : Ans f M) : CI f M (cinit f) := by
  have h0 : 0 < f.code.length := by have := hf.len; omega
  have hr : ∀ q, row (cinit f) q = if 0 = q ∧ q < f.code.length then ini f else row (List.replicate f.code.length (List.replicate f.R.toNat nv)) q := fun q => by
    unfold cinit; rw [row_set]; simp
  refine ⟨⟨by simp [cinit], fun v hv => ?_⟩, fun q => ?_, ?_⟩
  · rcases List.mem_or_eq_of_mem_set hv with hv | rfl
    · rw [List.mem_replicate] at hv
      rw [hv.2]
      exact ⟨by simp, fun x hx => by rw [List.mem_replicate] at hx; rw [hx.2]; exact Or.inl rfl⟩
    · exact ⟨inil_len f, fun x hx => (inil_ok f x hx).wf⟩
  · rw [hr]
    split
    · rename_i e; rw [← e.1]; exact h.holds.start
    · intro r
      have : at_ (row (List.replicate f.code.length (List.replicate f.R.toNat nv)) q) r = nv := by
        by_cases hq : q < f.code.length
        · have : row (List.replicate f.code.length (List.replicate f.R.toNat nv)) q = List.replicate f.R.toNat nv := by simp [row, List.getD, hq]
          rw [this]
          by_cases hr : r < f.R.toNat
          · simp [at_, List.getD, hr]
          · exact at_out (by simp; omega)
        · rw [row_nil (by simp; omega)]; exact at_out (by simp)
      rw [this]; exact Or.inl rfl
  · rw [hr, if_pos ⟨rfl, h0⟩]; exact rle.refl _
theorem cedge_ci {f : Fn7} {M C : List (List Vl)} (hf : OkF f) (h : Ans f M) (hC : CI f M C) {p : Nat} {i : Ins} (hi : f.code[p]? = some i) (ho : rok (row M p)) (hs : (setV i (row M p)).2 = true) (k : Nat) :
    CI f M (cedge i p (upd i (row M p)) C k) ∧ mle C (cedge i p (upd i (row M p)) C k) ∧ ∀ n : Nat, (i.next p)[k]? = some (n : Int) → skip i (upd i (row M p)) k = false → rle (upd i (row M p)) (row (cedge i p (upd i (row M p)) C k) n) := by
  unfold cedge
  have hp : p < f.code.length := (List.getElem?_eq_some_iff.1 hi).1
  cases hk : (i.next p)[k]? with
  | none => exact ⟨hC, fun _ => rle.refl _, fun n hn => by cases hn⟩
  | some n0 =>
    cases hsk : skip i (upd i (row M p)) k with
    | true => exact ⟨hC, fun _ => rle.refl _, fun n _ hn => by cases hn⟩
    | false =>
      simp only [Bool.false_eq_true, if_false]
      have hn0 := nextL_in hf hi (List.mem_of_getElem? hk)
      obtain ⟨m, rfl⟩ : ∃ m : Nat, n0 = m := ⟨n0.toNat, by omega⟩
      have hm : m < f.code.length := by omega
      rw [Int.toNat_natCast]
      have hu : Rw f.R.toNat (upd i (row M p)) := ⟨by rw [upd_len]; exact (h.holds.shp.at_ hp).1, fun x hx => (upd_ok (hf.at_ hi) ho (h.holds.shp.at_ hp).1 x hx).wf⟩
      have hrow := hC.shp.at_ hm
      have hle : rle (upd i (row M p)) (row M m) := h.holds.edge _ _ _ ⟨i, row M p, hi, row_in (by rw [h.holds.shp.len]; exact hp), ho, hs, skip_next hk hsk, rfl⟩
      have hup : ∀ q, rle (row C q) (row (C.set m (jrow (row C m) (upd i (row M p)))) q) := fun q => by
        rw [row_set]
        split
        · rename_i e; rw [← e.1]; exact jrow_left hrow hu
        · exact rle.refl _
      refine ⟨⟨⟨by simp [hC.shp.len], fun v hv => ?_⟩, fun q => ?_, hC.start.trans (hup 0)⟩, hup, fun n hn _ => ?_⟩
      · rcases List.mem_or_eq_of_mem_set hv with hv | rfl
        · exact hC.shp.rows v hv
        · exact jrow_rw hrow hu
      · rw [row_set]
        split
        · rename_i e; rw [← e.1]; exact jrow_least hrow hu (hC.below m) hle
        · exact hC.below q
      · obtain rfl : n = m := by injection hn with hn; omega
        rw [row_set, if_pos ⟨rfl, by rw [hC.shp.len]; exact hm⟩]
        exact jrow_right hrow hu
theorem mle.trans {A B C : List (List Vl)} (h1 : mle A B) (h2 : mle B C) : mle A C := fun p => (h1 p).trans (h2 p)
theorem cedges_ci {f : Fn7} {M C : List (List Vl)} (hf : OkF f) (h : Ans f M) (hC : CI f M C) {p : Nat} {i : Ins} (hi : f.code[p]? = some i) (ho : rok (row M p)) (hs : (setV i (row M p)).2 = true) : ∀ k,
    CI f M (cedges i p (upd i (row M p)) C k) ∧ mle C (cedges i p (upd i (row M p)) C k) ∧ ∀ (j n : Nat), j < k → (i.next p)[j]? = some (n : Int) → skip i (upd i (row M p)) j = false → rle (upd i (row M p)) (row (cedges i p (upd i (row M p)) C k) n)
  | 0 => ⟨hC, fun _ => rle.refl _, fun j n hj => by omega⟩
  | k + 1 => by
    obtain ⟨a1, a2, a3⟩ := cedges_ci hf h hC hi ho hs k
    obtain ⟨b1, b2, b3⟩ := cedge_ci hf h a1 hi ho hs k
    refine ⟨b1, a2.trans b2, fun j n hj hn hsk => ?_⟩
    by_cases e : j = k
    · subst e; exact b3 n hn hsk
    · exact (a3 j n (by omega) hn hsk).trans (b2 n)
theorem goes_iff {f : Fn7} {M : List (List Vl)} (h : Ans f M) {p : Nat} {i : Ins} (hi : f.code[p]? = some i) : goes f M p = true ↔ rok (row M p) ∧ (setV i (row M p)).2 = true := by
  have hp : p < f.code.length := (List.getElem?_eq_some_iff.1 hi).1
  have e : insAt f.code p = i := by have := insAt_in hp; rw [hi] at this; injection this with this; exact this.symm
  unfold goes
  rw [e, Bool.and_eq_true, Bool.not_eq_true']
  exact ⟨fun ⟨a, b⟩ => ⟨rok_of (h.holds.shp.at_ hp) a, b⟩, fun ⟨a, b⟩ => ⟨any_of_rok a, b⟩⟩
theorem call_ci {f : Fn7} {M : List (List Vl)} (hf : OkF f) (h : Ans f M) : ∀ q, q ≤ f.code.length →
    CI f M (call f M q) ∧ ∀ p n u, p < q → Edge f M p n u → rle u (row (call f M q) n)
  | 0, _ => ⟨cinit_ci hf h, fun p n u hp => by omega⟩
  | q + 1, hq => by
    obtain ⟨a1, a2⟩ := call_ci hf h q (by omega)
    have hi := insAt_in (l := f.code) (p := q) (by omega)
    show CI f M (cstep f M (call f M q) q) ∧ ∀ p n u, p < q + 1 → Edge f M p n u → rle u (row (cstep f M (call f M q) q) n)
    unfold cstep
    have hgi := goes_iff h hi
    cases hg : goes f M q with
    | false =>
      refine ⟨a1, fun p n u hp hE => ?_⟩
      by_cases e : p = q
      · subst e
        obtain ⟨i, v, h1, h2, h3, h4, _, _⟩ := hE
        rw [hi] at h1
        injection h1 with h1
        subst h1
        have hv := row_some h2
        subst hv
        rw [hgi.2 ⟨h3, h4⟩] at hg; cases hg
      · exact a2 p n u (by omega) hE
    | true =>
      obtain ⟨ho, hs⟩ := hgi.1 hg
      obtain ⟨b1, b2, b3⟩ := cedges_ci hf h a1 hi ho hs ((insAt f.code q).next q).length
      refine ⟨b1, fun p n u hp hE => ?_⟩
      by_cases e : p = q
      · subst e
        obtain ⟨i, v, h1, h2, h3, h4, h5, rfl⟩ := hE
        rw [hi] at h1
        injection h1 with h1
        subst h1
        have hv := row_some h2
        subst hv
        obtain ⟨k, hk, hsk⟩ := next_skip h5
        exact b3 k n (List.getElem?_eq_some_iff.1 hk).1 hk hsk
      · exact (a2 p n u (by omega) hE).trans (b2 n)
/-- what comes by all edges is what is known -/
theorem call_all {f : Fn7} {M : List (List Vl)} (hf : OkF f) (h : Ans f M) : call f M f.code.length = M := by
  obtain ⟨hc, he⟩ := call_ci hf h f.code.length (Nat.le_refl _)
  have hH : Holds f (call f M f.code.length) := by
    refine ⟨hc.shp, hc.start, fun p n u hE => ?_⟩
    obtain ⟨i, v, h1, h2, h3, h4, h5, rfl⟩ := hE
    have hp : p < f.code.length := (List.getElem?_eq_some_iff.1 h1).1
    have hv := row_some h2
    subst hv
    have l1 := (hc.shp.at_ hp).1
    have l2 := (h.holds.shp.at_ hp).1
    have hle := hc.below p
    have okM := hle.rok h3 (by rw [l1, l2])
    have hok := hf.at_ h1
    have mM := setV_mono hok h3 l1 hle h4
    have nM := nextV_mono hok h3 l1 hle p _ h5
    exact (upd_mono hok h3 l1 l2 hle h4).trans (he p n _ hp ⟨i, row M p, h1, row_in (by rw [h.holds.shp.len]; exact hp), okM, mM.1, nM, rfl⟩)
  have hA : Ans f (call f M f.code.length) := ⟨hH, fun N hN => hc.below.trans (h.least N hN)⟩
  exact hA.unique h
end Go.Proofs.Ytkcclefonmnpnaa

/- A ROW OF CONSTS AND OPERATIONS WITHOUT JUMPS (plain). -/
namespace Go.Proofs.Ytkcclefonmnpnaa
open Go.RowKit Go.BigFrame

/-- no jumps but a Return at the end; all steady; parameters none -/
structure Strt (f : Fn7) : Prop where
  okf : OkF f
  ps : f.ps = 0
  kinds : ∀ (p : Nat) (i : Ins), f.code[p]? = some i → (i.kind = 1 ∨ i.kind = 3 ∨ i.kind = 13)
  last : ∀ (p : Nat) (i : Ins), f.code[p]? = some i → i.kind = 13 → p + 1 = f.code.length
  steady : ∀ (p : Nat) (i : Ins), f.code[p]? = some i → i.kind = 3 → ∀ a b, (dov i.op a b).2 = true
def srow (f : Fn7) : Nat → List Vl
  | 0 => ini f
  | p + 1 => upd (insAt f.code p) (srow f p)
def sM (f : Fn7) : List (List Vl) := (List.range f.code.length).map (srow f)
theorem sM_at {f : Fn7} {p : Nat} (h : p < f.code.length) : (sM f)[p]? = some (srow f p) := by simp [sM, h]
theorem sM_row {f : Fn7} {p : Nat} (h : p < f.code.length) : row (sM f) p = srow f p := row_some (sM_at h)
theorem srow_len (f : Fn7) : ∀ p, (srow f p).length = f.R.toNat
  | 0 => inil_len f
  | p + 1 => by show (upd _ _).length = _; rw [upd_len]; exact srow_len f p
/-- all are known -/
def kn (v : List Vl) : Prop := ∀ x ∈ v, x.k = 1
theorem kn.at_ {v : List Vl} (h : kn v) {r : Nat} (hr : r < v.length) : (at_ v r).k = 1 := by rw [at_in hr]; exact h _ (List.getElem_mem hr)
theorem kn.ok {v : List Vl} (h : kn v) : rok v := fun x hx => Or.inl (h x hx)
theorem setV_kn {f : Fn7} (hs : Strt f) {p : Nat} {i : Ins} (hi : f.code[p]? = some i) {v : List Vl} (hv : kn v) (hl : v.length = f.R.toNat) : (setV i v).2 = true ∧ (i.kind ≠ 13 → (setV i v).1.k = 1) := by
  have hok := hs.okf.at_ hi
  rcases hs.kinds p i hi with e | e | e
  · unfold setV; rw [if_pos e]; exact ⟨rfl, fun _ => rfl⟩
  · have ha := hok.a_in (by rw [e]; rfl)
    have hb := hok.b_in (by rw [e]; rfl)
    have h1 := hv.at_ (r := i.a.toNat) (by omega)
    have h2 := hv.at_ (r := i.b.toNat) (by omega)
    have h3 : (bval i v).k = 1 := by unfold bval; rw [if_pos e]; exact h2
    unfold setV
    rw [if_neg (by omega), if_neg (by omega), if_pos (Or.inr e), if_neg (by omega)]
    exact ⟨hs.steady p i hi e _ _, fun _ => rfl⟩
  · unfold setV; rw [if_neg (by omega), if_neg (by omega), if_neg (by omega)]; exact ⟨rfl, fun h => absurd e h⟩
theorem upd_kn {f : Fn7} (hs : Strt f) {p : Nat} {i : Ins} (hi : f.code[p]? = some i) {v : List Vl} (hv : kn v) (hl : v.length = f.R.toNat) : kn (upd i v) := by
  unfold upd
  split
  · rename_i h0
    intro x hx
    rcases List.mem_or_eq_of_mem_set hx with hx | rfl
    · exact hv x hx
    · exact (setV_kn hs hi hv hl).2 (fun e => by simp [Ins.sets, kS, e] at h0)
  · exact hv
theorem srow_kn {f : Fn7} (hs : Strt f) : ∀ p, p ≤ f.code.length → kn (srow f p)
  | 0, _ => fun x hx => by
    obtain ⟨r, hr, rfl⟩ := List.mem_iff_getElem.1 hx
    have hr' : r < f.R.toNat := by rwa [show (srow f 0).length = _ from srow_len f 0] at hr
    have h := ini_at hr'
    rw [at_in (by rw [inil_len]; exact hr')] at h
    rw [show (srow f 0)[r] = _ from h, if_neg (by rw [hs.ps]; omega)]
  | p + 1, h => upd_kn hs (insAt_in (by omega)) (srow_kn hs p (by omega)) (srow_len f p)
theorem next_strt {f : Fn7} (hs : Strt f) {p : Nat} {i : Ins} (hi : f.code[p]? = some i) (v : List Vl) : nextV i p v = if i.kind = 13 then [] else [(p : Int) + 1] := by
  unfold nextV Ins.next
  rcases hs.kinds p i hi with e | e | e
  · rw [if_neg (by omega), if_neg (by omega), if_neg (by omega), if_neg (by omega)]
  · rw [if_neg (by omega), if_neg (by omega), if_neg (by omega), if_neg (by omega)]
  · rw [if_neg (by omega), if_neg (by omega), if_neg (by omega), if_pos e]
theorem sM_holds {f : Fn7} (hs : Strt f) : Holds f (sM f) := by
  have h0 := hs.okf.len
  refine ⟨⟨by simp [sM], fun v hv => ?_⟩, by rw [sM_row (by omega)]; exact rle.refl _, fun p n u hE => ?_⟩
  · obtain ⟨p, hp, rfl⟩ := List.mem_map.1 hv
    have hp : p < f.code.length := by simpa using hp
    exact ⟨srow_len f p, fun x hx => (srow_kn hs p (by omega)).ok x hx |>.wf⟩
  · obtain ⟨i, v, h1, h2, h3, h4, h5, rfl⟩ := hE
    have hp : p < f.code.length := (List.getElem?_eq_some_iff.1 h1).1
    rw [sM_at hp] at h2
    injection h2 with h2
    subst h2
    have e : insAt f.code p = i := by have := insAt_in hp; rw [h1] at this; injection this with this; exact this.symm
    have hin := h5
    rw [next_strt hs h1] at h5
    split at h5
    · simp at h5
    · have hn : n = p + 1 := by simp at h5; omega
      subst hn
      have hlt : p + 1 < f.code.length := by
        have hx : ((p + 1 : Nat) : Int) ∈ i.next p := by
          unfold nextV at hin
          rw [if_neg (by rcases hs.kinds p i h1 with e | e | e <;> omega)] at hin
          exact hin
        have := nextL_in hs.okf h1 hx
        omega
      rw [sM_row hlt]
      show rle _ (upd (insAt f.code p) (srow f p))
      rw [e]
      exact rle.refl _
theorem sM_ans {f : Fn7} (hs : Strt f) : Ans f (sM f) := by
  refine ⟨sM_holds hs, fun N hN => ?_⟩
  have key : ∀ p, p < f.code.length → rle (srow f p) (row N p) := by
    intro p
    induction p with
    | zero => exact fun _ => hN.start
    | succ p ih =>
      intro hp
      have hle := ih (by omega)
      have hi := insAt_in (l := f.code) (p := p) (by omega)
      have hok := hs.okf.at_ hi
      have hk := srow_kn hs p (by omega)
      have l2 := (hN.shp.at_ (p := p) (by omega)).1
      have hs1 := (setV_kn hs hi hk (srow_len f p)).1
      have hm := setV_mono hok hk.ok (srow_len f p) hle hs1
      have okN := hle.rok hk.ok (by rw [srow_len, l2])
      by_cases h13 : (insAt f.code p).kind = 13
      · exact absurd (hs.last p _ hi h13) (by omega)
      · have hn : ((p + 1 : Nat) : Int) ∈ nextV (insAt f.code p) p (upd (insAt f.code p) (row N p)) := by
          rw [next_strt hs hi, if_neg h13]; simp
        exact (upd_mono hok hk.ok (srow_len f p) l2 hle hs1).trans (hN.edge p (p + 1) _ ⟨_, row N p, hi, row_in (by rw [hN.shp.len]; omega), okN, hm.1, hn, rfl⟩)
  intro p
  by_cases hp : p < f.code.length
  · rw [sM_row hp]; exact key p hp
  · rw [row_nil (by simp [sM]; omega)]
    intro r
    have h0 : at_ ([] : List Vl) r = nv := at_out (by simp)
    rw [h0]; exact Or.inl rfl
theorem not_any {v : List Vl} (h : rok v) : ¬ v.any (fun x => x.k == 0) = true := by rw [any_of_rok h]; decide
theorem foldI_strt3 {f : Fn7} (hs : Strt f) {p : Nat} {i : Ins} (hi : f.code[p]? = some i) (h3 : i.kind = 3) : foldI i p (srow f p) ≠ i := by
  have hp : p < f.code.length := (List.getElem?_eq_some_iff.1 hi).1
  have hk := srow_kn hs p (by omega)
  have hv := setV_kn hs hi hk (srow_len f p)
  unfold foldI
  rw [if_neg (not_any hk.ok), if_pos (Or.inr (Or.inr h3)), if_pos ⟨hv.1, hv.2 (by omega)⟩]
  intro e
  have : (1 : Int) = i.kind := congrArg Ins.kind e
  omega
theorem foldI_strt1 {f : Fn7} (hs : Strt f) {p : Nat} {i : Ins} (hi : f.code[p]? = some i) (h3 : i.kind ≠ 3) (v : List Vl) : foldI i p v = i := by
  unfold foldI
  split
  · rfl
  · rw [if_neg (by rcases hs.kinds p i hi with e | e | e <;> omega), if_neg (by rcases hs.kinds p i hi with e | e | e <;> omega)]
theorem foldN_strt {f : Fn7} (hs : Strt f) : ∀ p, p ≤ f.code.length → foldN f (sM f) p = ((f.code.take p).filter fun i => i.kind == 3).length
  | 0, _ => rfl
  | p + 1, h => by
    have hi := insAt_in (l := f.code) (p := p) (by omega)
    unfold foldN
    rw [foldN_strt hs p (by omega), sM_row (by omega), List.take_add_one, hi, Option.toList_some, List.filter_append, List.length_append]
    by_cases h3 : (insAt f.code p).kind = 3
    · rw [if_neg (foldI_strt3 hs hi h3)]; simp [h3]
    · rw [if_pos (foldI_strt1 hs hi h3 _)]; simp [h3]
end Go.Proofs.Ytkcclefonmnpnaa

/- A FOLDED FUNCTION DOES THE SAME (plain). -/
namespace Go.Proofs.Ytkcclefonmnpnaa

/-- registers hold what is known of them -/
structure Snd (v : List Vl) (ρ : List Int) : Prop where
  len : ρ.length = v.length
  rok : rok v
  kn : ∀ r, r < v.length → (at_ v r).k = 1 → ρ.getD r 0 = (at_ v r).n
theorem rg_nat (ρ : List Int) (r : Int) : rg ρ r = ρ.getD r.toNat 0 := rfl
theorem Snd.rle {u v : List Vl} {ρ : List Int} (h : Snd u ρ) (hl : u.length = v.length) (hle : rle u v) : Snd v ρ := by
  refine ⟨by rw [h.len, hl], hle.rok h.rok hl, fun r hr hk => ?_⟩
  have h1 := h.rok.at_ (r := r) (by omega)
  rcases hle r with e | e | e
  · rw [e] at h1
    rcases h1 with h1 | h1
    · exact absurd h1 (by decide)
    · cases h1
  · rw [← e] at hk ⊢; exact h.kn r (by omega) hk
  · rw [e] at hk; exact absurd hk (by decide)
theorem setd_len (d v : Int) (ρ : List Int) : (setd d v ρ).length = ρ.length := by unfold setd; split <;> simp
theorem Snd.set {v : List Vl} {ρ : List Int} (h : Snd v ρ) (d : Int) (n : Int) (x : Vl) (hx : x.ok) (hn : x.k = 1 → n = x.n) : Snd (if 0 ≤ d then v.set d.toNat x else v) (setd d n ρ) := by
  unfold setd
  by_cases hd : 0 ≤ d
  · rw [if_pos hd, if_pos hd]
    refine ⟨by simp [h.len], fun y hy => ?_, fun r hr hk => ?_⟩
    · rcases List.mem_or_eq_of_mem_set hy with h1 | h1
      · exact h.rok y h1
      · rw [h1]; exact hx
    · rw [List.length_set] at hr
      by_cases hrd : d.toNat = r
      · subst hrd
        rw [at_in (by rw [List.length_set]; exact hr), List.getElem_set_self] at hk ⊢
        rw [List.getD_eq_getElem?_getD, List.getElem?_set_self (by rw [h.len]; exact hr)]
        exact hn hk
      · rw [at_in (by rw [List.length_set]; exact hr), List.getElem_set_ne hrd, ← at_in hr] at hk ⊢
        rw [List.getD_eq_getElem?_getD, List.getElem?_set_ne hrd, ← List.getD_eq_getElem?_getD]
        exact h.kn r hr hk
  · rw [if_neg hd, if_neg hd]; exact h
theorem Snd.val {v : List Vl} {ρ : List Int} (h : Snd v ρ) {r : Int} (h0 : 0 ≤ r) (hr : r < v.length) (hk : (at_ v r.toNat).k = 1) : rg ρ r = (at_ v r.toNat).n := h.kn _ (by omega) hk
/-- what is set is what is told -/
theorem Snd.updS {v : List Vl} {ρ : List Int} (h : Snd v ρ) (i : Ins) (n : Int) (hok : (setV i v).1.ok) (hn : (setV i v).1.k = 1 → n = (setV i v).1.n) (hs : kS i.kind = true) : Snd (upd i v) (setd i.dst n ρ) := by
  have : upd i v = if 0 ≤ i.dst then v.set i.dst.toNat (setV i v).1 else v := by
    unfold upd Ins.sets
    rw [hs]
    rfl
  rw [this]
  exact h.set i.dst n _ hok hn
theorem upd_keep {i : Ins} {v : List Vl} (hs : kS i.kind = false) : upd i v = v := by
  unfold upd Ins.sets
  rw [hs]
  rfl
/-- one step: what is known behind it -/
theorem Snd.step {f : Fn7} {M : List (List Vl)} (hf : OkF f) (hA : Ans f M) {p : Nat} {i : Ins} (hi : f.code[p]? = some i) {ρ : List Int} (h : Snd (row M p) ρ) {q : Nat} {σ : List Int} (hb : (setV i (row M p)).2 = true) (hq : (q : Int) ∈ nextV i p (upd i (row M p))) (hs : Snd (upd i (row M p)) σ) : Snd (row M q) σ ∧ q < f.code.length := by
  have hp := (List.getElem?_eq_some_iff.1 hi).1
  have hsh := hA.holds.shp
  have hlen : ∀ p, p < f.code.length → (row M p).length = f.R.toNat := fun p hp => (hsh.at_ hp).1
  have hok := hf.ok i (List.mem_of_getElem? hi)
  have hqn : (q : Int) ∈ i.next p := by
    unfold nextV at hq
    split at hq
    · rename_i h12
      have : i.next p = [i.to_, i.els] := by unfold Ins.next; rw [if_neg (by omega), if_pos h12]
      rw [this]
      split at hq
      · split at hq
        · simp at hq ⊢; exact Or.inr hq
        · simp at hq ⊢; exact Or.inl hq
      · exact hq
    · exact hq
  have hql : q < f.code.length := by
    unfold Ins.next at hqn
    split at hqn
    · rename_i h11
      simp at hqn
      have := hok.to_ (Or.inl h11); omega
    · split at hqn
      · rename_i h12
        simp at hqn
        have := hok.to_ (Or.inr h12)
        have := hok.els h12
        rcases hqn with h1 | h1 <;> omega
      · split at hqn
        · cases hqn
        · simp at hqn
          have h11 : ¬ 11 ≤ i.kind := by have := hok.kind; omega
          have := hf.last
          by_cases hlast : p = f.code.length - 1
          · exact absurd (this i (hlast ▸ hi)) h11
          · omega
  refine ⟨hs.rle ?_ (hA.holds.edge p q _ ⟨i, row M p, hi, row_in (by rw [hsh.len]; exact hp), h.rok, hb, hq, rfl⟩), hql⟩
  rw [upd_len, hlen p hp, hlen q hql]
theorem Snd.ops {f : Fn7} {i : Ins} (hok : Ok i f.R f.Fr f.code.length) {v : List Vl} {ρ : List Int} (h : Snd v ρ) (hl : v.length = f.R.toNat) (hk : i.kind = 2 ∨ i.kind = 3) (hn : ¬ ((at_ v i.a.toNat).k = 2 ∨ (bval i v).k = 2)) : rg ρ i.a = (at_ v i.a.toNat).n ∧ i.bv ρ = (bval i v).n := by
  have ha := hok.a_in (by unfold kA; rcases hk with e | e <;> rw [e] <;> decide)
  have hka : (at_ v i.a.toNat).k = 1 := by
    rcases h.rok.at_ (r := i.a.toNat) (by omega) with e | e
    · exact e
    · exact absurd (Or.inl (by rw [e])) hn
  refine ⟨h.val ha.1 (by omega) hka, ?_⟩
  unfold Ins.bv bval at *
  by_cases h3 : i.kind = 3
  · rw [if_pos h3, if_pos h3]
    rw [if_pos h3] at hn
    have hb := hok.b_in (by unfold kB; rw [h3]; decide)
    have hkb : (at_ v i.b.toNat).k = 1 := by
      rcases h.rok.at_ (r := i.b.toNat) (by omega) with e | e
      · exact e
      · exact absurd (Or.inr (by rw [e])) hn
    exact h.val hb.1 (by omega) hkb
  · rw [if_neg h3, if_neg h3]
/-- what is folded does the same -/
theorem foldI_step {f : Fn7} {i : Ins} (hok : Ok i f.R f.Fr f.code.length) {v : List Vl} {ρ : List Int} (h : Snd v ρ) (hl : v.length = f.R.toNat) (p : Nat) (base : Int) (E : Env) : lstep (foldI i p v) p base ρ E = lstep i p base ρ E := by
  unfold foldI
  rw [any_of_rok h.rok]
  simp only [Bool.false_eq_true, if_false]
  by_cases hk : i.kind = 4 ∨ i.kind = 2 ∨ i.kind = 3
  · rw [if_pos hk]
    by_cases hs : (setV i v).2 = true ∧ (setV i v).1.k = 1
    · rw [if_pos hs]
      have hc : lstep ⟨1, 0, i.dst, 0, 0, (setV i v).1.n, ⟨#[]⟩, 0, 0, 0, 0, 0, 0, 0, -1⟩ p base ρ E = .go (p + 1) (setd i.dst (setV i v).1.n ρ) E := rfl
      rw [hc]
      unfold lstep
      rcases hk with h4 | h23
      · rw [if_neg (by omega), if_neg (by omega), if_pos h4]
        have e : setV i v = (at_ v i.a.toNat, true) := by unfold setV; rw [if_neg (by omega), if_pos h4]
        rw [e] at hs ⊢
        have ha := hok.a_in (by unfold kA; rw [h4]; decide)
        rw [h.val ha.1 (by omega) hs.2]
      · rw [if_neg (by omega), if_pos h23]
        have e : setV i v = if (at_ v i.a.toNat).k = 2 ∨ (bval i v).k = 2 then (av, true) else (⟨1, (dov i.op (at_ v i.a.toNat).n (bval i v).n).1⟩, (dov i.op (at_ v i.a.toNat).n (bval i v).n).2) := by unfold setV; rw [if_neg (by omega), if_neg (by omega), if_pos h23]
        by_cases hn : (at_ v i.a.toNat).k = 2 ∨ (bval i v).k = 2
        · rw [e, if_pos hn] at hs
          exact absurd hs.2 (by decide)
        · rw [e, if_neg hn] at hs ⊢
          obtain ⟨e1, e2⟩ := h.ops hok hl h23 hn
          rw [e1, e2]
          simp only at hs
          rw [if_pos hs.1]
    · rw [if_neg hs]
  · rw [if_neg hk]
    by_cases h12 : i.kind = 12
    · rw [if_pos h12]
      have ha := hok.a_in (by unfold kA; rw [h12]; decide)
      have hi : lstep i p base ρ E = .go (if rg ρ i.a = 0 then i.els.toNat else i.to_.toNat) ρ E := by unfold lstep; simp [h12]
      unfold nextV
      rw [if_pos h12, hi]
      by_cases h1 : (at_ v i.a.toNat).k = 1
      · rw [if_pos h1, h.val ha.1 (by omega) h1]
        by_cases h0 : (at_ v i.a.toNat).n = 0
        · rw [if_pos h0, if_pos h0]; rfl
        · rw [if_neg h0, if_neg h0]; rfl
      · rw [if_neg h1]
        simp only
        rw [hi]
    · rw [if_neg h12]
theorem kS_in {k : Int} (h : k = 1 ∨ k = 2 ∨ k = 3 ∨ k = 4 ∨ k = 5 ∨ k = 6 ∨ k = 8 ∨ k = 9) : kS k = true := by
  rcases h with e | e | e | e | e | e | e | e <;> rw [e] <;> decide
theorem setV_av {i : Ins} (v : List Vl) (h : ¬ (i.kind = 1 ∨ i.kind = 4 ∨ i.kind = 2 ∨ i.kind = 3)) : setV i v = (av, true) := by
  unfold setV
  rw [if_neg (by omega), if_neg (by omega), if_neg (by omega)]
theorem nextV_one {i : Ins} {p : Nat} (v : List Vl) (h : i.kind < 11) : ((p + 1 : Nat) : Int) ∈ nextV i p v := by
  unfold nextV Ins.next
  rw [if_neg (by omega), if_neg (by omega), if_neg (by omega), if_neg (by omega)]
  simp
/-- a step that goes on: by an edge, with what is told -/
theorem Snd.goes {f : Fn7} {i : Ins} (hok : Ok i f.R f.Fr f.code.length) {v : List Vl} {ρ : List Int} (h : Snd v ρ) (hl : v.length = f.R.toNat) {p : Nat} {base : Int} {E E' : Env} {q : Nat} {σ : List Int} :
    lstep i p base ρ E = .go q σ E' → (setV i v).2 = true ∧ (q : Int) ∈ nextV i p (upd i v) ∧ Snd (upd i v) σ := by
  have av_ : ∀ n, i.kind = 5 ∨ i.kind = 6 ∨ i.kind = 9 → (setV i v).2 = true ∧ ((p + 1 : Nat) : Int) ∈ nextV i p (upd i v) ∧ Snd (upd i v) (setd i.dst n ρ) := fun n hk => by
    have e := setV_av (i := i) v (by omega)
    exact ⟨by rw [e], nextV_one _ (by omega), h.updS i n (by rw [e]; exact Or.inr rfl) (fun hk => by rw [e] at hk; cases hk) (kS_in (by omega))⟩
  have keep : i.kind = 7 ∨ i.kind = 10 → (setV i v).2 = true ∧ ((p + 1 : Nat) : Int) ∈ nextV i p (upd i v) ∧ Snd (upd i v) ρ := fun hk => by
    have e := setV_av (i := i) v (by omega)
    exact ⟨by rw [e], nextV_one _ (by omega), by rw [upd_keep (by unfold kS; rcases hk with e | e <;> rw [e] <;> decide)]; exact h⟩
  apply lstep_ind (P := fun d => d = .go q σ E' → (setV i v).2 = true ∧ (q : Int) ∈ nextV i p (upd i v) ∧ Snd (upd i v) σ)
  · intro hk he
    injection he with h1 h2 h3
    subst h1 h2
    have e : setV i v = (⟨1, i.n⟩, true) := by unfold setV; rw [if_pos hk]
    exact ⟨by rw [e], nextV_one _ (by omega), h.updS i _ (by rw [e]; exact Or.inl rfl) (fun _ => by rw [e]) (kS_in (by omega))⟩
  · intro hk hd he
    injection he with h1 h2 h3
    subst h1 h2
    have e : setV i v = if (at_ v i.a.toNat).k = 2 ∨ (bval i v).k = 2 then (av, true) else (⟨1, (dov i.op (at_ v i.a.toNat).n (bval i v).n).1⟩, (dov i.op (at_ v i.a.toNat).n (bval i v).n).2) := by unfold setV; rw [if_neg (by omega), if_neg (by omega), if_pos hk]
    by_cases hn : (at_ v i.a.toNat).k = 2 ∨ (bval i v).k = 2
    · rw [if_pos hn] at e
      exact ⟨by rw [e], nextV_one _ (by omega), h.updS i _ (by rw [e]; exact Or.inr rfl) (fun hk => by rw [e] at hk; cases hk) (kS_in (by omega))⟩
    · rw [if_neg hn] at e
      obtain ⟨e1, e2⟩ := h.ops hok hl hk hn
      rw [e1, e2] at hd ⊢
      exact ⟨by rw [e]; exact hd, nextV_one _ (by omega), h.updS i _ (by rw [e]; exact Or.inl rfl) (fun _ => by rw [e]) (kS_in (by omega))⟩
  · intro _ _ he; cases he
  · intro hk he
    injection he with h1 h2 h3
    subst h1 h2
    have ha := hok.a_in (by unfold kA; rw [hk]; decide)
    have e : setV i v = (at_ v i.a.toNat, true) := by unfold setV; rw [if_neg (by omega), if_pos hk]
    exact ⟨by rw [e], nextV_one _ (by omega), h.updS i _ (by rw [e]; exact h.rok.at_ (by omega)) (fun hk1 => by rw [e] at hk1 ⊢; exact h.val ha.1 (by omega) hk1) (kS_in (by omega))⟩
  · intro hk he
    injection he with h1 h2 h3
    subst h1 h2
    exact av_ _ (by omega)
  · intro _ _ he; cases he
  · intro hk _ he
    injection he with h1 h2 h3
    subst h1 h2
    exact av_ _ (by omega)
  · intro hk _ he
    injection he with h1 h2 h3
    subst h1 h2
    exact keep (by omega)
  · intro _ he; cases he
  · intro hk he
    injection he with h1 h2 h3
    subst h1 h2
    exact av_ _ (by omega)
  · intro hk he
    injection he with h1 h2 h3
    subst h1 h2
    exact keep (by omega)
  · intro hk he
    injection he with h1 h2 h3
    subst h1 h2
    have e := setV_av (i := i) v (by omega)
    have hto := hok.to_ (Or.inl hk)
    refine ⟨by rw [e], ?_, by rw [upd_keep (by unfold kS; rw [hk]; decide)]; exact h⟩
    unfold nextV Ins.next
    rw [if_neg (by omega), if_pos hk]
    simp
    omega
  · intro hk he
    injection he with h1 h2 h3
    subst h1 h2
    have e := setV_av (i := i) v (by omega)
    have hto := hok.to_ (Or.inr hk)
    have hel := hok.els hk
    have ha := hok.a_in (by unfold kA; rw [hk]; decide)
    have hu : upd i v = v := upd_keep (by unfold kS; rw [hk]; decide)
    rw [hu]
    refine ⟨by rw [e], ?_, h⟩
    unfold nextV
    rw [if_pos hk]
    by_cases h1 : (at_ v i.a.toNat).k = 1
    · rw [if_pos h1, h.val ha.1 (by omega) h1]
      by_cases h0 : (at_ v i.a.toNat).n = 0
      · rw [if_pos h0, if_pos h0]; simp; omega
      · rw [if_neg h0, if_neg h0]; simp; omega
    · rw [if_neg h1]
      by_cases h0 : rg ρ i.a = 0
      · rw [if_pos h0]; simp; omega
      · rw [if_neg h0]; simp; omega
  · intro _ he; cases he
/-- A FOLDED FUNCTION FOR THE FUNCTION -/
def fold_loc {f : Fn7} {M : List (List Vl)} (hf : OkF f) (hA : Ans f M) : Loc False f (foldF f M) where
  R := fun _ p ρ p' ρ' => p' = p ∧ ρ' = ρ ∧ p < f.code.length ∧ Snd (row M p) ρ
  nm := rfl
  ps := rfl
  Rs := rfl
  Fr := rfl
  start := fun _ args hargs => by
    have hl := hf.len
    have h0 : (row M 0).length = f.R.toNat := (hA.holds.shp.at_ (by omega)).1
    have hR := hf.R
    have hini : (ini f).length = f.R.toNat := by simp [ini]
    refine ⟨rfl, rfl, by omega, Snd.rle (u := ini f) ?_ (by rw [hini, h0]) hA.holds.start⟩
    refine ⟨by rw [hini]; simp; omega, fun x hx => ?_, fun r hr hk => ?_⟩
    · unfold ini at hx
      obtain ⟨r, _, rfl⟩ := List.mem_map.1 hx
      split
      · exact Or.inr rfl
      · exact Or.inl rfl
    · have e : at_ (ini f) r = if (r : Int) < f.ps then av else ⟨1, 0⟩ := by
        rw [hini] at hr
        unfold ini
        rw [at_in (by simpa using hr)]
        simp
      rw [e] at hk ⊢
      by_cases hrp : (r : Int) < f.ps
      · rw [if_pos hrp] at hk; cases hk
      · rw [if_neg hrp]
        rw [List.getD_eq_getElem?_getD, List.getElem?_append_right (by omega), List.getElem?_replicate]
        split <;> rfl
  at_ := fun _ p ρ p' ρ' h => by
    obtain ⟨rfl, rfl, hp, _⟩ := h
    have hi := insAt_in hp
    exact ⟨_, _, hi, foldF_at hi⟩
  go := fun p ρ p' ρ' i i' base E q σ E' h hi hi' hl => by
    obtain ⟨rfl, rfl, hp, hs⟩ := h
    rw [foldF_at hi] at hi'
    injection hi' with hi'
    subst hi'
    have hok := hf.ok i (List.mem_of_getElem? hi)
    have hrl : (row M p').length = f.R.toNat := (hA.holds.shp.at_ hp).1
    refine Or.inr ⟨q, σ, ?_, rfl, rfl, ?_⟩
    · rw [foldI_step hok hs hrl]; exact hl
    · obtain ⟨h1, h2, h3⟩ := hs.goes hok hrl hl
      have := hs.step hf hA hi h1 h2 h3
      exact ⟨this.2, this.1⟩
  stop := fun p ρ p' ρ' i i' base E c h hi hi' hl => by
    obtain ⟨rfl, rfl, hp, hs⟩ := h
    rw [foldF_at hi] at hi'
    injection hi' with hi'
    subst hi'
    rw [foldI_step (hf.ok i (List.mem_of_getElem? hi)) hs (hA.holds.shp.at_ hp).1]
    exact hl
  call := fun p ρ p' ρ' i i' base E nm args d h hi hi' hl => by
    obtain ⟨rfl, rfl, hp, hs⟩ := h
    rw [foldF_at hi] at hi'
    injection hi' with hi'
    subst hi'
    have hok := hf.ok i (List.mem_of_getElem? hi)
    refine ⟨by rw [foldI_step hok hs (hA.holds.shp.at_ hp).1]; exact hl, fun v => ⟨rfl, rfl, ?_⟩⟩
    obtain ⟨q1, _, _, q4⟩ := lstep_call hl
    have e := setV_av (i := i) (row M p') (by omega)
    have := hs.step hf hA hi (q := p' + 1) (σ := setd d v ρ') (by rw [e]) (nextV_one _ (by omega)) (by
      rw [q4]
      exact hs.updS i v (by rw [e]; exact Or.inr rfl) (fun hk => by rw [e] at hk; cases hk) (kS_in (by omega)))
    exact ⟨this.2, this.1⟩
  ret := fun p ρ p' ρ' i i' base E v h hi hi' hl => by
    obtain ⟨rfl, rfl, hp, hs⟩ := h
    rw [foldF_at hi] at hi'
    injection hi' with hi'
    subst hi'
    rw [foldI_step (hf.ok i (List.mem_of_getElem? hi)) hs (hA.holds.shp.at_ hp).1]
    exact hl
end Go.Proofs.Ytkcclefonmnpnaa

/- A UNIT ALL OF WHOSE FUNCTIONS ARE MADE OTHERS DOES THE SAME (plain). -/
namespace Go.Proofs.Ytkcclefonmnpnaa

structure Rel (stay : Prop) (x y : Res) : Prop where
  fast : Fast x y
  same : ¬ stay → x = y
theorem Rel.refl (stay : Prop) (x : Res) : Rel stay x x := ⟨Fast.refl x, fun _ => rfl⟩
theorem Rel.trans {stay : Prop} {x y z : Res} (h : Rel stay x y) (h' : Rel stay y z) : Rel stay x z := ⟨h.fast.trans h'.fast, fun hs => (h.same hs).trans (h'.same hs)⟩
/-- a function may stand for another one: it does the same, and calls no other -/
structure Tr (stay : Prop) (f g : Fn7) : Prop where
  loc : Nonempty (Loc stay f g)
  ok : OkF g
  calls : ∀ i ∈ g.code, i.kind = 8 → ∃ j ∈ f.code, j.kind = 8 ∧ j.text = i.text ∧ j.n = i.n
inductive TrS (stay : Prop) : Fn7 → Fn7 → Prop
  | refl (f : Fn7) : TrS stay f f
  | step {f g h : Fn7} (ht : Tr stay f g) (hs : TrS stay g h) : TrS stay f h
theorem TrS.one {stay : Prop} {f g : Fn7} (h : Tr stay f g) : TrS stay f g := .step h (.refl g)
theorem TrS.trans {stay : Prop} {f g h : Fn7} (a : TrS stay f g) (b : TrS stay g h) : TrS stay f h := by
  induction a with
  | refl => exact b
  | step ht _ ih => exact .step ht (ih b)
theorem TrS.ok {stay : Prop} {f g : Fn7} (a : TrS stay f g) (hf : OkF f) : OkF g := by
  induction a with
  | refl => exact hf
  | step ht _ ih => exact ih ht.ok
theorem TrS.nm {stay : Prop} {f g : Fn7} (a : TrS stay f g) : g.nm = f.nm ∧ g.ps = f.ps ∧ g.R = f.R ∧ g.Fr = f.Fr := by
  induction a with
  | refl => exact ⟨rfl, rfl, rfl, rfl⟩
  | step ht _ ih =>
    obtain ⟨L⟩ := ht.loc
    obtain ⟨h1, h2, h3, h4⟩ := ih
    exact ⟨h1.trans L.nm, h2.trans L.ps, h3.trans L.Rs, h4.trans L.Fr⟩
theorem TrS.calls {stay : Prop} {f g : Fn7} (a : TrS stay f g) : ∀ i ∈ g.code, i.kind = 8 → ∃ j ∈ f.code, j.kind = 8 ∧ j.text = i.text ∧ j.n = i.n := by
  induction a with
  | refl => exact fun i hi hk => ⟨i, hi, hk, rfl, rfl⟩
  | step ht _ ih =>
    intro i hi hk
    obtain ⟨j, hj, h1, h2, h3⟩ := ih i hi hk
    obtain ⟨j', hj', h1', h2', h3'⟩ := ht.calls j hj h1
    exact ⟨j', hj', h1', h2'.trans h2, h3'.trans h3⟩
def Loc.weak {f g : Fn7} (L : Loc False f g) : Loc True f g where
  R := L.R
  nm := L.nm
  ps := L.ps
  Rs := L.Rs
  Fr := L.Fr
  start := L.start
  at_ := L.at_
  go := fun p ρ p' ρ' i i' base E q σ E' h hi hi' hl => (L.go p ρ p' ρ' i i' base E q σ E' h hi hi' hl).imp (fun h => h.1.elim) id
  stop := L.stop
  call := L.call
  ret := L.ret
theorem Tr.weak {f g : Fn7} (h : Tr False f g) : Tr True f g := ⟨h.loc.elim fun L => ⟨L.weak⟩, h.ok, h.calls⟩
theorem TrS.weak {f g : Fn7} (h : TrS False f g) : TrS True f g := by
  induction h with
  | refl => exact .refl _
  | step ht _ ih => exact .step ht.weak ih
/-- a unit that can be run -/
structure OkC (u : Un7) : Prop where
  ok : ∀ f ∈ u.funcs, OkF f
  calls : Calls7 u
theorem swap_ok {stay : Prop} {u : Un7} (hu : OkC u) {k : Nat} {f g : Fn7} (hf : u.funcs[k]? = some f) (h : Tr stay f g) : OkC (swapU u k g) := by
  obtain ⟨L⟩ := h.loc
  have hklt := (List.getElem?_eq_some_iff.1 hf).1
  refine ⟨fun F hF => ?_, fun F hF i hi hk => ?_⟩
  · rcases List.mem_or_eq_of_mem_set hF with h1 | h1
    · exact hu.ok F h1
    · rw [h1]; exact h.ok
  · have key : ∀ F' ∈ u.funcs, ∀ j ∈ F'.code, j.kind = 8 → 0 ≤ j.n ∧ j.n ≤ 6 ∧ ∃ k' g', findU (swapU u k g).funcs j.text = some k' ∧ (swapU u k g).funcs[k']? = some g' ∧ g'.ps = j.n := fun F' hF' j hj hk => by
      obtain ⟨h1, h2, k', g', h3, h4, h5⟩ := hu.calls F' hF' j hj hk
      refine ⟨h1, h2, k', ?_⟩
      rw [show findU (swapU u k g).funcs j.text = findU u.funcs j.text from findIdx_set u.funcs k f g hf L.nm _]
      by_cases hkk : k' = k
      · subst hkk
        have : f = g' := by rw [hf] at h4; exact Option.some.inj h4
        subst this
        exact ⟨g, h3, by simp [swapU, hklt], by rw [L.ps, h5]⟩
      · exact ⟨g', h3, by simp only [swapU]; rw [List.getElem?_set_ne (Ne.symm hkk)]; exact h4, h5⟩
    rcases List.mem_or_eq_of_mem_set hF with h1 | h1
    · exact key F h1 i hi hk
    · subst h1
      obtain ⟨j, hj, e1, e2, e3⟩ := h.calls i hi hk
      have := key f (List.mem_of_getElem? hf) j hj e1
      rw [e2, e3] at this
      exact this
theorem swap_one {stay : Prop} {u : Un7} (hu : OkC u) {k : Nat} {f g : Fn7} (hf : u.funcs[k]? = some f) (h : Tr stay f g) (inp : List Int) (n : Nat) : Rel stay (runU u inp n) (runU (swapU u k g) inp n) := by
  obtain ⟨L⟩ := h.loc
  have := swap_run L hf hu.calls (fun F hF => (hu.ok F hF).ps.1) inp n
  exact ⟨this.1, this.2⟩
theorem swap_star {stay : Prop} {f g : Fn7} (h : TrS stay f g) : ∀ {u : Un7}, OkC u → ∀ {k : Nat}, u.funcs[k]? = some f → ∀ (inp : List Int) (n : Nat), Rel stay (runU u inp n) (runU (swapU u k g) inp n) ∧ OkC (swapU u k g) := by
  induction h with
  | refl f =>
    intro u hu k hf inp n
    have : swapU u k f = u := by
      unfold swapU
      have hs : u.funcs.set k f = u.funcs := by
        apply List.ext_getElem?
        intro j
        rw [List.getElem?_set]
        split
        · rename_i e; subst e
          rw [if_pos (List.getElem?_eq_some_iff.1 hf).1, hf]
        · rfl
      rw [hs]
    rw [this]
    exact ⟨Rel.refl _ _, hu⟩
  | @step f g h ht hs ih =>
    intro u hu k hf inp n
    have h1 := swap_one hu hf ht inp n
    have h2 := swap_ok hu hf ht
    have hg : (swapU u k g).funcs[k]? = some g := by simp [swapU, (List.getElem?_eq_some_iff.1 hf).1]
    have h3 := ih h2 hg inp n
    have e : swapU (swapU u k g) k h = swapU u k h := by simp [swapU]
    rw [e] at h3
    exact ⟨h1.trans h3.1, h3.2⟩
/-- all functions are made others -/
theorem swap_all {stay : Prop} {u : Un7} (hu : OkC u) (gs : List Fn7) (hlen : gs.length = u.funcs.length) (h : ∀ (k : Nat) f g, u.funcs[k]? = some f → gs[k]? = some g → TrS stay f g) (inp : List Int) (n : Nat) :
    Rel stay (runU u inp n) (runU { u with funcs := gs } inp n) := by
  have key : ∀ m, m ≤ u.funcs.length → Rel stay (runU u inp n) (runU { u with funcs := gs.take m ++ u.funcs.drop m } inp n) ∧ OkC { u with funcs := gs.take m ++ u.funcs.drop m } := by
    intro m
    induction m with
    | zero => intro _; simp only [List.take_zero, List.nil_append, List.drop_zero]; exact ⟨Rel.refl _ _, hu⟩
    | succ m ih =>
      intro hm
      obtain ⟨h1, h2⟩ := ih (by omega)
      have hf : u.funcs[m]? = some u.funcs[m] := List.getElem?_eq_getElem (by omega)
      have hg : gs[m]? = some gs[m] := List.getElem?_eq_getElem (by omega)
      have hlt : (gs.take m).length = m := by simp; omega
      have hf2 : ({ u with funcs := gs.take m ++ u.funcs.drop m } : Un7).funcs[m]? = some u.funcs[m] := by
        show (gs.take m ++ u.funcs.drop m)[m]? = _
        rw [List.getElem?_append_right (by omega), hlt, Nat.sub_self, List.getElem?_drop, Nat.add_zero]
        exact hf
      have h3 := swap_star (h m _ _ hf hg) h2 hf2 inp n
      have e : swapU { u with funcs := gs.take m ++ u.funcs.drop m } m gs[m] = { u with funcs := gs.take (m + 1) ++ u.funcs.drop (m + 1) } := by
        unfold swapU
        simp only [Un7.mk.injEq, and_true]
        apply List.ext_getElem?
        intro j
        rw [List.getElem?_set, List.take_add_one, hg, Option.toList_some]
        have hl1 : (gs.take m ++ [gs[m]]).length = m + 1 := by simp; omega
        by_cases hj : m = j
        · subst hj
          rw [if_pos rfl, if_pos (by simp; omega), List.getElem?_append_left (by omega), List.getElem?_append_right (by omega), hlt, Nat.sub_self]
          rfl
        · rw [if_neg hj]
          by_cases hjm : j < m
          · rw [List.getElem?_append_left (by omega), List.getElem?_append_left (by omega), List.getElem?_append_left (by omega)]
          · rw [List.getElem?_append_right (by omega), List.getElem?_append_right (by omega), hlt, hl1, List.getElem?_drop, List.getElem?_drop]
            congr 1
            omega
      rw [e] at h3
      exact ⟨h1.trans h3.1, h3.2⟩
  have := (key u.funcs.length (Nat.le_refl _)).1
  rw [List.drop_length, List.append_nil, List.take_of_length_le (by omega)] at this
  exact this
end Go.Proofs.Ytkcclefonmnpnaa

/- What is folded stands for a function (plain). -/
namespace Go.Proofs.Ytkcclefonmnpnaa

theorem fold_tr {f : Fn7} {M : List (List Vl)} (hf : OkF f) (hA : Ans f M) : Tr False f (foldF f M) := by
  refine ⟨⟨fold_loc hf hA⟩, foldF_okf hf hA, fun j hj hk => ?_⟩
  obtain ⟨p, hp⟩ := List.mem_iff_getElem?.1 hj
  obtain ⟨i, hi, e⟩ := foldF_code hp
  refine ⟨i, List.mem_of_getElem? hi, ?_⟩
  have : j = i := by
    subst e
    revert hk
    unfold foldI
    split
    · intro _; rfl
    split
    · split
      · intro hk; cases hk
      · intro _; rfl
    split
    · split
      · intro hk; cases hk
      · intro _; rfl
    · intro _; rfl
  rw [this] at hk ⊢
  exact ⟨hk, rfl, rfl⟩
end Go.Proofs.Ytkcclefonmnpnaa

/- What is shared, or swept, stands for a function (plain). -/
namespace Go.Proofs.Ytkcclefonmnpnaa

theorem sh_tr {f : Fn7} (hf : OkF f) : Tr False f (shF f) := by
  refine ⟨⟨sh_loc hf⟩, shF_ok hf, fun j hj hk => ?_⟩
  obtain ⟨p, hp⟩ := List.mem_iff_getElem?.1 hj
  have hlt : p < f.code.length := by
    have := (List.getElem?_eq_some_iff.1 hp).1
    rw [show (shF f).code.length = f.code.length from shL_len _] at this
    exact this
  have h1 := insD_in hlt
  have h2 : (shL f.code)[p]? = some j := hp
  rw [shL_at h1] at h2
  injection h2 with h2
  refine ⟨_, List.mem_of_getElem? h1, ?_⟩
  rcases new_cases (shIn f.code p) (insD f.code p) with e | ⟨r, _, _, e⟩
  · rw [e] at h2
    rw [← h2] at hk ⊢
    exact ⟨hk, rfl, rfl⟩
  · rw [e] at h2
    rw [← h2] at hk
    cases hk
theorem wF_calls {G : Nat → Bool} {f : Fn7} : ∀ i ∈ (wF G f).code, i.kind = 8 → ∃ j ∈ f.code, j.kind = 8 ∧ j.text = i.text ∧ j.n = i.n := fun i hi hk => by
  obtain ⟨q, hq⟩ := List.mem_iff_getElem?.1 hi
  obtain ⟨p, j, h1, _, _, rfl⟩ := wout_inv (show (wout G f.code)[q]? = some i from hq)
  exact ⟨j, List.mem_of_getElem? h1, hk, rfl, rfl⟩
theorem uF_tr {f : Fn7} (hf : OkF f) : Tr True f (uF f) := ⟨⟨uF_loc hf⟩, uF_ok hf, wF_calls⟩
theorem dF_tr {f : Fn7} (hf : OkF f) : Tr True f (dF f) := ⟨⟨dF_loc hf⟩, dF_ok hf, wF_calls⟩
theorem Swp.tr {f g : Fn7} (h : Swp f g) (hf : OkF f) : TrS True f g := by
  induction h with
  | @done f h => exact .one (uF_tr hf)
  | @more f g h hs ih => exact .step (uF_tr hf) (.step (dF_tr (uF_ok hf)) (ih (dF_ok (uF_ok hf))))
end Go.Proofs.Ytkcclefonmnpnaa

/- As short as can be (plain): rounds of what is shared, folded and swept; one answer. -/
namespace Go.Proofs.Ytkcclefonmnpnaa

theorem Swp.unique {f g h : Fn7} (a : Swp f g) (b : Swp f h) : g = h := by
  induction a with
  | done ha =>
    cases b with
    | done _ => rfl
    | more hb _ => exact absurd ha hb
  | more ha _ ih =>
    cases b with
    | done hb => exact absurd hb ha
    | more _ hs => exact ih hs
/-- how much a round changes -/
def cnt (f : Fn7) (M : List (List Vl)) (k : Fn7) : Nat := shN f.code f.code.length + foldN (shF f) M f.code.length + (f.code.length - k.code.length)
/-- at most so many rounds -/
inductive ShR : Nat → Fn7 → Fn7 → Prop
  | zero (f : Fn7) : ShR 0 f f
  | stop {n : Nat} {f k : Fn7} {M : List (List Vl)} (hA : Ans (shF f) M) (hs : Swp (foldF (shF f) M) k) (h0 : cnt f M k = 0) : ShR (n + 1) f k
  | more {n : Nat} {f k g : Fn7} {M : List (List Vl)} (hA : Ans (shF f) M) (hs : Swp (foldF (shF f) M) k) (h0 : cnt f M k ≠ 0) (hr : ShR n k g) : ShR (n + 1) f g
theorem ShR.unique {n : Nat} {f g h : Fn7} (a : ShR n f g) (b : ShR n f h) : g = h := by
  induction a with
  | zero f => cases b; rfl
  | @stop n f k M hA hs h0 =>
    cases b with
    | @stop _ _ _ M' hA' hs' _ =>
      have := hA.unique hA'
      subst this
      exact hs.unique hs'
    | @more _ _ k' _ M' hA' hs' h0' hr' =>
      have := hA.unique hA'
      subst this
      have := hs.unique hs'
      subst this
      exact absurd h0 h0'
  | @more n f k g M hA hs h0 hr ih =>
    cases b with
    | @stop _ _ _ M' hA' hs' h0' =>
      have := hA.unique hA'
      subst this
      have := hs.unique hs'
      subst this
      exact absurd h0' h0
    | @more _ _ k' _ M' hA' hs' h0' hr' =>
      have := hA.unique hA'
      subst this
      have := hs.unique hs'
      subst this
      exact ih hr'
theorem round_tr {f k : Fn7} {M : List (List Vl)} (hf : OkF f) (hA : Ans (shF f) M) (hs : Swp (foldF (shF f) M) k) : TrS True f k :=
  .step (sh_tr hf).weak (.step (fold_tr (shF_ok hf) hA).weak (hs.tr (fold_tr (shF_ok hf) hA).ok))
theorem ShR.tr {n : Nat} {f g : Fn7} (a : ShR n f g) : OkF f → TrS True f g := by
  induction a with
  | zero f => exact fun _ => .refl f
  | stop hA hs _ => exact fun hf => round_tr hf hA hs
  | more hA hs _ _ ih => exact fun hf => (round_tr hf hA hs).trans (ih ((round_tr hf hA hs).ok hf))
theorem round_len {f k : Fn7} {M : List (List Vl)} (hf : OkF f) (hA : Ans (shF f) M) (hs : Swp (foldF (shF f) M) k) : k.code.length ≤ f.code.length := by
  have h1 := (hs.end_ (fold_tr (shF_ok hf) hA).ok).2.2.2.2.2.2.2
  have h2 : (foldF (shF f) M).code.length = f.code.length := (foldL_len _ _).trans (shL_len _)
  omega
theorem ShR.len {n : Nat} {f g : Fn7} (a : ShR n f g) : OkF f → g.code.length ≤ f.code.length := by
  induction a with
  | zero f => exact fun _ => Nat.le_refl _
  | stop hA hs _ => exact fun hf => round_len hf hA hs
  | more hA hs _ _ ih => exact fun hf => Nat.le_trans (ih ((round_tr hf hA hs).ok hf)) (round_len hf hA hs)
/-! What the law of a changed unit asks -/
/-- results as lists of words -/
def doesB (x y : Res) : Prop :=
  if x.e ≠ 4 ∧ y.e ≠ 4 then x = y
  else ¬ (x.e ≠ 4 ∧ x.out.length < y.out.length) ∧ ¬ (y.e ≠ 4 ∧ y.out.length < x.out.length) ∧ x.out.take (min x.out.length y.out.length) = y.out.take (min x.out.length y.out.length)
theorem Fast.does {x y : Res} (h : Fast x y) : doesB x y := by
  unfold doesB
  obtain ⟨t, ht⟩ := h.2
  have hl : x.out.length ≤ y.out.length := by rw [← ht]; simp
  by_cases hx : x.e ≠ 4
  · have e := h.1 hx
    rw [if_pos ⟨hx, by rw [e]; exact hx⟩, e]
  · rw [if_neg fun hh => hx hh.1]
    refine ⟨fun hh => hx hh.1, fun hh => by omega, ?_⟩
    rw [Nat.min_eq_left hl, ← ht]
    simp
/-! The law of what is shared: it keeps the places -/
theorem shN_succ (l : List Ins) (k : Nat) : shN l (k + 1) = if (shIn l k).new (insD l k) = insD l k then shN l k else shN l k + 1 := by
  unfold shN
  rw [List.range_succ, List.filter_append, List.length_append]
  by_cases h : (shIn l k).new (insD l k) = insD l k <;> simp [h]
theorem new_keeps {x : ShS} {i : Ins} {R Fr : Int} {L : Nat} (h : Ok i R Fr L) : (x.new i).sets = i.sets ∧ (x.new i).to_ = i.to_ ∧ (x.new i).els = i.els ∧ ((x.new i).kind = i.kind ∨ (x.new i).kind = 4) := by
  refine ⟨new_sets, ?_⟩
  rcases new_cases x i with e | ⟨r, _, hm, e⟩
  · rw [e]; exact ⟨rfl, rfl, Or.inl rfl⟩
  · rw [e]
    have hk : 1 ≤ i.kind ∧ i.kind ≤ 5 := pur_kind (more_kind hm).1
    have h1 := congrArg Ins.to_ h.mask
    have h2 := congrArg Ins.els h.mask
    unfold Ins.mask at h1 h2
    simp only at h1 h2
    rw [if_neg (by omega)] at h1 h2
    exact ⟨h1.symm, h2.symm, Or.inr rfl⟩
end Go.Proofs.Ytkcclefonmnpnaa

/- code.Same: are two functions the same? -/
namespace Go.Proofs.Ytkcclefonmnpnaa
open Go.RowKit Go.BigFrame

set_option maxRecDepth 1000000 in
set_option maxHeartbeats 8000000 in
theorem Equal_any (l l' : List Ins) (A A' : Option Addr) (cap cap' : Nat) (h9 : l.length ≤ 9223372036854775807) (h9' : l'.length ≤ 9223372036854775807) (w : World) (hA : RdI w A l) (hA' : RdI w A' l') :
    Calls Try.prog 57 #[.slice A l.length cap, .slice A' l'.length cap'] w fun e w' => Tru (l = l') e ∧ Below w.heap.size w w' := by
  obtain ⟨L, hL⟩ : ∃ L, l.length = L := ⟨_, rfl⟩
  obtain ⟨L', hL'⟩ : ∃ L, l'.length = L := ⟨_, rfl⟩
  have HL := Lib.hid hL
  have HL' := Lib.hid hL'
  rw [hL] at h9 ⊢
  rw [hL'] at h9' ⊢
  clear hL hL'
  by_cases hll : L = L'
  case neg =>
    have HT := Lib.hid (Tru.no (fun h : l = l' => hll (by rw [← HL.out, ← HL'.out, h])))
    have q1 : ((L : Int) != L') = true := by simp; omega
    have q2 : ((L : Int) == L') = false := by simp; omega
    have q3 : (L == L') = false := by simp; omega
    clear hll
    go_enter Try.func57, Try.ntmps57
    go_wp2
    go_returns
    exact ⟨HT.out, Below.refl _ _⟩
  subst hll
  go_enter Try.func57, Try.ntmps57
  go_wp2
  go_loopw [13] (fun ix wr => ∃ m : Nat, m ≤ L ∧ ix = .int .i64 m ∧ Below w.heap.size w wr ∧ ∀ j : Nat, j < m → l[j]? = l'[j]?) (fun ix _ => L - (intOf ix).toNat)
  case atStart => exact ⟨0, by omega, rfl, Below.refl _ _, fun j hj => by omega⟩
  case round =>
    obtain ⟨m, hm, rfl, hb, hno⟩ := hrel
    have HNO := Lib.hid hno
    clear hno
    by_cases hlt : m < L
    · have hi : l[m]? = some (l[m]'(by rw [HL.out]; exact hlt)) := by simp
      have hi' : l'[m]? = some (l'[m]'(by rw [HL'.out]; exact hlt)) := by simp
      generalize l[m]'(by rw [HL.out]; exact hlt) = x at hi
      generalize l'[m]'(by rw [HL'.out]; exact hlt) = y at hi'
      obtain ⟨b, o, rfl, hlb, hcs⟩ := (hA.below hb) m x hi
      obtain ⟨b', o', rfl, hlb', hcs'⟩ := (hA'.below hb) m y hi'
      have hne := fun W => neq_ins x y W
      have HXY := Lib.hid (show l[m]? = l'[m]? ↔ x = y by rw [hi, hi']; simp)
      obtain ⟨x0, x1, x2, x3, x4, x5, x6, x7, x8, x9, x10, x11, x12, x13, x14⟩ := RdI.load hcs
      obtain ⟨y0, y1, y2, y3, y4, y5, y6, y7, y8, y9, y10, y11, y12, y13, y14⟩ := RdI.load hcs'
      clear hcs hcs' hi hi'
      cases hd : decide (x = y)
      · have HT := Lib.hid (Tru.no (fun h : l = l' => absurd (HXY.out.1 (by rw [h])) (of_decide_eq_false hd)))
        rw [hd] at hne
        clear hd HXY
        obtain ⟨k, op, dst, a, b, n, text, r0, r1, r2, r3, r4, r5, to_, els⟩ := x
        obtain ⟨k', op', dst', a', b', n', text', r0', r1', r2', r3', r4', r5', to_', els'⟩ := y
        simp only [Ins.agg, Bool.not_false] at x0 x1 x2 x3 x4 x5 x6 x7 x8 x9 x10 x11 x12 x13 x14 y0 y1 y2 y3 y4 y5 y6 y7 y8 y9 y10 y11 y12 y13 y14 hne
        go_wp2
        go_quiet (fail)
        go_wp2
        go_returns
        exact ⟨HT.out, below_drewN hb _⟩
      · have HE := Lib.hid (HXY.out.2 (of_decide_eq_true hd))
        rw [hd] at hne
        clear hd HXY
        obtain ⟨k, op, dst, a, b, n, text, r0, r1, r2, r3, r4, r5, to_, els⟩ := x
        obtain ⟨k', op', dst', a', b', n', text', r0', r1', r2', r3', r4', r5', to_', els'⟩ := y
        simp only [Ins.agg, Bool.not_true] at x0 x1 x2 x3 x4 x5 x6 x7 x8 x9 x10 x11 x12 x13 x14 y0 y1 y2 y3 y4 y5 y6 y7 y8 y9 y10 y11 y12 y13 y14 hne
        go_wp2
        go_quiet (fail)
        go_wp2
        exact ⟨⟨m + 1, by omega, by simp, below_drewN hb _, fun j hj => by
          by_cases hjm : j = m
          · rw [hjm]; exact HE.out
          · exact HNO.out j (by omega)⟩, by simp [intOf]; omega⟩
    · have HT := Lib.hid (Tru.yes (show l = l' from List.ext_getElem? fun j => by
        by_cases hj : j < m
        · exact HNO.out j hj
        · rw [List.getElem?_eq_none (by rw [HL.out]; omega), List.getElem?_eq_none (by rw [HL'.out]; omega)]))
      go_wp2
      go_returns
      exact ⟨HT.out, hb⟩
def SameF (f g : Fn7) : Prop := f = g
theorem fn_eq {f g : Fn7} : SameF f g ↔ f.nm = g.nm ∧ f.ps = g.ps ∧ f.R = g.R ∧ f.Fr = g.Fr ∧ f.code = g.code := by
  unfold SameF; cases f; cases g; simp
set_option maxRecDepth 1000000 in
set_option maxHeartbeats 8000000 in
theorem Same_any (f g : Fn7) (C C' : Option Addr) (cap cap' : Nat) (h9 : f.code.length ≤ 9223372036854775807) (h9' : g.code.length ≤ 9223372036854775807) (w : World) (hC : RdI w C f.code) (hC' : RdI w C' g.code) :
    Calls Try.prog 21 #[funcAgg f.nm f.ps f.R f.Fr C f.code.length cap, funcAgg g.nm g.ps g.R g.Fr C' g.code.length cap'] w fun e w' => Tru (SameF f g) e ∧ Below w.heap.size w w' := by
  obtain ⟨b0, b1, hB0⟩ : _ ∧ _ ∧ _ := ⟨alloc_keeps (heap_alloc_new w (funcObj f.nm f.ps f.R f.Fr C f.code.length cap)) (funcObj g.nm g.ps g.R g.Fr C' g.code.length cap'), heap_alloc_new (w.alloc (funcObj f.nm f.ps f.R f.Fr C f.code.length cap)) (funcObj g.nm g.ps g.R g.Fr C' g.code.length cap'), (Below.one w (funcObj f.nm f.ps f.R f.Fr C f.code.length cap)).alloc (by simp) (funcObj g.nm g.ps g.R g.Fr C' g.code.length cap')⟩
  have heq := Equal_any f.code g.code C C' cap cap' h9 h9' _ (hC.below hB0) (hC'.below hB0)
  have HFE := Lib.hid (fn_eq (f := f) (g := g))
  clear b0 b1
  obtain ⟨nm, ps, R, Fr, l⟩ := f
  obtain ⟨nm', ps', R', Fr', l'⟩ := g
  have heq := heq.mono fun e w' h => (⟨h.1.val, h.2⟩ : e = .returned (.bool (tb (l = l'))) ∧ _)
  have HO := Lib.hid (⟨(tb_true (p := l = l')).1, (tb_false (p := l = l')).1⟩ : (tb (l = l') = true → l = l') ∧ (tb (l = l') = false → ¬ l = l'))
  generalize tb (l = l') = bb at *
  simp only [funcObj, funcAgg] at heq hB0 ⊢
  have HF := Lib.hid (show SameF ⟨nm, ps, R, Fr, l⟩ ⟨nm', ps', R', Fr', l'⟩ ↔ nm = nm' ∧ ps = ps' ∧ R = R' ∧ Fr = Fr' ∧ l = l' from HFE.out)
  clear hC hC' HFE
  by_cases h0 : nm = nm'
  case neg =>
    have HT := Lib.hid (Tru.no fun h : SameF ⟨nm, ps, R, Fr, l⟩ ⟨nm', ps', R', Fr', l'⟩ => h0 (HF.out.1 h).1)
    have q0 : (nm.toList == nm'.toList) = false := by rw [bytes_beq]; exact decide_eq_false h0
    clear h0
    go_enter Try.func21, Try.ntmps21
    go_wp2
    go_returns
    exact ⟨HT.out, hB0⟩
  have q0 : (nm.toList == nm'.toList) = true := by rw [bytes_beq]; exact decide_eq_true h0
  by_cases h1 : ps = ps' ∧ R = R' ∧ Fr = Fr'
  case neg =>
    have HT := Lib.hid (Tru.no fun h : SameF ⟨nm, ps, R, Fr, l⟩ ⟨nm', ps', R', Fr', l'⟩ => h1 ⟨(HF.out.1 h).2.1, (HF.out.1 h).2.2.1, (HF.out.1 h).2.2.2.1⟩)
    have hd : ((ps == ps') = false) ∨ ((ps == ps') = true ∧ (R == R') = false) ∨ ((ps == ps') = true ∧ (R == R') = true ∧ (Fr == Fr') = false) := by simp; omega
    clear h0 h1
    rcases hd with q1 | ⟨q1, q2⟩ | ⟨q1, q2, q3⟩
    all_goals
      go_enter Try.func21, Try.ntmps21
      go_wp2
      go_returns
      exact ⟨HT.out, hB0⟩
  obtain ⟨h1, h2, h3⟩ := h1
  have q1 : (ps == ps') = true := by simpa using h1
  have q2 : (R == R') = true := by simpa using h2
  have q3 : (Fr == Fr') = true := by simpa using h3
  cases bb
  · have HT := Lib.hid (Tru.no fun h : SameF ⟨nm, ps, R, Fr, l⟩ ⟨nm', ps', R', Fr', l'⟩ => HO.out.2 rfl (HF.out.1 h).2.2.2.2)
    clear h0 h1 h2 h3
    go_enter Try.func21, Try.ntmps21
    go_wp2_with (first
      | (go_at_call 57; refine heq.mono ?_; rintro e w1 ⟨rfl, hb1⟩))
    go_returns
    exact ⟨HT.out, hB0.trans (hb1.mono hB0.size)⟩
  · have HT := Lib.hid (Tru.yes (HF.out.2 ⟨h0, h1, h2, h3, HO.out.1 rfl⟩))
    clear h0 h1 h2 h3
    go_enter Try.func21, Try.ntmps21
    go_wp2_with (first
      | (go_at_call 57; refine heq.mono ?_; rintro e w1 ⟨rfl, hb1⟩))
    go_returns
    exact ⟨HT.out, hB0.trans (hb1.mono hB0.size)⟩
end Go.Proofs.Ytkcclefonmnpnaa
