import Derived.Test.YtdoeinccnfggiaaDoorRw
import Derived.Test.YtdoeinccnfggiaaDoorX
namespace Go.Proofs.YtdoeinccnfggiaaDoor
open Go.RowKit Go.BigFrame

/-- what a step makes of the types and of the definitions -/
def stepT (T : List Ty) (Ds : List (ByteArray × List Fld)) (K : Nat) (s : Stp) : List Ty × List (ByteArray × List Fld) :=
  if s.verb = 0 then ((ptrL T s.elem).1, Ds) else if s.verb = 1 then ((arrL T (look Ds) K s.elem s.n).1, Ds) else if s.verb = 2 then ((strL T s.name).1, Ds)
  else if s.verb = 3 then ((strL T s.name).1, defL Ds s.name s.fields (dErr T (look Ds) (K + 1) s.name s.fields)) else (T, Ds)
structure Inv (T : List Ty) (Ds : List (ByteArray × List Fld)) (K m : Nat) : Prop where
  good : Good T (look Ds) K
  nodup : NoDup T
  len : 1 ≤ T.length ∧ T.length ≤ 256
  ne : ∀ d ∈ Ds, 0 < d.2.length
  most : Ds.length ≤ m
  few : ∀ d ∈ Ds, d.2.length ≤ 1000
theorem Good.two {T : List Ty} {D : ByteArray → Option (List Fld)} {K : Nat} (h : Good T D (K + 1)) : Good T D (K + 2) := h.more
theorem ptrL_or (T : List Ty) (n : Int) : (ptrL T n).1 = T ∨ ∃ x, (ptrL T n).1 = (putL T x).1 := by
  unfold ptrL
  by_cases h : (atT T n).isSome
  · rw [if_pos h]; exact .inr ⟨_, rfl⟩
  · rw [if_neg h]; exact .inl rfl
theorem strL_or (T : List Ty) (s : ByteArray) : (strL T s).1 = T ∨ ∃ x, (strL T s).1 = (putL T x).1 := by
  unfold strL
  by_cases h : s = ⟨#[]⟩
  · rw [if_pos h]; exact .inl rfl
  · rw [if_neg h]; exact .inr ⟨_, rfl⟩
theorem arrL_or (T : List Ty) (D : ByteArray → Option (List Fld)) (K : Nat) (a n : Int) : (arrL T D K a n).1 = T ∨ ∃ x, (arrL T D K a n).1 = (putL T x).1 := by
  unfold arrL
  by_cases h1 : (atT T a).isSome = false
  · rw [if_pos h1]; exact .inl rfl
  · rw [if_neg h1]
    by_cases h2 : (sz T D K a).2 = false
    · rw [if_pos h2]; exact .inl rfl
    · rw [if_neg h2]
      by_cases h3 : n < 1 ∨ 1024 < n ∨ 4096 < (sz T D K a).1 * n
      · rw [if_pos h3]; exact .inl rfl
      · rw [if_neg h3]; exact .inr ⟨_, rfl⟩
theorem stepT_or (T : List Ty) (Ds : List (ByteArray × List Fld)) (K : Nat) (s : Stp) : (stepT T Ds K s).1 = T ∨ ∃ x, (stepT T Ds K s).1 = (putL T x).1 := by
  unfold stepT
  by_cases h0 : s.verb = 0
  · rw [if_pos h0]; exact ptrL_or T _
  · rw [if_neg h0]
    by_cases h1 : s.verb = 1
    · rw [if_pos h1]; exact arrL_or T _ _ _ _
    · rw [if_neg h1]
      by_cases h2 : s.verb = 2
      · rw [if_pos h2]; exact strL_or T _
      · rw [if_neg h2]
        by_cases h3 : s.verb = 3
        · rw [if_pos h3]; exact strL_or T _
        · rw [if_neg h3]; exact .inl rfl
theorem stepT_keeps {T : List Ty} {Ds : List (ByteArray × List Fld)} {K : Nat} {s : Stp} (hT : T.length ≤ 256) : NoDup T → NoDup (stepT T Ds K s).1 ∧ (stepT T Ds K s).1.length ≤ 256 ∧ T.length ≤ (stepT T Ds K s).1.length ∧ (stepT T Ds K s).1.length ≤ T.length + 1 ∧
    ∀ (i : Nat) y, T[i]? = some y → (stepT T Ds K s).1[i]? = some y := fun hn => by
  rcases stepT_or T Ds K s with h | ⟨x, h⟩
  · rw [h]; exact ⟨hn, hT, Nat.le_refl _, Nat.le_succ _, fun _ _ h => h⟩
  · rw [h]
    have hl := putL_len T x hT
    exact ⟨hn.putL x, hl.1, hl.2.1, hl.2.2, fun i y hy => keeps_putL T x i y hy⟩
theorem Inv.step {T : List Ty} {Ds : List (ByteArray × List Fld)} {K m : Nat} (h : Inv T Ds K m) {s : Stp} (hs : FineS s) : Inv (stepT T Ds K s).1 (stepT T Ds K s).2 (K + 2) (m + 1) := by
  obtain ⟨k1, k2, k3, k4, _⟩ := stepT_keeps (Ds := Ds) (K := K) (s := s) h.len.2 h.nodup
  have hlen := h.len
  have hmost := h.most
  refine ⟨?_, k1, ⟨by omega, k2⟩, ?_, ?_, ?_⟩
  · unfold stepT
    by_cases h0 : s.verb = 0
    · rw [if_pos h0]; exact (h.good.ptrL _).more
    · rw [if_neg h0]
      by_cases h1 : s.verb = 1
      · rw [if_pos h1]; exact (h.good.arrL _ _).more
      · rw [if_neg h1]
        by_cases h2 : s.verb = 2
        · rw [if_pos h2]; exact (h.good.strL _).more
        · rw [if_neg h2]
          by_cases h3 : s.verb = 3
          · rw [if_pos h3]; exact good_define h.good _ _
          · rw [if_neg h3]; exact h.good.more.more
  all_goals
    unfold stepT
    by_cases h0 : s.verb = 0
    · rw [if_pos h0]; first | exact h.ne | exact Nat.le_succ_of_le hmost | exact h.few
    · rw [if_neg h0]
      by_cases h1 : s.verb = 1
      · rw [if_pos h1]; first | exact h.ne | exact Nat.le_succ_of_le hmost | exact h.few
      · rw [if_neg h1]
        by_cases h2 : s.verb = 2
        · rw [if_pos h2]; first | exact h.ne | exact Nat.le_succ_of_le hmost | exact h.few
        · rw [if_neg h2]
          by_cases h3 : s.verb = 3
          · rw [if_pos h3]
            simp only
            unfold defL
            by_cases he : dErr T (look Ds) (K + 1) s.name s.fields = 0
            · rw [if_pos he]
              first
                | (simp; omega)
                | (intro d hd
                   rcases List.mem_append.1 hd with hd | hd
                   · first | exact h.ne d hd | exact h.few d hd
                   · simp at hd; subst hd; first | exact (defE_none (dErr_zero he).2).2 | exact Nat.le_trans hs.2.1 (by omega))
            · rw [if_neg he]; first | exact h.ne | exact Nat.le_succ_of_le hmost | exact h.few
          · rw [if_neg h3]; first | exact h.ne | exact Nat.le_succ_of_le hmost | exact h.few
/-- a step, whatever its verb -/
theorem does_any {w : World} {p : Nat} {F X : Nat → Prop} {v : Value} {T : List Ty} {Ds : List (ByteArray × List Fld)} {K m : Nat} (h : Both w p F X v T Ds) (hi : Inv T Ds K m) (hm : m ≤ 1000) (s : Stp) (hs : FineS s) (C : Option Addr) (cap : Nat) (hC : FRdO w C s.fields) (hCF : 0 < s.fields.length → ∀ b o, C = some ⟨b, o, none⟩ → ¬ F b) :
    Calls Tryd.prog 20 #[.pointer (some ⟨p, 0, none⟩), v, s.agg C cap] w fun e w' => ∃ v', e = .returned (.tuple #[v', .bool true]) ∧ Turn2 w w' p F X v' (stepT T Ds K s).1 (stepT T Ds K s).2 := by
  have hmost := hi.most
  unfold stepT
  by_cases h0 : s.verb = 0
  · rw [if_pos h0]; exact does_ptr h hi.ne hi.len s h0 C cap
  · rw [if_neg h0]
    by_cases h1 : s.verb = 1
    · rw [if_pos h1]; exact does_arr h hi.ne hi.len hi.good (by omega) hi.few s h1 C cap
    · rw [if_neg h1]
      by_cases h2 : s.verb = 2
      · rw [if_pos h2]; exact does_str h hi.ne hi.len s h2 C cap
      · rw [if_neg h2]
        by_cases h3 : s.verb = 3
        · rw [if_pos h3]; exact does_def h hi.ne hi.len hi.good (by omega) hi.few s h3 C cap hC hCF hs.2.1
        · rw [if_neg h3]; exact does_none h hi.ne s ⟨h0, h1, h2, h3⟩ C cap
theorem inv0 : Inv (tys 4) [] 1 0 := ⟨good0, noDup0, ⟨by decide, by decide⟩, fun d hd => by simp at hd, Nat.le_refl _, fun d hd => by simp at hd⟩
end Go.Proofs.YtdoeinccnfggiaaDoor

namespace Go.Proofs.YtdoeinccnfggiaaDoor
open Go.RowKit Go.BigFrame

theorem Both.below {w w' : World} {p : Nat} {F X : Nat → Prop} {v : Value} {T : List Ty} {Ds : List (ByteArray × List Fld)} (h : Both w p F X v T Ds) (hne : ∀ d ∈ Ds, 0 < d.2.length) (hb : Below w.heap.size w w') : Both w' p F X v T Ds :=
  ⟨h.tb.below hb, h.rt.below hne hb, fun k hk => Nat.lt_of_lt_of_le (h.lt k hk) hb.size, fun k hk => Nat.lt_of_lt_of_le (h.lx k hk) hb.size⟩
/-- behind a step: the document's new table goes into its box -/
theorem Both.store {w : World} {p rb : Nat} {F : Nat → Prop} {v : Value} {T : List Ty} {Ds : List (ByteArray × List Fld)} (h : Both w p F (fun b => b = rb) v T Ds) (hne : ∀ d ∈ Ds, 0 < d.2.length) (hF : ¬ F rb) (u u' : Value) : Both ((w.setCell ⟨rb, 0, none⟩ u).setCell ⟨rb, 1, none⟩ u') p F (fun b => b = rb) v T Ds :=
  ⟨h.tb.same fun k hk _ => set2_other (fun e => hF (by rw [← e]; exact hk)) u u', h.rt.set2 hne (r := rb) (.inr rfl) u u', fun k hk => by simpa [World.setCell] using h.lt k hk, fun k hk => by simpa [World.setCell] using h.lx k hk⟩
/-- the state between two steps -/
def St (w w8 : World) (p rb k : Nat) (T : List Ty) (Ds : List (ByteArray × List Fld)) (va vb : Value) (F : Nat → Prop) : Prop :=
  Both w8 p F (fun b => b = rb) (.agg #[va, vb]) T Ds ∧ Inv T Ds (2 * k + 1) k ∧ w8.heap[rb]? = some (.cells #[va, vb] 44 (0, 0)) ∧ ¬ F rb ∧ Below w.heap.size w w8 ∧ (∀ b, F b → w.heap.size ≤ b) ∧ w.heap.size ≤ rb
theorem tyEq_self (x : Ty) : tyEq x x = true := by rw [tyEq_dec]; simp
end Go.Proofs.YtdoeinccnfggiaaDoor
