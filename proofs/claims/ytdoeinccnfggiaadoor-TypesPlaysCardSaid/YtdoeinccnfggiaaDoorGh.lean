import Derived.Test.YtdoeinccnfggiaaDoorRe
import Derived.Test.YtdoeinccnfggiaaDoorFz
namespace Go.Proofs.YtdoeinccnfggiaaDoor
open Go.RowKit Go.BigFrame

/-- tables that agree on a closed set of numbers tell the same sizes there -/
theorem sz_agree {T T' : List Ty} {D D' : ByteArray → Option (List Fld)} (P : Int → Prop)
    (hP : ∀ n, P n → atT T' n = atT T n ∧ ∀ x, atT T n = some x → (x.kind = 5 → P x.elem) ∧ (x.kind = 6 → D' x.name = D x.name ∧ ∀ l, D x.name = some l → ∀ f ∈ l, P f.type)) :
    ∀ (k : Nat) (n : Int), P n → sz T' D' k n = sz T D k n ∧ (deep T D k n → deep T' D' k n)
  | 0, _, _ => ⟨rfl, fun h => h⟩
  | k + 1, n, hn => by
    have ih := sz_agree P hP k
    obtain ⟨ha, hx⟩ := hP n hn
    have hfold : ∀ (l : List Fld), (∀ f ∈ l, P f.type) → ∀ a : Int, l.foldl (fun s f => s + (sz T' D' k f.type).1) a = l.foldl (fun s f => s + (sz T D k f.type).1) a := by
      intro l
      induction l with
      | nil => intro _ a; rfl
      | cons f l ihl =>
        intro hl a
        simp only [List.foldl_cons]
        rw [(ih f.type (hl f (by simp))).1]
        exact ihl (fun g hg => hl g (by simp [hg])) _
    cases hc : atT T n with
    | none =>
      rw [hc] at ha
      refine ⟨by rw [sz, sz, ha, hc], fun _ => ?_⟩
      rw [deep, ha]
      intro x hx
      cases hx
    | some x =>
      rw [hc] at ha
      obtain ⟨h5, h6⟩ := hx x hc
      refine ⟨?_, fun hd => ?_⟩
      · rw [sz, sz, ha, hc]
        simp only
        by_cases e0 : x.kind = 0
        · rw [if_pos e0, if_pos e0]
        · rw [if_neg e0, if_neg e0]
          by_cases e5 : x.kind = 5
          · rw [if_pos e5, if_pos e5, (ih x.elem (h5 e5)).1]
          · rw [if_neg e5, if_neg e5]
            by_cases e6 : x.kind = 6
            · rw [if_pos e6, if_pos e6, (h6 e6).1]
              have hl : ∀ f ∈ (D x.name).getD [], P f.type := by
                cases hD : D x.name with
                | none => intro f hf; simp at hf
                | some l => exact (h6 e6).2 l hD
              rw [hfold _ hl]
            · rw [if_neg e6, if_neg e6]
      · rw [deep, ha]
        rw [deep, hc] at hd
        intro y hy
        injection hy with hy
        subst hy
        obtain ⟨d5, d6⟩ := hd x rfl
        refine ⟨fun e5 => ?_, fun e6 l hl => ?_⟩
        · obtain ⟨i1, i2⟩ := ih x.elem (h5 e5)
          rw [i1]
          exact ⟨i2 (d5 e5).1, (d5 e5).2⟩
        · obtain ⟨g1, g2⟩ := h6 e6
          rw [g1] at hl
          obtain ⟨k1, k2⟩ := d6 e6 l hl
          refine ⟨fun f hf => (ih f.type (g2 l hl f hf)).2 (k1 f hf), fun j hj => ?_⟩
          have := hfold (l.take j) (fun f hf => g2 l hl f (List.mem_of_mem_take hf)) 0
          rw [this]
          exact k2 j hj
/-- a depth that is enough stays enough -/
theorem deep_more {T : List Ty} {D : ByteArray → Option (List Fld)} : ∀ (k : Nat) (n : Int), deep T D k n → sz T D (k + 1) n = sz T D k n ∧ deep T D (k + 1) n
  | 0, _, h => h.elim
  | k + 1, n, h => by
    have ih := deep_more (T := T) (D := D) k
    have hfold : ∀ (l : List Fld), (∀ f ∈ l, deep T D k f.type) → ∀ a : Int, l.foldl (fun s f => s + (sz T D (k + 1) f.type).1) a = l.foldl (fun s f => s + (sz T D k f.type).1) a := by
      intro l
      induction l with
      | nil => intro _ a; rfl
      | cons f l ihl =>
        intro hl a
        simp only [List.foldl_cons]
        rw [(ih f.type (hl f (by simp))).1]
        exact ihl (fun g hg => hl g (by simp [hg])) _
    rw [deep] at h
    cases hc : atT T n with
    | none =>
      refine ⟨by rw [sz, sz, hc], ?_⟩
      rw [deep, hc]
      intro x hx
      cases hx
    | some x =>
      obtain ⟨d5, d6⟩ := h x hc
      refine ⟨?_, ?_⟩
      · rw [sz, sz, hc]
        simp only
        by_cases e0 : x.kind = 0
        · rw [if_pos e0, if_pos e0]
        · rw [if_neg e0, if_neg e0]
          by_cases e5 : x.kind = 5
          · rw [if_pos e5, if_pos e5, (ih x.elem (d5 e5).1).1]
          · rw [if_neg e5, if_neg e5]
            by_cases e6 : x.kind = 6
            · rw [if_pos e6, if_pos e6]
              have hl : ∀ f ∈ (D x.name).getD [], deep T D k f.type := by
                cases hD : D x.name with
                | none => intro f hf; simp at hf
                | some l => exact (d6 e6 l hD).1
              rw [hfold _ hl]
            · rw [if_neg e6, if_neg e6]
      · rw [deep, hc]
        intro y hy
        injection hy with hy
        subst hy
        refine ⟨fun e5 => ?_, fun e6 l hl => ?_⟩
        · obtain ⟨i1, i2⟩ := ih x.elem (d5 e5).1
          rw [i1]
          exact ⟨i2, (d5 e5).2⟩
        · obtain ⟨k1, k2⟩ := d6 e6 l hl
          refine ⟨fun f hf => (ih f.type (k1 f hf)).2, fun j hj => ?_⟩
          rw [hfold (l.take j) (fun f hf => k1 f (List.mem_of_mem_take hf)) 0]
          exact k2 j hj
end Go.Proofs.YtdoeinccnfggiaaDoor

namespace Go.Proofs.YtdoeinccnfggiaaDoor
open Go.RowKit Go.BigFrame

/-- a table as the steps make it -/
structure Good (T : List Ty) (D : ByteArray → Option (List Fld)) (K : Nat) : Prop where
  dp : ∀ n, deep T D K n
  arr : ∀ (i : Nat) x, T[i]? = some x → x.kind = 5 → 0 ≤ x.elem ∧ x.elem < T.length ∧ (sz T D K x.elem).2 = true
  fld : ∀ s l, D s = some l → ∀ f ∈ l, 0 ≤ f.type ∧ f.type < T.length ∧ (sz T D K f.type).2 = true
  inT : ∀ s l, D s = some l → ∃ i : Nat, T[i]? = some ⟨6, 0, 0, s⟩
  pos : ∀ n, (sz T D K n).2 = true ↔ 0 < (sz T D K n).1
theorem Good.more {T : List Ty} {D : ByteArray → Option (List Fld)} {K : Nat} (h : Good T D K) : Good T D (K + 1) := by
  have hs := fun n => (deep_more K n (h.dp n)).1
  exact ⟨fun n => (deep_more K n (h.dp n)).2, fun i x hi hx => by rw [hs]; exact h.arr i x hi hx, fun s l hl f hf => by rw [hs]; exact h.fld s l hl f hf, h.inT, fun n => by rw [hs]; exact h.pos n⟩
theorem good0 : Good (tys 4) noF 1 := by
  have hk : ∀ n x, atT (tys 4) n = some x → x.kind ≤ 3 := fun n x hx => by
    obtain ⟨m, rfl, hm⟩ : ∃ m : Nat, n = m ∧ (tys 4)[m]? = some x := by
      unfold atT at hx
      split at hx
      · exact ⟨n.toNat, by omega, hx⟩
      · cases hx
    exact tys4_lt m x hm
  refine ⟨fun n => ?_, fun i x hi hx => ?_, fun s l hl => (by cases hl), fun s l hl => (by cases hl), fun n => ?_⟩
  · rw [deep]
    intro x hx
    have := hk n x hx
    exact ⟨fun h => by omega, fun h => by omega⟩
  · have := tys4_lt i x hi
    omega
  · rw [sz]
    cases hx : atT (tys 4) n with
    | none => simp
    | some x =>
      have := hk n x hx
      simp only
      by_cases e0 : x.kind = 0
      · rw [if_pos e0]; simp
      · rw [if_neg e0, if_neg (by omega), if_neg (by omega)]
        simp
theorem atT_app {T : List Ty} {x : Ty} {n : Int} (h : n ≠ T.length) : atT (T ++ [x]) n = atT T n := by
  unfold atT
  by_cases h1 : 0 ≤ n ∧ n < T.length
  · rw [if_pos h1, if_pos (by simp; omega), List.getElem?_append_left (by omega)]
  · rw [if_neg h1, if_neg (by simp; omega)]
theorem Good.put {T : List Ty} {D : ByteArray → Option (List Fld)} {K : Nat} (h : Good T D K) (x : Ty)
    (hx : x.kind = 4 ∨ (x.kind = 6 ∧ D x.name = none) ∨ (x.kind = 5 ∧ 0 ≤ x.elem ∧ x.elem < T.length ∧ (sz T D K x.elem).2 = true ∧ 1 ≤ x.n ∧ (sz T D K x.elem).1 * x.n ≤ 4096)) : Good (T ++ [x]) D (K + 1) := by
  have hP : ∀ n : Int, n ≠ T.length → atT (T ++ [x]) n = atT T n ∧ ∀ y, atT T n = some y → (y.kind = 5 → y.elem ≠ T.length) ∧ (y.kind = 6 → D y.name = D y.name ∧ ∀ l, D y.name = some l → ∀ f ∈ l, f.type ≠ T.length) := fun n hn => by
    refine ⟨atT_app hn, fun y hy => ⟨fun h5 => ?_, fun _ => ⟨rfl, fun l hl f hf => ?_⟩⟩⟩
    · have hm : ∃ m : Nat, T[m]? = some y := by
        unfold atT at hy
        split at hy
        · exact ⟨_, hy⟩
        · cases hy
      obtain ⟨m, hm⟩ := hm
      have := h.arr m y hm h5
      omega
    · have := h.fld y.name l hl f hf
      omega
  have hag := fun k n hn => sz_agree (T := T) (T' := T ++ [x]) (D := D) (D' := D) (fun n => n ≠ T.length) hP k n hn
  have hs : ∀ n : Int, n ≠ T.length → sz (T ++ [x]) D (K + 1) n = sz T D K n := fun n hn => by rw [(hag (K + 1) n hn).1, (deep_more K n (h.dp n)).1]
  have hs0 : ∀ n : Int, n ≠ T.length → sz (T ++ [x]) D K n = sz T D K n := fun n hn => (hag K n hn).1
  have hatn : atT (T ++ [x]) (T.length : Int) = some x := atT_lt (by simp)
  have hdn : deep (T ++ [x]) D (K + 1) (T.length : Int) ∧ ((sz (T ++ [x]) D (K + 1) (T.length : Int)).2 = true ↔ 0 < (sz (T ++ [x]) D (K + 1) (T.length : Int)).1) := by
    rw [deep, sz, hatn]
    simp only
    rcases hx with h4 | ⟨h6, hD⟩ | ⟨h5, e1, e2, e3, e4, e5⟩
    · refine ⟨fun y hy => ?_, by rw [if_neg (by omega), if_neg (by omega), if_neg (by omega)]; simp⟩
      injection hy with hy
      subst hy
      exact ⟨fun h => by omega, fun h => by omega⟩
    · refine ⟨fun y hy => ?_, by rw [if_neg (by omega), if_neg (by omega), if_pos h6, hD]; simp⟩
      injection hy with hy
      subst hy
      exact ⟨fun h => by omega, fun _ l hl => by rw [hD] at hl; cases hl⟩
    · have hne : x.elem ≠ T.length := by omega
      have hp := h.pos x.elem
      have hp2 : 0 < (sz T D K x.elem).1 := hp.1 e3
      have hmul : 0 < (sz T D K x.elem).1 * x.n := Int.mul_pos hp2 (by omega)
      refine ⟨fun y hy => ?_, ?_⟩
      · injection hy with hy
        subst hy
        refine ⟨fun _ => ⟨(hag K x.elem hne).2 (h.dp x.elem), ?_⟩, fun h => by omega⟩
        rw [hs0 x.elem hne]
        omega
      · rw [if_neg (by omega), if_pos h5, hs0 x.elem hne]
        simpa using hmul
  refine ⟨fun n => ?_, fun i y hi hy => ?_, fun s l hl f hf => ?_, fun s l hl => ?_, fun n => ?_⟩
  · by_cases hn : n = T.length
    · rw [hn]; exact hdn.1
    · exact (hag (K + 1) n hn).2 (deep_more K n (h.dp n)).2
  · by_cases hil : i < T.length
    · rw [List.getElem?_append_left hil] at hi
      obtain ⟨k1, k2, k3⟩ := h.arr i y hi hy
      rw [hs y.elem (by omega)]
      exact ⟨k1, by simp; omega, k3⟩
    · have hlt := (List.getElem?_eq_some_iff.1 hi).1
      have hie : i = T.length := by simp at hlt; omega
      subst hie
      simp at hi
      subst hi
      rcases hx with h4 | ⟨h6, _⟩ | ⟨_, e1, e2, e3, _⟩
      · omega
      · omega
      · rw [hs x.elem (by omega)]
        exact ⟨e1, by simp; omega, e3⟩
  · obtain ⟨k1, k2, k3⟩ := h.fld s l hl f hf
    rw [hs f.type (by omega)]
    exact ⟨k1, by simp; omega, k3⟩
  · obtain ⟨i, hi⟩ := h.inT s l hl
    exact ⟨i, by rw [List.getElem?_append_left (List.getElem?_eq_some_iff.1 hi).1]; exact hi⟩
  · by_cases hn : n = T.length
    · rw [hn]; exact hdn.2
    · rw [hs n hn]; exact h.pos n
end Go.Proofs.YtdoeinccnfggiaaDoor

namespace Go.Proofs.YtdoeinccnfggiaaDoor
open Go.RowKit Go.BigFrame

theorem sum_mono {Z : Fld → Int} : ∀ (l : List Fld) (a : Int), (∀ f ∈ l, 0 ≤ Z f) → a ≤ l.foldl (fun s f => s + Z f) a
  | [], a, _ => Int.le_refl a
  | f :: l, a, h => by
    have h1 := h f (by simp)
    have := sum_mono l (a + Z f) fun g hg => h g (by simp [hg])
    simp only [List.foldl_cons]
    omega
theorem sum_take {Z : Fld → Int} (l : List Fld) (j : Nat) (h : ∀ f ∈ l, 0 ≤ Z f) : 0 ≤ (l.take j).foldl (fun s f => s + Z f) 0 ∧ (l.take j).foldl (fun s f => s + Z f) 0 ≤ l.foldl (fun s f => s + Z f) 0 := by
  refine ⟨sum_mono _ 0 fun f hf => h f (List.mem_of_mem_take hf), ?_⟩
  have e : l.foldl (fun s f => s + Z f) 0 = (l.drop j).foldl (fun s f => s + Z f) ((l.take j).foldl (fun s f => s + Z f) 0) := by
    rw [← List.foldl_append, List.take_append_drop]
  rw [e]
  exact sum_mono _ _ fun f hf => h f (List.mem_of_mem_drop hf)
theorem sum_congr {Z Z' : Fld → Int} : ∀ (l : List Fld) (a : Int), (∀ f ∈ l, Z f = Z' f) → l.foldl (fun s f => s + Z f) a = l.foldl (fun s f => s + Z' f) a
  | [], _, _ => rfl
  | f :: l, a, h => by
    simp only [List.foldl_cons]
    rw [h f (by simp)]
    exact sum_congr l _ fun g hg => h g (by simp [hg])
theorem Good.define {T : List Ty} {D : ByteArray → Option (List Fld)} {K : Nat} (h : Good T D K) (s : ByteArray) (l : List Fld) (hD : D s = none) (hin : ∃ i : Nat, T[i]? = some ⟨6, 0, 0, s⟩)
    (hl : l ≠ []) (hf : ∀ f ∈ l, 0 ≤ f.type ∧ f.type < T.length ∧ (sz T D K f.type).2 = true) (hsum : sumF T D K l ≤ 4096) : Good T (fun x => if x = s then some l else D x) (K + 1) := by
  obtain ⟨K, rfl⟩ : ∃ j, K = j + 1 := by
    cases K with
    | zero => exact (h.dp 0).elim
    | succ j => exact ⟨j, rfl⟩
  -- a number that is sized is not the struct s
  have hns : ∀ n, (sz T D (K + 1) n).2 = true → ¬ ∃ x, atT T n = some x ∧ x.kind = 6 ∧ x.name = s := fun n hz ⟨x, hx, h6, hxs⟩ => by
    rw [sz, hx] at hz
    simp only at hz
    rw [if_neg (by omega), if_neg (by omega), if_pos h6, hxs, hD] at hz
    simp at hz
  have hP : ∀ n : Int, (¬ ∃ x, atT T n = some x ∧ x.kind = 6 ∧ x.name = s) → atT T n = atT T n ∧ ∀ y, atT T n = some y → (y.kind = 5 → ¬ ∃ x, atT T y.elem = some x ∧ x.kind = 6 ∧ x.name = s) ∧
      (y.kind = 6 → (if y.name = s then some l else D y.name) = D y.name ∧ ∀ l', D y.name = some l' → ∀ f ∈ l', ¬ ∃ x, atT T f.type = some x ∧ x.kind = 6 ∧ x.name = s) := fun n hn => by
    refine ⟨rfl, fun y hy => ⟨fun h5 => ?_, fun h6 => ⟨if_neg fun e => hn ⟨y, hy, h6, e⟩, fun l' hl' f hf' => hns _ (h.fld y.name l' hl' f hf').2.2⟩⟩⟩
    have hm : ∃ m : Nat, T[m]? = some y := by
      unfold atT at hy
      split at hy
      · exact ⟨_, hy⟩
      · cases hy
    obtain ⟨m, hm⟩ := hm
    exact hns _ (h.arr m y hm h5).2.2
  have hag := fun k n hn => sz_agree (T := T) (T' := T) (D := D) (D' := fun x => if x = s then some l else D x) (fun n => ¬ ∃ x, atT T n = some x ∧ x.kind = 6 ∧ x.name = s) hP k n hn
  have hs : ∀ n, (sz T D (K + 1) n).2 = true → sz T (fun x => if x = s then some l else D x) (K + 1 + 1) n = sz T D (K + 1) n := fun n hn => by rw [(hag _ n (hns n hn)).1, (deep_more _ n (h.dp n)).1]
  have hZ : ∀ f ∈ l, sz T (fun x => if x = s then some l else D x) (K + 1) f.type = sz T D (K + 1) f.type := fun f hf' => (hag _ _ (hns _ (hf f hf').2.2)).1
  have hZp : ∀ f ∈ l, 0 < (sz T D (K + 1) f.type).1 := fun f hf' => (h.pos f.type).1 (hf f hf').2.2
  have hsl : l.foldl (fun a f => a + (sz T (fun x => if x = s then some l else D x) (K + 1) f.type).1) 0 = sumF T D (K + 1) l := sum_congr l 0 fun f hf' => by rw [hZ f hf']
  have hpos : 0 < sumF T D (K + 1) l := by
    cases l with
    | nil => exact absurd rfl hl
    | cons f l =>
      have h1 := hZp f (by simp)
      have h2 := sum_mono (Z := fun f => (sz T D (K + 1) f.type).1) l (0 + (sz T D (K + 1) f.type).1) fun g hg => Int.le_of_lt (hZp g (by simp [hg]))
      unfold sumF
      simp only [List.foldl_cons]
      omega
  -- the struct s itself
  have hst : ∀ n x, atT T n = some x → x.kind = 6 → x.name = s → deep T (fun x => if x = s then some l else D x) (K + 1 + 1) n ∧ ((sz T (fun x => if x = s then some l else D x) (K + 1 + 1) n).2 = true ↔ 0 < (sz T (fun x => if x = s then some l else D x) (K + 1 + 1) n).1) := fun n x hx h6 hxs => by
    refine ⟨?_, ?_⟩
    · rw [deep, hx]
      intro y hy
      injection hy with hy
      subst hy
      refine ⟨fun h5 => by omega, fun _ l' hl' => ?_⟩
      rw [if_pos hxs] at hl'
      injection hl' with hl'
      subst hl'
      refine ⟨fun f hf' => (hag _ _ (hns _ (hf f hf').2.2)).2 (h.dp f.type), fun j _ => ?_⟩
      have ht := sum_take (Z := fun f => (sz T (fun x => if x = s then some l else D x) (K + 1) f.type).1) l j fun f hf' => by
        rw [hZ f hf']
        exact Int.le_of_lt (hZp f hf')
      rw [hsl] at ht
      exact ⟨ht.1, by have := ht.2; omega⟩
    · rw [sz, hx]
      simp only
      rw [if_neg (by omega), if_neg (by omega), if_pos h6, if_pos hxs]
      exact ⟨fun h => of_decide_eq_true h, fun h => decide_eq_true h⟩
  refine ⟨fun n => ?_, fun i x hi hx => ?_, fun s' l' hl' f hf' => ?_, fun s' l' hl' => ?_, fun n => ?_⟩
  · by_cases hn : ∃ x, atT T n = some x ∧ x.kind = 6 ∧ x.name = s
    · obtain ⟨x, hx, h6, hxs⟩ := hn
      exact (hst n x hx h6 hxs).1
    · exact (hag _ n hn).2 (deep_more _ n (h.dp n)).2
  · obtain ⟨k1, k2, k3⟩ := h.arr i x hi hx
    rw [hs _ k3]
    exact ⟨k1, k2, k3⟩
  · by_cases he : s' = s
    · subst he
      rw [if_pos rfl] at hl'
      injection hl' with hl'
      subst hl'
      obtain ⟨k1, k2, k3⟩ := hf f hf'
      rw [hs _ k3]
      exact ⟨k1, k2, k3⟩
    · rw [if_neg he] at hl'
      obtain ⟨k1, k2, k3⟩ := h.fld s' l' hl' f hf'
      rw [hs _ k3]
      exact ⟨k1, k2, k3⟩
  · by_cases he : s' = s
    · subst he; exact hin
    · rw [if_neg he] at hl'
      exact h.inT s' l' hl'
  · by_cases hn : ∃ x, atT T n = some x ∧ x.kind = 6 ∧ x.name = s
    · obtain ⟨x, hx, h6, hxs⟩ := hn
      exact (hst n x hx h6 hxs).2
    · rw [(hag _ n hn).1, (deep_more _ n (h.dp n)).1]
      exact h.pos n
end Go.Proofs.YtdoeinccnfggiaaDoor

namespace Go.Proofs.YtdoeinccnfggiaaDoor
open Go.RowKit Go.BigFrame

/-- no type stands twice -/
def NoDup (T : List Ty) : Prop := ∀ (i j : Nat) x, T[i]? = some x → T[j]? = some x → i = j
theorem noDup0 : NoDup (tys 4) := fun i j x hi hj => by
  have e : tys 4 = [tyN 0, tyN 1, tyN 2, tyN 3] := rfl
  have li : i < 4 := (List.getElem?_eq_some_iff.1 hi).1
  have lj : j < 4 := (List.getElem?_eq_some_iff.1 hj).1
  rw [e] at hi hj
  have ci : i = 0 ∨ i = 1 ∨ i = 2 ∨ i = 3 := by omega
  have cj : j = 0 ∨ j = 1 ∨ j = 2 ∨ j = 3 := by omega
  rcases ci with rfl | rfl | rfl | rfl <;> rcases cj with rfl | rfl | rfl | rfl <;> first | rfl | (injection hi with hi; injection hj with hj; subst hi; simp at hj)
theorem find1_not (x : Ty) : ∀ (l : List Ty) (k : Nat), find1 x l k = none → ∀ (i : Nat) y, l[i]? = some y → y ≠ x
  | [], _, _, i, y, h => by simp at h
  | z :: l, k, h, i, y, hy => by
    by_cases hz : z = x
    · simp [find1, hz] at h
    · simp only [find1, if_neg hz] at h
      cases i with
      | zero => simp at hy; subst hy; exact hz
      | succ i => exact find1_not x l (k + 1) h i y (by simpa using hy)
/-- what a put makes of a table: the same, or one type more that was not there -/
theorem putL_or (T : List Ty) (x : Ty) : (putL T x).1 = T ∨ ((putL T x).1 = T ++ [x] ∧ find1 x T 0 = none) := by
  unfold putL
  cases hf : find1 x T 0 with
  | some i => exact .inl rfl
  | none =>
    simp only
    by_cases h : T.length = 256
    · rw [if_pos h]; exact .inl rfl
    · rw [if_neg h]; exact .inr ⟨rfl, trivial⟩
theorem putL_len (T : List Ty) (x : Ty) (h : T.length ≤ 256) : (putL T x).1.length ≤ 256 ∧ T.length ≤ (putL T x).1.length ∧ (putL T x).1.length ≤ T.length + 1 := by
  unfold putL
  cases hf : find1 x T 0 with
  | some i => simp only; omega
  | none =>
    simp only
    by_cases h : T.length = 256
    · rw [if_pos h]; simp only; omega
    · rw [if_neg h]; simp; omega
theorem NoDup.putL {T : List Ty} (h : NoDup T) (x : Ty) : NoDup (putL T x).1 := by
  rcases putL_or T x with e | ⟨e, hf⟩
  · rw [e]; exact h
  · rw [e]
    have hn := find1_not x T 0 hf
    intro i j y hi hj
    have li := (List.getElem?_eq_some_iff.1 hi).1
    have lj := (List.getElem?_eq_some_iff.1 hj).1
    simp at li lj
    by_cases h1 : i < T.length <;> by_cases h2 : j < T.length
    · rw [List.getElem?_append_left h1] at hi
      rw [List.getElem?_append_left h2] at hj
      exact h i j y hi hj
    · rw [List.getElem?_append_left h1] at hi
      have hj' : j = T.length := by omega
      subst hj'
      simp at hj
      subst hj
      exact absurd rfl (hn i x hi)
    · rw [List.getElem?_append_left h2] at hj
      have hi' : i = T.length := by omega
      subst hi'
      simp at hi
      subst hi
      exact absurd rfl (hn j x hj)
    · omega
theorem keeps_putL (T : List Ty) (x : Ty) (i : Nat) (y : Ty) (h : T[i]? = some y) : (putL T x).1[i]? = some y := by
  rcases putL_or T x with e | ⟨e, _⟩
  · rw [e]; exact h
  · rw [e, List.getElem?_append_left (List.getElem?_eq_some_iff.1 h).1]; exact h
theorem Good.putL {T : List Ty} {D : ByteArray → Option (List Fld)} {K : Nat} (h : Good T D K) (x : Ty)
    (hx : x.kind = 4 ∨ x = ⟨6, 0, 0, x.name⟩ ∨ (x.kind = 5 ∧ 0 ≤ x.elem ∧ x.elem < T.length ∧ (sz T D K x.elem).2 = true ∧ 1 ≤ x.n ∧ (sz T D K x.elem).1 * x.n ≤ 4096)) : Good (putL T x).1 D (K + 1) := by
  rcases putL_or T x with e | ⟨e, hf⟩
  · rw [e]; exact h.more
  · rw [e]
    refine h.put x ?_
    rcases hx with h4 | h6 | h5
    · exact .inl h4
    · refine .inr (.inl ⟨by rw [h6], ?_⟩)
      cases hD : D x.name with
      | none => rfl
      | some l =>
        obtain ⟨i, hi⟩ := h.inT x.name l hD
        exact absurd h6.symm (find1_not x T 0 hf i _ hi)
    · exact .inr (.inr h5)
theorem atT_range {T : List Ty} {n : Int} (h : (atT T n).isSome = true) : 0 ≤ n ∧ n < T.length := by
  unfold atT at h
  split at h
  · assumption
  · cases h
theorem Good.ptrL {T : List Ty} {D : ByteArray → Option (List Fld)} {K : Nat} (h : Good T D K) (n : Int) : Good (ptrL T n).1 D (K + 1) := by
  unfold YtdoeinccnfggiaaDoor.ptrL
  by_cases hs : (atT T n).isSome
  · rw [if_pos hs]; exact h.putL _ (.inl rfl)
  · rw [if_neg hs]; exact h.more
theorem Good.strL {T : List Ty} {D : ByteArray → Option (List Fld)} {K : Nat} (h : Good T D K) (s : ByteArray) : Good (strL T s).1 D (K + 1) := by
  unfold YtdoeinccnfggiaaDoor.strL
  by_cases hs : s = ⟨#[]⟩
  · rw [if_pos hs]; exact h.more
  · rw [if_neg hs]; exact h.putL _ (.inr (.inl rfl))
theorem Good.arrL {T : List Ty} {D : ByteArray → Option (List Fld)} {K : Nat} (h : Good T D K) (a n : Int) : Good (arrL T D K a n).1 D (K + 1) := by
  unfold YtdoeinccnfggiaaDoor.arrL
  by_cases h1 : (atT T a).isSome = false
  · rw [if_pos h1]; exact h.more
  · rw [if_neg h1]
    have hr := atT_range (T := T) (n := a) (by cases hh : (atT T a).isSome; exact absurd hh h1; rfl)
    by_cases h2 : (sz T D K a).2 = false
    · rw [if_pos h2]; exact h.more
    · rw [if_neg h2]
      by_cases h3 : n < 1 ∨ 1024 < n ∨ 4096 < (sz T D K a).1 * n
      · rw [if_pos h3]; exact h.more
      · rw [if_neg h3]
        exact h.putL _ (.inr (.inr ⟨rfl, hr.1, hr.2, by simpa using h2, by simp only; omega, by simp only; omega⟩))
end Go.Proofs.YtdoeinccnfggiaaDoor

namespace Go.Proofs.YtdoeinccnfggiaaDoor
open Go.RowKit Go.BigFrame

theorem strL_in {T : List Ty} {s : ByteArray} (h : (strL T s).2.2 = 0) : ∃ i : Nat, (strL T s).1[i]? = some ⟨6, 0, 0, s⟩ := by
  unfold strL at h ⊢
  by_cases hs : s = ⟨#[]⟩
  · rw [if_pos hs] at h
    cases h
  · rw [if_neg hs] at h ⊢
    unfold putL at h ⊢
    cases hf : find1 ⟨6, 0, 0, s⟩ T 0 with
    | some i =>
      obtain ⟨j, _, hj⟩ := find1_spec _ T 0 i hf
      exact ⟨j, hj⟩
    | none =>
      rw [hf] at h
      simp only at h ⊢
      by_cases h256 : T.length = 256
      · rw [if_pos h256] at h
        cases h
      · rw [if_neg h256]
        exact ⟨T.length, by simp⟩
theorem sized_range {T : List Ty} {D : ByteArray → Option (List Fld)} {K : Nat} {n : Int} (h : (sz T D K n).2 = true) : 0 ≤ n ∧ n < T.length := by
  cases K with
  | zero => cases h
  | succ K =>
    rw [sz] at h
    cases hx : atT T n with
    | none => rw [hx] at h; cases h
    | some x => exact atT_range (by rw [hx]; rfl)
theorem tw_start {t0 : Bool} {l : List Fld} : ∀ (n : Nat), tw t0 l n = false → t0 = false
  | 0, h => h
  | n + 1, h => by
    rw [tw] at h
    exact tw_start n (by cases hh : tw t0 l n; rfl; rw [hh] at h; cases h)
/-- what Define makes of a good table is good -/
theorem good_defD {T : List Ty} {D : ByteArray → Option (List Fld)} {K : Nat} (h : Good T D K) (s : ByteArray) (l : List Fld) (he : (strL T s).2.2 = 0) :
    Good (strL T s).1 (defD D s l (defE (strL T s).1 D (K + 1) s l)) (K + 2) := by
  have h1 := h.strL s
  have hin := strL_in he
  generalize (strL T s).1 = T1 at *
  unfold defD
  by_cases h0 : defE T1 D (K + 1) s l = 0
  · rw [if_pos h0]
    unfold defE at h0
    by_cases ht : tw (D s).isSome l l.length = true
    · rw [if_pos ht] at h0; cases h0
    · rw [if_neg ht] at h0
      have hD : D s = none := by
        have := tw_start l.length (by simpa using ht)
        simpa using this
      by_cases ha : (l.all fun f => (sz T1 D (K + 1) f.type).2) = false
      · rw [if_pos ha] at h0; cases h0
      · rw [if_neg ha] at h0
        have ha' : (l.all fun f => (sz T1 D (K + 1) f.type).2) = true := by simpa using ha
        rw [List.all_eq_true] at ha'
        by_cases hl : l.length = 0
        · rw [if_pos hl] at h0; cases h0
        · rw [if_neg hl] at h0
          by_cases hs : 4096 < sumF T1 D (K + 1) l
          · rw [if_pos hs] at h0; cases h0
          · exact h1.define s l hD hin (fun e => hl (by rw [e]; rfl)) (fun f hf => by
              have := sized_range (ha' f hf)
              exact ⟨this.1, this.2, ha' f hf⟩) (by omega)
  · rw [if_neg h0]
    exact h1.more
/-- the structs of a list of definitions: one more behind them -/
theorem look_snoc (Ds : List (ByteArray × List Fld)) (s : ByteArray) (l : List Fld) (h : look Ds s = none) : look (Ds ++ [(s, l)]) = fun x => if x = s then some l else look Ds x := by
  funext x
  unfold look at h ⊢
  rw [List.find?_append]
  by_cases hx : x = s
  · subst hx
    rw [if_pos rfl]
    cases hf : Ds.find? (fun d => decide (d.1 = x)) with
    | none => simp
    | some d => rw [hf] at h; cases h
  · rw [if_neg hx]
    cases hf : Ds.find? (fun d => decide (d.1 = x)) with
    | none =>
      have : ¬ s = x := fun e => hx e.symm
      simp [this]
    | some d => simp
end Go.Proofs.YtdoeinccnfggiaaDoor
