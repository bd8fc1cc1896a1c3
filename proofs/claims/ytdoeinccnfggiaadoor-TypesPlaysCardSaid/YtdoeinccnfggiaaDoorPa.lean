import Derived.Test.YtdoeinccnfggiaaDoorGh
import Derived.Lib.ItoaLen
import Derived.Lib.ItoaMem
namespace Go.Proofs.YtdoeinccnfggiaaDoor
open Go.RowKit Go.BigFrame

theorem tx_more {T : List Ty} : ∀ (k : Nat) (n : Int), tdeep T k n → tx T (k + 1) n = tx T k n ∧ tdeep T (k + 1) n
  | 0, _, h => h.elim
  | k + 1, n, h => by
    have ih := fun m => tx_more (T := T) k m
    rw [tdeep] at h
    rw [tx, tx, tdeep]
    cases hx : atT T n with
    | none => exact ⟨rfl, fun y hy => by cases hy⟩
    | some x =>
      obtain ⟨h4, h5, h6, h3⟩ := h x hx
      refine ⟨?_, fun y hy => ?_⟩
      · simp only
        by_cases e4 : x.kind = 4
        · rw [if_pos e4, if_pos e4, (ih _ (h4 e4).1).1]
        · rw [if_neg e4, if_neg e4]
          by_cases e5 : x.kind = 5
          · rw [if_pos e5, if_pos e5, (ih _ (h5 e5).1.1).1]
          · rw [if_neg e5, if_neg e5]
      · injection hy with hy
        subst hy
        exact ⟨fun e => ⟨(ih _ (h4 e).1).2, by rw [(ih _ (h4 e).1).1]; exact (h4 e).2⟩, fun e => ⟨⟨(ih _ (h5 e).1.1).2, by rw [(ih _ (h5 e).1.1).1]; exact (h5 e).1.2⟩, (h5 e).2⟩, h6, h3⟩
theorem tx_agree {T : List Ty} {x : Ty} (hel : ∀ (i : Nat) y, T[i]? = some y → (y.kind = 4 ∨ y.kind = 5) → y.elem ≠ T.length) : ∀ (k : Nat) (n : Int), n ≠ T.length → tx (T ++ [x]) k n = tx T k n ∧ (tdeep T k n → tdeep (T ++ [x]) k n)
  | 0, _, _ => ⟨rfl, fun h => h.elim⟩
  | k + 1, n, hn => by
    have ih := fun m hm => tx_agree (T := T) (x := x) hel k m hm
    rw [tx, tx, tdeep, tdeep, atT_app hn]
    cases hy : atT T n with
    | none => exact ⟨rfl, fun _ y hy => by cases hy⟩
    | some y =>
      have hm : ∃ m : Nat, T[m]? = some y := by
        unfold atT at hy
        split at hy
        · exact ⟨_, hy⟩
        · cases hy
      obtain ⟨m, hm⟩ := hm
      have he := hel m y hm
      refine ⟨?_, fun h z hz => ?_⟩
      · simp only
        by_cases e4 : y.kind = 4
        · rw [if_pos e4, if_pos e4, (ih _ (he (.inl e4))).1]
        · rw [if_neg e4, if_neg e4]
          by_cases e5 : y.kind = 5
          · rw [if_pos e5, if_pos e5, (ih _ (he (.inr e5))).1]
          · rw [if_neg e5, if_neg e5]
      · injection hz with hz
        subst hz
        obtain ⟨h4, h5, h6, h3⟩ := h y rfl
        exact ⟨fun e => ⟨(ih _ (he (.inl e))).2 (h4 e).1, by rw [(ih _ (he (.inl e))).1]; exact (h4 e).2⟩, fun e => ⟨⟨(ih _ (he (.inr e))).2 (h5 e).1.1, by rw [(ih _ (he (.inr e))).1]; exact (h5 e).1.2⟩, (h5 e).2⟩, h6, h3⟩
/-- every number's text is told at depth K, and has at most B bytes; arrays have 1 to 1024 elements -/
structure TG (T : List Ty) (K B : Nat) : Prop where
  dp : ∀ n, tdeep T K n
  el : ∀ (i : Nat) x, T[i]? = some x → (x.kind = 4 ∨ x.kind = 5) → 0 ≤ x.elem ∧ x.elem < T.length
  sz : ∀ n, (tx T K n).size ≤ B
  ar : ∀ (i : Nat) x, T[i]? = some x → x.kind = 5 → 1 ≤ x.n ∧ x.n ≤ 1024
  kd : ∀ (i : Nat) x, T[i]? = some x → 0 ≤ x.kind ∧ x.kind ≤ 6
theorem TG.more {T : List Ty} {K B : Nat} (h : TG T K B) : TG T (K + 1) (B + 200) :=
  ⟨fun n => (tx_more K n (h.dp n)).2, h.el, fun n => by rw [(tx_more K n (h.dp n)).1]; have := h.sz n; omega, h.ar, h.kd⟩
theorem TG.put {T : List Ty} {K B : Nat} (h : TG T K B) (hB : B ≤ 100000) (x : Ty)
    (hx : (x.kind = 4 ∧ 0 ≤ x.elem ∧ x.elem < T.length) ∨ (x.kind = 6 ∧ x.name.size ≤ 100) ∨ (x.kind = 5 ∧ 0 ≤ x.elem ∧ x.elem < T.length ∧ 1 ≤ x.n ∧ x.n ≤ 1024)) : TG (T ++ [x]) (K + 1) (B + 200) := by
  have hag := fun k n hn => tx_agree (T := T) (x := x) (fun i y hi hy => by have := h.el i y hi hy; omega) k n hn
  have hs : ∀ n : Int, n ≠ T.length → tx (T ++ [x]) (K + 1) n = tx T K n := fun n hn => by rw [(hag (K + 1) n hn).1, (tx_more K n (h.dp n)).1]
  have hat : ∀ (i : Nat) y, (T ++ [x])[i]? = some y → (T[i]? = some y) ∨ (i = T.length ∧ y = x) := fun i y hi => by
    by_cases hil : i < T.length
    · rw [List.getElem?_append_left hil] at hi
      exact .inl hi
    · have hlt := (List.getElem?_eq_some_iff.1 hi).1
      have hie : i = T.length := by simp at hlt; omega
      subst hie
      simp at hi
      exact .inr ⟨rfl, hi.symm⟩
  have hatn : atT (T ++ [x]) (T.length : Int) = some x := atT_lt (by simp)
  have hlen : ((T ++ [x]).length : Int) = (T.length : Int) + 1 := by simp
  have hnew : tdeep (T ++ [x]) (K + 1) (T.length : Int) ∧ (tx (T ++ [x]) (K + 1) (T.length : Int)).size ≤ B + 200 := by
    rw [tdeep, tx, hatn]
    simp only
    rcases hx with ⟨e4, a1, a2⟩ | ⟨e6, a1⟩ | ⟨e5, a1, a2, a3, a4⟩
    · have hne : x.elem ≠ T.length := by omega
      have hz := h.sz x.elem
      rw [if_pos e4, (hag K _ hne).1, ByteArray.size_append]
      refine ⟨fun y hy => ?_, by have : (⟨#[42]⟩ : ByteArray).size = 1 := rfl; omega⟩
      injection hy with hy
      subst hy
      exact ⟨fun _ => ⟨(hag K _ hne).2 (h.dp _), by rw [(hag K _ hne).1]; omega⟩, fun e => by omega, fun e => by omega, fun e => by omega⟩
    · rw [if_neg (by omega), if_neg (by omega), if_pos e6, ByteArray.size_append]
      refine ⟨fun y hy => ?_, by have : (⟨#[115, 116, 114, 117, 99, 116, 32]⟩ : ByteArray).size = 7 := rfl; omega⟩
      injection hy with hy
      subst hy
      exact ⟨fun e => by omega, fun e => by omega, fun _ => by omega, fun _ _ e => by omega⟩
    · have hne : x.elem ≠ T.length := by omega
      have hz := h.sz x.elem
      have hi := Lib.itoa_length_le x.n (by omega) (by omega)
      have hi2 : (⟨(Lib.itoa x.n).toArray⟩ : ByteArray).size = (Lib.itoa x.n).length := by show (Lib.itoa x.n).toArray.size = _; simp
      rw [if_neg (by omega), if_pos e5, (hag K _ hne).1, ByteArray.size_append, ByteArray.size_append, ByteArray.size_append, hi2]
      refine ⟨fun y hy => ?_, by have h1 : (⟨#[91]⟩ : ByteArray).size = 1 := rfl; have h2 : (⟨#[93]⟩ : ByteArray).size = 1 := rfl; omega⟩
      injection hy with hy
      subst hy
      exact ⟨fun e => by omega, fun _ => ⟨⟨(hag K _ hne).2 (h.dp _), by rw [(hag K _ hne).1]; omega⟩, by omega, by omega, by omega⟩, fun e => by omega, fun _ e => by omega⟩
  refine ⟨fun n => ?_, fun i y hi hy => ?_, fun n => ?_, fun i y hi hy => ?_, fun i y hi => ?_⟩
  · by_cases hn : n = T.length
    · rw [hn]; exact hnew.1
    · exact (hag _ n hn).2 (tx_more K n (h.dp n)).2
  · rcases hat i y hi with h1 | ⟨_, rfl⟩
    · have := h.el i y h1 hy; omega
    · omega
  · by_cases hn : n = T.length
    · rw [hn]; exact hnew.2
    · rw [hs n hn]; have := h.sz n; omega
  · rcases hat i y hi with h1 | ⟨_, rfl⟩
    · exact h.ar i y h1 hy
    · omega
  · rcases hat i y hi with h1 | ⟨_, rfl⟩
    · exact h.kd i y h1
    · omega
theorem TG.putL {T : List Ty} {K B : Nat} (h : TG T K B) (hB : B ≤ 100000) (x : Ty)
    (hx : (x.kind = 4 ∧ 0 ≤ x.elem ∧ x.elem < T.length) ∨ (x.kind = 6 ∧ x.name.size ≤ 100) ∨ (x.kind = 5 ∧ 0 ≤ x.elem ∧ x.elem < T.length ∧ 1 ≤ x.n ∧ x.n ≤ 1024)) : TG (putL T x).1 (K + 1) (B + 200) := by
  rcases putL_or T x with e | ⟨e, _⟩
  · rw [e]; exact h.more
  · rw [e]; exact h.put hB x hx
theorem tg0 : TG (tys 4) 1 8 := by
  have hk : ∀ n x, atT (tys 4) n = some x → 0 ≤ x.kind ∧ x.kind ≤ 3 := fun n x hx => by
    obtain ⟨m, rfl, hm⟩ : ∃ m : Nat, n = m ∧ (tys 4)[m]? = some x := by
      unfold atT at hx
      split at hx
      · exact ⟨n.toNat, by omega, hx⟩
      · cases hx
    obtain ⟨i, hi⟩ : ∃ i : Nat, x = tyN i := by
      have := List.mem_of_getElem? hm
      unfold tys at this
      obtain ⟨i, _, hi⟩ := List.mem_map.1 this
      exact ⟨i, hi.symm⟩
    have := tys4_lt m x hm
    subst hi
    simp at this ⊢
    omega
  have hk' : ∀ (i : Nat) x, (tys 4)[i]? = some x → 0 ≤ x.kind ∧ x.kind ≤ 3 := fun i x hi => hk i x (atT_lt hi)
  refine ⟨fun n => ?_, fun i x hi hx => ?_, fun n => ?_, fun i x hi hx => ?_, fun i x hi => ?_⟩
  · rw [tdeep]
    intro x hx
    have := hk n x hx
    exact ⟨fun h => by omega, fun h => by omega, fun h => by omega, fun _ _ _ => this⟩
  · have := hk' i x hi; omega
  · rw [tx]
    cases hx : atT (tys 4) n with
    | none => exact Nat.zero_le _
    | some x =>
      have := hk n x hx
      simp only
      rw [if_neg (by omega), if_neg (by omega), if_neg (by omega)]
      unfold baseTx
      split
      · decide
      · split
        · decide
        · split <;> decide
  · have := hk' i x hi; omega
  · have := hk' i x hi; omega
end Go.Proofs.YtdoeinccnfggiaaDoor
