import Derived.Test.YtgdbkoncaojmoaaDm
/- MEMORY: a row of numbers that is taken from at its head and grows at its end; how often each was come to (a map). -/
namespace Go.Proofs.Ytgdbkoncaojmoaa
open Go.RowKit Go.BigFrame

theorem add_at (g o k : Nat) : (⟨g, o, none⟩ : Addr).add k = ⟨g, o + k, none⟩ := by
  unfold Addr.add
  split <;> simp_all
/-- a queue of the call's own -/
def OwnQ (w : World) (V : Value) (l : List Int) : Prop := ∃ A c, V = .slice A l.length c ∧ ((A = none ∧ l = [] ∧ c = 0) ∨ ∃ g o cur, A = some ⟨g, o, none⟩ ∧ w.heap[g]? = some (.cells cur 3 (0, 0)) ∧ o + c ≤ cur.size ∧ l.length ≤ c ∧ c ≤ maxLen ∧ ∀ (j : Nat) x, l[j]? = some x → cur[o + j]? = some (.int .i64 x))
theorem OwnQ.of {w : World} {V : Value} {l : List Int} (h : OwnN w V l) : OwnQ w V l := by
  have h0 := h
  obtain ⟨h1, h2⟩ := h
  rcases h2 with ⟨rfl, hn⟩ | ⟨g, cap, cur, rfl, hB, hg, hnc, hcm, hsz, htake⟩
  · have hl : l = [] := List.eq_nil_of_length_eq_zero hn
    subst hl
    exact ⟨none, 0, rfl, Or.inl ⟨rfl, rfl, rfl⟩⟩
  · refine ⟨_, cap, rfl, Or.inr ⟨g, 0, cur, rfl, hg, by omega, hnc, hcm, fun j x hj => ?_⟩⟩
    have hjl := (List.getElem?_eq_some_iff.1 hj).1
    have hc := World.ownsRow.cellAt h0 j (by omega)
    rw [List.getElem?_map, hj, cell_of_row w g j cur _ _ hg] at hc
    rw [Nat.zero_add]
    exact hc
theorem OwnQ.keepS {w w' : World} {V : Value} {l : List Int} (h : OwnQ w V l) (hk : ∀ b, V.ownBlock = some b → w'.heap[b]? = w.heap[b]?) : OwnQ w' V l := by
  obtain ⟨A, c, e, h⟩ := h
  refine ⟨A, c, e, ?_⟩
  rcases h with h | ⟨g, o, cur, e2, h1, h2⟩
  · exact Or.inl h
  · exact Or.inr ⟨g, o, cur, e2, by rw [hk g (by rw [e, e2]; rfl)]; exact h1, h2⟩
theorem OwnQ.lt {w : World} {V : Value} {l : List Int} (h : OwnQ w V l) : ∀ b, V.ownBlock = some b → b < w.heap.size := fun b hb => by
  obtain ⟨A, c, e, h⟩ := h
  rcases h with ⟨h, _⟩ | ⟨g, o, cur, e2, h1, h2⟩
  · rw [e, h] at hb; cases hb
  · rw [e, e2] at hb
    injection hb with hb
    subst hb
    exact (Array.getElem?_eq_some_iff.1 h1).1
theorem OwnQ.head {w : World} {V : Value} {x : Int} {l : List Int} (h : OwnQ w V (x :: l)) : ∃ g o c, V = .slice (some ⟨g, o, none⟩) (l.length + 1) c ∧ l.length + 1 ≤ c ∧ g < w.heap.size ∧ w.cell? ⟨g, o, none⟩ = some (.int .i64 x) ∧ OwnQ w (.slice (if c = 1 then some ⟨g, o, none⟩ else some ⟨g, o + 1, none⟩) l.length (c - 1)) l := by
  obtain ⟨A, c, e, h⟩ := h
  rcases h with ⟨_, h, _⟩ | ⟨g, o, cur, e2, h1, h2, h3, h4, h5⟩
  · cases h
  · subst e2
    refine ⟨g, o, c, e, h3, (Array.getElem?_eq_some_iff.1 h1).1, ?_, _, _, rfl, Or.inr ?_⟩
    · rw [cell_of_row w g o cur _ _ h1]
      have := h5 0 x rfl
      rwa [Nat.add_zero] at this
    · have h3' : l.length + 1 ≤ c := h3
      by_cases hc : c = 1
      · subst hc
        obtain rfl : l = [] := List.eq_nil_of_length_eq_zero (by omega)
        exact ⟨g, o, cur, by rw [if_pos rfl], h1, by omega, by simp, by omega, fun j y hj => by simp at hj⟩
      · refine ⟨g, o + 1, cur, by rw [if_neg hc], h1, by omega, by omega, by omega, fun j y hj => ?_⟩
        rw [show o + 1 + j = o + (j + 1) by omega]
        exact h5 (j + 1) y (by simpa using hj)
theorem run_append_room_at (w : World) (ty : TypeId) (g o sLen sCap : Nat) (cur : Array Value) (hg : w.heap[g]? = some (.cells cur 3 (0, 0)))
    (a : Addr) (m c : Nat) (news : List Value) (hl : news.length = m) (hnews : ∀ j u, news[j]? = some u → w.cell? (a.add j) = some u) (h1 : ∀ u ∈ news, u.oneCell' = true)
    (hroom : sLen + m ≤ sCap) (hfit : o + sLen + news.length ≤ cur.size) :
    (Builtin.append_ #[31, 31] ty #[.slice (some ⟨g, o, none⟩) sLen sCap, .slice (some a) m c]).run Try.prog w =
      .ok (.slice (some ⟨g, o, none⟩) (sLen + m) sCap) (w.setRow g (cur.toList.take (o + sLen) ++ news ++ cur.toList.drop (o + sLen + news.length)).toArray) := by
  obtain ⟨i0, hi, hz0, hz1, hz2⟩ := info_parts info_n
  have ht : Try.prog.underlying 31 = some (.slice 3) := by kernel_rfl
  have hf := run_firstCells_some (P := Try.prog) w i0.size m a m c news (by rw [hz1, hl, Nat.mul_one]) hnews
  have hst := run_storeCells_at Try.prog g (o + sLen) 3 news 0 cur w hg (by simpa using hfit) h1
  simp only [Nat.add_zero, List.append_assoc] at hst
  rw [hz1] at hf
  simp [Builtin.append_, run_underlying ht, sizeOf, typeInfo, hi, Builtin.lenOf, hroom, hf, hz1, add_at, hst]
/-- append of numbers that are read onto a queue -/
theorem run_append_q (w : World) (ty : TypeId) (V : Value) (k : List Int) (hown : OwnQ w V k) (A : Option Addr) (l : List Int) (cap : Nat) (hR : RdN w A l) (hl : 0 < l.length) (hl2 : l.length ≤ 90000) (hn : k.length + l.length ≤ 90000000) :
    ∃ V' w', (Builtin.append_ #[31, 31] ty #[V, .slice A l.length cap]).run Try.prog w = .ok V' w' ∧ OwnQ w' V' (k ++ l) ∧ w.grownBy w' V.ownBlock ∧ (V'.ownBlock = V.ownBlock ∨ V'.ownBlock = some w.heap.size) := by
  obtain ⟨i0, hi, hz0, hz1, hz2⟩ := info_parts info_n
  have ht : Try.prog.underlying 31 = some (.slice 3) := by kernel_rfl
  obtain ⟨b, o0, rfl, hlt, _⟩ := hR 0 (l[0]'hl) (by simp)
  have hnews : ∀ j u, (l.map (Value.int .i64))[j]? = some u → w.cell? ((⟨b, o0, none⟩ : Addr).add j) = some u := fun j u hu => by
    rw [List.getElem?_map] at hu
    cases hj : l[j]? with
    | none => rw [hj] at hu; cases hu
    | some n =>
      rw [hj] at hu
      injection hu with hu
      subst hu
      rw [add_at]
      obtain ⟨b', o', e1, _, c0⟩ := hR j n hj
      injection e1 with e1
      injection e1 with e1 e2
      subst e1 e2
      exact c0
  have hone : ∀ u ∈ l.map (Value.int .i64), u.oneCell' = true := fun u hu => by
    obtain ⟨n, _, rfl⟩ := List.mem_map.1 hu
    rfl
  obtain ⟨A, c, rfl, hcase⟩ := hown
  rcases hcase with ⟨rfl, rfl, rfl⟩ | ⟨g, o, cur, rfl, hg, hoc, hkc, hcm, hcl⟩
  · obtain ⟨V', w', hr, h1, h2, h3⟩ := run_append_n w ty (.slice none 0 0) [] (OwnN.nil w) (some ⟨b, o0, none⟩) l cap hR hl (by simp; omega)
    exact ⟨V', w', hr, OwnQ.of h1, h2, h3⟩
  · by_cases hroom : k.length + l.length ≤ c
    · have hr := run_append_room_at w ty g o k.length c cur hg ⟨b, o0, none⟩ l.length cap (l.map (Value.int .i64)) (by simp) hnews hone hroom (by simp; omega)
      refine ⟨_, _, hr, ⟨_, c, by rw [List.length_append], Or.inr ⟨g, o, _, rfl, setRow_heap w g cur _ 3 _ hg, ?_, by rw [List.length_append]; exact hroom, hcm, fun j x hj => ?_⟩⟩, ⟨rfl, rfl, rfl, by simp, fun k' _ hk' => setRow_other w g k' _ (fun e => hk' (by simp [Value.ownBlock, e]))⟩, Or.inl rfl⟩
      · simp only [List.size_toArray, List.length_append, List.length_take, List.length_drop, Array.length_toList, List.length_map]
        omega
      · rw [List.getElem?_toArray]
        by_cases hjk : j < k.length
        · rw [List.getElem?_append_left hjk] at hj
          rw [List.append_assoc, List.getElem?_append_left (by simp; omega), List.getElem?_take_of_lt (by omega)]
          have := hcl j x hj
          simpa using this
        · rw [List.getElem?_append_right (by omega)] at hj
          have hjl := (List.getElem?_eq_some_iff.1 hj).1
          rw [List.append_assoc, List.getElem?_append_right (by simp; omega), List.getElem?_append_left (by simp; omega), List.getElem?_map]
          have e : o + j - (cur.toList.take (o + k.length)).length = j - k.length := by simp; omega
          rw [e, hj]
          rfl
    · have holds : ∀ j u, (k.map (Value.int .i64))[j]? = some u → w.cell? ((⟨g, o, none⟩ : Addr).add j) = some u := fun j u hu => by
        rw [List.getElem?_map] at hu
        cases hj : k[j]? with
        | none => rw [hj] at hu; cases hu
        | some n =>
          rw [hj] at hu
          injection hu with hu
          subst hu
          rw [add_at, cell_of_row w g (o + j) cur _ _ hg]
          exact hcl j n hj
      have hr := run_append_grow (P := Try.prog) w 31 ty 3 i0 (.int .i64 0) ht hi hz0 ⟨g, o, none⟩ k.length c (k.map (Value.int .i64)) (by rw [hz1]; simp) holds ⟨b, o0, none⟩ l.length cap (l.map (Value.int .i64)) (by rw [hz1]; simp) hnews (by omega) (by omega) (growslice_fits (by omega) (by rw [hz2]; omega))
      have hge := grownCap_ge w (k.length + l.length) c 3
      refine ⟨_, _, hr, ⟨_, _, by rw [List.length_append], Or.inr ⟨w.heap.size, 0, _, rfl, heap_alloc_new w.drew _, ?_, by rw [List.length_append]; exact hge, grownCap_le_maxLen w _ c 3 (by simp only [maxLen]; omega), fun j x hj => ?_⟩⟩, ⟨rfl, rfl, rfl, by simp, fun k' hk' _ => heap_alloc_old w.drew _ hk'⟩, Or.inr rfl⟩
      · simp [size_zeroCells, Value.cells]
        omega
      · rw [Nat.zero_add, Array.getElem?_append_left (by simp; have := (List.getElem?_eq_some_iff.1 hj).1; simp at this; omega)]
        rw [List.append_toArray, List.getElem?_toArray, ← List.map_append, List.getElem?_map, hj]
        rfl
end Go.Proofs.Ytgdbkoncaojmoaa
