import Derived.Test.YtdoeinccnfggiaaDoorRm
import Derived.Test.YtdoeinccnfggiaaDoorN
namespace Go.Proofs.YtdoeinccnfggiaaDoor
open Go.RowKit Go.BigFrame

/-- as run_append_owned_none, of a nil slice of any capacity -/
theorem run_append_owned_nil {P : Program} (w : World) (base : Nat) (t ty e : TypeId) (i : TypeInfo) (size c : Nat) (ht : P.underlying t = some (.slice e)) (hi : P.info? e = some i)
    (v : Value) (n : Nat) (xs : List Value) (hown : w.ownsRow base e size v n xs) :
    (Builtin.append_ #[t, t] ty #[v, .slice none 0 c]).run P w = .ok v w := by
  rcases hown.2 with ⟨rfl, rfl⟩ | ⟨g, cap, cur, rfl, _, _, hnc, _⟩
  · simp [Builtin.append_, run_underlying ht, sizeOf, typeInfo, hi, Builtin.lenOf, Builtin.firstCells]
  · simp [Builtin.append_, run_underlying ht, sizeOf, typeInfo, hi, Builtin.lenOf, Builtin.firstCells, hnc, storeCells]
/-- append of a list of definitions onto one of the call's own, whatever the slice is where it is empty -/
theorem run_append_defs2 (w : World) (ty : TypeId) (V : Value) (k : List (ByteArray × Value)) (hown : w.ownsRow 0 85 2 V k.length (dcells k)) (A : Option Addr) (l : List (ByteArray × Value)) (cap : Nat) (hR : RdV w A l) (hn : k.length + l.length ≤ 2000) :
    ∃ V' w', (Builtin.append_ #[42, 42] ty #[V, .slice A l.length cap]).run Tryd.prog w = .ok V' w' ∧ w'.ownsRow 0 85 2 V' (k ++ l).length (dcells (k ++ l)) ∧ w.grownBy w' V.ownBlock ∧ (V'.ownBlock = V.ownBlock ∨ V'.ownBlock = some w.heap.size) := by
  by_cases hl : l = []
  · subst hl
    obtain ⟨i0, hi, hz0, hz1, hz2⟩ := info_parts info85
    cases A with
    | none => exact ⟨V, w, run_append_owned_nil w 0 42 ty 85 i0 2 cap (by kernel_rfl) hi V k.length (dcells k) hown, by simpa using hown, ⟨rfl, rfl, rfl, Nat.le_refl _, fun _ _ _ => rfl⟩, .inl rfl⟩
    | some a =>
      obtain ⟨V', w', hr, h1, h2, _, h4⟩ := run_append_own_at (P := Tryd.prog) w 0 42 ty 85 i0 def0 2 40 (by kernel_rfl) hi hz0 hz1 hz2 rfl (by decide) V k.length (dcells k) hown a 0 cap [] rfl
        (fun j u hu => by simp at hu) (fun u hu => by simp at hu) (by simp only [maxLen]; omega) (by omega) (Nat.zero_le _)
      exact ⟨V', w', hr, by simpa using h1, h2, h4⟩
  · exact run_append_defs w ty V k hown A l cap hR (fun e => absurd e hl) hn
theorem OwnY.made (w : World) : (w.alloc (.cells #[] 85)).ownsRow 0 85 2 (.slice (some ⟨w.heap.size, 0, none⟩) 0 0) ([] : List (ByteArray × Value)).length (dcells []) := World.ownsRow_made w #[] 0 (Nat.zero_le _) (by simp [maxLen]) rfl
theorem own_form {w : World} {e : TypeId} {V : Value} {n : Nat} {xs : List Value} (h : w.ownsRow 0 e 2 V n xs) : ∃ A cap, V = .slice A n cap ∧ (∀ b, V.ownBlock = some b → b < w.heap.size) ∧
    (0 < n → ∃ b, A = some ⟨b, 0, none⟩ ∧ V.ownBlock = some b ∧ b < w.heap.size ∧ ∀ j, j < n * 2 → w.cell? ⟨b, j, none⟩ = xs[j]?) := by
  have h0 := h
  obtain ⟨h1, h2⟩ := h
  rcases h2 with ⟨rfl, hn⟩ | ⟨g, cap, cur, rfl, hB, hg, hnc, _, hsz, htake⟩
  · exact ⟨none, 0, by rw [hn], fun b hb => by simp [Value.ownBlock] at hb, fun hp => by omega⟩
  · have hlt := (Array.getElem?_eq_some_iff.1 hg).1
    exact ⟨_, _, rfl, fun b hb => by simp [Value.ownBlock] at hb; omega, fun hp => ⟨g, rfl, rfl, hlt, fun j hj => World.ownsRow.cellAt h0 j hj⟩⟩
/-- fields of one's own read so -/
theorem ownX_rd {w : World} {V : Value} {l : List Fld} (h : w.ownsRow 0 71 2 V l.length (fcells l)) (F : Nat → Prop) (hF : ∀ b, V.ownBlock = some b → ¬ F b) (hl : 0 < l.length) : ∃ A cap, V = .slice A l.length cap ∧ RdF w F A l := by
  obtain ⟨A, cap, hV, _, h3⟩ := own_form h
  obtain ⟨b, rfl, hb, hlt, hc⟩ := h3 hl
  refine ⟨_, cap, hV, fun j f hf => ?_, fun b' o s e => by injection e with e; injection e with e1; subst e1; exact hF _ hb⟩
  obtain ⟨hj, rfl⟩ := List.getElem?_eq_some_iff.1 hf
  have hh : ∀ i, i < 2 → ∀ v, (l[j]).l[i]? = Option.some v → w.cell? ⟨b, j * 2 + i, none⟩ = Option.some v := fun i hi v hv => by rw [hc (j * 2 + i) (by omega), fcells_at l j i hj hi, hv]
  exact ⟨b, rfl, hlt, hh 0 (by omega) _ rfl, hh 1 (by omega) _ rfl⟩
/-- definitions of one's own read so -/
theorem ownY_rd {w : World} {V : Value} {dl : List (ByteArray × Value)} {Ds : List (ByteArray × List Fld)} (h : w.ownsRow 0 85 2 V dl.length (dcells dl)) (F : Nat → Prop) (hF : ∀ b, V.ownBlock = some b → ¬ F b) (hlen : dl.length = Ds.length)
    (hd : ∀ (j : Nat) d, Ds[j]? = some d → ∃ C cap, dl[j]? = some (d.1, .slice C d.2.length cap) ∧ RdF w F C d.2) : ∃ A cap, V = .slice A Ds.length cap ∧ RdD w F A Ds := by
  obtain ⟨A, cap, hV, _, h3⟩ := own_form h
  rw [hlen] at hV h3
  refine ⟨A, cap, hV, fun j d hj => ?_⟩
  obtain ⟨C, c, e1, e2⟩ := hd j d hj
  have hjl := (List.getElem?_eq_some_iff.1 hj).1
  obtain ⟨b, rfl, hb, hlt, hc⟩ := h3 (by omega)
  obtain ⟨hjd, e1'⟩ := List.getElem?_eq_some_iff.1 e1
  have hh : ∀ i, i < 2 → ∀ v, [Value.string (dl[j]).1, (dl[j]).2][i]? = Option.some v → w.cell? ⟨b, j * 2 + i, none⟩ = Option.some v := fun i hi v hv => by rw [hc (j * 2 + i) (by omega), dcells_at dl j i hjd hi, hv]
  have c0 := hh 0 (by omega) _ rfl
  have c1 := hh 1 (by omega) _ rfl
  rw [e1'] at c0 c1
  exact ⟨b, C, c, rfl, hlt, hF b hb, c0, c1, e2⟩
/-- in the document's Define, behind its Fields: its own table at the block q, its result at the block q + 1 -/
structure DSt (w w1 : World) (F : Nat → Prop) (v : Value) (T : List Ty) (Ds : List (ByteArray × List Fld)) (a b : Value) (A : Option Addr) (l : List Fld) : Prop where
  hv : v = .agg #[a, b]
  box : w1.heap[w.heap.size]? = some (.cells #[a, b] 44 (0, 0))
  res : w1.heap[w.heap.size + 1]? = some (.cells #[.slice none 0 0, .slice none 0 0] 44 (0, 0))
  rt : RT w1 (F2 F w.heap.size) v T Ds
  below : Below w.heap.size w w1
  fl : FRdO w1 A l
theorem DSt.later {w w1 w2 : World} {F : Nat → Prop} {v : Value} {T : List Ty} {Ds : List (ByteArray × List Fld)} {a b : Value} {A : Option Addr} {l : List Fld} (h : DSt w w1 F v T Ds a b A l) (hne : ∀ d ∈ Ds, 0 < d.2.length) (hb : Below w1.heap.size w1 w2) : DSt w w2 F v T Ds a b A l :=
  ⟨h.hv, (hb.block _ (Array.getElem?_eq_some_iff.1 h.box).1).trans h.box, (hb.block _ (Array.getElem?_eq_some_iff.1 h.res).1).trans h.res, h.rt.below hne hb, h.below.trans (hb.mono h.below.size), h.fl.below hb⟩
theorem DSt.cells {w w1 : World} {F : Nat → Prop} {v : Value} {T : List Ty} {Ds : List (ByteArray × List Fld)} {a b : Value} {A : Option Addr} {l : List Fld} (h : DSt w w1 F v T Ds a b A l) :
    w1.cell? ⟨w.heap.size, 0, none⟩ = some a ∧ w1.cell? ⟨w.heap.size, 1, none⟩ = some b ∧ w1.cell? ⟨w.heap.size + 1, 0, none⟩ = some (.slice none 0 0) ∧ w1.cell? ⟨w.heap.size + 1, 1, none⟩ = some (.slice none 0 0) ∧
    w1.frozen? ⟨w.heap.size + 1, 0, none⟩ = false ∧ w1.frozen? ⟨w.heap.size + 1, 1, none⟩ = false ∧
    (∀ u, (w1.setCell ⟨w.heap.size + 1, 0, none⟩ u).cell? ⟨w.heap.size + 1, 0, none⟩ = some u) ∧ ∀ u v, ((w1.setCell ⟨w.heap.size + 1, 0, none⟩ u).setCell ⟨w.heap.size + 1, 1, none⟩ v).cell? ⟨w.heap.size + 1, 1, none⟩ = some v :=
  ⟨cell_of_heap h.box 0 _ rfl, cell_of_heap h.box 1 _ rfl, cell_of_heap h.res 0 _ rfl, cell_of_heap h.res 1 _ rfl, free_of_heap h.res 0, free_of_heap h.res 1, res_two h.res⟩
theorem DSt.done {w w1 : World} {F : Nat → Prop} {v : Value} {T : List Ty} {Ds : List (ByteArray × List Fld)} {a b : Value} {A : Option Addr} {l : List Fld} (h : DSt w w1 F v T Ds a b A l) (hne : ∀ d ∈ Ds, 0 < d.2.length) (u u' : Value) :
    RT ((w1.setCell ⟨w.heap.size + 1, 0, none⟩ u).setCell ⟨w.heap.size + 1, 1, none⟩ u') F v T Ds ∧ Below w.heap.size w ((w1.setCell ⟨w.heap.size + 1, 0, none⟩ u).setCell ⟨w.heap.size + 1, 1, none⟩ u') :=
  ⟨(h.rt.set2 hne (r := w.heap.size + 1) (.inr ⟨Nat.le_add_right _ _, by omega⟩) _ _).less hne (fun k hk => .inl hk),
    (h.below.setCell (p := ⟨w.heap.size + 1, 0, none⟩) (Nat.le_add_right _ _) _).setCell (p := ⟨w.heap.size + 1, 1, none⟩) (Nat.le_add_right _ _) _⟩
end Go.Proofs.YtdoeinccnfggiaaDoor

namespace Go.Proofs.YtdoeinccnfggiaaDoor
open Go.RowKit Go.BigFrame

theorem RdV.of {w : World} {A : Option Addr} {Ds : List (ByteArray × List Fld)} {dl : List (ByteArray × Value)} {F : Nat → Prop} (hlen : dl.length = Ds.length) (h1 : ∀ (j : Nat) d, Ds[j]? = some d → ∃ C cap, dl[j]? = some (d.1, .slice C d.2.length cap) ∧ RdF w F C d.2)
    (h2 : ∀ (j : Nat) e, dl[j]? = some e → ∃ b, A = some ⟨b, 0, none⟩ ∧ b < w.heap.size ∧ ¬ F b ∧ w.cell? ⟨b, j * 2, none⟩ = some (.string e.1) ∧ w.cell? ⟨b, j * 2 + 1, none⟩ = some e.2) : RdV w A dl := fun j e he => by
  obtain ⟨b, e1, e2, _, e4, e5⟩ := h2 j e he
  have hj := (List.getElem?_eq_some_iff.1 he).1
  obtain ⟨d, hd⟩ : ∃ d, Ds[j]? = some d := ⟨Ds[j], by simp [← hlen, hj]⟩
  obtain ⟨C, cap, k1, _⟩ := h1 j d hd
  rw [he] at k1
  injection k1 with k1
  subst k1
  exact ⟨⟨C, _, cap, rfl⟩, b, e1, e2, e4, e5⟩
theorem RdV.below {w w' : World} {A : Option Addr} {dl : List (ByteArray × Value)} (h : RdV w A dl) (hb : Below w.heap.size w w') : RdV w' A dl := fun j e he => by
  obtain ⟨h1, b, e1, e2, e3, e4⟩ := h j e he
  exact ⟨h1, b, e1, Nat.lt_of_lt_of_le e2 hb.size, (hb.cell (p := ⟨b, _, none⟩) e2).trans e3, (hb.cell (p := ⟨b, _, none⟩) e2).trans e4⟩
/-- the document's Define goes its way to the end: what the last appends make -/
theorem def_end {w w1 w4 : World} {F : Nat → Prop} {v : Value} {T : List Ty} {Ds : List (ByteArray × List Fld)} {a : Value} {B : Option Addr} {cap2 : Nat} {A : Option Addr} {l : List Fld} {s : ByteArray} {dl : List (ByteArray × Value)} {V2 V3 : Value}
    (h : DSt w w1 F v T Ds a (.slice B Ds.length cap2) A l) (hne : ∀ d ∈ Ds, 0 < d.2.length) (hF : ∀ k, F k → k < w.heap.size) (hl : 0 < l.length) (hlen : dl.length = Ds.length)
    (hdl : ∀ (j : Nat) d, Ds[j]? = some d → ∃ C cap, dl[j]? = some (d.1, .slice C d.2.length cap) ∧ RdF w1 (F2 F w.heap.size) C d.2) (hb : Below w1.heap.size w1 w4)
    (ho2 : w4.ownsRow 0 71 2 V2 l.length (fcells l)) (hv2 : ∀ b, V2.ownBlock = some b → w1.heap.size ≤ b)
    (ho3 : w4.ownsRow 0 85 2 V3 (dl ++ [(s, V2)]).length (dcells (dl ++ [(s, V2)]))) (hv3 : ∀ b, V3.ownBlock = some b → w1.heap.size ≤ b) :
    let w5 := w4.setCell ⟨w.heap.size, 1, none⟩ V3
    ∃ v', v' = .agg #[a, V3] ∧ DSt w w5 F v' T (Ds ++ [(s, l)]) a V3 none [] := by
  intro w5
  have hq1 : w.heap.size < w1.heap.size := (Array.getElem?_eq_some_iff.1 h.box).1
  have h4 := h.later hne hb
  have hF2 : ∀ b, w1.heap.size ≤ b → ¬ F2 F w.heap.size b := fun b hbb hf => by
    have hq2 : w.heap.size + 1 < w1.heap.size := (Array.getElem?_eq_some_iff.1 h.res).1
    rcases hf with hf | hf
    · have := hF b hf; omega
    · omega
  have hB5 : Below w.heap.size w w5 := h4.below.setCell (p := ⟨w.heap.size, 1, none⟩) (Nat.le_refl _) _
  have hkeep : ∀ k, k ≠ w.heap.size → w5.heap[k]? = w4.heap[k]? := fun k hk => Below.heap_setCell _ _ _ _ (by simpa using hk)
  have hs5 : w5.heap.size = w4.heap.size := by simp [w5, World.setCell]
  have hm : ∀ k, k < w4.heap.size → ¬ F2 F w.heap.size k → w5.heap[k]? = w4.heap[k]? ∧ ¬ F2 F w.heap.size k := fun k _ hn => ⟨hkeep k fun e => hn (.inr (by rw [e]; omega)), hn⟩
  obtain ⟨A2, c2, hV2, hR2⟩ := ownX_rd ho2 (F2 F w.heap.size) (fun b hb => hF2 b (hv2 b hb)) hl
  have hd : ∀ (j : Nat) d, (Ds ++ [(s, l)])[j]? = some d → ∃ C cap, (dl ++ [(s, V2)])[j]? = some (d.1, .slice C d.2.length cap) ∧ RdF w4 (F2 F w.heap.size) C d.2 := fun j d hj => by
    by_cases hjl : j < Ds.length
    · rw [List.getElem?_append_left hjl] at hj
      rw [List.getElem?_append_left (by omega)]
      obtain ⟨C, cap, e1, e2⟩ := hdl j d hj
      exact ⟨C, cap, e1, e2.below hb (hne d (List.mem_of_getElem? hj))⟩
    · have hlt := (List.getElem?_eq_some_iff.1 hj).1
      simp at hlt
      have hje : j = Ds.length := by omega
      subst hje
      simp at hj
      subst hj
      exact ⟨A2, c2, by rw [← hlen, hV2]; simp, hR2⟩
  obtain ⟨A3, c3, hV3, hR3⟩ := ownY_rd (Ds := Ds ++ [(s, l)]) ho3 (F2 F w.heap.size) (fun b hb => hF2 b (hv3 b hb)) (by simp [hlen]) hd
  have hne' : ∀ d ∈ Ds ++ [(s, l)], 0 < d.2.length := fun d hd => by
    rcases List.mem_append.1 hd with hd | hd
    · exact hne d hd
    · simp at hd; subst hd; exact hl
  obtain ⟨A1, c1, B1, cb1, hv, k1, _⟩ := h4.rt
  have hv' := h4.hv
  rw [hv] at hv'
  injection hv' with hv'
  injection hv' with hv'
  injection hv' with hva hvb
  subst hva
  refine ⟨_, rfl, ⟨rfl, by rw [heap_setCell h4.box]; rfl, (hkeep _ (by omega)).trans h4.res, ⟨A1, c1, A3, c3, by rw [hV3], k1.move (by omega) hm, hR3.move hne' (by omega) hm⟩, hB5, fun j f hf => ?_⟩⟩
  simp at hf
end Go.Proofs.YtdoeinccnfggiaaDoor

namespace Go.Proofs.YtdoeinccnfggiaaDoor
open Go.RowKit Go.BigFrame

theorem cnt_zero {l : List Fld} {k : Nat} {s : ByteArray} (h : ∀ (m : Nat) g, m < k → l[m]? = some g → g.name ≠ s) : cnt (l.take k) s = 0 := by
  unfold cnt
  rw [List.length_eq_zero_iff, List.filter_eq_nil_iff]
  intro g hg
  obtain ⟨m, hm⟩ := List.mem_iff_getElem?.1 hg
  rw [List.getElem?_take] at hm
  by_cases hmk : m < k
  · rw [if_pos hmk] at hm
    simpa using h m g hmk hm
  · rw [if_neg hmk] at hm
    cases hm
theorem cnt_pos {l : List Fld} {k m : Nat} {g : Fld} {s : ByteArray} (hm : m < k) (hg : l[m]? = some g) (hs : g.name = s) : 0 < cnt (l.take k) s := by
  unfold cnt
  rw [List.length_pos_iff_exists_mem]
  refine ⟨g, List.mem_filter.2 ⟨List.mem_iff_getElem?.2 ⟨m, ?_⟩, by simpa using hs⟩⟩
  rw [List.getElem?_take, if_pos hm]
  exact hg
theorem tw_mono {t : Bool} {l : List Fld} {k : Nat} (h : tw t l k = true) : ∀ n, k ≤ n → tw t l n = true
  | 0, hn => by
    have : k = 0 := by omega
    subst this
    exact h
  | n + 1, hn => by
    by_cases hk : k = n + 1
    · rw [← hk]; exact h
    · rw [tw, tw_mono h n (by omega)]; rfl
theorem tw_bad {t : Bool} {l : List Fld} {k : Nat} {f : Fld} (hf : l[k]? = some f) (h : f.name.toList.isEmpty = true ∨ 0 < cnt (l.take k) f.name) : tw t l l.length = true := by
  refine tw_mono (k := k + 1) ?_ _ (List.getElem?_eq_some_iff.1 hf).1
  rw [tw_succ _ _ _ _ hf]
  rcases h with h | h
  · rw [h]; simp
  · rw [decide_eq_true h]; simp
/-- what the document's Define makes of the definitions -/
def defL (Ds : List (ByteArray × List Fld)) (s : ByteArray) (l : List Fld) (e : Int) : List (ByteArray × List Fld) := if e = 0 then Ds ++ [(s, l)] else Ds
theorem sumF_bound {T : List Ty} {D : ByteArray → Option (List Fld)} {K : Nat} {l : List Fld} (h : ∀ f ∈ l, deep T D K f.type) : ∀ j, j ≤ l.length → 0 ≤ sumF T D K (l.take j) ∧ sumF T D K (l.take j) ≤ 5000000 * j
  | 0, _ => by simp [sumF]
  | j + 1, hj => by
    have ih := sumF_bound h j (by omega)
    have hf : l[j]? = some l[j] := by simp
    rw [sumF_succ T D K j l l[j] hf]
    have := deep_bound K _ (h l[j] (by simp))
    omega
/-- the three appends at the end of the document's Define -/
theorem def_appends {w w1 : World} {F : Nat → Prop} {v : Value} {T : List Ty} {Ds : List (ByteArray × List Fld)} {a : Value} {B : Option Addr} {cap2 : Nat} {A : Option Addr} {l : List Fld} (h : DSt w w1 F v T Ds a (.slice B Ds.length cap2) A l)
    (hne : ∀ d ∈ Ds, 0 < d.2.length) (hF : ∀ k, F k → k < w.heap.size) (hl : 0 < l.length) (hl2 : l.length ≤ 1000) (hDs : Ds.length ≤ 1000) (s : ByteArray) (cap : Nat) :
    ∃ V1 w6 A2 c2 w7 A3 c3 w8,
      (Builtin.append_ #[42, 42] 42 #[.slice (some ⟨w1.heap.size, 0, none⟩) 0 0, .slice B Ds.length cap2]).run Tryd.prog (w1.alloc (.cells #[] 85)) = .ok V1 w6 ∧
      (Builtin.append_ #[46, 46] 46 #[.slice (some ⟨w6.heap.size, 0, none⟩) 0 0, .slice A l.length cap]).run Tryd.prog (w6.alloc (.cells #[] 71)) = .ok (.slice A2 l.length c2) w7 ∧
      (Builtin.append_ #[42, 42] 42 #[V1, .slice (some ⟨w7.heap.size, 0, none⟩) 1 1]).run Tryd.prog (w7.alloc (.cells #[.string s, .slice A2 l.length c2] 85)) = .ok (.slice A3 (Ds.length + 1) c3) w8 ∧
      (w1.alloc (.cells #[] 85)).cell? ⟨w.heap.size, 1, none⟩ = some (.slice B Ds.length cap2) ∧ w8.cell? ⟨w.heap.size, 1, none⟩ = some (.slice B Ds.length cap2) ∧ w8.frozen? ⟨w.heap.size, 1, none⟩ = false ∧
      DSt w (w8.setCell ⟨w.heap.size, 1, none⟩ (.slice A3 (Ds.length + 1) c3)) F (.agg #[a, .slice A3 (Ds.length + 1) c3]) T (Ds ++ [(s, l)]) a (.slice A3 (Ds.length + 1) c3) none [] := by
  obtain ⟨A0, c0, B0, cb0, hv, _, hRD⟩ := h.rt
  have hv' := h.hv
  rw [hv] at hv'
  injection hv' with hv'
  injection hv' with hv'
  injection hv' with hva hvb
  injection hvb with hvb _
  injection hvb with hvb _ _
  subst hvb
  obtain ⟨dl, hlen, hd1, hd2⟩ := hRD.list
  have hB0 : Below w1.heap.size w1 (w1.alloc (.cells #[] 85)) := Below.one _ _
  obtain ⟨V1, w6, hr1, ho1, hg1, hat1⟩ := run_append_defs2 (w1.alloc (.cells #[] 85)) 42 _ [] (OwnY.made w1) B0 dl cap2 ((RdV.of hlen hd1 hd2).below hB0) (by simp; omega)
  rw [hlen] at hr1
  have hB6 : Below w1.heap.size w1 w6 := hB0.grown hg1 hB0.size (fun k hk => by simp [Value.ownBlock] at hk; omega)
  have hv1 : ∀ b, V1.ownBlock = some b → w1.heap.size ≤ b := fun b hb => by
    rcases hat1 with hh | hh
    · rw [hh] at hb; simp [Value.ownBlock] at hb; omega
    · rw [hh] at hb; injection hb with hb; simp at hb; omega
  have hv1' : ∀ b, V1.ownBlock = some b → b < w6.heap.size := fun b hb => (World.ownsRow.lt ho1 b hb).2
  have hB6a : Below w1.heap.size w1 (w6.alloc (.cells #[] 71)) := hB6.alloc hB6.size _
  obtain ⟨V2, w7, hr2, ho2, hg2, hat2⟩ := run_append_fls (w6.alloc (.cells #[] 71)) 46 _ [] (OwnX.made w6) A l cap (h.fl.below hB6a) hl (by simp; omega)
  have hB7 : Below w1.heap.size w1 w7 := hB6a.grown hg2 hB6a.size (fun k hk => by simp [Value.ownBlock] at hk; have := hB6.size; omega)
  have hv2 : ∀ b, V2.ownBlock = some b → w6.heap.size ≤ b := fun b hb => by
    rcases hat2 with hh | hh
    · rw [hh] at hb; simp [Value.ownBlock] at hb; omega
    · rw [hh] at hb; injection hb with hb; simp at hb; omega
  have ho1' : w7.ownsRow 0 85 2 V1 ([] ++ dl).length (dcells ([] ++ dl)) := World.ownsRow.kept (World.ownsRow.alloc ho1 _) hg2 (.inr (by
    intro e
    have h1 := hv1' w6.heap.size (by rw [e]; simp [Value.ownBlock])
    omega))
  obtain ⟨A2, c2, hV2, hR2⟩ := ownX_rd ho2 (fun k => k < w1.heap.size) (fun b hb hh => by have := hv2 b hb; have := hB6.size; omega) hl
  have hV2l : ([] ++ l).length = l.length := rfl
  rw [hV2l] at hV2
  subst hV2
  have hB8a : Below w1.heap.size w1 (w7.alloc (.cells #[.string s, .slice A2 l.length c2] 85)) := hB7.alloc hB7.size _
  have hnew := heap_alloc_new w7 (.cells #[.string s, .slice A2 l.length c2] 85)
  obtain ⟨V3, w8, hr3, ho3, hg3, hat3⟩ := run_append_defs2 (w7.alloc (.cells #[.string s, .slice A2 l.length c2] 85)) 42 V1 ([] ++ dl) (World.ownsRow.alloc ho1' _) (some ⟨w7.heap.size, 0, none⟩) [(s, .slice A2 l.length c2)] 1 (fun j e he => by
    cases j with
    | succ j => simp at he
    | zero =>
      simp at he
      subst he
      exact ⟨⟨_, _, _, rfl⟩, _, rfl, by simp, cell_of_heap hnew 0 _ rfl, cell_of_heap hnew 1 _ rfl⟩) (by simp; omega)
  have hB8 : Below w1.heap.size w1 w8 := hB8a.grown hg3 hB8a.size hv1
  have hv3 : ∀ b, V3.ownBlock = some b → w1.heap.size ≤ b := fun b hb => by
    rcases hat3 with hh | hh
    · exact hv1 b (hh ▸ hb)
    · rw [hh] at hb; injection hb with hb; have := hB8a.size; omega
  have ho2' : w8.ownsRow 0 71 2 (.slice A2 l.length c2) l.length (fcells l) := World.ownsRow.kept (World.ownsRow.alloc ho2 _) hg3 (.inr (by
    intro e
    cases hb : (Value.slice A2 l.length c2).ownBlock with
    | none =>
      obtain ⟨b0, e0, _⟩ := hR2.1 0 (l[0]'hl) (by simp)
      rw [e0] at hb
      simp [Value.ownBlock] at hb
    | some b =>
      have h1 := hv2 b hb
      have h2 := hv1' b (by rw [← e, hb])
      omega))
  obtain ⟨A3, c3, hV3, _⟩ := own_form ho3
  have hl3 : ([] ++ dl ++ [(s, Value.slice A2 l.length c2)]).length = Ds.length + 1 := by simp [hlen]
  rw [hl3] at hV3
  subst hV3
  obtain ⟨v', rfl, hS⟩ := def_end (s := s) h hne hF hl hlen hd1 hB8 ho2' (fun b hb => Nat.le_trans hB6.size (hv2 b hb)) ho3 hv3
  have hbox := (h.later hne hB8).box
  exact ⟨V1, w6, A2, c2, w7, A3, c3, w8, hr1, hr2, hr3, cell_of_heap (alloc_keeps h.box _) 1 _ rfl, cell_of_heap hbox 1 _ rfl, free_of_heap hbox 1, hS⟩
end Go.Proofs.YtdoeinccnfggiaaDoor
