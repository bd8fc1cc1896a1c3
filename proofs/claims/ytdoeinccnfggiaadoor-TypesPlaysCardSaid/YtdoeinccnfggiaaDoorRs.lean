import Derived.Test.YtdoeinccnfggiaaDoorRq
import Derived.Test.YtdoeinccnfggiaaDoorGh
namespace Go.Proofs.YtdoeinccnfggiaaDoor
open Go.RowKit Go.BigFrame

/-- what Define tells -/
def dErr (T : List Ty) (D : ByteArray → Option (List Fld)) (K : Nat) (s : ByteArray) (l : List Fld) : Int := if (strL T s).2.2 ≠ 0 then (strL T s).2.2 else defE (strL T s).1 D K s l
theorem tw_true {l : List Fld} : ∀ (n : Nat), tw true l n = true
  | 0 => rfl
  | n + 1 => by rw [tw, tw_true n]; rfl
/-- the document's Define, whole -/
theorem refDefine_any {w : World} {F : Nat → Prop} {v : Value} {T : List Ty} {Ds : List (ByteArray × List Fld)} (h : RT w F v T Ds) (hne : ∀ d ∈ Ds, 0 < d.2.length) (hDs : Ds.length ≤ 1000) (hDl : ∀ d ∈ Ds, d.2.length ≤ 1000) (hF : ∀ k, F k → k < w.heap.size) (hT : 1 ≤ T.length ∧ T.length ≤ 256) (K : Nat) (s : ByteArray)
    (A : Option Addr) (cap : Nat) (l : List Fld) (hl : l.length ≤ 1000) (hA : FRdO w A l) (hd : ∀ f ∈ l, deep (strL T s).1 (look Ds) K f.type) (hpos : ∀ f ∈ l, (sz (strL T s).1 (look Ds) K f.type).2 = true ↔ 0 < (sz (strL T s).1 (look Ds) K f.type).1) :
    Calls Tryd.prog 30 #[v, .string s, .slice A l.length cap] w fun e w' => (∃ v', e = .returned (.tuple #[v', .int .i64 (dErr T (look Ds) K s l)]) ∧ RT w' F v' (strL T s).1 (defL Ds s l (dErr T (look Ds) K s l))) ∧ Below w.heap.size w w' := by
  unfold dErr
  by_cases he : (strL T s).2.2 = 0
  · rw [if_neg (by simpa using he)]
    cases hD : look Ds s with
    | none => exact refDefine_new h hne hDs hDl hF hT K s he hD A cap l hl hA hd hpos
    | some l' =>
      have h7 : defE (strL T s).1 (look Ds) K s l = 7 := by
        unfold defE
        rw [hD, show (some l' : Option (List Fld)).isSome = true from rfl, tw_true, if_pos rfl]
      rw [h7]
      exact refDefine_twice h hne hDs hF hT s _ he (by rw [hD]; rfl)
  · rw [if_pos he]
    have := refDefine_err h hne hF hT s (.slice A l.length cap) he
    unfold defL
    rw [if_neg he]
    exact this
/-- the program's Define, whole -/
theorem progDefine_any {w : World} {p : Nat} {F : Nat → Prop} {T : List Ty} {D : ByteArray → Option (List Fld)} (h : Tb w p F T D) (K : Nat) (s : ByteArray) (A : Option Addr) (cap : Nat) (l : List Fld) (hL : l.length ≤ 1000)
    (hR : FRd w A l) (hA : ∀ b, A = some ⟨b, 0, none⟩ → ¬ F b) (hd : ∀ f ∈ l, deep (strL T s).1 D K f.type) :
    Calls Tryd.prog 12 #[.pointer (some ⟨p, 0, none⟩), .string s, .slice A l.length cap] w fun e w' => e = .returned (.int .i64 (dErr T D K s l)) ∧ Turn w w' p F (strL T s).1 (defD D s l (dErr T D K s l)) := by
  unfold dErr
  by_cases he : (strL T s).2.2 = 0
  · rw [if_neg (by simpa using he)]
    exact define_any h K s A cap l hL hR hA he hd
  · rw [if_pos he]
    have := define_err h s (.slice A l.length cap) he
    unfold defD
    rw [if_neg he]
    exact this
theorem defE_none {T : List Ty} {D : ByteArray → Option (List Fld)} {K : Nat} {s : ByteArray} {l : List Fld} (h : defE T D K s l = 0) : D s = none ∧ 0 < l.length := by
  unfold defE at h
  by_cases ht : tw (D s).isSome l l.length = true
  · rw [if_pos ht] at h; cases h
  · rw [if_neg ht] at h
    refine ⟨?_, ?_⟩
    · have := tw_start l.length (by simpa using ht)
      simpa using this
    · by_cases ha : (l.all fun f => (sz T D K f.type).2) = false
      · rw [if_pos ha] at h; cases h
      · rw [if_neg ha] at h
        by_cases hl : l.length = 0
        · rw [if_pos hl] at h; cases h
        · omega
theorem dErr_zero {T : List Ty} {D : ByteArray → Option (List Fld)} {K : Nat} {s : ByteArray} {l : List Fld} (h : dErr T D K s l = 0) : (strL T s).2.2 = 0 ∧ defE (strL T s).1 D K s l = 0 := by
  unfold dErr at h
  by_cases he : (strL T s).2.2 = 0
  · rw [if_neg (by simpa using he)] at h
    exact ⟨he, h⟩
  · rw [if_pos he] at h
    exact absurd h he
theorem look_defL (T : List Ty) (Ds : List (ByteArray × List Fld)) (K : Nat) (s : ByteArray) (l : List Fld) : look (defL Ds s l (dErr T (look Ds) K s l)) = defD (look Ds) s l (dErr T (look Ds) K s l) := by
  unfold defL defD
  by_cases h : dErr T (look Ds) K s l = 0
  · rw [if_pos h, if_pos h]
    exact look_snoc Ds s l (defE_none (dErr_zero h).2).1
  · rw [if_neg h, if_neg h]
theorem good_define {T : List Ty} {Ds : List (ByteArray × List Fld)} {K : Nat} (h : Good T (look Ds) K) (s : ByteArray) (l : List Fld) : Good (strL T s).1 (look (defL Ds s l (dErr T (look Ds) (K + 1) s l))) (K + 2) := by
  rw [look_defL]
  by_cases he : (strL T s).2.2 = 0
  · have : dErr T (look Ds) (K + 1) s l = defE (strL T s).1 (look Ds) (K + 1) s l := by unfold dErr; rw [if_neg (by simpa using he)]
    rw [this]
    exact good_defD h s l he
  · have : dErr T (look Ds) (K + 1) s l = (strL T s).2.2 := by unfold dErr; rw [if_pos he]
    rw [this]
    unfold defD
    rw [if_neg he]
    exact (h.strL s).more
/-- the table's footprint: only blocks that are there -/
theorem Tb.clip {w : World} {p : Nat} {F : Nat → Prop} {T : List Ty} {D : ByteArray → Option (List Fld)} (h : Tb w p F T D) : Tb w p (fun k => F k ∧ k < w.heap.size) T D := by
  obtain ⟨V, M, n, g, h1, h2, h3, h4, h5, h6, h7, h8⟩ := h
  obtain ⟨_, _, _, hV, _⟩ := h2.form
  refine ⟨V, M, n, g, h1, h2, h3, ⟨h4, (Array.getElem?_eq_some_iff.1 h1).1⟩, ⟨h5, h3.lt⟩, fun b hb => ⟨h6 b hb, let ⟨_, _, x⟩ := hV b hb; x⟩, fun s => ⟨(h7 s).1, fun l hl => ?_⟩, h8⟩
  obtain ⟨b, cap, cs, e1, e2, e3, e4⟩ := (h7 s).2 l hl
  exact ⟨b, cap, cs, e1, ⟨e2, (Array.getElem?_eq_some_iff.1 e3).1⟩, e3, e4⟩
theorem Turn.clip {w w' : World} {p : Nat} {F : Nat → Prop} {T : List Ty} {D : ByteArray → Option (List Fld)} (h : Turn w w' p F T D) : ∃ F' : Nat → Prop, Tb w' p F' T D ∧ Chg w w' F ∧ (∀ k, F' k → F k ∨ w.heap.size ≤ k) ∧ ∀ k, F' k → k < w'.heap.size := by
  obtain ⟨F', h1, h2, h3⟩ := h
  exact ⟨_, h1.clip, h2, fun k hk => h3 k hk.1, fun k hk => hk.2⟩
theorem Chg.after {w w1 w2 : World} {F : Nat → Prop} (h : Chg w w1 F) (hb : Below w.heap.size w1 w2) : Chg w w2 F :=
  ⟨hb.os.trans h.os, hb.tape.trans h.tape, hb.output.trans h.output, Nat.le_trans h.size hb.size, fun k hk hn => (hb.block k hk).trans (h.block k hk hn)⟩
end Go.Proofs.YtdoeinccnfggiaaDoor

namespace Go.Proofs.YtdoeinccnfggiaaDoor
open Go.RowKit Go.BigFrame

/-- F, X, and the three blocks from q on -/
abbrev F3 (F X : Nat → Prop) (q : Nat) : Nat → Prop := fun k => F k ∨ X k ∨ (q ≤ k ∧ k < q + 3)
abbrev oS (s : Stp) (C : Option Addr) (cap : Nat) : Obj := .cells #[.int .i64 s.verb, .int .i64 s.elem, .int .i64 s.n, .string s.name, .slice C s.fields.length cap] 48
/-- both tables: the program's, in blocks of F, and the document's, in others that are not of X either -/
structure Both (w : World) (p : Nat) (F X : Nat → Prop) (v : Value) (T : List Ty) (Ds : List (ByteArray × List Fld)) : Prop where
  tb : Tb w p F T (look Ds)
  rt : RT w (fun k => F k ∨ X k) v T Ds
  lt : ∀ k, F k → k < w.heap.size
  lx : ∀ k, X k → k < w.heap.size
/-- what a step makes of both tables -/
def Turn2 (w w' : World) (p : Nat) (F X : Nat → Prop) (v : Value) (T : List Ty) (Ds : List (ByteArray × List Fld)) : Prop := ∃ F', Both w' p F' X v T Ds ∧ Chg w w' F ∧ ∀ k, F' k → F k ∨ w.heap.size ≤ k
theorem box3 (w : World) (o o' o'' : Obj) : (((w.alloc o).alloc o').alloc o'').heap[w.heap.size]? = some o ∧ (((w.alloc o).alloc o').alloc o'').heap[w.heap.size + 1]? = some o' ∧ (((w.alloc o).alloc o').alloc o'').heap[w.heap.size + 1 + 1]? = some o'' ∧
    (((w.alloc o).alloc o').alloc o'').heap.size = w.heap.size + 3 ∧ Below w.heap.size w (((w.alloc o).alloc o').alloc o'') := by
  obtain ⟨h1, h2, _⟩ := @box2 w ((w.alloc o).alloc o') o o' (Below.refl _ _)
  have h3 := heap_alloc_new ((w.alloc o).alloc o') o''
  rw [show ((w.alloc o).alloc o').heap.size = w.heap.size + 1 + 1 by simp] at h3
  exact ⟨alloc_keeps h1 _, alloc_keeps h2 _, h3, by simp, Below.three _ _ _ _⟩
/-- behind both calls: the new table goes into a block of its own, and from there into the result -/
theorem does_end {w W w1 w2 : World} {p : Nat} {F F1 X : Nat → Prop} {T1 : List Ty} {Ds1 : List (ByteArray × List Fld)} {a b : Value} (hW : Below w.heap.size w W) (hWs : W.heap.size = w.heap.size + 3) (hF : ∀ k, F k → k < w.heap.size) (hX : ∀ k, X k → k < w.heap.size)
    (t1 : Tb w1 p F1 T1 (look Ds1)) (hc : Chg W w1 F) (hF1 : ∀ k, F1 k → F k ∨ W.heap.size ≤ k) (hF1' : ∀ k, F1 k → k < w1.heap.size) (hne : ∀ d ∈ Ds1, 0 < d.2.length) (hR : RT w2 (F3 F1 X w.heap.size) (.agg #[a, b]) T1 Ds1) (hb : Below w1.heap.size w1 w2)
    (hq : w2.heap[w.heap.size + 1 + 1]? = some (oT none 0 0 none 0 0)) :
    let w3 := w2.alloc (.cells #[a, b] 44)
    w3.cell? ⟨w2.heap.size, 0, none⟩ = some a ∧ w3.cell? ⟨w2.heap.size, 1, none⟩ = some b ∧ w3.cell? ⟨w.heap.size + 1 + 1, 0, none⟩ = some (.slice none 0 0) ∧ w3.cell? ⟨w.heap.size + 1 + 1, 1, none⟩ = some (.slice none 0 0) ∧
    w3.frozen? ⟨w.heap.size + 1 + 1, 0, none⟩ = false ∧ w3.frozen? ⟨w.heap.size + 1 + 1, 1, none⟩ = false ∧
    (∀ u, (w3.setCell ⟨w.heap.size + 1 + 1, 0, none⟩ u).cell? ⟨w.heap.size + 1 + 1, 0, none⟩ = some u) ∧ (∀ u v, ((w3.setCell ⟨w.heap.size + 1 + 1, 0, none⟩ u).setCell ⟨w.heap.size + 1 + 1, 1, none⟩ v).cell? ⟨w.heap.size + 1 + 1, 1, none⟩ = some v) ∧
    ∀ u v, Turn2 w ((w3.setCell ⟨w.heap.size + 1 + 1, 0, none⟩ u).setCell ⟨w.heap.size + 1 + 1, 1, none⟩ v) p F X (.agg #[a, b]) T1 Ds1 := by
  intro w3
  have hlt : w.heap.size + 1 + 1 < w2.heap.size := (Array.getElem?_eq_some_iff.1 hq).1
  have n0 : w3.heap[w2.heap.size]? = some (.cells #[a, b] 44 (0, 0)) := heap_alloc_new w2 (.cells #[a, b] 44)
  have s1 : w3.heap[w.heap.size + 1 + 1]? = some (oT none 0 0 none 0 0) := alloc_keeps hq _
  have hb3 : Below w2.heap.size w2 w3 := Below.one w2 _
  obtain ⟨f2, f3⟩ := res_two s1
  have hs1 := hc.size
  refine ⟨cell_of_heap n0 0 _ rfl, cell_of_heap n0 1 _ rfl, cell_of_heap s1 0 _ rfl, cell_of_heap s1 1 _ rfl, free_of_heap s1 0, free_of_heap s1 1, f2, f3, fun u v => ?_⟩
  have hb13 : Below w1.heap.size w1 w3 := hb.trans (hb3.mono hb.size)
  have hb4 : Below w.heap.size w1 ((w3.setCell ⟨w.heap.size + 1 + 1, 0, none⟩ u).setCell ⟨w.heap.size + 1 + 1, 1, none⟩ v) := ((hb13.mono (by omega)).setCell (p := ⟨w.heap.size + 1 + 1, 0, none⟩) (by simp only; omega) _).setCell (p := ⟨w.heap.size + 1 + 1, 1, none⟩) (by simp only; omega) _
  have hcw : Chg w w1 F := (Chg.of_below hW F).trans hc (fun i hi => .inl hi)
  refine ⟨F1, ⟨t1.same fun k hk hlt => ?_, ((hR.below hne hb3).set2 hne (r := w.heap.size + 1 + 1) (.inr (.inr ⟨by omega, by omega⟩)) u v).less hne (fun k hk => hk.imp id .inl), fun k hk => Nat.lt_of_lt_of_le (hF1' k hk) hb4.size, fun k hk => by have := hX k hk; have := hb.size; have := hb4.size; omega⟩, hcw.after hb4, fun k hk => ?_⟩
  · have hkr : k ≠ w.heap.size + 1 + 1 := fun e => by
      rcases hF1 k hk with h | h
      · have := hF k h; omega
      · omega
    rw [set2_other hkr]
    exact hb13.block k hlt
  · rcases hF1 k hk with h | h
    · exact .inl h
    · exact .inr (by omega)
end Go.Proofs.YtdoeinccnfggiaaDoor
