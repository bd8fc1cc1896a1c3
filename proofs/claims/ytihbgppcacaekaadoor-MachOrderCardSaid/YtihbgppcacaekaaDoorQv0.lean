import Derived.Test.YtihbgppcacaekaaDoorQu
/- A run's start (plain). -/
namespace Go.Proofs.YtihbgppcacaekaaDoor
open Go.RowKit Go.BigFrame
theorem byName_name {m : Im} {s : ByteArray} {o : Ob} (h : byName m s = some o) : o ∈ m.objs ∧ o.name = s := by
  unfold byName at h
  have h1 := List.find?_some h
  have h2 := List.mem_of_find?_eq_some h
  exact ⟨h2, of_decide_eq_true h1⟩
theorem eq_of_name {l : List Ob} (hnd : (l.map (·.name)).Nodup) {o o' : Ob} (h : o ∈ l) (h' : o' ∈ l) (e : o.name = o'.name) : o = o' := by
  obtain ⟨i, hi⟩ := List.mem_iff_getElem?.1 h
  obtain ⟨j, hj⟩ := List.mem_iff_getElem?.1 h'
  have hil := (List.getElem?_eq_some_iff.1 hi).1
  have hjl := (List.getElem?_eq_some_iff.1 hj).1
  have hij : i = j := (List.getElem_inj (i := i) (j := j) (h₀ := by simpa using hil) (h₁ := by simpa using hjl) hnd).1 (by
    rw [List.getElem_map, List.getElem_map, (List.getElem?_eq_some_iff.1 hi).2, (List.getElem?_eq_some_iff.1 hj).2, e])
  subst hij
  rw [hi] at hj
  exact Option.some.inj hj
theorem byName_some {m : Im} {s : ByteArray} (h : s ∈ m.objs.map (·.name)) : ∃ o, byName m s = some o := by
  unfold byName
  cases e : m.objs.find? (fun o => o.name = s) with
  | some o => exact ⟨o, rfl⟩
  | none =>
    rw [List.find?_eq_none] at e
    obtain ⟨o, ho, hn⟩ := List.mem_map.1 h
    exact absurd (decide_eq_true hn) (e o ho)
theorem bySo_of {m : Im} (h : rightM m = true) : BySo (byName m) := by
  obtain ⟨h1, _, h3, _⟩ := (rightM_iff m).1 h
  refine ⟨fun s o ho => h1 o (byName_name ho).1, fun s o ho l hl hop => byName_some (h3 o (byName_name ho).1 l hl hop)⟩
theorem top_of {m : Im} (h : rightM m = true) : 1 ≤ m.top ∧ m.top ≤ 4096 := by
  obtain ⟨_, _, _, _, _, h6, h7⟩ := (rightM_iff m).1 h
  exact ⟨h6, h7⟩
theorem ROk.start {m : Im} {inp : List Int} (h : rightM m = true) {s : ByteArray} {o : Ob} (ho : byName m s = some o) : ROk (byName m) m.top 0 ((rn0 m inp).enter o zero6) := by
  have ht := top_of h
  have hro := rightO_parts ((bySo_of h).right s o ho)
  have hr0 : (rn0 m inp).stack = [] := rfl
  have hsp : (rn0 m inp).sp = m.top := rfl
  unfold Rn.enter
  rw [hr0, hsp]
  by_cases hc : 200 ≤ (([] : List Fm).length) ∨ 4096 < m.top + o.frame
  · rw [if_pos hc]
    exact ⟨fun f hf => (by have h9 : f ∈ ([] : List Fm) := hf
                           simp at h9), trivial, rfl, ht.2, (show ([] : List Fm).length ≤ 200 by simp), Nat.le_refl _, fun hh => Bool.noConfusion (show true = false from hh)⟩
  · rw [if_neg hc]
    have hc2 : m.top + o.frame ≤ 4096 := by
      apply Classical.byContradiction
      intro h2
      exact hc (Or.inr (by omega))
    refine ⟨fun f hf => ?_, ⟨rfl, trivial⟩, rfl, hc2, by simp, Nat.le_refl _, fun _ => by simp⟩
    simp at hf
    subst hf
    exact ⟨⟨s, ho⟩, by simp, by simp; omega, by simp; omega⟩
theorem memOf_len (gs : List Gb) : (memOf gs).length = 4096 := by
  unfold memOf
  suffices h : ∀ (gs : List Gb) (M : List Int), M.length = 4096 → (gs.foldl (fun M g => if g.at_ < 4096 then M.set g.at_.toNat g.init else M) M).length = 4096 from h gs _ List.length_replicate
  intro gs
  induction gs with
  | nil => intro M h; exact h
  | cons g gs ih =>
    intro M h
    refine ih _ ?_
    show (if g.at_ < 4096 then M.set g.at_.toNat g.init else M).length = 4096
    split
    · simpa using h
    · exact h
theorem memOf_snoc (gs : List Gb) (g : Gb) : memOf (gs ++ [g]) = if g.at_ < 4096 then (memOf gs).set g.at_.toNat g.init else memOf gs := by
  unfold memOf
  rw [List.foldl_append]
  rfl
theorem iter_over {by_ : ByteArray → Option Ob} {R : Rn} (h : R.over = true) : ∀ k, R.iter by_ k = R
  | 0 => rfl
  | k + 1 => by simp [Rn.iter, h]
theorem iter_step {by_ : ByteArray → Option Ob} {R : Rn} (h : R.over = false) (k : Nat) : R.iter by_ (k + 1) = (R.step by_).iter by_ k := by simp [Rn.iter, h]
/-- the run before its first step -/
def rnJ (u : Im) (inp me : List Int) : Rn := ⟨me, [0, 0, 0, 0, 0, 0, 0, 0], u.top, 0, inp, [], false, 0, 0, []⟩
theorem rnJ_is (u : Im) (inp : List Int) : rnJ u inp (memOf u.globs) = rn0 u inp := rfl
theorem rowX_is (u : Im) (inp : List Int) (mp mb : Nat) (me : List Int) (iv : Value) : (rowX mp mb u.top iv) = (xL (rnJ u inp me) mp mb iv (.slice none 0 0) (.slice none 0 0)).toArray := rfl
theorem out_read2 {w : World} {base : Nat} {V : Value} {l : List Int} (h : w.ownsRow base 5 1 V l.length (l.map (.int .u8))) : ∃ A cap, V = .slice A l.length cap ∧ (RdB w A l ∧ l.length ≤ cap) ∧ ∀ b o, A = some ⟨b, o, none⟩ → base ≤ b := by
  have h0 := h
  obtain ⟨A, cap, e1, e2, e3⟩ := out_read h
  refine ⟨A, cap, e1, ⟨e2, ?_⟩, fun b o hA => ?_⟩
  · obtain ⟨_, h2⟩ := h0
    rcases h2 with ⟨rfl, hn⟩ | ⟨g, cap', cur, rfl, hB, hg, hnc, _⟩
    · injection e1 with _ _ e4
      omega
    · injection e1 with _ _ e4
      omega
  · obtain ⟨_, h2⟩ := h0
    rcases h2 with ⟨rfl, hn⟩ | ⟨g, cap', cur, rfl, hB, hg, hnc, _⟩
    · injection e1 with e5
      rw [← e5] at hA
      cases hA
    · injection e1 with e5
      rw [← e5] at hA
      injection hA with hA
      injection hA with hA
      omega
theorem rdb_own {w : World} {base : Nat} {A : Option Addr} {n cap : Nat} {l : List Int} (h : w.ownsRow base 5 1 (.slice A n cap) l.length (l.map (.int .u8))) : RdB w A l := by
  obtain ⟨A', cap', e1, ⟨e2, _⟩, _⟩ := out_read2 h
  injection e1 with e3
  rw [e3]
  exact e2
theorem fin3 {w W w7 : World} {rb : Nat} {A : Option Addr} {ac : Nat} {l : List Int} (how code : Int) (hr : w7.heap[rb]? = some (.cells #[.int .i64 0, .int .i64 0, .slice none 0 0] 30 (0, 0))) (h1 : w.heap.size ≤ rb) (h2 : rb < W.heap.size) (hA : RdB w7 A l) (hA2 : ∀ b o, A = some ⟨b, o, none⟩ → W.heap.size ≤ b) (hb : Below w.heap.size w w7) :
    ∀ wf, wf = ((w7.setCell ⟨rb, 0, none⟩ (.int .i64 how)).setCell ⟨rb, 1, none⟩ (.int .i64 code)).setCell ⟨rb, 2, none⟩ (.slice A l.length ac) →
      wf.cell? ⟨rb, 0, none⟩ = some (.int .i64 how) ∧ wf.cell? ⟨rb, 1, none⟩ = some (.int .i64 code) ∧ wf.cell? ⟨rb, 2, none⟩ = some (.slice A l.length ac) ∧ RdB wf A l ∧ Below w.heap.size w wf := by
  rintro wf rfl
  have hr6 := heap_setCell (j := 2) (heap_setCell (j := 1) (heap_setCell (j := 0) hr (.int .i64 how)) (.int .i64 code)) (.slice A l.length ac)
  refine ⟨cell_of_heap hr6 0 _ rfl, cell_of_heap hr6 1 _ rfl, cell_of_heap hr6 2 _ rfl, fun j n hj => ?_, ((hb.setCell (p := ⟨rb, 0, none⟩) h1 _).setCell (p := ⟨rb, 1, none⟩) h1 _).setCell (p := ⟨rb, 2, none⟩) h1 _⟩
  obtain ⟨b, o, e1, e2, e3⟩ := hA j n hj
  have hne : b ≠ rb := by have := hA2 b o e1; omega
  refine ⟨b, o, e1, by simpa using e2, ?_⟩
  rw [← e3]
  have h8 := (heap_setCell_other ((w7.setCell ⟨rb, 0, none⟩ (.int .i64 how)).setCell ⟨rb, 1, none⟩ (.int .i64 code)) ⟨rb, 2, none⟩ b (.slice A l.length ac) hne).trans ((heap_setCell_other (w7.setCell ⟨rb, 0, none⟩ (.int .i64 how)) ⟨rb, 1, none⟩ b (.int .i64 code) hne).trans (heap_setCell_other w7 ⟨rb, 0, none⟩ b (.int .i64 how) hne))
  simp [World.cell?, h8]
theorem memO_is : memO = regO (memOf []) := made_regs 4096
end Go.Proofs.YtihbgppcacaekaaDoor
