import Derived.Test.YtihbgppcacaekaaDoorPa
/- PLAIN LAWS of the small machine: more fuel; the order of the objects; what is not right. -/
namespace Go.Proofs.YtihbgppcacaekaaDoor
open Go

namespace Rn
theorem iter_over (by_ : ByteArray → Option Ob) {R : Rn} (h : R.over = true) : ∀ k, iter by_ k R = R
  | 0 => rfl
  | k + 1 => by unfold iter; rw [if_pos h]
theorem iter_succ (by_ : ByteArray → Option Ob) (k : Nat) (R : Rn) : iter by_ (k + 1) R = if R.over then R else iter by_ k (R.step by_) := rfl
theorem iter_add (by_ : ByteArray → Option Ob) : ∀ (j k : Nat) (R : Rn), iter by_ (j + k) R = iter by_ k (iter by_ j R)
  | 0, k, R => by rw [Nat.zero_add]; rfl
  | j + 1, k, R => by
    rw [show j + 1 + k = (j + k) + 1 by omega, iter_succ, iter_succ]
    by_cases h : R.over = true
    · rw [if_pos h, if_pos h, iter_over by_ h]
    · rw [if_neg h, if_neg h]
      exact iter_add by_ j k (R.step by_)
theorem enter_outp (R : Rn) (o : Ob) (i : List Int) : (R.enter o i).outp = R.outp := by
  unfold enter; split <;> rfl
theorem back_outp (R : Rn) (f : Fm) (v : Int) : (R.back f v).outp = R.outp := by
  unfold back; simp only; split <;> rfl
theorem touch_outp (R : Rn) (l : Ln) : (R.touch l).outp = R.outp := by
  unfold touch; split
  · rfl
  · split <;> rfl
theorem reckon_outp (R : Rn) (f : Fm) (l : Ln) : (R.reckon f l).outp = R.outp := by
  unfold reckon
  repeat' split
  all_goals rfl
theorem stepL_outp (by_ : ByteArray → Option Ob) (R : Rn) (f : Fm) (rest : List Fm) (l : Ln) : R.outp <+: (R.stepL by_ f rest l).outp := by
  unfold stepL
  repeat' split
  all_goals first
    | exact List.prefix_append _ _
    | (rw [touch_outp]; exact List.prefix_refl _)
    | (rw [enter_outp]; exact List.prefix_refl _)
    | (rw [back_outp]; exact List.prefix_refl _)
    | (rw [reckon_outp]; exact List.prefix_refl _)
    | exact List.prefix_refl _
theorem step_outp (by_ : ByteArray → Option Ob) (R : Rn) : R.outp <+: (R.step by_).outp := by
  unfold step
  split
  · exact List.prefix_refl _
  · exact stepL_outp _ _ _ _ _
theorem iter_outp (by_ : ByteArray → Option Ob) : ∀ (k : Nat) (R : Rn), R.outp <+: (iter by_ k R).outp
  | 0, R => List.prefix_refl _
  | k + 1, R => by
    unfold iter
    split
    · exact List.prefix_refl _
    · exact (step_outp by_ R).trans (iter_outp by_ k _)
theorem res_outp (R : Rn) : R.res.outp = R.outp := by unfold res; split <;> rfl
end Rn
theorem clip_mono {a b : Int} (h : a ≤ b) : clip a ≤ clip b := by unfold clip; omega
/-- with more fuel: the same, if it ended; output that goes on -/
theorem fuel_more (m : Im) (inp : List Int) {a b : Int} (h : a ≤ b) :
    ((runM m inp a).how ≠ 4 → runM m inp b = runM m inp a) ∧ (runM m inp a).outp <+: (runM m inp b).outp := by
  unfold runM
  split
  · cases byName m mainB with
    | none => exact ⟨fun _ => rfl, List.prefix_refl _⟩
    | some o =>
      simp only
      obtain ⟨j, hj⟩ : ∃ j, clip b = clip a + j := ⟨clip b - clip a, by have := clip_mono h; omega⟩
      rw [hj, Rn.iter_add]
      refine ⟨fun hne => ?_, ?_⟩
      · by_cases ho : (((rn0 m inp).enter o zero6).iter (byName m) (clip a)).over = true
        · rw [Rn.iter_over _ ho]
        · exact absurd (by unfold Rn.res; rw [if_neg ho]) hne
      · rw [Rn.res_outp, Rn.res_outp]
        exact Rn.iter_outp _ _ _
  · exact ⟨fun _ => rfl, List.prefix_refl _⟩

/-! the order -/
/-- images of the same functions in another order, of the same globals but for their names -/
structure Alike (m v : Im) : Prop where
  perm : m.objs.Perm v.objs
  globs : m.globs.map (fun g => (g.at_, g.size, g.init)) = v.globs.map (fun g => (g.at_, g.size, g.init))
  top : m.top = v.top
theorem memB_perm {s : ByteArray} {l k : List ByteArray} (h : l.Perm k) : memB s l = memB s k := by
  have : (memB s l = true) ↔ (memB s k = true) := by rw [memB_iff, memB_iff]; exact h.mem_iff
  cases e : memB s l <;> cases f : memB s k <;> simp_all
theorem all_perm {α : Type} {p : α → Bool} {l k : List α} (h : l.Perm k) : l.all p = k.all p := by
  have : (l.all p = true) ↔ (k.all p = true) := by
    rw [List.all_eq_true, List.all_eq_true]
    exact ⟨fun hh x hx => hh x (h.mem_iff.2 hx), fun hh x hx => hh x (h.mem_iff.1 hx)⟩
  cases e : l.all p <;> cases f : k.all p <;> simp_all
theorem globs_all (t : Int) : ∀ (a b : List Gb), a.map (fun g => (g.at_, g.size, g.init)) = b.map (fun g => (g.at_, g.size, g.init)) → a.all (globOk t) = b.all (globOk t)
  | [], [], _ => rfl
  | [], _ :: _, h => by simp at h
  | _ :: _, [], h => by simp at h
  | x :: a, y :: b, h => by
    simp only [List.map_cons, List.cons.injEq, Prod.mk.injEq] at h
    obtain ⟨⟨h1, h2, h3⟩, h4⟩ := h
    rw [List.all_cons, List.all_cons, globs_all t a b h4]
    unfold globOk
    rw [h1, h2, h3]
theorem Alike.right {m v : Im} (h : Alike m v) : rightM m = rightM v := by
  have hn : (m.objs.map (·.name)).Perm (v.objs.map (·.name)) := h.perm.map _
  unfold rightM
  rw [all_perm h.perm, show decide (m.objs.map (·.name)).Nodup = decide (v.objs.map (·.name)).Nodup from decide_eq_decide.2 hn.nodup_iff, globs_all m.top _ _ h.globs, h.top, h.perm.length_eq, all_perm h.perm,
    show (fun o : Ob => o.lines.all fun l => !decide (l.op = 12) || memB l.text (m.objs.map (·.name))) = (fun o : Ob => o.lines.all fun l => !decide (l.op = 12) || memB l.text (v.objs.map (·.name))) from by
      funext o; congr 1; funext l; rw [memB_perm hn]]
theorem find_mem {l : List Ob} (hnd : (l.map (·.name)).Nodup) {o : Ob} (ho : o ∈ l) : l.find? (fun x => x.name = o.name) = some o := by
  induction l with
  | nil => cases ho
  | cons x t ih =>
    rw [List.map_cons, List.nodup_cons] at hnd
    rcases List.mem_cons.1 ho with rfl | h
    · simp
    · have hne : x.name ≠ o.name := fun e => hnd.1 (by rw [e]; exact List.mem_map_of_mem h)
      rw [List.find?_cons_of_neg (by simpa using hne)]
      exact ih hnd.2 h
theorem byName_perm {m v : Im} (h : m.objs.Perm v.objs) (hnd : (m.objs.map (·.name)).Nodup) (s : ByteArray) : byName m s = byName v s := by
  unfold byName
  have hnv : (v.objs.map (·.name)).Nodup := (h.map _).nodup_iff.1 hnd
  cases e : m.objs.find? (fun o => decide (o.name = s)) with
  | some o =>
    have h1 := List.find?_some e
    have h2 := List.mem_of_find?_eq_some e
    have h3 : o.name = s := by simpa using h1
    have h4 := find_mem hnv (h.mem_iff.1 h2)
    rw [h3] at h4
    exact h4.symm
  | none =>
    rw [List.find?_eq_none] at e
    symm
    rw [List.find?_eq_none]
    exact fun x hx => e x (h.mem_iff.2 hx)
theorem memOf_alike : ∀ (a b : List Gb) (M : List Int), a.map (fun g => (g.at_, g.size, g.init)) = b.map (fun g => (g.at_, g.size, g.init)) →
    a.foldl (fun M g => if g.at_ < 4096 then M.set g.at_.toNat g.init else M) M = b.foldl (fun M g => if g.at_ < 4096 then M.set g.at_.toNat g.init else M) M
  | [], [], _, _ => rfl
  | [], _ :: _, _, h => by simp at h
  | _ :: _, [], _, h => by simp at h
  | x :: a, y :: b, M, h => by
    simp only [List.map_cons, List.cons.injEq, Prod.mk.injEq] at h
    obtain ⟨⟨h1, h2, h3⟩, h4⟩ := h
    rw [List.foldl_cons, List.foldl_cons, h1, h3]
    exact memOf_alike a b _ h4
theorem rightM_nodup {m : Im} (h : rightM m = true) : (m.objs.map (·.name)).Nodup := by
  unfold rightM at h
  simp only [Bool.and_eq_true] at h
  exact of_decide_eq_true h.1.1.1.2
theorem rightM_all {m : Im} (h : rightM m = true) : ∀ o ∈ m.objs, rightO o = true := by
  unfold rightM at h
  simp only [Bool.and_eq_true] at h
  exact List.all_eq_true.1 h.1.1.1.1
theorem Alike.run {m v : Im} (h : Alike m v) (inp : List Int) (fuel : Int) : runM m inp fuel = runM v inp fuel := by
  unfold runM
  by_cases hr : rightM m = true
  · rw [if_pos hr, if_pos (by rw [← h.right]; exact hr)]
    have hb : byName m = byName v := funext fun s => byName_perm h.perm (rightM_nodup hr) s
    rw [hb, show rn0 m inp = rn0 v inp from by unfold rn0 memOf; rw [memOf_alike _ _ _ h.globs, h.top]]
  · rw [if_neg hr, if_neg (by rw [← h.right]; exact hr)]

/-! what is not right -/
theorem run_not (m : Im) (inp : List Int) (fuel : Int) (h : rightM m = false ∨ ∀ o ∈ m.objs, o.name ≠ mainB) : runM m inp fuel = ⟨4, 0, []⟩ := by
  unfold runM
  rcases h with h | h
  · rw [h]; rfl
  · split
    · rw [show byName m mainB = none from List.find?_eq_none.2 fun o ho => by simpa using h o ho]
    · rfl
theorem twice_not (m : Im) (o : Ob) (ho : o ∈ m.objs) : rightM { m with objs := m.objs ++ [o] } = false := by
  cases e : rightM { m with objs := m.objs ++ [o] } with
  | false => rfl
  | true =>
    have := rightM_nodup e
    rw [List.map_append, List.nodup_append] at this
    exact absurd rfl (this.2.2 o.name (List.mem_map_of_mem ho) o.name (by simp))
end Go.Proofs.YtihbgppcacaekaaDoor
