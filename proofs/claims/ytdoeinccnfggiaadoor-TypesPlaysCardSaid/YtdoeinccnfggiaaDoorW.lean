import Derived.Test.YtdoeinccnfggiaaDoorO
namespace Go.Proofs.YtdoeinccnfggiaaDoor
open Go.RowKit Go.BigFrame

def deepB (T : List Ty) (D : ByteArray → Option (List Fld)) : Nat → Int → Bool
  | 0, _ => false
  | k + 1, n => match atT T n with
    | none => true
    | some x =>
      if x.kind = 5 then deepB T D k x.elem && (decide (0 ≤ (sz T D k x.elem).1 * x.n) && decide ((sz T D k x.elem).1 * x.n ≤ 5000000))
      else if x.kind = 6 then match D x.name with
        | none => true
        | some l => l.all (fun f => deepB T D k f.type) && (List.range (l.length + 1)).all (fun j => decide (0 ≤ sumF T D k (l.take j)) && decide (sumF T D k (l.take j) ≤ 5000000))
      else true
theorem deepB_deep (T : List Ty) (D : ByteArray → Option (List Fld)) : ∀ (k : Nat) (n : Int), deepB T D k n = true → deep T D k n
  | 0, _, h => by simp [deepB] at h
  | k + 1, n, h => by
    unfold deep
    intro x hx
    unfold deepB at h
    rw [hx] at h
    simp only at h
    refine ⟨fun h5 => ?_, fun h6 l hl => ?_⟩
    · rw [if_pos h5] at h
      simp only [Bool.and_eq_true, decide_eq_true_eq] at h
      exact ⟨deepB_deep T D k _ h.1, h.2⟩
    · rw [if_neg (by omega), if_pos h6, hl] at h
      simp only [Bool.and_eq_true, List.all_eq_true, List.mem_range, decide_eq_true_eq] at h
      exact ⟨fun f hf => deepB_deep T D k _ (h.1 f hf), fun j hj => h.2 j (by omega)⟩
theorem Tb.small {w : World} {p : Nat} {F : Nat → Prop} {T : List Ty} {D : ByteArray → Option (List Fld)} (h : Tb w p F T D) : Tb w p (fun k => F k ∧ k < w.heap.size) T D := by
  obtain ⟨V, M, n, g, h1, h2, h3, h4, h5, h6, h7, h8⟩ := h
  refine ⟨V, M, n, g, h1, h2, h3, ⟨h4, (Array.getElem?_eq_some_iff.1 h1).1⟩, ⟨h5, h3.lt⟩, fun b hb => ⟨h6 b hb, ?_⟩, fun s => ⟨(h7 s).1, fun l hl => ?_⟩, h8⟩
  · obtain ⟨_, _, _, hV, _⟩ := h2.form
    obtain ⟨_, _, hlt⟩ := hV b hb
    exact hlt
  · obtain ⟨b, cap, cs, e1, e2, e3, e4⟩ := (h7 s).2 l hl
    exact ⟨b, cap, cs, e1, ⟨e2, (Array.getElem?_eq_some_iff.1 e3).1⟩, e3, e4⟩
theorem Fresh.open_ {w w' : World} {p : Nat} {T : List Ty} {D : ByteArray → Option (List Fld)} (h : Fresh w w' p T D) : ∃ F : Nat → Prop, Tb w' p F T D ∧ Below w.heap.size w w' ∧ (∀ k, F k → w.heap.size ≤ k) ∧ ∀ k, F k → k < w'.heap.size := by
  obtain ⟨F, h1, h2, h3⟩ := h
  exact ⟨_, h1.small, h2, fun k hk => h3 k hk.1, fun k hk => hk.2⟩

def awT5 : List Ty := tys 4 ++ [⟨5, 1, 3, ⟨#[]⟩⟩]
def awT6 : List Ty := awT5 ++ [⟨6, 0, 0, ⟨#[115]⟩⟩]
def awL : List Fld := [⟨⟨#[97]⟩, 1⟩, ⟨⟨#[98]⟩, 4⟩]
def awD : ByteArray → Option (List Fld) := fun x => if x = ⟨#[115]⟩ then some awL else noF x
theorem aw_arr : arrL (tys 4) noF 3 1 3 = (awT5, 4, 0) := by decide +kernel
theorem aw_str : strL awT5 ⟨#[115]⟩ = (awT6, 5, 0) := by decide +kernel
theorem aw_str2 : strL awT6 ⟨#[115]⟩ = (awT6, 5, 0) := by decide +kernel
theorem aw_def : defE awT6 noF 3 ⟨#[115]⟩ awL = 0 := by decide +kernel
theorem aw_sz : sz awT6 awD 4 5 = (4, true) := by decide +kernel
theorem aw_fld : fieldT awT6 awD 3 5 ⟨#[98]⟩ = (1, 4, true) := by decide +kernel
theorem aw_d1 : deepB (tys 4) noF 3 1 = true := by decide +kernel
theorem aw_d2 : (awL.all fun f => deepB awT6 noF 3 f.type) = true := by decide +kernel
theorem aw_d3 : deepB awT6 awD 4 5 = true := by decide +kernel
end Go.Proofs.YtdoeinccnfggiaaDoor
