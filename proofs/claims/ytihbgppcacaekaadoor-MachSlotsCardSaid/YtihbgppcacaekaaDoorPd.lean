import Derived.Test.YtihbgppcacaekaaDoorPc
/- PLAIN LAW of the small machine: slots are a call's own. -/
namespace Go.Proofs.YtihbgppcacaekaaDoor
open Go

def fB : ByteArray := ⟨#[102]⟩
def subL : List Ln := [⟨11, 0, 0, 0, 0, eB⟩, ⟨9, 0, 0, 0, 0, eB⟩, ⟨17, 0, 0, 0, 5, eB⟩, ⟨1, 1, 0, 0, 0, eB⟩, ⟨18, 0, 1, 0, 0, eB⟩, ⟨1, 1, 0, 0, 1, eB⟩, ⟨3, 0, 0, 1, 2, eB⟩, ⟨10, 0, 0, 0, 0, eB⟩, ⟨12, 0, 0, 0, 0, fB⟩, ⟨13, 2, 0, 0, 0, eB⟩, ⟨8, 3, 0, 0, 0, eB⟩, ⟨3, 2, 2, 3, 1, eB⟩, ⟨18, 0, 2, 0, 0, eB⟩]
def subO : Ob := ⟨fB, 1, 0, subL⟩
def topL (k : Int) : List Ln := [⟨1, 0, 0, 0, k, eB⟩, ⟨10, 0, 0, 0, 0, eB⟩, ⟨12, 0, 0, 0, 0, fB⟩, ⟨13, 1, 0, 0, 0, eB⟩, ⟨18, 0, 1, 0, 0, eB⟩]
def slotI (k : Int) : Im := ⟨[subO, mainO (topL k)], [], 1⟩
theorem top_right {k : Int} (h : isWd k = true) : rightO (mainO (topL k)) = true := by
  unfold rightO
  have h1 : (mainO (topL k)).lines.all (fun l => rightL l (mainO (topL k))) = true := by
    show (topL k).all _ = true
    unfold topL
    simp only [List.all_cons, List.all_nil, li_right (Or.inl rfl) h, Bool.true_and, Bool.and_true]
    rfl
  rw [h1]
  rfl
theorem slot_right {k : Int} (h : isWd k = true) : rightM (slotI k) = true := by
  have h1 : (slotI k).objs.all rightO = true := by
    show [subO, mainO (topL k)].all rightO = true
    simp only [List.all_cons, List.all_nil, top_right h, show rightO subO = true by decide, Bool.and_self]
  unfold rightM
  rw [h1]
  rfl
theorem slot_f (k : Int) : byName (slotI k) fB = some subO := by
  unfold byName slotI
  rw [List.find?_cons_of_pos (by simp [subO])]
theorem slot_main (k : Int) : byName (slotI k) mainB = some (mainO (topL k)) := by
  unfold byName slotI
  rw [List.find?_cons_of_neg (by simp [subO]; decide), List.find?_cons_of_pos (by simp [mainO])]
def fr (n sl at_ : Int) : Fm := ⟨subO, [sl], [n, 0, 0, 0, 0, 0], zero6, 1, at_⟩
def slR (M : List Int) (rg : List Int) (t : Int) (T : List Fm) : Rn := ⟨M, rg, 1, t, [], T, false, 0, 0, []⟩
def tri (n : Nat) : Int := ((n * (n + 1) / 2 : Nat) : Int)
section
variable {B : ByteArray → Option Ob} {M : List Int}
theorem call_step (hB : B fB = some subO) (a b c d e f g h t n : Int) (T : List Fm) :
    Rn.step B (slR M [a, b, c, d, e, f, g, h] t (⟨subO, [n], [n, 0, 0, 0, 0, 0], [a, 0, 0, 0, 0, 0], 1, 8⟩ :: T)) =
      (slR M [a, b, c, d, e, f, g, h] t (fr n n 9 :: T)).enter subO [a, 0, 0, 0, 0, 0] := by
  rw [Rn.step_is (f := ⟨subO, [n], [n, 0, 0, 0, 0, 0], [a, 0, 0, 0, 0, 0], 1, 8⟩) (tl := T) (i := ⟨12, 0, 0, 0, 0, fB⟩) rfl rfl]
  show (match B fB with | some o => _ | none => _) = _
  rw [hB]
  rfl
theorem bnz_step (R : Rn) (f : Fm) (rest : List Fm) (l : Ln) (B : ByteArray → Option Ob) (h : l.op = 17) (hne : R.rg l.a ≠ 0) : R.stepL B f rest l = R.top { f with at_ := l.n } rest := by
  unfold Rn.stepL
  simp [h, hne]
theorem down7 (hB : B fB = some subO) (a b c d e f g h t : Int) (n : Nat) (hn : n ≤ 255) (T : List Fm) (k : Nat) :
    Rn.iter B (k + 7) (slR M [a, b, c, d, e, f, g, h] t (fr ((n : Int) + 1) 0 0 :: T)) =
      Rn.iter B k ((slR M [(n : Int), 1, c, d, e, f, g, h] t (fr ((n : Int) + 1) ((n : Int) + 1) 9 :: T)).enter subO [(n : Int), 0, 0, 0, 0, 0]) := by
  have h1 : Rn.step B (Rn.step B (slR M [a, b, c, d, e, f, g, h] t (fr ((n : Int) + 1) 0 0 :: T))) = slR M [(n : Int) + 1, b, c, d, e, f, g, h] t (fr ((n : Int) + 1) ((n : Int) + 1) 2 :: T) := rfl
  have h2 : Rn.step B (slR M [(n : Int) + 1, b, c, d, e, f, g, h] t (fr ((n : Int) + 1) ((n : Int) + 1) 2 :: T)) = slR M [(n : Int) + 1, b, c, d, e, f, g, h] t (fr ((n : Int) + 1) ((n : Int) + 1) 5 :: T) := by
    rw [Rn.step_is (f := fr ((n : Int) + 1) ((n : Int) + 1) 2) (tl := T) (i := ⟨17, 0, 0, 0, 5, eB⟩) rfl rfl, bnz_step (slR M [(n : Int) + 1, b, c, d, e, f, g, h] t (fr ((n : Int) + 1) ((n : Int) + 1) 2 :: T)) (fr ((n : Int) + 1) ((n : Int) + 1) 2) T ⟨17, 0, 0, 0, 5, eB⟩ B rfl (show (n : Int) + 1 ≠ 0 by omega)]
    rfl
  have h3 : Rn.step B (Rn.step B (slR M [(n : Int) + 1, b, c, d, e, f, g, h] t (fr ((n : Int) + 1) ((n : Int) + 1) 5 :: T))) = slR M [wr (wr ((n : Int) + 1) - wr 1), 1, c, d, e, f, g, h] t (fr ((n : Int) + 1) ((n : Int) + 1) 7 :: T) := rfl
  have hw : wr (wr ((n : Int) + 1) - wr 1) = n := by unfold wr; omega
  have h4 : Rn.step B (slR M [(n : Int), 1, c, d, e, f, g, h] t (fr ((n : Int) + 1) ((n : Int) + 1) 7 :: T)) = slR M [(n : Int), 1, c, d, e, f, g, h] t (⟨subO, [(n : Int) + 1], [(n : Int) + 1, 0, 0, 0, 0, 0], [(n : Int), 0, 0, 0, 0, 0], 1, 8⟩ :: T) := rfl
  rw [show k + 7 = k + 1 + 1 + 1 + 1 + 1 + 1 + 1 by omega, iter_next rfl, iter_next rfl, h1, iter_next rfl, h2, iter_next rfl, iter_next rfl, h3, hw, iter_next rfl, h4, iter_next rfl, call_step hB]
theorem base5 (a b c d e f g h t : Int) (T : List Fm) (hT : T ≠ []) (k : Nat) :
    Rn.iter B (k + 5) (slR M [a, b, c, d, e, f, g, h] t (fr 0 0 0 :: T)) = Rn.iter B k (slR M [0, 0, c, d, e, f, g, h] 0 T) := by
  obtain ⟨x, T', rfl⟩ : ∃ x T', T = x :: T' := by
    cases T with
    | nil => exact absurd rfl hT
    | cons x T' => exact ⟨x, T', rfl⟩
  have h1 : Rn.step B (Rn.step B (Rn.step B (Rn.step B (Rn.step B (slR M [a, b, c, d, e, f, g, h] t (fr 0 0 0 :: x :: T')))))) = slR M [0, 0, c, d, e, f, g, h] 0 (x :: T') := rfl
  rw [show k + 5 = k + 1 + 1 + 1 + 1 + 1 by omega, iter_next rfl, iter_next rfl, iter_next rfl, iter_next rfl, iter_next rfl, h1]
theorem up4 (a b c d e f g h t n : Int) (T : List Fm) (hT : T ≠ []) (k : Nat) :
    Rn.iter B (k + 4) (slR M [a, b, c, d, e, f, g, h] t (fr n n 9 :: T)) = Rn.iter B k (slR M [a, b, wr (wr t + wr n), n, e, f, g, h] (wr (wr t + wr n)) T) := by
  obtain ⟨x, T', rfl⟩ : ∃ x T', T = x :: T' := by
    cases T with
    | nil => exact absurd rfl hT
    | cons x T' => exact ⟨x, T', rfl⟩
  have h1 : Rn.step B (Rn.step B (Rn.step B (Rn.step B (slR M [a, b, c, d, e, f, g, h] t (fr n n 9 :: x :: T'))))) = slR M [a, b, wr (wr t + wr n), n, e, f, g, h] (wr (wr t + wr n)) (x :: T') := rfl
  rw [show k + 4 = k + 1 + 1 + 1 + 1 by omega, iter_next rfl, iter_next rfl, iter_next rfl, iter_next rfl, h1]
theorem enter_ok (rg : List Int) (t : Int) (T : List Fm) (n : Int) (hT : T.length < 200) : (slR M rg t T).enter subO [n, 0, 0, 0, 0, 0] = slR M rg t (fr n 0 0 :: T) := by
  unfold Rn.enter
  rw [if_neg (by
    rintro (h | h)
    · have h' : 200 ≤ T.length := h
      omega
    · have h' : (4096 : Int) < 1 + 0 := h
      omega)]
  rfl
theorem enter_full (rg : List Int) (t : Int) (T : List Fm) (i : List Int) (hT : 200 ≤ T.length) : (slR M rg t T).enter subO i = ⟨M, rg, 1, t, [], T, true, 3, 0, []⟩ := by
  unfold Rn.enter
  rw [if_pos (show 200 ≤ (slR M rg t T).stack.length ∨ _ from Or.inl hT)]
  rfl
theorem tri_next (n : Nat) (hn : n ≤ 255) : wr (wr (tri n) + wr ((n : Int) + 1)) = tri (n + 1) := by
  have h1 : n * (n + 1) / 2 + (n + 1) = (n + 1) * (n + 1 + 1) / 2 := by
    rw [show (n + 1) * (n + 1 + 1) = n * (n + 1) + (n + 1) * 2 by
      rw [Nat.add_mul, Nat.mul_add n, Nat.mul_add n, Nat.add_mul]; omega]
    rw [Nat.add_mul_div_right _ _ (by decide)]
  have h2 : n * (n + 1) / 2 ≤ 255 * 256 := by
    have : n * (n + 1) ≤ 255 * 256 := Nat.mul_le_mul hn (by omega)
    omega
  unfold tri
  rw [← h1]
  generalize n * (n + 1) / 2 = q at h2 ⊢
  unfold wr
  omega
theorem down_up (hB : B fB = some subO) : ∀ (n : Nat) (T : List Fm) (a b c d e f g h t : Int) (k : Nat), n ≤ 255 → T ≠ [] → T.length + 1 + n ≤ 200 →
    ∃ a' b' c' d', Rn.iter B (k + (11 * n + 5)) (slR M [a, b, c, d, e, f, g, h] t (fr n 0 0 :: T)) = Rn.iter B k (slR M [a', b', c', d', e, f, g, h] (tri n) T)
  | 0, T, a, b, c, d, e, f, g, h, t, k, _, hT, _ => ⟨_, _, _, _, base5 a b c d e f g h t T hT k⟩
  | n + 1, T, a, b, c, d, e, f, g, h, t, k, hn, hT, hl => by
    obtain ⟨a', b', c', d', ih⟩ := down_up hB n (fr ((n : Int) + 1) ((n : Int) + 1) 9 :: T) n 1 c d e f g h t (k + 4) (by omega) (by simp) (by simp; omega)
    refine ⟨a', b', tri (n + 1), (n : Int) + 1, ?_⟩
    rw [show k + (11 * (n + 1) + 5) = k + 4 + (11 * n + 5) + 7 by omega, show ((n + 1 : Nat) : Int) = (n : Int) + 1 by omega, down7 hB a b c d e f g h t n (by omega) T, enter_ok _ _ _ _ (by simp; omega), ih, up4 _ _ _ _ _ _ _ _ _ _ T hT, tri_next n (by omega)]
theorem down_full (hB : B fB = some subO) : ∀ (n : Nat) (T : List Fm) (a b c d e f g h t : Int), n ≤ 255 → T.length + 1 ≤ 200 → 200 < T.length + 1 + n →
    ∃ j, j ≤ 7 * n ∧ ∀ k, (Rn.iter B (k + j) (slR M [a, b, c, d, e, f, g, h] t (fr n 0 0 :: T))).res = ⟨3, 0, []⟩
  | 0, T, _, _, _, _, _, _, _, _, _, _, h1, h2 => by omega
  | n + 1, T, a, b, c, d, e, f, g, h, t, hn, h1, h2 => by
    by_cases hf : 200 ≤ T.length + 1
    · refine ⟨7, by omega, fun k => ?_⟩
      rw [show ((n + 1 : Nat) : Int) = (n : Int) + 1 by omega, down7 hB a b c d e f g h t n (by omega) T k, enter_full _ _ _ _ (by simpa using hf), Rn.iter_over _ rfl]
      rfl
    · obtain ⟨j, hj, hk⟩ := down_full hB n (fr ((n : Int) + 1) ((n : Int) + 1) 9 :: T) n 1 c d e f g h t (by omega) (by simp; omega) (by simp; omega)
      refine ⟨j + 7, by omega, fun k => ?_⟩
      rw [show k + (j + 7) = k + j + 7 by omega, show ((n + 1 : Nat) : Int) = (n : Int) + 1 by omega, down7 hB a b c d e f g h t n (by omega) T, enter_ok _ _ _ _ (by simp; omega)]
      exact hk k
end
def mfr (k at_ : Int) : Fm := ⟨mainO (topL k), [], zero6, zero6, 1, at_⟩
theorem slot_start (k : Nat) (hk : k ≤ 255) :
    runM (slotI k) [] 20000 = (Rn.iter (byName (slotI k)) 19997 (slR (memOf []) [(k : Int), 0, 0, 0, 0, 0, 0, 0] 0 [fr k 0 0, mfr k 3])).res := by
  have hw : isWd (k : Int) = true := by unfold isWd; exact decide_eq_true (by omega)
  unfold runM
  rw [if_pos (slot_right hw), slot_main]
  obtain ⟨B, hB⟩ : ∃ B, byName (slotI k) = B := ⟨_, rfl⟩
  have hf := slot_f (k : Int)
  rw [hB] at hf ⊢
  simp only
  have h0 : (rn0 (slotI k) []).enter (mainO (topL k)) zero6 = slR (memOf []) [0, 0, 0, 0, 0, 0, 0, 0] 0 [mfr k 0] := rfl
  rw [h0]
  generalize memOf [] = M
  have h1 : Rn.step B (Rn.step B (slR M [0, 0, 0, 0, 0, 0, 0, 0] 0 [mfr k 0])) = slR M [(k : Int), 0, 0, 0, 0, 0, 0, 0] 0 [⟨mainO (topL k), [], zero6, [(k : Int), 0, 0, 0, 0, 0], 1, 2⟩] := rfl
  have h2 : Rn.step B (slR M [(k : Int), 0, 0, 0, 0, 0, 0, 0] 0 [⟨mainO (topL k), [], zero6, [(k : Int), 0, 0, 0, 0, 0], 1, 2⟩]) = (slR M [(k : Int), 0, 0, 0, 0, 0, 0, 0] 0 [mfr k 3]).enter subO [(k : Int), 0, 0, 0, 0, 0] := by
    rw [Rn.step_is (f := ⟨mainO (topL k), [], zero6, [(k : Int), 0, 0, 0, 0, 0], 1, 2⟩) (tl := []) (i := ⟨12, 0, 0, 0, 0, fB⟩) rfl rfl]
    show (match B fB with | some o => _ | none => _) = _
    rw [hf]
    rfl
  rw [show clip 20000 = 19997 + 1 + 1 + 1 by unfold clip; omega, iter_next rfl, iter_next rfl, h1, iter_next rfl, h2, enter_ok _ _ _ _ (by simp)]
theorem slots_run (k : Nat) (hk : k ≤ 255) : runM (slotI k) [] 20000 = if 200 < k + 2 then ⟨3, 0, []⟩ else ⟨1, tri k, []⟩ := by
  rw [slot_start k hk]
  have hB := slot_f (k : Int)
  by_cases hf : 200 < k + 2
  · rw [if_pos hf]
    obtain ⟨j, hj, h⟩ := down_full (M := memOf []) hB k [mfr k 3] k 0 0 0 0 0 0 0 0 hk (by simp) (by simp; omega)
    have := h (19997 - j)
    rw [show 19997 - j + j = 19997 by omega] at this
    exact this
  · rw [if_neg hf]
    obtain ⟨a, b, c, d, h⟩ := down_up (M := memOf []) hB k [mfr k 3] k 0 0 0 0 0 0 0 0 (19997 - (11 * k + 5)) hk (by simp) (by simp; omega)
    rw [show 19997 - (11 * k + 5) + (11 * k + 5) = 19997 by omega] at h
    rw [h, show 19997 - (11 * k + 5) = (19997 - (11 * k + 5) - 2) + 1 + 1 by omega]
    generalize memOf [] = M
    generalize byName (slotI k) = B
    have h1 : Rn.step B (Rn.step B (slR M [a, b, c, d, 0, 0, 0, 0] (tri k) [mfr k 3])) = ⟨M, [a, tri k, c, d, 0, 0, 0, 0], 1, tri k, [], [], true, 1, tri k, []⟩ := rfl
    rw [iter_next rfl, iter_next rfl, h1, Rn.iter_over _ rfl]
    rfl
end Go.Proofs.YtihbgppcacaekaaDoor
