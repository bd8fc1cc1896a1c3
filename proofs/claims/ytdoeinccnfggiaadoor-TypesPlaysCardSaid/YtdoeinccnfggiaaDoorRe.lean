import Derived.Test.YtdoeinccnfggiaaDoorRd
namespace Go.Proofs.YtdoeinccnfggiaaDoor
open Go.RowKit Go.BigFrame

theorem RdF.below {w w' : World} {F : Nat → Prop} {A : Option Addr} {l : List Fld} (h : RdF w F A l) (hb : Below w.heap.size w w') (hl : 0 < l.length) : RdF w' F A l := h.move hb.size (fun k hk hn => ⟨hb.block k hk, hn⟩) hl
theorem RdD.below {w w' : World} {F : Nat → Prop} {A : Option Addr} {Ds : List (ByteArray × List Fld)} (h : RdD w F A Ds) (hne : ∀ d ∈ Ds, 0 < d.2.length) (hb : Below w.heap.size w w') : RdD w' F A Ds := h.move hne hb.size fun k hk hn => ⟨hb.block k hk, hn⟩
theorem first_of {Ds : List (ByteArray × List Fld)} (s : ByteArray) : (∀ (j : Nat) d, Ds[j]? = some d → d.1 ≠ s) ∨ ∃ (k : Nat) (d : ByteArray × List Fld), Ds[k]? = some d ∧ d.1 = s ∧ ∀ (j : Nat) e, j < k → Ds[j]? = some e → e.1 ≠ s := by
  induction Ds with
  | nil => exact .inl fun j d hd => by simp at hd
  | cons a Ds ih =>
    by_cases ha : a.1 = s
    · exact .inr ⟨0, a, rfl, ha, fun j e hj => by omega⟩
    · rcases ih with h | ⟨k, d, h1, h2, h3⟩
      · refine .inl fun j d hd => ?_
        cases j with
        | zero => simp at hd; subst hd; exact ha
        | succ j => exact h j d (by simpa using hd)
      · refine .inr ⟨k + 1, d, by simpa using h1, h2, fun j e hj he => ?_⟩
        cases j with
        | zero => simp at he; subst he; exact ha
        | succ j => exact h3 j e (by omega) (by simpa using he)
set_option maxRecDepth 1000000 in
set_option maxHeartbeats 1000000 in
/-- the document's Fields tells one value, in whatever later world it is asked -/
theorem refFields_fix {w : World} {F : Nat → Prop} {v : Value} {T : List Ty} {Ds : List (ByteArray × List Fld)} (h : RT w F v T Ds) (hne : ∀ d ∈ Ds, 0 < d.2.length) (hD : Ds.length ≤ 1000) (s : ByteArray) :
    ∃ (C : Option Addr) (c : Nat) (l : List Fld), (look Ds s).getD [] = l ∧ (look Ds s = none ∨ look Ds s = some l) ∧ RdF w F C l ∧ ∀ w1, Below w.heap.size w w1 → Calls Tryd.prog 38 #[v, .string s] w1 fun e w' => e = .returned (.tuple #[.slice C l.length c, .bool (look Ds s).isSome]) ∧ Below w1.heap.size w1 w' := by
  obtain ⟨A, cap, B, cap2, rfl, h1, h2⟩ := id h
  obtain ⟨L, hL⟩ : ∃ L, T.length = L := ⟨_, rfl⟩
  obtain ⟨L2, hL2⟩ : ∃ L2, Ds.length = L2 := ⟨_, rfl⟩
  rw [hL2] at hD
  rw [hL, hL2]
  rcases first_of (Ds := Ds) s with hno | ⟨k0, d0, hk0, hd0, hno⟩
  · have hl := look_none hno
    refine ⟨none, 0, [], by rw [hl]; rfl, .inl hl, ⟨fun j f hf => by simp at hf, fun b o s hh => by simp at hh⟩, fun w1 hw1 => ?_⟩
    rw [hl]
    clear hl
    have hbb := Below.one w1 (oT A L cap B L2 cap2)
    have q0 := heap_alloc_new w1 (oT A L cap B L2 cap2)
    obtain ⟨W, hW⟩ : ∃ W, w1.alloc (oT A L cap B L2 cap2) = W := ⟨_, rfl⟩
    rw [hW] at q0 hbb
    have a1 := cell_of_heap q0 1 (.slice B L2 cap2) rfl
    have h2W := (h2.below hne hw1).below hne hbb
    go_enter Tryd.func38, Tryd.ntmps38
    go_wp2
    clear hW
    go_loopw [6] (fun i w8 => ∃ k : Nat, k ≤ L2 ∧ i = .int .i64 k ∧ w8 = W) (fun i _ => L2 - (intOf i).toNat)
    case atStart => exact ⟨0, by omega, rfl, rfl⟩
    case round =>
      obtain ⟨k, hk, rfl, hw0⟩ := hrel
      have hw2 := hw0.symm
      subst hw2
      by_cases hlt : k < L2
      · have hd : Ds[k]? = some (Ds[k]'(by omega)) := by simp
        generalize Ds[k]'(by omega) = d at hd
        obtain ⟨b, C, c, rfl, _, _, k0, k1, _⟩ := h2W k d hd
        have hnk := hno k d hd
        cases he : (d.1.toList == s.toList)
        · go_wp2
          exact ⟨⟨k + 1, by omega, by simp, trivial⟩, by simp [intOf]; omega⟩
        · exact absurd (bytes_same he) hnk
      · obtain rfl : k = L2 := by omega
        go_wp2
        go_returns
        exact ⟨rfl, hbb⟩
  · have hl := look_some hk0 hd0 hno
    obtain ⟨b0, C, c, hB0, hlt0, hnF0, e0, e1, hRF⟩ := h2 k0 d0 hk0
    have hkL : k0 < L2 := by rw [← hL2]; exact (List.getElem?_eq_some_iff.1 hk0).1
    refine ⟨C, c, d0.2, by rw [hl]; rfl, .inr hl, hRF, fun w1 hw1 => ?_⟩
    rw [hl]
    clear hl
    have hbb := Below.one w1 (oT A L cap B L2 cap2)
    have q0 := heap_alloc_new w1 (oT A L cap B L2 cap2)
    obtain ⟨W, hW⟩ : ∃ W, w1.alloc (oT A L cap B L2 cap2) = W := ⟨_, rfl⟩
    rw [hW] at q0 hbb
    have a1 := cell_of_heap q0 1 (.slice B L2 cap2) rfl
    have h2W := (h2.below hne hw1).below hne hbb
    have hbt := hw1.trans (hbb.mono hw1.size)
    have e0W := (hbt.cell (p := ⟨b0, _, none⟩) hlt0).trans e0
    have e1W := (hbt.cell (p := ⟨b0, _, none⟩) hlt0).trans e1
    subst hB0
    go_enter Tryd.func38, Tryd.ntmps38
    go_wp2
    clear hW
    go_loopw [6] (fun i w8 => ∃ k : Nat, k ≤ k0 ∧ i = .int .i64 k ∧ w8 = W) (fun i _ => L2 - (intOf i).toNat)
    case atStart => exact ⟨0, by omega, rfl, rfl⟩
    case round =>
      obtain ⟨k, hk, rfl, hw0⟩ := hrel
      have hw2 := hw0.symm
      subst hw2
      by_cases hlt : k < k0
      · have hd : Ds[k]? = some (Ds[k]'(by omega)) := by simp
        generalize Ds[k]'(by omega) = d at hd
        obtain ⟨b, C', c', hbe, _, _, k0', k1, _⟩ := h2W k d hd
        injection hbe with hbe
        injection hbe with hbe
        subst hbe
        have hnk := hno k d hlt hd
        cases he : (d.1.toList == s.toList)
        · go_wp2
          exact ⟨⟨k + 1, by omega, by simp, trivial⟩, by simp [intOf]; omega⟩
        · exact absurd (bytes_same he) hnk
      · have hkk : k = k0 := by omega
        subst hkk
        have he : (d0.1.toList == s.toList) = true := by rw [hd0]; simp
        go_wp2
        go_returns
        exact ⟨rfl, hbb⟩
end Go.Proofs.YtdoeinccnfggiaaDoor
