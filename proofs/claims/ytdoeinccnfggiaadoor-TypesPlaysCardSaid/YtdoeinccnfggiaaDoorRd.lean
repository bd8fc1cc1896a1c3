import Derived.Test.YtdoeinccnfggiaaDoorRc
namespace Go.Proofs.YtdoeinccnfggiaaDoor
open Go.RowKit Go.BigFrame

theorem size_zero {s : ByteArray} (h : s.size = 0) : s = ⟨#[]⟩ := by
  cases s with
  | mk d =>
    have : d.size = 0 := h
    rw [Array.eq_empty_of_size_eq_zero this]
set_option maxRecDepth 1000000 in
set_option maxHeartbeats 1000000 in
/-- the document's Struct -/
theorem refStruct_any {w : World} {F : Nat → Prop} {v : Value} {T : List Ty} {Ds : List (ByteArray × List Fld)} (h : RT w F v T Ds) (hne : ∀ d ∈ Ds, 0 < d.2.length) (hF : ∀ k, F k → k < w.heap.size) (hT : 1 ≤ T.length ∧ T.length ≤ 256) (s : ByteArray) :
    Calls Tryd.prog 29 #[v, .string s] w fun e w' => (∃ v', e = .returned (.tuple #[v', .int .i64 (strL T s).2.1, .int .i64 (strL T s).2.2]) ∧ RT w' F v' (strL T s).1 Ds) ∧ Below w.heap.size w w' := by
  obtain ⟨A, cap, B, cap2, rfl, h1, h2⟩ := id h
  obtain ⟨L, hL⟩ : ∃ L, T.length = L := ⟨_, rfl⟩
  obtain ⟨L2, hL2⟩ : ∃ L2, Ds.length = L2 := ⟨_, rfl⟩
  rw [hL, hL2] at h
  rw [hL, hL2]
  clear hL hL2 h1 h2
  have hbx := @box2 w ((w.alloc (oT A L cap B L2 cap2)).alloc (oT none 0 0 none 0 0)) (oT A L cap B L2 cap2) (oT none 0 0 none 0 0) (Below.refl _ _)
  obtain ⟨q0, q1, hbb⟩ := hbx
  obtain ⟨W, hW⟩ : ∃ W, (w.alloc (oT A L cap B L2 cap2)).alloc (oT none 0 0 none 0 0) = W := ⟨_, rfl⟩
  rw [hW] at q0 q1 hbb
  have a0 := cell_of_heap q0 0 (.slice A L cap) rfl
  have a1 := cell_of_heap q0 1 (.slice B L2 cap2) rfl
  unfold strL
  by_cases hz : s.size = 0
  · have hs := size_zero hz
    rw [if_pos hs]
    have q1' : ((s.size : Int) == 0) = true := by simp [hz]
    clear hs
    have r0 := cell_of_heap q1 0 (.slice none 0 0) rfl
    have r1 := cell_of_heap q1 1 (.slice none 0 0) rfl
    have z0 := free_of_heap q1 0
    have z1 := free_of_heap q1 1
    obtain ⟨f2, f3⟩ := res_two q1
    go_enter Tryd.func29, Tryd.ntmps29
    go_wp2
    (try simp only [Exit.inBlock, Exit.then])
    have hB : ∀ u v, Below w.heap.size w ((W.setCell ⟨w.heap.size + 1, 0, none⟩ u).setCell ⟨w.heap.size + 1, 1, none⟩ v) := fun u v => (hbb.setCell (p := ⟨w.heap.size + 1, 0, none⟩) (by simp) u).setCell (p := ⟨w.heap.size + 1, 1, none⟩) (by simp) v
    refine bodyPost_ret (by simp [results, Tryd.results29, go_sem, f2, f3]; try rfl) rfl ?_
    exact ⟨⟨_, rfl, h.below hne (hB _ _)⟩, hB _ _⟩
  · have hs : s ≠ ⟨#[]⟩ := fun e => hz (by rw [e]; rfl)
    rw [if_neg hs]
    have q1' : ((s.size : Int) == 0) = false := by simp [hz]
    clear hs
    go_enter Tryd.func29, Tryd.ntmps29
    go_wp2_with (first
      | (go_at_call 37; refine (refPut_any (h.avoid hne hbb (r := w.heap.size + 1) (Nat.le_add_right _ _)) hne (fun k hk => by rcases hk with hk | rfl; exact Nat.lt_of_lt_of_le (hF k hk) hbb.size; exact (Array.getElem?_eq_some_iff.1 q1).1) hT ⟨6, 0, 0, s⟩).mono ?_; rintro e w2 ⟨⟨v2, rfl, hR2⟩, hb2'⟩; obtain ⟨A3, c3, B3, c4, rfl, k1, k2⟩ := id hR2; have q2 := (hb2'.block _ (Array.getElem?_eq_some_iff.1 q1).1).trans q1; have r0 := cell_of_heap q2 0 (.slice none 0 0) rfl; have r1 := cell_of_heap q2 1 (.slice none 0 0) rfl; have z0 := free_of_heap q2 0; have z1 := free_of_heap q2 1; obtain ⟨f2, f3⟩ := res_two q2))
    (try simp only [Exit.inBlock, Exit.then])
    have hbw := hbb.trans (hb2'.mono hbb.size)
    have hB : ∀ u v, Below w.heap.size w ((w2.setCell ⟨w.heap.size + 1, 0, none⟩ u).setCell ⟨w.heap.size + 1, 1, none⟩ v) := fun u v => (hbw.setCell (p := ⟨w.heap.size + 1, 0, none⟩) (by simp) u).setCell (p := ⟨w.heap.size + 1, 1, none⟩) (by simp) v
    refine bodyPost_ret (by simp [results, Tryd.results29, go_sem, f2, f3]; try rfl) rfl ?_
    exact ⟨⟨_, rfl, hR2.stored hne _ _⟩, hB _ _⟩
/-- the fields of a struct that is defined -/
def look (Ds : List (ByteArray × List Fld)) (s : ByteArray) : Option (List Fld) := (Ds.find? (fun d => decide (d.1 = s))).map (·.2)
theorem look_none {Ds : List (ByteArray × List Fld)} {s : ByteArray} (h : ∀ (j : Nat) d, Ds[j]? = some d → d.1 ≠ s) : look Ds s = none := by
  unfold look
  rw [List.find?_eq_none.2, Option.map_none]
  intro d hd
  obtain ⟨j, hj⟩ := List.mem_iff_getElem?.1 hd
  simpa using h j d hj
theorem look_some : ∀ {Ds : List (ByteArray × List Fld)} {s : ByteArray} {k : Nat} {d : ByteArray × List Fld}, Ds[k]? = some d → d.1 = s → (∀ (j : Nat) e, j < k → Ds[j]? = some e → e.1 ≠ s) → look Ds s = some d.2
  | [], _, _, _, h, _, _ => by simp at h
  | e :: Ds, s, 0, d, h, hd, _ => by
    simp at h
    subst h
    simp [look, hd]
  | e :: Ds, s, k + 1, d, h, hd, hn => by
    have := hn 0 e (by omega) rfl
    have ih := look_some (Ds := Ds) (s := s) (k := k) (d := d) (by simpa using h) hd fun j e' hj he' => hn (j + 1) e' (by omega) (by simpa using he')
    unfold look at ih ⊢
    rw [List.find?_cons]
    simp only [this, decide_false]
    exact ih
set_option maxRecDepth 1000000 in
set_option maxHeartbeats 1000000 in
/-- the document's Fields -/
theorem refFields_any {w : World} {F : Nat → Prop} {v : Value} {T : List Ty} {Ds : List (ByteArray × List Fld)} (h : RT w F v T Ds) (hne : ∀ d ∈ Ds, 0 < d.2.length) (hD : Ds.length ≤ 1000) (s : ByteArray) :
    Calls Tryd.prog 38 #[v, .string s] w fun e w' => ((∃ C c l, look Ds s = some l ∧ e = .returned (.tuple #[.slice C l.length c, .bool true]) ∧ RdF w' F C l ∧ 0 < l.length) ∨ (look Ds s = none ∧ e = .returned (.tuple #[.slice none 0 0, .bool false]))) ∧ Below w.heap.size w w' := by
  obtain ⟨A, cap, B, cap2, rfl, h1, h2⟩ := id h
  obtain ⟨L, hL⟩ : ∃ L, T.length = L := ⟨_, rfl⟩
  obtain ⟨L2, hL2⟩ : ∃ L2, Ds.length = L2 := ⟨_, rfl⟩
  rw [hL, hL2] at h
  rw [hL2] at hD
  rw [hL, hL2]
  clear h1
  have hbb := Below.one w (oT A L cap B L2 cap2)
  have q0 := heap_alloc_new w (oT A L cap B L2 cap2)
  obtain ⟨W, hW⟩ : ∃ W, w.alloc (oT A L cap B L2 cap2) = W := ⟨_, rfl⟩
  rw [hW] at q0 hbb
  have a1 := cell_of_heap q0 1 (.slice B L2 cap2) rfl
  have h2W := h2.move hne hbb.size fun k hk hn => ⟨hbb.block k hk, hn⟩
  go_enter Tryd.func38, Tryd.ntmps38
  go_wp2
  clear hW
  go_loopw [6] (fun i w8 => ∃ k : Nat, k ≤ L2 ∧ i = .int .i64 k ∧ w8 = W ∧ ∀ (j : Nat) d, j < k → Ds[j]? = some d → d.1 ≠ s) (fun i _ => L2 - (intOf i).toNat)
  case atStart => exact ⟨0, by omega, rfl, rfl, fun j d hj => by omega⟩
  case round =>
    obtain ⟨k, hk, rfl, hw0, hno⟩ := hrel
    have hw1 := hw0.symm
    subst hw1
    by_cases hlt : k < L2
    · have hd : Ds[k]? = some (Ds[k]'(by omega)) := by simp
      generalize Ds[k]'(by omega) = d at hd
      obtain ⟨b, C, c, rfl, _, _, k0, k1, hRF⟩ := h2W k d hd
      have hmem := hne d (List.mem_of_getElem? hd)
      cases he : (d.1.toList == s.toList)
      · go_wp2
        exact ⟨⟨k + 1, by omega, by simp, trivial, fun j e hj he' => by
          by_cases hjk : j = k
          · subst hjk
            rw [hd] at he'
            injection he' with he'
            subst he'
            exact bytes_other he
          · exact hno j e (by omega) he'⟩, by simp [intOf]; omega⟩
      · have HL := Lib.hid (look_some hd (bytes_same he) hno)
        go_wp2
        go_returns
        exact ⟨.inl ⟨C, c, d.2, HL.out, rfl, hRF, hmem⟩, hbb⟩
    · obtain rfl : k = L2 := by omega
      have HL := Lib.hid (look_none fun j d hd => hno j d (by rw [← hL2]; exact (List.getElem?_eq_some_iff.1 hd).1) hd)
      go_wp2
      go_returns
      exact ⟨.inr ⟨HL.out, rfl⟩, hbb⟩
end Go.Proofs.YtdoeinccnfggiaaDoor
