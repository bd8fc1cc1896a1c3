import Derived.Test.YtdoeinccnfggiaaDoorI
namespace Go.Proofs.YtdoeinccnfggiaaDoor
open Go.RowKit Go.BigFrame

theorem fieldL_ne {Z : Fld → Int} {s : ByteArray} {f : Fld} {l : List Fld} {a : Int} (h : f.name ≠ s) : fieldL Z s (f :: l) a = fieldL Z s l (a + Z f) := by simp [fieldL, h]
theorem fieldL_eq {Z : Fld → Int} {s : ByteArray} {f : Fld} {l : List Fld} {a : Int} (h : f.name = s) : fieldL Z s (f :: l) a = (a, f.type, true) := by simp [fieldL, h]
set_option maxRecDepth 1000000 in
set_option maxHeartbeats 4000000 in
theorem field_any {w : World} {p : Nat} {F : Nat → Prop} {T : List Ty} {D : ByteArray → Option (List Fld)} (h : Tb w p F T D) (k : Nat) (n : Int) (s : ByteArray) (hd : deep T D (k + 1) n) :
    Calls Tryd.prog 15 #[.pointer (some ⟨p, 0, none⟩), .int .i64 n, .string s] w fun e w' =>
    e = .returned (.tuple #[.int .i64 (fieldT T D k n s).1, .int .i64 (fieldT T D k n s).2.1, .bool (fieldT T D k n s).2.2]) ∧ Below w.heap.size w w' := by
  have ha := at_any h n
  have ih := fun m w => size_any (p := p) (F := F) (T := T) (D := D) k m w
  unfold fieldT
  unfold deep at hd
  cases hx : atT T n with
  | none =>
    rw [hx] at ha
    clear ih hd hx
    go_enter Tryd.func15, Tryd.ntmps15
    go_wp2_with (first
      | (go_at_call 19; refine ha.mono ?_; rintro e w1 ⟨rfl, hb1⟩))
    go_returns
    exact ⟨rfl, hb1.alloc hb1.size _⟩
  | some x =>
    obtain ⟨hd5, hd6⟩ := hd x hx
    clear hd
    rw [hx] at ha
    clear hx
    simp only [Option.getD_some, Option.isSome_some] at ha
    obtain ⟨x1, x2, x3, x4⟩ := x
    simp only at hd5 hd6 ⊢
    by_cases h6 : x1 = 6
    · subst h6
      rw [if_pos rfl]
      obtain ⟨V, M, m, g, g1, g2, g3, g4, g5, g6, g7, g8⟩ := id h
      have hcM := cell_of_heap g1 1 (.map (some M)) rfl
      have hp := (Array.getElem?_eq_some_iff.1 g1).1
      obtain ⟨l, LL, hLL, hl1, hl2⟩ : ∃ (l : List Fld) (LL : Nat), l.length = LL ∧ (D x4).getD [] = l ∧ ((D x4 = none ∧ l = []) ∨ D x4 = some l) := by
        cases hD : D x4 with
        | none => exact ⟨[], _, rfl, rfl, .inl ⟨rfl, rfl⟩⟩
        | some l => exact ⟨l, _, rfl, rfl, .inr rfl⟩
      have hdl : (∀ f ∈ l, deep T D k f.type) ∧ ∀ j, j ≤ l.length → 0 ≤ sumF T D k (l.take j) ∧ sumF T D k (l.take j) ≤ 5000000 := by
        rcases hl2 with ⟨_, rfl⟩ | h2
        · exact ⟨fun f hf => by simp at hf, fun j _ => by simp [sumF]⟩
        · exact hd6 rfl l h2
      rw [hl1]
      obtain ⟨A, cap, hgv, hL1, hrd⟩ : ∃ (A : Option Addr) (cap : Nat), (g x4).getD (.slice none 0 0) = .slice A LL cap ∧ LL ≤ 1000 ∧ ∀ (j : Nat) f, l[j]? = some f → ∃ b, A = some ⟨b, 0, none⟩ ∧ b < w.heap.size ∧ w.cell? ⟨b, j * 2, none⟩ = some (.string f.name) ∧ w.cell? ⟨b, j * 2 + 1, none⟩ = some (.int .i64 f.type) := by
        rcases hl2 with ⟨h2, rfl⟩ | h2
        · refine ⟨none, 0, ?_, by rw [← hLL]; simp, fun j f hf => by simp at hf⟩
          rw [(g7 x4).1 h2, ← hLL]
          rfl
        · obtain ⟨b, cap, e1, e2, e5, e3⟩ := g7.some h2
          exact ⟨some ⟨b, 0, none⟩, cap, by rw [e1, ← hLL]; rfl, by rw [← hLL]; exact e5, fun j f hf => ⟨b, rfl, e2, e3 j f hf⟩⟩
      have hlk : ∀ w', Below w.heap.size w w' → (Instr.lookup 64 (.map (some M)) (.string x4) false).run Tryd.prog w' = .ok (.slice A LL cap) w' := fun w' hb => by
        have := look64 (g3.below hb g3.lt) x4 false
        rw [hgv] at this
        simpa using this
      clear hl2 hl1 hd6 hd5 g1 g2 g3 g4 g5 g6 g7 g8 hgv
      obtain ⟨R, hR⟩ : ∃ R, R = fieldL (fun f => (sz T D k f.type).1) s l 0 := ⟨_, rfl⟩
      rw [← hR]
      go_enter Tryd.func15, Tryd.ntmps15
      go_wp2_with (first
        | (go_at_call 19; refine ha.mono ?_; rintro e w1 ⟨rfl, hb1⟩))
      have hBW := hb1.alloc hb1.size (.cells #[.int .i64 6, .int .i64 x2, .int .i64 x3, .string x4] 51)
      have hxW := cell_of_heap (heap_alloc_new w1 (.cells #[.int .i64 6, .int .i64 x2, .int .i64 x3, .string x4] 51)) 3 (.string x4) rfl
      generalize w1.heap.size = q at *
      generalize w1.alloc (.cells #[.int .i64 6, .int .i64 x2, .int .i64 x3, .string x4] 51) = W at *
      have hcW := (hBW.cell (p := ⟨p, 1, none⟩) hp).trans hcM
      have l1 := Later.cell hcW
      have l2 := Later.cell hxW
      have l3 := fun s : Later W => hlk s.w (hBW.trans (s.h.mono hBW.size))
      refine wp_region_later (by kernel_rfl) (by kernel_rfl) ?_
      repeat (go_big_quiet_step (fail))
      refine wpQuiet_nil ?_
      rintro w2 ⟨s', rfl⟩
      have hb2 := hBW.trans (s'.h.mono hBW.size)
      generalize s'.w = w2 at *
      have hcells : ∀ w', Below w2.heap.size w2 w' → ∀ (j : Nat) f, l[j]? = some f → ∃ b, A = some ⟨b, 0, none⟩ ∧ w'.cell? ⟨b, j * 2, none⟩ = some (.string f.name) ∧ w'.cell? ⟨b, j * 2 + 1, none⟩ = some (.int .i64 f.type) := fun w' hb j f hf => by
        obtain ⟨b, e1, e2, e3, e4⟩ := hrd j f hf
        have hb' := hb2.trans (hb.mono hb2.size)
        exact ⟨b, e1, (hb'.cell (p := ⟨b, _, none⟩) e2).trans e3, (hb'.cell (p := ⟨b, _, none⟩) e2).trans e4⟩
      have h2 := h.below hb2
      clear l1 l2 l3 hlk hcW hxW hcM hrd hp ha hb1 hBW
      go_wp2
      go_loopw [11, 37] (fun sm i w8 => ∃ j : Nat, j ≤ LL ∧ i = .int .i64 j ∧ sm = .int .i64 (sumF T D k (l.take j)) ∧ R = fieldL (fun f => (sz T D k f.type).1) s (l.drop j) (sumF T D k (l.take j)) ∧ Below w2.heap.size w2 w8) (fun _ i _ => LL - (intOf i).toNat)
      case atStart => exact ⟨0, by omega, rfl, by simp [sumF], by simpa [sumF] using hR, Below.refl _ _⟩
      case round =>
        obtain ⟨j, hj, rfl, rfl, hRj, hb⟩ := hrel
        by_cases hlt : j < LL
        · have hf : l[j]? = some (l[j]'(by omega)) := by simp
          generalize l[j]'(by omega) = f at hf
          obtain ⟨b, rfl, c0, c1⟩ := hcells wr hb j f hf
          have hS := sumF_succ T D k j l f hf
          have hdf := hdl.1 f (List.mem_of_getElem? hf)
          have hb0 := hdl.2 j (by omega)
          have hb1 := hdl.2 (j + 1) (by omega)
          have hsz := fun w hw => ih f.type w hw hdf
          rw [drop_cons hf] at hRj
          rw [hS] at hb1
          have HS := Lib.hid hS
          clear hS hR
          have h3 := h2.below hb
          cases he : (f.name.toList == s.toList)
          · have hRj' : R = fieldL (fun f => (sz T D k f.type).1) s (l.drop (j + 1)) (sumF T D k (l.take (j + 1))) := by
              rw [hRj, HS.out, fieldL_ne (bytes_other he)]
            have HR := Lib.hid hRj'
            clear hRj hRj'
            generalize sumF T D k (l.take j) = S at *
            generalize sz T D k f.type = Z at *
            obtain ⟨Z1, Z2⟩ := Z
            simp only at *
            have hwr : wrap64 (S + Z1) = S + Z1 := by unfold wrap64; omega
            go_wp2_with (go_at_call 14; refine (hsz _ (h3.below (Below.one _ _))).mono ?_; rintro e w3 ⟨rfl, hb3⟩)
            exact ⟨⟨j + 1, by omega, by simp, by rw [HS.out], HR.out, (hb.alloc hb.size _).trans (hb3.mono (hb.alloc hb.size _).size)⟩, by simp [intOf]; omega⟩
          · have hRj' : R = (sumF T D k (l.take j), f.type, true) := by
              rw [hRj, fieldL_eq (bytes_same he)]
            clear hRj
            generalize sumF T D k (l.take j) = S at *
            subst hRj'
            go_wp2
            go_quiet (fail)
            go_wp2
            go_returns
            exact ⟨rfl, hb2.trans ((below_drewN (hb.alloc hb.size _) _).mono hb2.size)⟩
        · obtain rfl : j = LL := by omega
          have hRj' : R = (0, 0, false) := by
            rw [hRj, ← hLL, List.drop_length]
            rfl
          subst hRj'
          go_wp2
          go_returns
          exact ⟨rfl, hb2.trans (hb.mono hb2.size)⟩
    · rw [if_neg h6]
      have q6 : (x1 != 6) = true := by simpa using h6
      clear ih hd5 hd6 h6
      go_enter Tryd.func15, Tryd.ntmps15
      go_wp2_with (first
        | (go_at_call 19; refine ha.mono ?_; rintro e w1 ⟨rfl, hb1⟩))
      go_returns
      exact ⟨rfl, hb1.alloc hb1.size _⟩
end Go.Proofs.YtdoeinccnfggiaaDoor
