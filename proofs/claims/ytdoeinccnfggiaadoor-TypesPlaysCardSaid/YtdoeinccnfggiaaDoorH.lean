import Derived.Test.YtdoeinccnfggiaaDoorG
namespace Go.Proofs.YtdoeinccnfggiaaDoor
open Go.RowKit Go.BigFrame

theorem MapS.drewN {w : World} {b n : Nat} {g} (h : MapS w b n g) (m : Nat) : MapS (w.drewN m) b n g := h.of_block rfl
theorem zero26 (w : World) : (zeroValue 26).run Tryd.prog w = .ok (.slice none 0 0) w := by kernel_rfl
theorem look64 {w : World} {b n : Nat} {g} (h : MapS w b n g) (s : ByteArray) (c : Bool) :
    (Instr.lookup 64 (.map (some b)) (.string s) c).run Tryd.prog w = .ok (if c then .tuple #[(g s).getD (.slice none 0 0), .bool (g s).isSome] else (g s).getD (.slice none 0 0)) w :=
  h.lookup (k := 9) (e := 26) (by kernel_rfl) (by kernel_rfl) (zero26 w) s c
/-- the sum of the first fields' words -/
def sumF (T : List Ty) (D : ByteArray → Option (List Fld)) (k : Nat) (l : List Fld) : Int := l.foldl (fun s f => s + (sz T D k f.type).1) 0
theorem sumF_succ (T : List Ty) (D : ByteArray → Option (List Fld)) (k j : Nat) (l : List Fld) (f : Fld) (h : l[j]? = some f) : sumF T D k (l.take (j + 1)) = sumF T D k (l.take j) + (sz T D k f.type).1 := by
  unfold sumF
  rw [List.take_add_one, h]
  simp
/-- the fields of a name lie so in memory -/
theorem FOk.some {w : World} {F : Nat → Prop} {g : ByteArray → Option Value} {D : ByteArray → Option (List Fld)} (h : FOk w F g D) {s : ByteArray} {l : List Fld} (hl : D s = some l) :
    ∃ b cap, g s = some (.slice (some ⟨b, 0, none⟩) l.length cap) ∧ b < w.heap.size ∧ l.length ≤ 1000 ∧ ∀ (j : Nat) f, l[j]? = some f → w.cell? ⟨b, j * 2, none⟩ = some (.string f.name) ∧ w.cell? ⟨b, j * 2 + 1, none⟩ = some (.int .i64 f.type) := by
  obtain ⟨b, cap, cs, e1, _, e3, e4, e5⟩ := (h s).2 l hl
  refine ⟨b, cap, e1, (Array.getElem?_eq_some_iff.1 e3).1, e5, fun j f hf => ?_⟩
  obtain ⟨hj, rfl⟩ := List.getElem?_eq_some_iff.1 hf
  have hh : ∀ i, i < 2 → ∀ v, (l[j]).l[i]? = Option.some v → w.cell? ⟨b, j * 2 + i, none⟩ = Option.some v := fun i hi v hv => cell_of_heap e3 _ v (by rw [e4 (j * 2 + i) (by omega), fcells_at l j i hj hi, hv])
  exact ⟨hh 0 (by omega) _ rfl, hh 1 (by omega) _ rfl⟩

set_option maxRecDepth 1000000 in
set_option maxHeartbeats 4000000 in
theorem size_any {p : Nat} {F : Nat → Prop} {T : List Ty} {D : ByteArray → Option (List Fld)} : ∀ (k : Nat) (n : Int) (w : World), Tb w p F T D → deep T D k n → Calls Tryd.prog 14 #[.pointer (some ⟨p, 0, none⟩), .int .i64 n] w fun e w' =>
    e = .returned (.tuple #[.int .i64 (sz T D k n).1, .bool (sz T D k n).2]) ∧ Below w.heap.size w w'
  | 0, _, _, _, hd => hd.elim
  | k + 1, n, w, h, hd => by
    have ih := fun m w => size_any (p := p) (F := F) (T := T) (D := D) k m w
    have ha := at_any h n
    unfold sz
    unfold deep at hd
    cases hx : atT T n with
    | none =>
      rw [hx] at ha
      clear ih hd hx
      go_enter Tryd.func14, Tryd.ntmps14
      go_wp2_with (first
        | (go_at_call 19; refine ha.mono ?_; rintro e w1 ⟨rfl, hb1⟩))
      go_returns
      exact ⟨rfl, hb1.alloc hb1.size _⟩
    | some x =>
      obtain ⟨hd5, hd6⟩ := hd x hx
      clear hd
      rw [hx] at ha
      clear hx
      simp only [Option.getD_some, Option.isSome_some] at ha
      obtain ⟨x1, x2, x3, x4⟩ := x
      simp only at hd5 hd6 ⊢
      by_cases h0 : x1 = 0
      · subst h0
        clear ih hd5 hd6
        rw [if_pos rfl]
        go_enter Tryd.func14, Tryd.ntmps14
        go_wp2_with (first
          | (go_at_call 19; refine ha.mono ?_; rintro e w1 ⟨rfl, hb1⟩))
        go_returns
        exact ⟨rfl, hb1.alloc hb1.size _⟩
      · rw [if_neg h0]
        by_cases h5 : x1 = 5
        · subst h5
          rw [if_pos rfl]
          obtain ⟨e1, e2, e3⟩ := hd5 rfl
          clear hd5 hd6
          have ih5 := fun w hw => ih x2 w hw e1
          clear ih e1
          generalize sz T D k x2 = S at *
          obtain ⟨S1, S2⟩ := S
          simp only at *
          have hwr : wrap64 (S1 * x3) = S1 * x3 := by unfold wrap64; omega
          go_enter Tryd.func14, Tryd.ntmps14
          go_wp2_with (first
            | (go_at_call 19; refine ha.mono ?_; rintro e w1 ⟨rfl, hb1⟩)
            | (go_at_call 14; refine (ih5 _ ((h.below hb1).below (Below.one _ _))).mono ?_; rintro e w2 ⟨rfl, hb2⟩; have hc2 : w2.cell? ⟨w1.heap.size, 2, none⟩ = some (.int .i64 x3) := (hb2.cell (p := ⟨w1.heap.size, 2, none⟩) (by simp)).trans (cell_of_heap (heap_alloc_new _ _) 2 _ rfl)))
          go_returns
          exact ⟨rfl, (hb1.alloc hb1.size _).trans (hb2.mono (hb1.alloc hb1.size _).size)⟩
        · rw [if_neg h5]
          by_cases h6 : x1 = 6
          · subst h6
            rw [if_pos rfl]
            obtain ⟨V, M, m, g, g1, g2, g3, g4, g5, g6, g7, g8⟩ := id h
            have hcM := cell_of_heap g1 1 (.map (some M)) rfl
            have hp := (Array.getElem?_eq_some_iff.1 g1).1
            obtain ⟨l, LL, hLL, hl1, hl2⟩ : ∃ (l : List Fld) (LL : Nat), l.length = LL ∧ (D x4).getD [] = l ∧ ((D x4 = none ∧ l = []) ∨ D x4 = some l) := by
              cases hD : D x4 with
              | none => exact ⟨[], _, rfl, rfl, .inl ⟨rfl, rfl⟩⟩
              | some l => exact ⟨l, _, rfl, rfl, .inr rfl⟩
            have hdl : (∀ f ∈ l, deep T D k f.type) ∧ ∀ j, j ≤ l.length → 0 ≤ sumF T D k (l.take j) ∧ sumF T D k (l.take j) ≤ 5000000 := by
              rcases hl2 with ⟨_, rfl⟩ | h2
              · exact ⟨fun f hf => by simp at hf, fun j _ => by simp [sumF]⟩
              · exact hd6 rfl l h2
            have hsum : List.foldl (fun s f => s + (sz T D k f.type).1) 0 l = sumF T D k (l.take LL) := by rw [← hLL, List.take_length]; rfl
            rw [hl1, hsum]
            obtain ⟨A, cap, hgv, hL1, hrd⟩ : ∃ (A : Option Addr) (cap : Nat), (g x4).getD (.slice none 0 0) = .slice A LL cap ∧ LL ≤ 1000 ∧ ∀ (j : Nat) f, l[j]? = some f → ∃ b, A = some ⟨b, 0, none⟩ ∧ b < w.heap.size ∧ w.cell? ⟨b, j * 2, none⟩ = some (.string f.name) ∧ w.cell? ⟨b, j * 2 + 1, none⟩ = some (.int .i64 f.type) := by
              rcases hl2 with ⟨h2, rfl⟩ | h2
              · refine ⟨none, 0, ?_, by rw [← hLL]; simp, fun j f hf => by simp at hf⟩
                rw [(g7 x4).1 h2, ← hLL]
                rfl
              · obtain ⟨b, cap, e1, e2, e5, e3⟩ := g7.some h2
                exact ⟨some ⟨b, 0, none⟩, cap, by rw [e1, ← hLL]; rfl, by rw [← hLL]; exact e5, fun j f hf => ⟨b, rfl, e2, e3 j f hf⟩⟩
            have hlk : ∀ w', Below w.heap.size w w' → (Instr.lookup 64 (.map (some M)) (.string x4) false).run Tryd.prog w' = .ok (.slice A LL cap) w' := fun w' hb => by
              have := look64 (g3.below hb g3.lt) x4 false
              rw [hgv] at this
              simpa using this
            clear hl2 hl1 hd6 hd5 hsum g1 g2 g3 g4 g5 g6 g7 g8 hgv
            go_enter Tryd.func14, Tryd.ntmps14
            go_wp2_with (first
              | (go_at_call 19; refine ha.mono ?_; rintro e w1 ⟨rfl, hb1⟩))
            have hBW := hb1.alloc hb1.size (.cells #[.int .i64 6, .int .i64 x2, .int .i64 x3, .string x4] 51)
            have hxW := cell_of_heap (heap_alloc_new w1 (.cells #[.int .i64 6, .int .i64 x2, .int .i64 x3, .string x4] 51)) 3 (.string x4) rfl
            generalize w1.heap.size = q at *
            generalize w1.alloc (.cells #[.int .i64 6, .int .i64 x2, .int .i64 x3, .string x4] 51) = W at *
            have hcW := (hBW.cell (p := ⟨p, 1, none⟩) hp).trans hcM
            have l1 := Later.cell hcW
            have l2 := Later.cell hxW
            have l3 := fun s : Later W => hlk s.w (hBW.trans (s.h.mono hBW.size))
            refine wp_region_later (by kernel_rfl) (by kernel_rfl) ?_
            repeat (go_big_quiet_step (fail))
            refine wpQuiet_nil ?_
            rintro w2 ⟨s, rfl⟩
            have hb2 := hBW.trans (s.h.mono hBW.size)
            generalize s.w = w2 at *
            have hcells : ∀ w', Below w2.heap.size w2 w' → ∀ (j : Nat) f, l[j]? = some f → ∃ b, A = some ⟨b, 0, none⟩ ∧ w'.cell? ⟨b, j * 2, none⟩ = some (.string f.name) ∧ w'.cell? ⟨b, j * 2 + 1, none⟩ = some (.int .i64 f.type) := fun w' hb j f hf => by
              obtain ⟨b, e1, e2, e3, e4⟩ := hrd j f hf
              have hb' := hb2.trans (hb.mono hb2.size)
              exact ⟨b, e1, (hb'.cell (p := ⟨b, _, none⟩) e2).trans e3, (hb'.cell (p := ⟨b, _, none⟩) e2).trans e4⟩
            have h2 := h.below hb2
            clear l1 l2 l3 hlk hcW hxW hcM hrd hp ha hb1 hBW
            go_wp2
            go_loopw [10, 56] (fun sm i w8 => ∃ j : Nat, j ≤ LL ∧ i = .int .i64 j ∧ sm = .int .i64 (sumF T D k (l.take j)) ∧ Below w2.heap.size w2 w8) (fun _ i _ => LL - (intOf i).toNat)
            case atStart => exact ⟨0, by omega, rfl, by simp [sumF], Below.refl _ _⟩
            case round =>
              obtain ⟨j, hj, rfl, rfl, hb⟩ := hrel
              by_cases hlt : j < LL
              · have hf : l[j]? = some (l[j]'(by omega)) := by simp
                generalize l[j]'(by omega) = f at hf
                obtain ⟨b, rfl, c0, c1⟩ := hcells wr hb j f hf
                have hS := sumF_succ T D k j l f hf
                have hdf := hdl.1 f (List.mem_of_getElem? hf)
                have hb0 := hdl.2 j (by omega)
                have hb1 := hdl.2 (j + 1) (by omega)
                have hsz := fun w hw => ih f.type w hw hdf
                rw [hS] at hb1
                have HS := Lib.hid hS
                clear hS
                have h3 := h2.below hb
                generalize sumF T D k (l.take j) = S at *
                generalize sz T D k f.type = Z at *
                obtain ⟨Z1, Z2⟩ := Z
                simp only at *
                have hwr : wrap64 (S + Z1) = S + Z1 := by unfold wrap64; omega
                go_wp2_with (go_at_call 14; refine (hsz _ (h3.below (Below.one _ _))).mono ?_; rintro e w3 ⟨rfl, hb3⟩)
                exact ⟨⟨j + 1, by omega, by simp, by rw [HS.out], (hb.alloc hb.size _).trans (hb3.mono (hb.alloc hb.size _).size)⟩, by simp [intOf]; omega⟩
              · obtain rfl : j = LL := by omega
                go_wp2
                go_returns
                exact ⟨rfl, hb2.trans (hb.mono hb2.size)⟩
          · rw [if_neg h6]
            have q0 : (x1 == 0) = false := by simpa using h0
            have q5 : (x1 == 5) = false := by simpa using h5
            have q6 : (x1 == 6) = false := by simpa using h6
            clear ih hd5 hd6 h0 h5 h6
            go_enter Tryd.func14, Tryd.ntmps14
            go_wp2_with (first
              | (go_at_call 19; refine ha.mono ?_; rintro e w1 ⟨rfl, hb1⟩))
            go_returns
            exact ⟨rfl, hb1.alloc hb1.size _⟩
end Go.Proofs.YtdoeinccnfggiaaDoor
