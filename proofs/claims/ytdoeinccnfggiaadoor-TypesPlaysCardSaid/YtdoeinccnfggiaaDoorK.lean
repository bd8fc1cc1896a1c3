import Derived.Test.YtdoeinccnfggiaaDoorJ
import Derived.Test.YtdoeinccnfggiaaDoorShelf
import Derived.Lib.SmallJoins
namespace Go.Proofs.YtdoeinccnfggiaaDoor
open Go.RowKit Go.BigFrame

abbrev Tab (w : World) : Prop := Lib.TabIs Tryd.prog w "internal/strconv.uint64pow10" .u64 Lib.pow10Tab
theorem gTab : ∃ g, Tryd.prog.globalNamed "internal/strconv.uint64pow10" = some g := ⟨0, by kernel_rfl⟩
theorem Tab.below {w w' : World} (h : Tab w) (hb : Below w.heap.size w w') : Tab w' := by
  obtain ⟨g, hg⟩ := gTab
  exact Go.Joins.tab_stays hg h hb (Nat.le_refl _)
theorem below_grow (w : World) (k : Nat) (os : Array Obj) : Below w.heap.size w (Go.Sort.grow (w.drewN k) os) :=
  ⟨rfl, rfl, rfl, by simp [Go.Sort.grow], fun i hi => by simp [Go.Sort.grow, Array.getElem?_append, hi]⟩
theorem itoa_any (n : Int) (h0 : -9223372036854775808 ≤ n) (h1 : n ≤ 9223372036854775807) (w : World) (h : Tab w) : Calls Tryd.prog 31 #[.int .i64 n] w fun e w' => e = .returned (.string ⟨(Lib.itoa n).toArray⟩) ∧ Below w.heap.size w w' :=
  (Tryd.strconv_Itoa n h0 h1 w h).mono fun _ _ ⟨he, k, os, hw⟩ => ⟨he, hw ▸ below_grow w k os⟩
def baseTx (k : Int) : ByteArray := if k = 0 then ⟨#[118, 111, 105, 100]⟩ else if k = 1 then ⟨#[105, 110, 116]⟩ else if k = 2 then ⟨#[117, 110, 115, 105, 103, 110, 101, 100]⟩ else ⟨#[99, 104, 97, 114]⟩
def tx (T : List Ty) : Nat → Int → ByteArray
  | 0, _ => ⟨#[]⟩
  | k + 1, n => match atT T n with
    | none => ⟨#[]⟩
    | some x => if x.kind = 4 then tx T k x.elem ++ ⟨#[42]⟩ else if x.kind = 5 then ((tx T k x.elem ++ ⟨#[91]⟩) ++ ⟨(Lib.itoa x.n).toArray⟩) ++ ⟨#[93]⟩
      else if x.kind = 6 then ⟨#[115, 116, 114, 117, 99, 116, 32]⟩ ++ x.name else baseTx x.kind
def tdeep (T : List Ty) : Nat → Int → Prop
  | 0, _ => False
  | k + 1, n => ∀ x, atT T n = some x → (x.kind = 4 → tdeep T k x.elem ∧ (tx T k x.elem).size ≤ 1000000) ∧
      (x.kind = 5 → (tdeep T k x.elem ∧ (tx T k x.elem).size ≤ 1000000) ∧ -9223372036854775808 ≤ x.n ∧ x.n ≤ 9223372036854775807 ∧ (Lib.itoa x.n).length ≤ 1000) ∧ (x.kind = 6 → x.name.size ≤ 1000000) ∧
      (x.kind ≠ 4 → x.kind ≠ 5 → x.kind ≠ 6 → 0 ≤ x.kind ∧ x.kind ≤ 3)
set_option maxRecDepth 1000000 in
set_option maxHeartbeats 4000000 in
theorem text_any {p : Nat} {F : Nat → Prop} {T : List Ty} {D : ByteArray → Option (List Fld)} : ∀ (k : Nat) (n : Int) (w : World), Tb w p F T D → Tab w → tdeep T k n → Calls Tryd.prog 22 #[.pointer (some ⟨p, 0, none⟩), .int .i64 n] w fun e w' =>
    e = .returned (.string (tx T k n)) ∧ Below w.heap.size w w'
  | 0, _, _, _, _, hd => hd.elim
  | k + 1, n, w, h, hT, hd => by
    have ih := fun m w => text_any (p := p) (F := F) (T := T) (D := D) k m w
    have ha := at_any h n
    unfold tx
    unfold tdeep at hd
    cases hx : atT T n with
    | none =>
      rw [hx] at ha
      clear ih hd hx
      go_enter Tryd.func22, Tryd.ntmps22
      go_wp2_with (first
        | (go_at_call 19; refine ha.mono ?_; rintro e w1 ⟨rfl, hb1⟩))
      go_returns
      exact ⟨rfl, hb1.alloc hb1.size _⟩
    | some x =>
      obtain ⟨hd4, hd5, hd6, hd3⟩ := hd x hx
      clear hd
      rw [hx] at ha
      clear hx
      simp only [Option.getD_some, Option.isSome_some] at ha
      obtain ⟨x1, x2, x3, x4⟩ := x
      simp only at hd3 hd4 hd5 hd6 ⊢
      by_cases h4 : x1 = 4
      · subst h4
        rw [if_pos rfl]
        obtain ⟨e1, e2⟩ := hd4 rfl
        have ih4 := fun w hw ht => ih x2 w hw ht e1
        clear hd3 hd4 hd5 hd6 ih e1
        generalize tx T k x2 = s at *
        have hsum : s.size + 1 ≤ 9223372036854775807 := by omega
        go_enter Tryd.func22, Tryd.ntmps22
        go_wp2_with (first
          | (go_at_call 19; refine ha.mono ?_; rintro e w1 ⟨rfl, hb1⟩)
          | (go_at_call 22; refine (ih4 _ ((h.below hb1).below (Below.one _ _)) ((hT.below hb1).below (Below.one _ _))).mono ?_; rintro e w2 ⟨rfl, hb2⟩))
        go_returns
        exact ⟨rfl, (hb1.alloc hb1.size _).trans (hb2.mono (hb1.alloc hb1.size _).size)⟩
      · rw [if_neg h4]
        by_cases h5 : x1 = 5
        · subst h5
          rw [if_pos rfl]
          obtain ⟨⟨e1, e2⟩, e3, e4, e5⟩ := hd5 rfl
          have ih5 := fun w hw ht => ih x2 w hw ht e1
          have hI := fun w ht => itoa_any x3 e3 e4 w ht
          clear hd3 hd4 hd5 hd6 ih e1
          generalize tx T k x2 = s at *
          have e6 : (Lib.itoa x3).toArray.size ≤ 1000 := by simpa using e5
          generalize (Lib.itoa x3).toArray = ar at *
          have hsum1 : s.size + 1 ≤ 9223372036854775807 := by omega
          have hsum2 : s.size + 1 + ar.size ≤ 9223372036854775807 := by omega
          have hsum3 : s.size + 1 + ar.size + 1 ≤ 9223372036854775807 := by omega
          go_enter Tryd.func22, Tryd.ntmps22
          go_wp2_with (first
            | (go_at_call 19; refine ha.mono ?_; rintro e w1 ⟨rfl, hb1⟩))
          have hBW := hb1.alloc hb1.size (.cells #[.int .i64 5, .int .i64 x2, .int .i64 x3, .string x4] 51)
          have hx1 := cell_of_heap (heap_alloc_new w1 (.cells #[.int .i64 5, .int .i64 x2, .int .i64 x3, .string x4] 51)) 1 (.int .i64 x2) rfl
          have hx2 := cell_of_heap (heap_alloc_new w1 (.cells #[.int .i64 5, .int .i64 x2, .int .i64 x3, .string x4] 51)) 2 (.int .i64 x3) rfl
          generalize w1.heap.size = q at *
          generalize w1.alloc (.cells #[.int .i64 5, .int .i64 x2, .int .i64 x3, .string x4] 51) = W at *
          have l1 := Later.cell hx1
          have l2 := Later.cell hx2
          have c1 := fun s : Later W => ih5 s.w (h.below (hBW.trans (s.h.mono hBW.size))) (hT.below (hBW.trans (s.h.mono hBW.size)))
          have c2 := fun s : Later W => hI s.w (hT.below (hBW.trans (s.h.mono hBW.size)))
          refine wp_region_later (by kernel_rfl) (by kernel_rfl) ?_
          repeat (go_big_quiet_step ((first | (go_at_call 22; exact Calls.later (c1 _)) | (go_at_call 31; exact Calls.later (c2 _)))))
          refine wpQuiet_nil ?_
          rintro w2 ⟨s', rfl⟩
          have hb2 := hBW.trans (s'.h.mono hBW.size)
          generalize s'.w = w2 at *
          go_wp2
          go_returns
          exact ⟨rfl, hb2⟩
        · rw [if_neg h5]
          have q4 : (x1 == 4) = false := by simpa using h4
          have q5 : (x1 == 5) = false := by simpa using h5
          by_cases h6 : x1 = 6
          · subst h6
            rw [if_pos rfl]
            have e1 := hd6 rfl
            clear ih hd3 hd4 hd5 hd6
            go_enter Tryd.func22, Tryd.ntmps22
            go_wp2_with (first
              | (go_at_call 19; refine ha.mono ?_; rintro e w1 ⟨rfl, hb1⟩))
            go_returns
            exact ⟨rfl, hb1.alloc hb1.size _⟩
          · rw [if_neg h6]
            obtain ⟨e1, e2⟩ := hd3 h4 h5 h6
            have hc : x1 = 0 ∨ x1 = 1 ∨ x1 = 2 ∨ x1 = 3 := by omega
            clear ih hd3 hd4 hd5 hd6 q4 q5 h4 h5 h6 e1 e2
            have i0 : ∀ w, (Instr.index 78 (.agg #[.string ⟨#[118, 111, 105, 100]⟩, .string ⟨#[105, 110, 116]⟩, .string ⟨#[117, 110, 115, 105, 103, 110, 101, 100]⟩, .string ⟨#[99, 104, 97, 114]⟩]) (.int .i64 0)).run Tryd.prog w = .ok (.string (baseTx 0)) w := fun w => by kernel_rfl
            have i1 : ∀ w, (Instr.index 78 (.agg #[.string ⟨#[118, 111, 105, 100]⟩, .string ⟨#[105, 110, 116]⟩, .string ⟨#[117, 110, 115, 105, 103, 110, 101, 100]⟩, .string ⟨#[99, 104, 97, 114]⟩]) (.int .i64 1)).run Tryd.prog w = .ok (.string (baseTx 1)) w := fun w => by kernel_rfl
            have i2 : ∀ w, (Instr.index 78 (.agg #[.string ⟨#[118, 111, 105, 100]⟩, .string ⟨#[105, 110, 116]⟩, .string ⟨#[117, 110, 115, 105, 103, 110, 101, 100]⟩, .string ⟨#[99, 104, 97, 114]⟩]) (.int .i64 2)).run Tryd.prog w = .ok (.string (baseTx 2)) w := fun w => by kernel_rfl
            have i3 : ∀ w, (Instr.index 78 (.agg #[.string ⟨#[118, 111, 105, 100]⟩, .string ⟨#[105, 110, 116]⟩, .string ⟨#[117, 110, 115, 105, 103, 110, 101, 100]⟩, .string ⟨#[99, 104, 97, 114]⟩]) (.int .i64 3)).run Tryd.prog w = .ok (.string (baseTx 3)) w := fun w => by kernel_rfl
            rcases hc with rfl | rfl | rfl | rfl
            all_goals
              go_enter Tryd.func22, Tryd.ntmps22
              go_wp2_with (first
                | (go_at_call 19; refine ha.mono ?_; rintro e w1 ⟨rfl, hb1⟩))
              go_returns
              exact ⟨rfl, hb1.alloc hb1.size _⟩
end Go.Proofs.YtdoeinccnfggiaaDoor
