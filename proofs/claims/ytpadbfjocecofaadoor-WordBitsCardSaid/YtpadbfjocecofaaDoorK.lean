import Derived.Test.YtpadbfjocecofaaDoorJ
import Derived.OneCell
import Derived.Laws.EntriesVeiled
namespace Go.Proofs.YtpadbfjocecofaaDoor
open Go.RowKit Go.BigFrame

theorem b14 {op a b v u : Int} {t : Bool} (hd : ∀ w, Calls Tryd.prog 11 #[.int .i64 op, .int .i64 a, .int .i64 b] w fun e w' => e = .returned (.tuple #[.int .i64 v, .bool t]) ∧ w = w') (hu : v = u) (w : World) :
    Calls Tryd.prog 14 #[.int .i64 op, .int .i64 a, .int .i64 b] w fun e w' => e = .returned (.int .i64 u) ∧ w = w' := by
  subst hu
  go_enter Tryd.func14, Tryd.ntmps14
  go_wp2_with (go_at_call 11; refine (hd _).mono ?_; rintro e w' ⟨rfl, rfl⟩)
  go_returns
  exact ⟨rfl, rfl⟩
abbrev fn14 : Value := .func (Fn.func 14) #[] #[]
theorem n15 (x u : Int) (hu : (~~~(b32 x)).toInt = u) (g : Nat) (w : World) (hc : w.cell? ⟨g, 0, none⟩ = some fn14) :
    Calls Tryd.prog 15 #[.int .i64 x, .pointer (some ⟨g, 0, none⟩)] w fun e w' => e = .returned (.int .i64 u) ∧ w = w' := by
  have hd := b14 (do_21 x 0) ((v_not x).trans hu)
  go_enter Tryd.func15, Tryd.ntmps15
  go_wp2_with (go_at_call 14; refine (hd _).mono ?_; rintro e w' ⟨rfl, rfl⟩)
  go_returns
  exact ⟨rfl, rfl⟩

set_option maxRecDepth 1000000 in
set_option maxHeartbeats 4000000 in
theorem wbits_any (a b : Int) (w : World) (h : Tab w) : Calls Tryd.prog 6 #[.int .i64 a, .int .i64 b] w fun e w' => e = .returned (.bool true) ∧ Below w.heap.size w w' := by
  have hx : ∀ X : BitVec 32, b32 X.toInt = X := b32_toInt
  have c1 := b14 (do_8 a b) (v_and a b)
  have c2 := b14 (do_9 (~~~(b32 a)).toInt (~~~(b32 b)).toInt) (v_or _ _)
  rw [hx, hx] at c2
  rw [show (~~~(b32 a)) ||| (~~~(b32 b)) = ~~~(b32 a &&& b32 b) from (BitVec.not_and).symm] at c2
  have c3 := b14 (do_10 a a) (v_xor a a)
  rw [BitVec.xor_self] at c3
  rw [show (0#32).toInt = 0 by decide] at c3
  have c4 := b14 (do_8 a a) (v_and a a)
  rw [BitVec.and_self] at c4
  have c5 := b14 (do_9 a a) (v_or a a)
  rw [BitVec.or_self] at c5
  have c6 := b14 (do_10 a b) (v_xor a b)
  have c7 := b14 (do_10 (b32 a ^^^ b32 b).toInt b) (v_xor _ _)
  rw [hx, BitVec.xor_assoc, BitVec.xor_self, BitVec.xor_zero] at c7
  have hn1 : (~~~(b32 (b32 a &&& b32 b).toInt)).toInt = (~~~(b32 a &&& b32 b)).toInt := by rw [hx]
  have hn2 : (~~~(b32 (~~~(b32 a)).toInt)).toInt = (b32 a).toInt := by rw [hx, BitVec.not_not]
  have hwr : wr a = (b32 a).toInt := wr_b a
  have hblk := heap_alloc_new w (.cells #[Value.nilFunc] 29)
  have k1 := cell_of_one hblk
  have k2 := free_of_one hblk
  have hblk2 := one_setCell (u := fn14) hblk
  go_enter Tryd.func6, Tryd.ntmps6
  go_wp2_with (go_at_call 12; refine (wrap_any _ _).mono ?_; rintro e w' ⟨rfl, rfl⟩)
  have hW := heap_alloc_new w (.cells #[fn14] 29)
  have hcell := cell_of_one hW
  have hb : Below w.heap.size w (w.alloc (.cells #[fn14] 29)) := (Below.refl _ _).alloc (Nat.le_refl _) _
  have hT := h.below hb
  clear hblk k1 k2 hblk2 hW
  generalize w.alloc (.cells #[fn14] 29) = W at *
  generalize w.heap.size = g at hcell ⊢
  have K : ∀ s : Later W, s.w.cell? ⟨g, 0, none⟩ = some fn14 := Later.cell hcell
  have m1 : ∀ s : Later W, _ := fun s => n15 (b32 a &&& b32 b).toInt (~~~(b32 a &&& b32 b)).toInt hn1 g s.w (K s)
  have m2 : ∀ s : Later W, _ := fun s => n15 a (~~~(b32 a)).toInt rfl g s.w (K s)
  have m3 : ∀ s : Later W, _ := fun s => n15 b (~~~(b32 b)).toInt rfl g s.w (K s)
  have m4 : ∀ s : Later W, _ := fun s => n15 (~~~(b32 a)).toInt (b32 a).toInt hn2 g s.w (K s)
  clear hn1 hn2 hx hwr
  generalize (~~~(b32 a &&& b32 b)).toInt = v1 at *
  generalize (b32 a &&& b32 b).toInt = v2 at *
  generalize (~~~(b32 a)).toInt = v3 at *
  generalize (~~~(b32 b)).toInt = v4 at *
  generalize (b32 a ^^^ b32 b).toInt = v5 at *
  generalize (b32 a).toInt = v6 at *
  refine wp_region_later (by kernel_rfl) (by kernel_rfl) ?_
  repeat (go_big_quiet_step ((first
    | (go_at_call_of 15 v2; exact Calls.later_same (m1 _))
    | (go_at_call_of 15 a; exact Calls.later_same (m2 _))
    | (go_at_call_of 15 b; exact Calls.later_same (m3 _))
    | (go_at_call_of 15 v3; exact Calls.later_same (m4 _))
    | (go_at_call_of 14 (#[Value.int IntKind.i64 8, Value.int IntKind.i64 a, Value.int IntKind.i64 b]); exact Calls.later_same (c1 _))
    | (go_at_call_of 14 (#[Value.int IntKind.i64 9, Value.int IntKind.i64 v3, Value.int IntKind.i64 v4]); exact Calls.later_same (c2 _))
    | (go_at_call_of 14 (#[Value.int IntKind.i64 10, Value.int IntKind.i64 a, Value.int IntKind.i64 a]); exact Calls.later_same (c3 _))
    | (go_at_call_of 14 (#[Value.int IntKind.i64 8, Value.int IntKind.i64 a, Value.int IntKind.i64 a]); exact Calls.later_same (c4 _))
    | (go_at_call_of 14 (#[Value.int IntKind.i64 9, Value.int IntKind.i64 a, Value.int IntKind.i64 a]); exact Calls.later_same (c5 _))
    | (go_at_call_of 14 (#[Value.int IntKind.i64 10, Value.int IntKind.i64 a, Value.int IntKind.i64 b]); exact Calls.later_same (c6 _))
    | (go_at_call_of 14 (#[Value.int IntKind.i64 10, Value.int IntKind.i64 v5, Value.int IntKind.i64 b]); exact Calls.later_same (c7 _))
    | (go_at_call 13; exact Calls.later (awake_any _ (hT.below (Later.h _)))))))

  refine wpQuiet_nil ?_
  rintro w1 ⟨s, rfl⟩
  go_wp2_with fail
  go_returns
  exact ⟨rfl, hb.trans (s.h.mono hb.size)⟩
end Go.Proofs.YtpadbfjocecofaaDoor
