import Derived.Test.YtfaccdidjhaahaaK
import Derived.Test.YtfaccdidjhaahaaU
namespace Go.Proofs.Ytfaccdidjhaahaa
open Go.RowKit Go.BigFrame

theorem HasR.later {W : World} {b : Nat} {r : Row} (h : HasR W b r) : (∀ s : Later W, s.w.cell? ⟨b, 0, none⟩ = some (.int .i64 r.f0)) ∧ (∀ s : Later W, s.w.cell? ⟨b, 1, none⟩ = some (.int .i64 r.f1)) ∧ (∀ s : Later W, s.w.cell? ⟨b, 2, none⟩ = some (.int .i64 r.f2)) ∧
    (∀ s : Later W, s.w.cell? ⟨b, 3, none⟩ = some (.int .i64 r.f3)) ∧ (∀ s : Later W, s.w.cell? ⟨b, 4, none⟩ = some (.int .i64 r.f4)) ∧ (∀ s : Later W, s.w.cell? ⟨b, 5, none⟩ = some (.int .i64 r.f5)) ∧
    (∀ s : Later W, s.w.cell? ⟨b, 6, none⟩ = some (.int .i64 r.f6)) ∧ (∀ s : Later W, s.w.cell? ⟨b, 7, none⟩ = some (.int .i64 r.f7)) ∧ (∀ s : Later W, s.w.cell? ⟨b, 8, none⟩ = some (.int .i64 r.c)) :=
  let c := h.cells
  ⟨Later.cell c.1, Later.cell c.2.1, Later.cell c.2.2.1, Later.cell c.2.2.2.1, Later.cell c.2.2.2.2.1, Later.cell c.2.2.2.2.2.1, Later.cell c.2.2.2.2.2.2.1, Later.cell c.2.2.2.2.2.2.2.1, Later.cell c.2.2.2.2.2.2.2.2⟩
theorem HasA.later {W : World} {b : Nat} {r : Row} (h : HasA W b r) : (∀ s : Later W, s.w.cell? ⟨b, 0, none⟩ = some (.int .i64 r.f0)) ∧ (∀ s : Later W, s.w.cell? ⟨b, 1, none⟩ = some (.int .i64 r.f1)) ∧ (∀ s : Later W, s.w.cell? ⟨b, 2, none⟩ = some (.int .i64 r.f2)) ∧
    (∀ s : Later W, s.w.cell? ⟨b, 3, none⟩ = some (.int .i64 r.f3)) ∧ (∀ s : Later W, s.w.cell? ⟨b, 4, none⟩ = some (.int .i64 r.f4)) ∧ (∀ s : Later W, s.w.cell? ⟨b, 5, none⟩ = some (.int .i64 r.f5)) ∧
    (∀ s : Later W, s.w.cell? ⟨b, 6, none⟩ = some (.int .i64 r.f6)) ∧ (∀ s : Later W, s.w.cell? ⟨b, 7, none⟩ = some (.int .i64 r.f7)) :=
  ⟨Later.cell (h.cell 0 (by omega)), Later.cell (h.cell 1 (by omega)), Later.cell (h.cell 2 (by omega)), Later.cell (h.cell 3 (by omega)), Later.cell (h.cell 4 (by omega)), Later.cell (h.cell 5 (by omega)), Later.cell (h.cell 6 (by omega)), Later.cell (h.cell 7 (by omega))⟩

set_option maxRecDepth 100000 in
set_option maxHeartbeats 1000000 in
theorem words_any (r x : Row) (w : World) : Calls Try.prog 3 #[r.enc, x.arr] w fun e w' => e = .returned (.bool true) ∧ Below w.heap.size w w' := by
  go_enter Try.func3, Try.ntmps3
  go_wp2_with fail
  have hB : Below w.heap.size w ((w.alloc r.o).alloc x.oa) := ((Below.refl _ _).alloc (Nat.le_refl _) _).alloc (by simp) _
  have hR : HasR ((w.alloc r.o).alloc x.oa) w.heap.size r := (HasR.new w r).alloc _
  have hA : HasA ((w.alloc r.o).alloc x.oa) (w.heap.size + 1) x := by simpa using HasA.new (w.alloc r.o) x
  generalize (w.alloc r.o).alloc x.oa = W at hB hR hA ⊢
  have hrr : (r.right == r.right) = true := by simp
  have hhh : (r.holds x == r.holds x) = true := by simp
  obtain ⟨c0, c1, c2, c3, c4, c5, c6, c7, c8⟩ := hR.later
  obtain ⟨d0, d1, d2, d3, d4, d5, d6, d7⟩ := hA.later
  refine wp_region_later (by kernel_rfl) (by kernel_rfl) ?_
  repeat (go_big_quiet_step ((first
    | (go_at_call 10; exact Calls.later (right_any r _))
    | (go_at_call 11; exact Calls.later (lright_any r _))
    | (go_at_call 12; exact Calls.later (holds_any r x _))
    | (go_at_call 13; exact Calls.later (lholds_any r x _))
    | (go_at_call 14; exact Calls.later (awake_any _)))))
  refine wpQuiet_nil ?_
  rintro w1 ⟨s, rfl⟩
  go_wp2_with fail
  go_returns
  exact ⟨rfl, hB.trans (s.h.mono hB.size)⟩
end Go.Proofs.Ytfaccdidjhaahaa
