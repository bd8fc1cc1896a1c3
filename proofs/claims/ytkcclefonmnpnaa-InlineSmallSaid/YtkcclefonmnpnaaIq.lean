import Derived.Test.YtkcclefonmnpnaaMx
import Derived.Test.YtkcclefonmnpnaaIp
import Derived.Test.YtkcclefonmnpnaaIc
import Derived.Test.YtkcclefonmnpnaaZf
import Derived.Test.YtkcclefonmnpnaaZfs
import Derived.Test.YtkcclefonmnpnaaZft
/- InlineSmall. -/
namespace Go.Proofs.Ytkcclefonmnpnaa
open Go.RowKit Go.BigFrame

theorem tru_bool {p : Prop} {sb : Bool} (h : sb = true ↔ p) {e : Ending} (ht : Tru p e) : e = .returned (.bool sb) := by
  obtain ⟨bv, h1, h2⟩ := ht
  rw [h1]
  have : bv = sb := by
    cases bv <;> cases sb <;> simp_all
  rw [this]
set_option maxRecDepth 1000000 in
set_option maxHeartbeats 8000000 in
theorem InlineSmall_any (f : Fn7) (C : Option Addr) (cap : Nat) (hl9 : f.code.length ≤ 9223372036854775807) (W : World) (hC : RdI W C f.code) :
    Calls Try.prog 11 #[funcAgg f.nm f.ps f.R f.Fr C f.code.length cap] W fun e w' => e = .returned (.bool true) ∧ Below W.heap.size W w' := by
  have hB := Below.one W (funcObj f.nm f.ps f.R f.Fr C f.code.length cap)
  have bx := heap_alloc_new W (funcObj f.nm f.ps f.R f.Fr C f.code.length cap)
  obtain ⟨W1, hW1⟩ : ∃ W1, W.alloc (funcObj f.nm f.ps f.R f.Fr C f.code.length cap) = W1 := ⟨_, rfl⟩
  rw [hW1] at hB bx
  have hC1 := hC.below hB
  have hsm7 := Small_any f C cap hl9 W1 hC1
  obtain ⟨sb, hsb⟩ : ∃ sb : Bool, sb = true ↔ SmallF f := by
    by_cases h : SmallF f
    · exact ⟨true, by simp [h]⟩
    · exact ⟨false, by simp [h]⟩
  have hs := fun W h => (small_any f C cap W h).mono fun e w' h => (⟨tru_bool hsb h.1, h.2⟩ : e = .returned (.bool sb) ∧ Below W.heap.size W w')
  have hr := fun W h => (rsmall_any f C cap W h).mono fun e w' h => (⟨tru_bool hsb h.1, h.2⟩ : e = .returned (.bool sb) ∧ Below W.heap.size W w')
  obtain ⟨L, hL⟩ : ∃ L, f.code.length = L := ⟨_, rfl⟩
  rw [hL] at bx hsm7 hs hr hW1 ⊢
  simp only [funcObj, funcAgg] at bx hsm7 hs hr hW1 ⊢
  have x0 := cell_of_heap bx 0 (.string f.nm) rfl
  have x1 := cell_of_heap bx 1 (.int .i64 f.ps) rfl
  have x2 := cell_of_heap bx 2 (.int .i64 f.R) rfl
  have x3 := cell_of_heap bx 3 (.int .i64 f.Fr) rfl
  have x4 := cell_of_heap bx 4 (.slice C L cap) rfl
  have HB := Lib.hid hB
  have BX := Lib.hid bx
  have HC1 := Lib.hid hC1
  have HSM := Lib.hid hsm7
  have HS := Lib.hid hs
  have HR := Lib.hid hr
  clear hB bx hC hC1 hsm7 hs hr hsb hl9 hL
  go_enter Try.func11, Try.ntmps11
  go_wp2_with fail
  (try rw [hW1])
  refine HSM.out.mono ?_
  rintro e w1 ⟨⟨bv, rfl, _⟩, hb1⟩
  dsimp only
  have b1 := (hb1.block _ (Array.getElem?_eq_some_iff.1 BX.out).1).trans BX.out
  have HC2 := Lib.hid (HC1.out.below hb1)
  have HB1 := Lib.hid (HB.out.trans (hb1.mono HB.out.size))
  clear x0 x1 x2 x3 x4 hb1 hW1 HSM
  cases bv
  · go_wp2_with fail
    refine (awake13_any _).mono ?_
    rintro e w2 ⟨rfl, hb2⟩
    dsimp only
    have HB2 := Lib.hid (HB1.out.trans (hb2.mono HB1.out.size))
    clear hb2 b1
    go_wp2
    go_returns
    exact ⟨rfl, HB2.out⟩
  · have x0 := cell_of_heap b1 0 (.string f.nm) rfl
    have x1 := cell_of_heap b1 1 (.int .i64 f.ps) rfl
    have x2 := cell_of_heap b1 2 (.int .i64 f.R) rfl
    have x3 := cell_of_heap b1 3 (.int .i64 f.Fr) rfl
    have x4 := cell_of_heap b1 4 (.slice C L cap) rfl
    clear b1
    go_upto_region 3 with fail
    have e0 := fun s : Later w1 => Later.cell x0 s
    have e1 := fun s : Later w1 => Later.cell x1 s
    have e2 := fun s : Later w1 => Later.cell x2 s
    have e3 := fun s : Later w1 => Later.cell x3 s
    have e4 := fun s : Later w1 => Later.cell x4 s
    clear x0 x1 x2 x3 x4
    have hq : (sb == sb) = true := by cases sb <;> rfl
    have hq2 : decide (sb = sb) = true := by simp
    refine wp_region_later (by kernel_rfl) (by kernel_rfl) ?_
    repeat (go_big_quiet_step ((first | (go_at_call 40; exact Calls.later (HS.out _ (HC2.out.below (Later.h _)))) | (go_at_call 41; exact Calls.later (HR.out _ (HC2.out.below (Later.h _)))) | (go_at_call 39; exact Calls.later (awake13_any _)))))
    refine wpQuiet_nil ?_
    rintro w2 ⟨s', rfl⟩
    have hb2 := s'.h
    generalize s'.w = w2 at *
    have HB2 := Lib.hid (HB1.out.trans (hb2.mono HB1.out.size))
    clear hb2 e0 e1 e2 e3 e4
    go_wp2
    go_returns
    exact ⟨rfl, HB2.out⟩
end Go.Proofs.Ytkcclefonmnpnaa
