import Derived.Test.YtpadbfjocecofaaDoorB
import Derived.Test.YtpadbfjocecofaaDoorShelf
import Derived.Lib.SmallJoins
namespace Go.Proofs.YtpadbfjocecofaaDoor
open Go.RowKit Go.BigFrame

def namesB : ByteArray := ⟨#[97, 100, 100, 32, 115, 117, 98, 32, 109, 117, 108, 32, 100, 105, 118, 32, 114, 101, 109, 32, 100, 105, 118, 117, 32, 114, 101, 109, 117, 32, 97, 110, 100, 32, 111, 114, 32, 120, 111, 114, 32, 115, 104, 108, 32, 115, 104, 114, 32, 115, 104, 114, 117, 32, 101, 113, 32, 110, 101, 32, 108, 116, 32, 108, 101, 32, 108, 116, 117, 32, 108, 101, 117, 32, 110, 101, 103, 32, 110, 111, 116, 32, 108, 111, 119, 32, 122, 101, 114, 111]⟩
theorem names_fields : Lib.fields namesB.data.toList = [[97, 100, 100], [115, 117, 98], [109, 117, 108], [100, 105, 118], [114, 101, 109], [100, 105, 118, 117], [114, 101, 109, 117], [97, 110, 100], [111, 114], [120, 111, 114], [115, 104, 108], [115, 104, 114], [115, 104, 114, 117], [101, 113], [110, 101], [108, 116], [108, 101], [108, 116, 117], [108, 101, 117], [110, 101, 103], [110, 111, 116], [108, 111, 119], [122, 101, 114, 111]] := by decide +kernel
theorem names_ascii : ∀ (j : Nat) b, namesB.data.toList[j]? = some b → b.toNat < 128 := by
  have h : ∀ b ∈ namesB.data.toList, b.toNat < 128 := by decide +kernel
  intro j b hj
  exact h b (List.mem_of_getElem? hj)
def namesO : Obj := .cells #[Value.string ⟨#[97, 100, 100]⟩, Value.string ⟨#[115, 117, 98]⟩, Value.string ⟨#[109, 117, 108]⟩, Value.string ⟨#[100, 105, 118]⟩, Value.string ⟨#[114, 101, 109]⟩, Value.string ⟨#[100, 105, 118, 117]⟩, Value.string ⟨#[114, 101, 109, 117]⟩, Value.string ⟨#[97, 110, 100]⟩, Value.string ⟨#[111, 114]⟩, Value.string ⟨#[120, 111, 114]⟩, Value.string ⟨#[115, 104, 108]⟩, Value.string ⟨#[115, 104, 114]⟩, Value.string ⟨#[115, 104, 114, 117]⟩, Value.string ⟨#[101, 113]⟩, Value.string ⟨#[110, 101]⟩, Value.string ⟨#[108, 116]⟩, Value.string ⟨#[108, 101]⟩, Value.string ⟨#[108, 116, 117]⟩, Value.string ⟨#[108, 101, 117]⟩, Value.string ⟨#[110, 101, 103]⟩, Value.string ⟨#[110, 111, 116]⟩, Value.string ⟨#[108, 111, 119]⟩, Value.string ⟨#[122, 101, 114, 111]⟩] 9
abbrev Tab (w : World) : Prop := Lib.TabIs Tryd.prog w "strings.asciiSpace" .u8 Lib.asciiSpaceTab
theorem gTab : ∃ g, Tryd.prog.globalNamed "strings.asciiSpace" = some g := ⟨0, by kernel_rfl⟩
theorem Tab.below {w w' : World} (h : Tab w) (hb : Below w.heap.size w w') : Tab w' := by
  obtain ⟨g, hg⟩ := gTab
  exact Go.Joins.tab_stays hg h hb (Nat.le_refl _)
theorem fields_any (w : World) (h : Tab w) : Calls Tryd.prog 35 #[.string namesB] w fun e w' => e = .returned (.slice (some ⟨w.heap.size, 0, none⟩) 23 23) ∧ w' = w.alloc namesO := by
  have hc := Tryd.strings_Fields namesB w (by decide +kernel) names_ascii h
  rw [names_fields] at hc
  exact hc.mono fun e w' hh => ⟨hh.1, hh.2⟩
set_option maxRecDepth 1000000 in
theorem name_shru (w : World) (h : Tab w) : Calls Tryd.prog 27 #[.int .i64 13] w fun e w' => e = .returned (.string ⟨#[115, 104, 114, 117]⟩) ∧ Below w.heap.size w w' := by
  have hf := fields_any w h
  have hcell : (w.alloc namesO).cell? ⟨w.heap.size, 12, none⟩ = some (.string ⟨#[115, 104, 114, 117]⟩) := by
    have h1 := heap_alloc_new w namesO
    unfold World.cell?
    rw [h1]
    rfl
  have hb : Below w.heap.size w (w.alloc namesO) := (Below.refl _ _).alloc (Nat.le_refl _) _
  generalize w.alloc namesO = W at *
  go_enter Tryd.func27, Tryd.ntmps27
  go_wp2_with (first
    | (go_at_call 24; refine (two_any _ _).mono ?_; rintro e w' ⟨rfl, rfl⟩)
    | (go_at_call 35; refine hf.mono ?_; rintro e w' ⟨rfl, rfl⟩))
  go_returns
  exact ⟨rfl, hb⟩
theorem aw1 (w : World) : Calls Tryd.prog 11 #[.int .i64 1, .int .i64 2147483647, .int .i64 1] w fun e w' => e = .returned (.tuple #[.int .i64 (-2147483648), .bool true]) ∧ w = w' := by
  have h := do_1 2147483647 1 w
  rwa [show wr (wr 2147483647 + wr 1) = -2147483648 by decide] at h
theorem aw5 (w : World) : Calls Tryd.prog 11 #[.int .i64 5, .int .i64 (-7), .int .i64 2] w fun e w' => e = .returned (.tuple #[.int .i64 (-1), .bool true]) ∧ Below w.heap.size w w' := by
  have h := do_5 (-7) 2 w
  rwa [show wr (md (wr (-7)) (wr 2)) = -1 by decide, show (!decide (wr 2 = 0)) = true by decide] at h
theorem aw6 (w : World) : Calls Tryd.prog 11 #[.int .i64 6, .int .i64 1, .int .i64 0] w fun e w' => e = .returned (.tuple #[.int .i64 0, .bool false]) ∧ Below w.heap.size w w' := by
  have h := do_6 1 0 w
  rwa [show wr (dv (pl (wr 1)) (pl (wr 0))) = 0 by decide, show (!decide (pl (wr 0) = 0)) = false by decide] at h
set_option maxRecDepth 1000000 in
set_option maxHeartbeats 1000000 in
theorem awake_any (w : World) (h : Tab w) : Calls Tryd.prog 13 #[] w fun e w' => e = .returned (.bool true) ∧ Below w.heap.size w w' := by
  go_enter Tryd.func13, Tryd.ntmps13
  go_wp2_with (first
    | (go_at_call_of 11 (2147483647 : Int); refine (aw1 _).mono ?_; rintro e w' ⟨rfl, rfl⟩)
    | (go_at_call_of 11 (5 : Int); refine (aw5 _).mono ?_; rintro e w1 ⟨rfl, hb1⟩; have h1 := h.below hb1)
    | (go_at_call_of 11 (6 : Int); refine (aw6 _).mono ?_; rintro e w2 ⟨rfl, hb2⟩; have h2 := h1.below hb2)
    | (go_at_call 27; refine (name_shru _ h2).mono ?_; rintro e w3 ⟨rfl, hb3⟩))

  go_returns
  exact ⟨rfl, hb1.trans ((hb2.mono hb1.size).trans (hb3.mono (Nat.le_trans hb1.size hb2.size)))⟩
end Go.Proofs.YtpadbfjocecofaaDoor
