import Derived.Test.YtihbgppcacaekaaDoorQz
/- word.Name, word.Named. -/
namespace Go.Proofs.YtihbgppcacaekaaDoor
open Go.RowKit Go.BigFrame
def namesB : ByteArray := ⟨#[97, 100, 100, 32, 115, 117, 98, 32, 109, 117, 108, 32, 100, 105, 118, 32, 114, 101, 109, 32, 100, 105, 118, 117, 32, 114, 101, 109, 117, 32, 97, 110, 100, 32, 111, 114, 32, 120, 111, 114, 32, 115, 104, 108, 32, 115, 104, 114, 32, 115, 104, 114, 117, 32, 101, 113, 32, 110, 101, 32, 108, 116, 32, 108, 101, 32, 108, 116, 117, 32, 108, 101, 117, 32, 110, 101, 103, 32, 110, 111, 116, 32, 108, 111, 119, 32, 122, 101, 114, 111]⟩
theorem names_fields : Lib.fields namesB.data.toList = [[97, 100, 100], [115, 117, 98], [109, 117, 108], [100, 105, 118], [114, 101, 109], [100, 105, 118, 117], [114, 101, 109, 117], [97, 110, 100], [111, 114], [120, 111, 114], [115, 104, 108], [115, 104, 114], [115, 104, 114, 117], [101, 113], [110, 101], [108, 116], [108, 101], [108, 116, 117], [108, 101, 117], [110, 101, 103], [110, 111, 116], [108, 111, 119], [122, 101, 114, 111]] := by decide +kernel
theorem names_ascii : ∀ (j : Nat) b, namesB.data.toList[j]? = some b → b.toNat < 128 := by
  have h : ∀ b ∈ namesB.data.toList, b.toNat < 128 := by decide +kernel
  intro j b hj
  exact h b (List.mem_of_getElem? hj)
def namesO : Obj := .cells #[Value.string ⟨#[97, 100, 100]⟩, Value.string ⟨#[115, 117, 98]⟩, Value.string ⟨#[109, 117, 108]⟩, Value.string ⟨#[100, 105, 118]⟩, Value.string ⟨#[114, 101, 109]⟩, Value.string ⟨#[100, 105, 118, 117]⟩, Value.string ⟨#[114, 101, 109, 117]⟩, Value.string ⟨#[97, 110, 100]⟩, Value.string ⟨#[111, 114]⟩, Value.string ⟨#[120, 111, 114]⟩, Value.string ⟨#[115, 104, 108]⟩, Value.string ⟨#[115, 104, 114]⟩, Value.string ⟨#[115, 104, 114, 117]⟩, Value.string ⟨#[101, 113]⟩, Value.string ⟨#[110, 101]⟩, Value.string ⟨#[108, 116]⟩, Value.string ⟨#[108, 101]⟩, Value.string ⟨#[108, 116, 117]⟩, Value.string ⟨#[108, 101, 117]⟩, Value.string ⟨#[110, 101, 103]⟩, Value.string ⟨#[110, 111, 116]⟩, Value.string ⟨#[108, 111, 119]⟩, Value.string ⟨#[122, 101, 114, 111]⟩] 9
theorem fields_any (w : World) (h : Tabs w) : Calls Tryd.prog 56 #[.string namesB] w fun e w' => e = .returned (.slice (some ⟨w.heap.size, 0, none⟩) 23 23) ∧ w' = w.alloc namesO := by
  have hc := Tryd.strings_Fields namesB w (by decide +kernel) names_ascii h.asc
  rw [names_fields] at hc
  exact hc.mono fun e w' hh => ⟨hh.1, hh.2⟩
def nms : List ByteArray := [⟨#[97, 100, 100]⟩, ⟨#[115, 117, 98]⟩, ⟨#[109, 117, 108]⟩, ⟨#[100, 105, 118]⟩, ⟨#[114, 101, 109]⟩, ⟨#[100, 105, 118, 117]⟩, ⟨#[114, 101, 109, 117]⟩, ⟨#[97, 110, 100]⟩, ⟨#[111, 114]⟩, ⟨#[120, 111, 114]⟩, ⟨#[115, 104, 108]⟩, ⟨#[115, 104, 114]⟩, ⟨#[115, 104, 114, 117]⟩, ⟨#[101, 113]⟩, ⟨#[110, 101]⟩, ⟨#[108, 116]⟩, ⟨#[108, 101]⟩, ⟨#[108, 116, 117]⟩, ⟨#[108, 101, 117]⟩, ⟨#[110, 101, 103]⟩, ⟨#[110, 111, 116]⟩, ⟨#[108, 111, 119]⟩, ⟨#[122, 101, 114, 111]⟩]
def nm (i : Nat) : ByteArray := nms.getD i ⟨#[]⟩
theorem out23 (i : Nat) (h : i < 23) : i = 0 ∨ i = 1 ∨ i = 2 ∨ i = 3 ∨ i = 4 ∨ i = 5 ∨ i = 6 ∨ i = 7 ∨ i = 8 ∨ i = 9 ∨ i = 10 ∨ i = 11 ∨ i = 12 ∨ i = 13 ∨ i = 14 ∨ i = 15 ∨ i = 16 ∨ i = 17 ∨ i = 18 ∨ i = 19 ∨ i = 20 ∨ i = 21 ∨ i = 22 := by omega
theorem nm_inj_all : (List.range 23).all (fun i => (List.range 23).all fun j => !decide (nm i = nm j) || decide (i = j)) = true := by decide +kernel
theorem nm_inj {i j : Nat} (hi : i < 23) (hj : j < 23) (h : nm i = nm j) : i = j := by
  have h1 := List.all_eq_true.mp nm_inj_all i (List.mem_range.mpr hi)
  have h2 := List.all_eq_true.mp h1 j (List.mem_range.mpr hj)
  rcases Bool.or_eq_true _ _ ▸ h2 with h3 | h3
  · simp [h] at h3
  · simpa using h3

theorem fields_cells (w : World) (i : Nat) (hi : i < 23) : (w.alloc namesO).cell? ⟨w.heap.size, i, none⟩ = some (.string (nm i)) := by
  have h1 := heap_alloc_new w namesO
  unfold World.cell?
  rw [h1]
  rcases out23 i hi with rfl | rfl | rfl | rfl | rfl | rfl | rfl | rfl | rfl | rfl | rfl | rfl | rfl | rfl | rfl | rfl | rfl | rfl | rfl | rfl | rfl | rfl | rfl <;> rfl

def NameIs (op : Int) (n : ByteArray) : Prop := (1 ≤ op ∧ op ≤ 23 → n = nm (op - 1).toNat) ∧ (¬ (1 ≤ op ∧ op ≤ 23) → n = ⟨#[]⟩)
set_option maxRecDepth 1000000 in
theorem name_1 (w : World) (h : Tabs w) : Calls Tryd.prog 39 #[.int .i64 1] w fun e w' => (∃ n, e = .returned (.string n) ∧ NameIs 1 n) ∧ Below w.heap.size w w' := by
  have hf := fields_any w h
  have hcell := fields_cells w 0 (by decide)
  have hb : Below w.heap.size w (w.alloc namesO) := (Below.refl _ _).alloc (Nat.le_refl _) _
  generalize w.alloc namesO = W at *
  go_enter Tryd.func39, Tryd.ntmps39
  go_wp2_with (first
    | (go_at_call 50; refine (two_any _ _).mono ?_; rintro e w5 ⟨rfl, rfl⟩)
    | (go_at_call 56; refine hf.mono ?_; rintro e w5 ⟨rfl, rfl⟩))
  go_returns
  exact ⟨⟨_, rfl, fun _ => rfl, fun hh => absurd ⟨by decide, by decide⟩ hh⟩, hb⟩
set_option maxRecDepth 1000000 in
theorem name_2 (w : World) (h : Tabs w) : Calls Tryd.prog 39 #[.int .i64 2] w fun e w' => (∃ n, e = .returned (.string n) ∧ NameIs 2 n) ∧ Below w.heap.size w w' := by
  have hf := fields_any w h
  have hcell := fields_cells w 1 (by decide)
  have hb : Below w.heap.size w (w.alloc namesO) := (Below.refl _ _).alloc (Nat.le_refl _) _
  generalize w.alloc namesO = W at *
  go_enter Tryd.func39, Tryd.ntmps39
  go_wp2_with (first
    | (go_at_call 50; refine (two_any _ _).mono ?_; rintro e w5 ⟨rfl, rfl⟩)
    | (go_at_call 56; refine hf.mono ?_; rintro e w5 ⟨rfl, rfl⟩))
  go_returns
  exact ⟨⟨_, rfl, fun _ => rfl, fun hh => absurd ⟨by decide, by decide⟩ hh⟩, hb⟩
set_option maxRecDepth 1000000 in
theorem name_3 (w : World) (h : Tabs w) : Calls Tryd.prog 39 #[.int .i64 3] w fun e w' => (∃ n, e = .returned (.string n) ∧ NameIs 3 n) ∧ Below w.heap.size w w' := by
  have hf := fields_any w h
  have hcell := fields_cells w 2 (by decide)
  have hb : Below w.heap.size w (w.alloc namesO) := (Below.refl _ _).alloc (Nat.le_refl _) _
  generalize w.alloc namesO = W at *
  go_enter Tryd.func39, Tryd.ntmps39
  go_wp2_with (first
    | (go_at_call 50; refine (two_any _ _).mono ?_; rintro e w5 ⟨rfl, rfl⟩)
    | (go_at_call 56; refine hf.mono ?_; rintro e w5 ⟨rfl, rfl⟩))
  go_returns
  exact ⟨⟨_, rfl, fun _ => rfl, fun hh => absurd ⟨by decide, by decide⟩ hh⟩, hb⟩
set_option maxRecDepth 1000000 in
theorem name_4 (w : World) (h : Tabs w) : Calls Tryd.prog 39 #[.int .i64 4] w fun e w' => (∃ n, e = .returned (.string n) ∧ NameIs 4 n) ∧ Below w.heap.size w w' := by
  have hf := fields_any w h
  have hcell := fields_cells w 3 (by decide)
  have hb : Below w.heap.size w (w.alloc namesO) := (Below.refl _ _).alloc (Nat.le_refl _) _
  generalize w.alloc namesO = W at *
  go_enter Tryd.func39, Tryd.ntmps39
  go_wp2_with (first
    | (go_at_call 50; refine (two_any _ _).mono ?_; rintro e w5 ⟨rfl, rfl⟩)
    | (go_at_call 56; refine hf.mono ?_; rintro e w5 ⟨rfl, rfl⟩))
  go_returns
  exact ⟨⟨_, rfl, fun _ => rfl, fun hh => absurd ⟨by decide, by decide⟩ hh⟩, hb⟩
set_option maxRecDepth 1000000 in
theorem name_5 (w : World) (h : Tabs w) : Calls Tryd.prog 39 #[.int .i64 5] w fun e w' => (∃ n, e = .returned (.string n) ∧ NameIs 5 n) ∧ Below w.heap.size w w' := by
  have hf := fields_any w h
  have hcell := fields_cells w 4 (by decide)
  have hb : Below w.heap.size w (w.alloc namesO) := (Below.refl _ _).alloc (Nat.le_refl _) _
  generalize w.alloc namesO = W at *
  go_enter Tryd.func39, Tryd.ntmps39
  go_wp2_with (first
    | (go_at_call 50; refine (two_any _ _).mono ?_; rintro e w5 ⟨rfl, rfl⟩)
    | (go_at_call 56; refine hf.mono ?_; rintro e w5 ⟨rfl, rfl⟩))
  go_returns
  exact ⟨⟨_, rfl, fun _ => rfl, fun hh => absurd ⟨by decide, by decide⟩ hh⟩, hb⟩
set_option maxRecDepth 1000000 in
theorem name_6 (w : World) (h : Tabs w) : Calls Tryd.prog 39 #[.int .i64 6] w fun e w' => (∃ n, e = .returned (.string n) ∧ NameIs 6 n) ∧ Below w.heap.size w w' := by
  have hf := fields_any w h
  have hcell := fields_cells w 5 (by decide)
  have hb : Below w.heap.size w (w.alloc namesO) := (Below.refl _ _).alloc (Nat.le_refl _) _
  generalize w.alloc namesO = W at *
  go_enter Tryd.func39, Tryd.ntmps39
  go_wp2_with (first
    | (go_at_call 50; refine (two_any _ _).mono ?_; rintro e w5 ⟨rfl, rfl⟩)
    | (go_at_call 56; refine hf.mono ?_; rintro e w5 ⟨rfl, rfl⟩))
  go_returns
  exact ⟨⟨_, rfl, fun _ => rfl, fun hh => absurd ⟨by decide, by decide⟩ hh⟩, hb⟩
set_option maxRecDepth 1000000 in
theorem name_7 (w : World) (h : Tabs w) : Calls Tryd.prog 39 #[.int .i64 7] w fun e w' => (∃ n, e = .returned (.string n) ∧ NameIs 7 n) ∧ Below w.heap.size w w' := by
  have hf := fields_any w h
  have hcell := fields_cells w 6 (by decide)
  have hb : Below w.heap.size w (w.alloc namesO) := (Below.refl _ _).alloc (Nat.le_refl _) _
  generalize w.alloc namesO = W at *
  go_enter Tryd.func39, Tryd.ntmps39
  go_wp2_with (first
    | (go_at_call 50; refine (two_any _ _).mono ?_; rintro e w5 ⟨rfl, rfl⟩)
    | (go_at_call 56; refine hf.mono ?_; rintro e w5 ⟨rfl, rfl⟩))
  go_returns
  exact ⟨⟨_, rfl, fun _ => rfl, fun hh => absurd ⟨by decide, by decide⟩ hh⟩, hb⟩
set_option maxRecDepth 1000000 in
theorem name_8 (w : World) (h : Tabs w) : Calls Tryd.prog 39 #[.int .i64 8] w fun e w' => (∃ n, e = .returned (.string n) ∧ NameIs 8 n) ∧ Below w.heap.size w w' := by
  have hf := fields_any w h
  have hcell := fields_cells w 7 (by decide)
  have hb : Below w.heap.size w (w.alloc namesO) := (Below.refl _ _).alloc (Nat.le_refl _) _
  generalize w.alloc namesO = W at *
  go_enter Tryd.func39, Tryd.ntmps39
  go_wp2_with (first
    | (go_at_call 50; refine (two_any _ _).mono ?_; rintro e w5 ⟨rfl, rfl⟩)
    | (go_at_call 56; refine hf.mono ?_; rintro e w5 ⟨rfl, rfl⟩))
  go_returns
  exact ⟨⟨_, rfl, fun _ => rfl, fun hh => absurd ⟨by decide, by decide⟩ hh⟩, hb⟩
set_option maxRecDepth 1000000 in
theorem name_9 (w : World) (h : Tabs w) : Calls Tryd.prog 39 #[.int .i64 9] w fun e w' => (∃ n, e = .returned (.string n) ∧ NameIs 9 n) ∧ Below w.heap.size w w' := by
  have hf := fields_any w h
  have hcell := fields_cells w 8 (by decide)
  have hb : Below w.heap.size w (w.alloc namesO) := (Below.refl _ _).alloc (Nat.le_refl _) _
  generalize w.alloc namesO = W at *
  go_enter Tryd.func39, Tryd.ntmps39
  go_wp2_with (first
    | (go_at_call 50; refine (two_any _ _).mono ?_; rintro e w5 ⟨rfl, rfl⟩)
    | (go_at_call 56; refine hf.mono ?_; rintro e w5 ⟨rfl, rfl⟩))
  go_returns
  exact ⟨⟨_, rfl, fun _ => rfl, fun hh => absurd ⟨by decide, by decide⟩ hh⟩, hb⟩
set_option maxRecDepth 1000000 in
theorem name_10 (w : World) (h : Tabs w) : Calls Tryd.prog 39 #[.int .i64 10] w fun e w' => (∃ n, e = .returned (.string n) ∧ NameIs 10 n) ∧ Below w.heap.size w w' := by
  have hf := fields_any w h
  have hcell := fields_cells w 9 (by decide)
  have hb : Below w.heap.size w (w.alloc namesO) := (Below.refl _ _).alloc (Nat.le_refl _) _
  generalize w.alloc namesO = W at *
  go_enter Tryd.func39, Tryd.ntmps39
  go_wp2_with (first
    | (go_at_call 50; refine (two_any _ _).mono ?_; rintro e w5 ⟨rfl, rfl⟩)
    | (go_at_call 56; refine hf.mono ?_; rintro e w5 ⟨rfl, rfl⟩))
  go_returns
  exact ⟨⟨_, rfl, fun _ => rfl, fun hh => absurd ⟨by decide, by decide⟩ hh⟩, hb⟩
set_option maxRecDepth 1000000 in
theorem name_11 (w : World) (h : Tabs w) : Calls Tryd.prog 39 #[.int .i64 11] w fun e w' => (∃ n, e = .returned (.string n) ∧ NameIs 11 n) ∧ Below w.heap.size w w' := by
  have hf := fields_any w h
  have hcell := fields_cells w 10 (by decide)
  have hb : Below w.heap.size w (w.alloc namesO) := (Below.refl _ _).alloc (Nat.le_refl _) _
  generalize w.alloc namesO = W at *
  go_enter Tryd.func39, Tryd.ntmps39
  go_wp2_with (first
    | (go_at_call 50; refine (two_any _ _).mono ?_; rintro e w5 ⟨rfl, rfl⟩)
    | (go_at_call 56; refine hf.mono ?_; rintro e w5 ⟨rfl, rfl⟩))
  go_returns
  exact ⟨⟨_, rfl, fun _ => rfl, fun hh => absurd ⟨by decide, by decide⟩ hh⟩, hb⟩
set_option maxRecDepth 1000000 in
theorem name_12 (w : World) (h : Tabs w) : Calls Tryd.prog 39 #[.int .i64 12] w fun e w' => (∃ n, e = .returned (.string n) ∧ NameIs 12 n) ∧ Below w.heap.size w w' := by
  have hf := fields_any w h
  have hcell := fields_cells w 11 (by decide)
  have hb : Below w.heap.size w (w.alloc namesO) := (Below.refl _ _).alloc (Nat.le_refl _) _
  generalize w.alloc namesO = W at *
  go_enter Tryd.func39, Tryd.ntmps39
  go_wp2_with (first
    | (go_at_call 50; refine (two_any _ _).mono ?_; rintro e w5 ⟨rfl, rfl⟩)
    | (go_at_call 56; refine hf.mono ?_; rintro e w5 ⟨rfl, rfl⟩))
  go_returns
  exact ⟨⟨_, rfl, fun _ => rfl, fun hh => absurd ⟨by decide, by decide⟩ hh⟩, hb⟩
set_option maxRecDepth 1000000 in
theorem name_13 (w : World) (h : Tabs w) : Calls Tryd.prog 39 #[.int .i64 13] w fun e w' => (∃ n, e = .returned (.string n) ∧ NameIs 13 n) ∧ Below w.heap.size w w' := by
  have hf := fields_any w h
  have hcell := fields_cells w 12 (by decide)
  have hb : Below w.heap.size w (w.alloc namesO) := (Below.refl _ _).alloc (Nat.le_refl _) _
  generalize w.alloc namesO = W at *
  go_enter Tryd.func39, Tryd.ntmps39
  go_wp2_with (first
    | (go_at_call 50; refine (two_any _ _).mono ?_; rintro e w5 ⟨rfl, rfl⟩)
    | (go_at_call 56; refine hf.mono ?_; rintro e w5 ⟨rfl, rfl⟩))
  go_returns
  exact ⟨⟨_, rfl, fun _ => rfl, fun hh => absurd ⟨by decide, by decide⟩ hh⟩, hb⟩
set_option maxRecDepth 1000000 in
theorem name_14 (w : World) (h : Tabs w) : Calls Tryd.prog 39 #[.int .i64 14] w fun e w' => (∃ n, e = .returned (.string n) ∧ NameIs 14 n) ∧ Below w.heap.size w w' := by
  have hf := fields_any w h
  have hcell := fields_cells w 13 (by decide)
  have hb : Below w.heap.size w (w.alloc namesO) := (Below.refl _ _).alloc (Nat.le_refl _) _
  generalize w.alloc namesO = W at *
  go_enter Tryd.func39, Tryd.ntmps39
  go_wp2_with (first
    | (go_at_call 50; refine (two_any _ _).mono ?_; rintro e w5 ⟨rfl, rfl⟩)
    | (go_at_call 56; refine hf.mono ?_; rintro e w5 ⟨rfl, rfl⟩))
  go_returns
  exact ⟨⟨_, rfl, fun _ => rfl, fun hh => absurd ⟨by decide, by decide⟩ hh⟩, hb⟩
set_option maxRecDepth 1000000 in
theorem name_15 (w : World) (h : Tabs w) : Calls Tryd.prog 39 #[.int .i64 15] w fun e w' => (∃ n, e = .returned (.string n) ∧ NameIs 15 n) ∧ Below w.heap.size w w' := by
  have hf := fields_any w h
  have hcell := fields_cells w 14 (by decide)
  have hb : Below w.heap.size w (w.alloc namesO) := (Below.refl _ _).alloc (Nat.le_refl _) _
  generalize w.alloc namesO = W at *
  go_enter Tryd.func39, Tryd.ntmps39
  go_wp2_with (first
    | (go_at_call 50; refine (two_any _ _).mono ?_; rintro e w5 ⟨rfl, rfl⟩)
    | (go_at_call 56; refine hf.mono ?_; rintro e w5 ⟨rfl, rfl⟩))
  go_returns
  exact ⟨⟨_, rfl, fun _ => rfl, fun hh => absurd ⟨by decide, by decide⟩ hh⟩, hb⟩
set_option maxRecDepth 1000000 in
theorem name_16 (w : World) (h : Tabs w) : Calls Tryd.prog 39 #[.int .i64 16] w fun e w' => (∃ n, e = .returned (.string n) ∧ NameIs 16 n) ∧ Below w.heap.size w w' := by
  have hf := fields_any w h
  have hcell := fields_cells w 15 (by decide)
  have hb : Below w.heap.size w (w.alloc namesO) := (Below.refl _ _).alloc (Nat.le_refl _) _
  generalize w.alloc namesO = W at *
  go_enter Tryd.func39, Tryd.ntmps39
  go_wp2_with (first
    | (go_at_call 50; refine (two_any _ _).mono ?_; rintro e w5 ⟨rfl, rfl⟩)
    | (go_at_call 56; refine hf.mono ?_; rintro e w5 ⟨rfl, rfl⟩))
  go_returns
  exact ⟨⟨_, rfl, fun _ => rfl, fun hh => absurd ⟨by decide, by decide⟩ hh⟩, hb⟩
set_option maxRecDepth 1000000 in
theorem name_17 (w : World) (h : Tabs w) : Calls Tryd.prog 39 #[.int .i64 17] w fun e w' => (∃ n, e = .returned (.string n) ∧ NameIs 17 n) ∧ Below w.heap.size w w' := by
  have hf := fields_any w h
  have hcell := fields_cells w 16 (by decide)
  have hb : Below w.heap.size w (w.alloc namesO) := (Below.refl _ _).alloc (Nat.le_refl _) _
  generalize w.alloc namesO = W at *
  go_enter Tryd.func39, Tryd.ntmps39
  go_wp2_with (first
    | (go_at_call 50; refine (two_any _ _).mono ?_; rintro e w5 ⟨rfl, rfl⟩)
    | (go_at_call 56; refine hf.mono ?_; rintro e w5 ⟨rfl, rfl⟩))
  go_returns
  exact ⟨⟨_, rfl, fun _ => rfl, fun hh => absurd ⟨by decide, by decide⟩ hh⟩, hb⟩
set_option maxRecDepth 1000000 in
theorem name_18 (w : World) (h : Tabs w) : Calls Tryd.prog 39 #[.int .i64 18] w fun e w' => (∃ n, e = .returned (.string n) ∧ NameIs 18 n) ∧ Below w.heap.size w w' := by
  have hf := fields_any w h
  have hcell := fields_cells w 17 (by decide)
  have hb : Below w.heap.size w (w.alloc namesO) := (Below.refl _ _).alloc (Nat.le_refl _) _
  generalize w.alloc namesO = W at *
  go_enter Tryd.func39, Tryd.ntmps39
  go_wp2_with (first
    | (go_at_call 50; refine (two_any _ _).mono ?_; rintro e w5 ⟨rfl, rfl⟩)
    | (go_at_call 56; refine hf.mono ?_; rintro e w5 ⟨rfl, rfl⟩))
  go_returns
  exact ⟨⟨_, rfl, fun _ => rfl, fun hh => absurd ⟨by decide, by decide⟩ hh⟩, hb⟩
set_option maxRecDepth 1000000 in
theorem name_19 (w : World) (h : Tabs w) : Calls Tryd.prog 39 #[.int .i64 19] w fun e w' => (∃ n, e = .returned (.string n) ∧ NameIs 19 n) ∧ Below w.heap.size w w' := by
  have hf := fields_any w h
  have hcell := fields_cells w 18 (by decide)
  have hb : Below w.heap.size w (w.alloc namesO) := (Below.refl _ _).alloc (Nat.le_refl _) _
  generalize w.alloc namesO = W at *
  go_enter Tryd.func39, Tryd.ntmps39
  go_wp2_with (first
    | (go_at_call 50; refine (two_any _ _).mono ?_; rintro e w5 ⟨rfl, rfl⟩)
    | (go_at_call 56; refine hf.mono ?_; rintro e w5 ⟨rfl, rfl⟩))
  go_returns
  exact ⟨⟨_, rfl, fun _ => rfl, fun hh => absurd ⟨by decide, by decide⟩ hh⟩, hb⟩
set_option maxRecDepth 1000000 in
theorem name_20 (w : World) (h : Tabs w) : Calls Tryd.prog 39 #[.int .i64 20] w fun e w' => (∃ n, e = .returned (.string n) ∧ NameIs 20 n) ∧ Below w.heap.size w w' := by
  have hf := fields_any w h
  have hcell := fields_cells w 19 (by decide)
  have hb : Below w.heap.size w (w.alloc namesO) := (Below.refl _ _).alloc (Nat.le_refl _) _
  generalize w.alloc namesO = W at *
  go_enter Tryd.func39, Tryd.ntmps39
  go_wp2_with (first
    | (go_at_call 50; refine (two_any _ _).mono ?_; rintro e w5 ⟨rfl, rfl⟩)
    | (go_at_call 49; refine (one_any _ _).mono ?_; rintro e w5 ⟨rfl, rfl⟩)
    | (go_at_call 56; refine hf.mono ?_; rintro e w5 ⟨rfl, rfl⟩))
  go_returns
  exact ⟨⟨_, rfl, fun _ => rfl, fun hh => absurd ⟨by decide, by decide⟩ hh⟩, hb⟩
set_option maxRecDepth 1000000 in
theorem name_21 (w : World) (h : Tabs w) : Calls Tryd.prog 39 #[.int .i64 21] w fun e w' => (∃ n, e = .returned (.string n) ∧ NameIs 21 n) ∧ Below w.heap.size w w' := by
  have hf := fields_any w h
  have hcell := fields_cells w 20 (by decide)
  have hb : Below w.heap.size w (w.alloc namesO) := (Below.refl _ _).alloc (Nat.le_refl _) _
  generalize w.alloc namesO = W at *
  go_enter Tryd.func39, Tryd.ntmps39
  go_wp2_with (first
    | (go_at_call 50; refine (two_any _ _).mono ?_; rintro e w5 ⟨rfl, rfl⟩)
    | (go_at_call 49; refine (one_any _ _).mono ?_; rintro e w5 ⟨rfl, rfl⟩)
    | (go_at_call 56; refine hf.mono ?_; rintro e w5 ⟨rfl, rfl⟩))
  go_returns
  exact ⟨⟨_, rfl, fun _ => rfl, fun hh => absurd ⟨by decide, by decide⟩ hh⟩, hb⟩
set_option maxRecDepth 1000000 in
theorem name_22 (w : World) (h : Tabs w) : Calls Tryd.prog 39 #[.int .i64 22] w fun e w' => (∃ n, e = .returned (.string n) ∧ NameIs 22 n) ∧ Below w.heap.size w w' := by
  have hf := fields_any w h
  have hcell := fields_cells w 21 (by decide)
  have hb : Below w.heap.size w (w.alloc namesO) := (Below.refl _ _).alloc (Nat.le_refl _) _
  generalize w.alloc namesO = W at *
  go_enter Tryd.func39, Tryd.ntmps39
  go_wp2_with (first
    | (go_at_call 50; refine (two_any _ _).mono ?_; rintro e w5 ⟨rfl, rfl⟩)
    | (go_at_call 49; refine (one_any _ _).mono ?_; rintro e w5 ⟨rfl, rfl⟩)
    | (go_at_call 56; refine hf.mono ?_; rintro e w5 ⟨rfl, rfl⟩))
  go_returns
  exact ⟨⟨_, rfl, fun _ => rfl, fun hh => absurd ⟨by decide, by decide⟩ hh⟩, hb⟩
set_option maxRecDepth 1000000 in
theorem name_23 (w : World) (h : Tabs w) : Calls Tryd.prog 39 #[.int .i64 23] w fun e w' => (∃ n, e = .returned (.string n) ∧ NameIs 23 n) ∧ Below w.heap.size w w' := by
  have hf := fields_any w h
  have hcell := fields_cells w 22 (by decide)
  have hb : Below w.heap.size w (w.alloc namesO) := (Below.refl _ _).alloc (Nat.le_refl _) _
  generalize w.alloc namesO = W at *
  go_enter Tryd.func39, Tryd.ntmps39
  go_wp2_with (first
    | (go_at_call 50; refine (two_any _ _).mono ?_; rintro e w5 ⟨rfl, rfl⟩)
    | (go_at_call 49; refine (one_any _ _).mono ?_; rintro e w5 ⟨rfl, rfl⟩)
    | (go_at_call 56; refine hf.mono ?_; rintro e w5 ⟨rfl, rfl⟩))
  go_returns
  exact ⟨⟨_, rfl, fun _ => rfl, fun hh => absurd ⟨by decide, by decide⟩ hh⟩, hb⟩
set_option maxRecDepth 1000000 in
set_option maxHeartbeats 2000000 in
theorem name_any (op : Int) (w : World) (h : Tabs w) : Calls Tryd.prog 39 #[.int .i64 op] w fun e w' => (∃ n, e = .returned (.string n) ∧ NameIs op n) ∧ Below w.heap.size w w' := by
  by_cases hr : 1 ≤ op ∧ op ≤ 23
  · have hc : op = 1 ∨ op = 2 ∨ op = 3 ∨ op = 4 ∨ op = 5 ∨ op = 6 ∨ op = 7 ∨ op = 8 ∨ op = 9 ∨ op = 10 ∨ op = 11 ∨ op = 12 ∨ op = 13 ∨ op = 14 ∨ op = 15 ∨ op = 16 ∨ op = 17 ∨ op = 18 ∨ op = 19 ∨ op = 20 ∨ op = 21 ∨ op = 22 ∨ op = 23 := by omega
    rcases hc with rfl | rfl | rfl | rfl | rfl | rfl | rfl | rfl | rfl | rfl | rfl | rfl | rfl | rfl | rfl | rfl | rfl | rfl | rfl | rfl | rfl | rfl | rfl
    · exact name_1 w h
    · exact name_2 w h
    · exact name_3 w h
    · exact name_4 w h
    · exact name_5 w h
    · exact name_6 w h
    · exact name_7 w h
    · exact name_8 w h
    · exact name_9 w h
    · exact name_10 w h
    · exact name_11 w h
    · exact name_12 w h
    · exact name_13 w h
    · exact name_14 w h
    · exact name_15 w h
    · exact name_16 w h
    · exact name_17 w h
    · exact name_18 w h
    · exact name_19 w h
    · exact name_20 w h
    · exact name_21 w h
    · exact name_22 w h
    · exact name_23 w h
  · have t2 := two_any op
    have t1 := one_any op
    rw [show decide (1 ≤ op ∧ op ≤ 19) = false by simp; omega] at t2
    rw [show decide (20 ≤ op ∧ op ≤ 23) = false by simp; omega] at t1
    go_enter Tryd.func39, Tryd.ntmps39
    go_wp2_with (first
      | (go_at_call 50; refine (t2 _).mono ?_; rintro e w' ⟨rfl, rfl⟩)
      | (go_at_call 49; refine (t1 _).mono ?_; rintro e w' ⟨rfl, rfl⟩))
    go_returns
    exact ⟨⟨_, rfl, fun hh => absurd hh hr, fun _ => rfl⟩, Below.refl _ _⟩
/-- what a search for a name among the first k tells -/
def FoundIn (s : ByteArray) (k r : Nat) : Prop := (r = 0 ∧ ∀ i < k, nm i ≠ s) ∨ (0 < r ∧ r ≤ k ∧ nm (r - 1) = s)
theorem FoundIn.same {s : ByteArray} {r r' : Nat} (h : FoundIn s 23 r) (h' : FoundIn s 23 r') : r = r' := by
  rcases h with ⟨h0, h1⟩ | ⟨h0, h1, h2⟩ <;> rcases h' with ⟨g0, g1⟩ | ⟨g0, g1, g2⟩
  · omega
  · exact absurd g2 (h1 _ (by omega))
  · exact absurd h2 (g1 _ (by omega))
  · have := nm_inj (by omega) (by omega) (h2.trans g2.symm)
    omega

theorem FoundIn.hit {s : ByteArray} {k : Nat} (h : nm k = s) : FoundIn s (k + 1) (k + 1) := Or.inr ⟨by omega, by omega, by simpa using h⟩
theorem FoundIn.miss {s : ByteArray} {k r : Nat} (hf : FoundIn s k r) (h : nm k ≠ s) : FoundIn s (k + 1) r := by
  rcases hf with ⟨h0, h1⟩ | ⟨h0, h1, h2⟩
  · refine Or.inl ⟨h0, fun i hi => ?_⟩
    by_cases he : i = k
    · subst he; exact h
    · exact h1 i (by omega)
  · exact Or.inr ⟨h0, by omega, h2⟩
set_option maxRecDepth 1000000 in
set_option maxHeartbeats 2000000 in
theorem wnamed_any (s : ByteArray) (w : World) (h : Tabs w) : Calls Tryd.prog 53 #[.string s] w fun e w' => (∃ r : Nat, e = .returned (.tuple #[.int .i64 r, .bool (decide (0 < r))]) ∧ FoundIn s 23 r) ∧ Below w.heap.size w w' := by
  have hf := fields_any w h
  have hcell := fields_cells w
  have hb : Below w.heap.size w (w.alloc namesO) := (Below.refl _ _).alloc (Nat.le_refl _) _
  obtain ⟨WW, hWW⟩ : ∃ WW, w.alloc namesO = WW := ⟨_, rfl⟩
  rw [hWW] at hf hcell hb
  clear hWW
  go_enter Tryd.func53, Tryd.ntmps53
  go_wp2_with (first
    | (go_at_call 56; refine hf.mono ?_; rintro e w5 ⟨rfl, rfl⟩))
  go_loopw [8] (fun i w8 => ∃ k : Nat, k ≤ 23 ∧ i = .int .i64 k ∧ w8 = w5 ∧ ∀ i < k, nm i ≠ s) (fun i _ => 23 - (intOf i).toNat)
  case atStart => exact ⟨0, by omega, rfl, rfl, fun i hi => by omega⟩
  case round =>
    obtain ⟨k, hk, rfl, hw0, hno⟩ := hrel
    have hw1 := hw0.symm
    subst hw1
    by_cases hlt : k < 23
    · have hc := hcell k hlt
      cases he : ((nm k).toList == s.toList)
      · go_wp2
        exact ⟨⟨k + 1, by omega, by simp, trivial, fun i hi => by
          by_cases hik : i = k
          · subst hik; exact bytes_other he
          · exact hno i (by omega)⟩, by simp [intOf]; omega⟩
      · go_wp2
        go_returns
        exact ⟨⟨k + 1, by simp, Or.inr ⟨by omega, by omega, by simpa using bytes_same he⟩⟩, hb⟩
    · obtain rfl : k = 23 := by omega
      go_wp2
      go_returns
      exact ⟨⟨0, by simp, Or.inl ⟨rfl, hno⟩⟩, hb⟩

end Go.Proofs.YtihbgppcacaekaaDoor
