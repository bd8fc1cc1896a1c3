import Derived.Test.YtihbgppcacaekaaDoorQx
import Derived.Lib.AtoiAll
/- number. -/
namespace Go.Proofs.YtihbgppcacaekaaDoor
open Go.RowKit Go.BigFrame

/-- what number tells -/
def numF (s : ByteArray) : Int × Bool :=
  match Lib.atoiAll s.data.toList with
  | .ok v => (v, decide (Lib.itoa v = s.data.toList))
  | .range => (Lib.atoiSat s.data.toList, false)
  | _ => (0, false)
theorem parse_ok_range {l : List UInt8} {v : Int} (h : Lib.atoiAll l = .ok v) : -9223372036854775808 ≤ v ∧ v ≤ 9223372036854775807 := by
  unfold Lib.atoiAll at h
  cases l with
  | nil => cases h
  | cons c r =>
    simp only at h
    split at h
    · cases h
    · cases h
    · rename_i u hu
      split at h
      · cases h
      · split at h
        · cases h
        · injection h with h
          split at h <;> omega
theorem below_grow2 (w : World) (q : Nat) (os : Array Obj) : Below w.heap.size w (Sort.grow (w.drewN q) os) :=
  ⟨rfl, rfl, rfl, by show w.heap.size ≤ (w.heap ++ os).size; rw [Array.size_append]; omega, fun i hi => by
    show ((w.drewN q).heap ++ os)[i]? = _
    rw [Array.getElem?_append_left (by show i < w.heap.size; exact hi)]
    rfl⟩
set_option maxRecDepth 1000000 in
theorem number_any (s : ByteArray) (hs : s.size ≤ 281474976710656) (w : World) (hT : Tabs w) :
    Calls Tryd.prog 34 #[.string s] w fun e w' => e = .returned (.tuple #[.int .i64 (numF s).1, .bool (numF s).2]) ∧ Below w.heap.size w w' := by
  unfold numF
  cases h : Lib.atoiAll s.data.toList with
  | ok v =>
    have hr := parse_ok_range h
    have hat := (Tryd.strconv_Atoi_ok s (by omega) v h w).mono fun e w' (hh : e = _ ∧ _) => (⟨hh.1, hh.2.elim (fun q => q ▸ Below.refl _ _) (fun ⟨t, q⟩ => q ▸ Go.Joins.below_bytesWorld _ w 5 t (Nat.le_refl _))⟩ : e = .returned (.tuple #[.int .i64 v, .nilIface]) ∧ Below w.heap.size w w')
    have hit := fun W (hW : Tabs W) => (Tryd.strconv_Itoa v hr.1 hr.2 W hW.pow).mono fun e w' (hh : e = _ ∧ _) => (⟨hh.1, hh.2.elim fun k h => h.elim fun os q => q ▸ below_grow2 W k os⟩ : e = .returned (.string ⟨(Lib.itoa v).toArray⟩) ∧ Below W.heap.size W w')
    have hbq : (Lib.itoa v == s.toList) = decide (Lib.itoa v = s.data.toList) := by rw [Go.ByteArray.toList_eq]; rw [Bool.eq_iff_iff]; simp
    simp only
    obtain ⟨c, hc⟩ : ∃ c, decide (Lib.itoa v = s.data.toList) = c := ⟨_, rfl⟩
    rw [hc] at hbq ⊢
    go_enter Tryd.func34, Tryd.ntmps34
    go_wp2_with (first
      | (go_at_call 52; refine hat.mono ?_; rintro e w5 ⟨rfl, hw5⟩)
      | (go_at_call 19; refine (hit _ (hT.below hw5)).mono ?_; rintro e w6 ⟨rfl, hw6⟩))
    go_returns
    exact ⟨rfl, hw5.trans (hw6.mono hw5.size)⟩
  | range =>
    obtain ⟨tp, p, hp⟩ := hT.er
    have hat := Tryd.strconv_Atoi_range_var s hs h tp p w hp
    simp only
    go_enter Tryd.func34, Tryd.ntmps34
    go_wp2_with (first
      | (go_at_call 52; refine hat.mono ?_; rintro e w5 ⟨N, rfl, _, _, hw5⟩))
    go_returns
    exact ⟨rfl, hw5⟩
  | _ =>
    obtain ⟨tp, p, hp⟩ := hT.es
    have hat : Calls Tryd.prog 52 #[.string s] w fun e w' => ∃ N, e = .returned (.tuple #[.int .i64 0, .iface 134 (.pointer (some ⟨N, 0, none⟩))]) ∧ w.heap.size ≤ N ∧ w'.heap[N]? = some (.cells #[.string ⟨#[65, 116, 111, 105]⟩, .string s, .iface tp p] 149 (0, 0)) ∧ Below w.heap.size w w' := Any.strconv_Atoi_syntax_var Tryd.laysC172 s hs h tp p w hp
    simp only
    go_enter Tryd.func34, Tryd.ntmps34
    go_wp2_with (first
      | (go_at_call 52; refine hat.mono ?_; rintro e w5 ⟨N, rfl, _, _, hw5⟩))
    go_returns
    exact ⟨rfl, hw5⟩
end Go.Proofs.YtihbgppcacaekaaDoor
