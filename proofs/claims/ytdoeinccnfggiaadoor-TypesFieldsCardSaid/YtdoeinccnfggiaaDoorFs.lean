import Derived.Test.YtdoeinccnfggiaaDoorFc
namespace Go.Proofs.YtdoeinccnfggiaaDoor
open Go.RowKit Go.BigFrame

abbrev sTy : Ty := ⟨6, 0, 0, ⟨#[115]⟩⟩
section
variable (cs : List Nat) (L : Nat) (hL : L ≤ 10)
include hL in
theorem fd_nos : find1 sTy (fdT cs L) 0 = none := by
  obtain ⟨E, h1, _, h3⟩ := fdT_form cs L hL
  refine find1_none _ _ _ fun i y hy e => ?_
  subst e
  rw [h1] at hy
  by_cases hi : i < 4
  · rw [List.getElem?_append_left (by rw [tys_len]; exact hi)] at hy
    have := tys4_lt i _ hy
    exact absurd this (by decide)
  · rw [List.getElem?_append_right (by rw [tys_len]; omega)] at hy
    have := h3 _ (List.mem_of_getElem? hy)
    exact absurd this (by decide)
include hL in
theorem fd_str : strL (fdT cs L) ⟨#[115]⟩ = (fdT cs L ++ [sTy], ((fdT cs L).length : Int), 0) := by
  unfold strL
  rw [if_neg (by decide), put_new (fd_nos cs L hL) (by have := fdT_len cs L hL; omega)]
include hL in
theorem fd_str2 : strL (fdT cs L ++ [sTy]) ⟨#[115]⟩ = (fdT cs L ++ [sTy], ((fdT cs L).length : Int), 0) := by
  unfold strL
  rw [if_neg (by decide)]
  unfold putL
  rw [find1_app _ _ _ _ (fd_nos cs L hL), find_hit]
  simp
theorem fd_ats : atT (fdT cs L ++ [sTy]) ((fdT cs L).length : Int) = some sTy := atT_lt (by simp)
include hL in
theorem fd_dd (f : Fld) (hf : f ∈ fdL cs L) : deep (fdT cs L ++ [sTy]) noF 3 f.type := by
  obtain ⟨q, hq⟩ := List.mem_iff_getElem?.1 hf
  have hql : q < L := by have := (List.getElem?_eq_some_iff.1 hq).1; rwa [fdL_len] at this
  rw [fdL_at cs L q hql] at hq
  injection hq with hq
  subst hq
  exact (fd_sz cs q L hql hL [sTy] noF 1).2
theorem fd_e0 (h : L = 0) : defE (fdT cs L ++ [sTy]) noF 3 ⟨#[115]⟩ (fdL cs L) = 8 := by
  subst h
  rfl
include hL in
theorem fd_e1 (h : 0 < L) : defE (fdT cs L ++ [sTy]) noF 3 ⟨#[115]⟩ (fdL cs L) = 0 := by
  unfold defE
  have hall : ((fdL cs L).all fun f => (sz (fdT cs L ++ [sTy]) noF 3 f.type).2) = true := by
    rw [List.all_eq_true]
    intro f hf
    obtain ⟨q, hq⟩ := List.mem_iff_getElem?.1 hf
    have hql : q < L := by have := (List.getElem?_eq_some_iff.1 hq).1; rwa [fdL_len] at this
    rw [fdL_at cs L q hql] at hq
    injection hq with hq
    subst hq
    rw [(fd_sz cs q L hql hL [sTy] noF 1).1]
  rw [fdL_len, show (noF ⟨#[115]⟩).isSome = false from rfl, fd_tw cs L L hL (Nat.le_refl _), if_neg (by decide), hall, if_neg (by decide), if_neg (by omega), fdS_sum cs L L (Nat.le_refl _) hL [sTy] noF 1, if_neg]
  have := fdS_le cs L
  omega
/-- the structs behind the definition -/
def fdD : ByteArray → Option (List Fld) := if L = 0 then noF else fun x => if x = ⟨#[115]⟩ then some (fdL cs L) else noF x
include hL in
theorem fd_D : defD noF ⟨#[115]⟩ (fdL cs L) (defE (fdT cs L ++ [sTy]) noF 3 ⟨#[115]⟩ (fdL cs L)) = fdD cs L := by
  unfold fdD defD
  by_cases h : L = 0
  · rw [fd_e0 cs L h, if_pos h, if_neg (by decide)]
  · rw [fd_e1 cs L hL (by omega), if_neg h, if_pos rfl]
theorem fd_Dget : (fdD cs L ⟨#[115]⟩).getD [] = fdL cs L := by
  unfold fdD
  by_cases h : L = 0
  · rw [if_pos h, h]; rfl
  · rw [if_neg h]; rfl
include hL in
theorem fd_size : sz (fdT cs L ++ [sTy]) (fdD cs L) 4 ((fdT cs L).length : Int) = (((fdS cs L : Nat) : Int), decide (((fdS cs L : Nat) : Int) > 0)) := by
  rw [sz, fd_ats]
  simp only
  rw [if_neg (by decide), if_neg (by decide), if_pos trivial, fd_Dget]
  have := fdS_sum cs L L (Nat.le_refl _) hL [sTy] (fdD cs L) 1
  unfold sumF at this
  rw [this]
include hL in
theorem fd_deep : deep (fdT cs L ++ [sTy]) (fdD cs L) 4 ((fdT cs L).length : Int) := by
  rw [deep, fd_ats]
  intro x hx
  injection hx with hx
  subst hx
  refine ⟨fun h => absurd h (by decide), fun _ l hl => ?_⟩
  have hlL : l = fdL cs L := by
    have := fd_Dget cs L
    rw [hl] at this
    exact this
  subst hlL
  refine ⟨fun f hf => ?_, fun j hj => ?_⟩
  · obtain ⟨q, hq⟩ := List.mem_iff_getElem?.1 hf
    have hql : q < L := by have := (List.getElem?_eq_some_iff.1 hq).1; rwa [fdL_len] at this
    rw [fdL_at cs L q hql] at hq
    injection hq with hq
    subst hq
    exact (fd_sz cs q L hql hL [sTy] (fdD cs L) 1).2
  · rw [fdL_len] at hj
    rw [fdL_take cs L j hj]
    have h1 := fdS_sum cs L j hj hL [sTy] (fdD cs L) 1
    have h2 := fdS_le cs j
    unfold sumF at h1
    rw [h1]
    omega
include hL in
theorem fd_fieldT (m : Nat) (hm : m < L) : fieldT (fdT cs L ++ [sTy]) (fdD cs L) 3 ((fdT cs L).length : Int) (nameB m) = (((fdS cs m : Nat) : Int), fdI cs m, true) := by
  unfold fieldT
  rw [fd_ats]
  simp only
  rw [if_pos trivial, fd_Dget]
  exact fd_field_hit cs _ L m hL hm fun i hi => by
    simp only
    rw [(fd_sz cs i L hi hL [sTy] (fdD cs L) 1).1]
end
end Go.Proofs.YtdoeinccnfggiaaDoor
