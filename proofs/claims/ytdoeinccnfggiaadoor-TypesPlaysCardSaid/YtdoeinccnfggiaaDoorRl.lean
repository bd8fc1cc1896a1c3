import Derived.Test.YtdoeinccnfggiaaDoorRi
namespace Go.Proofs.YtdoeinccnfggiaaDoor
open Go.RowKit Go.BigFrame

/-- the slice (A, length of l) reads as the fields l, wherever it begins -/
def FRdO (w : World) (A : Option Addr) (l : List Fld) : Prop := ∀ (j : Nat) f, l[j]? = some f → ∃ b o, A = some ⟨b, o, none⟩ ∧ b < w.heap.size ∧ w.cell? ⟨b, o + j * 2, none⟩ = some (.string f.name) ∧ w.cell? ⟨b, o + j * 2 + 1, none⟩ = some (.int .i64 f.type)
theorem FRdO.below {w w' : World} {A : Option Addr} {l : List Fld} (h : FRdO w A l) (hb : Below w.heap.size w w') : FRdO w' A l := fun j f hf => by
  obtain ⟨b, o, e1, e2, e3, e4⟩ := h j f hf
  exact ⟨b, o, e1, Nat.lt_of_lt_of_le e2 hb.size, (hb.cell (p := ⟨b, _, none⟩) e2).trans e3, (hb.cell (p := ⟨b, _, none⟩) e2).trans e4⟩
theorem info71 : (Tryd.prog.info? 71).map (fun i => (i.zero, i.size, i.bytes)) = some (some fld0, 2, 24) := by kernel_rfl
/-- append of a list of the document's fields onto one of the call's own -/
theorem run_append_fls (w : World) (ty : TypeId) (V : Value) (k : List Fld) (hown : w.ownsRow 0 71 2 V k.length (fcells k)) (A : Option Addr) (l : List Fld) (cap : Nat) (hR : FRdO w A l) (hl : 0 < l.length) (hn : k.length + l.length ≤ 2000) :
    ∃ V' w', (Builtin.append_ #[46, 46] ty #[V, .slice A l.length cap]).run Tryd.prog w = .ok V' w' ∧ w'.ownsRow 0 71 2 V' (k ++ l).length (fcells (k ++ l)) ∧ w.grownBy w' V.ownBlock ∧ (V'.ownBlock = V.ownBlock ∨ V'.ownBlock = some w.heap.size) := by
  obtain ⟨i0, hi, hz0, hz1, hz2⟩ := info_parts info71
  obtain ⟨b, o, rfl, hlt, _, _⟩ := hR 0 (l[0]'hl) (by simp)
  obtain ⟨V', w', hr, h1, h2, _, h4⟩ := run_append_own_at (P := Tryd.prog) w 0 46 ty 71 i0 fld0 2 24 (by kernel_rfl) hi hz0 hz1 hz2 rfl (by decide) V k.length (fcells k) hown ⟨b, o, none⟩ l.length cap (fcells l) (fcells_len l)
    (fun j u hu => by
      have hj : j < l.length * 2 := by rw [← fcells_len]; exact (List.getElem?_eq_some_iff.1 hu).1
      have hadd : (⟨b, o, none⟩ : Addr).add j = ⟨b, o + j, none⟩ := by
        unfold Addr.add; split
        · rename_i h0; rw [h0, Nat.add_zero]
        · rfl
      rw [hadd]
      have hk : j / 2 < l.length := by omega
      obtain ⟨b', o', e1, _, c0, c1⟩ := hR (j / 2) (l[j / 2]) (by simp [hk])
      injection e1 with e1
      injection e1 with e1 e2
      subst e1 e2
      have hat := fcells_at l (j / 2) (j % 2) hk (by omega)
      rw [show j / 2 * 2 + j % 2 = j by omega, hu] at hat
      have hm : j % 2 = 0 ∨ j % 2 = 1 := by omega
      rcases hm with hm | hm <;> rw [hm] at hat <;> simp at hat
      · rw [show o + j = o + j / 2 * 2 by omega, c0, hat]
      · rw [show o + j = o + j / 2 * 2 + 1 by omega, c1, hat]) (fld_one l) (by simp only [maxLen]; omega) (by omega) (Nat.zero_le _)
  exact ⟨V', w', hr, by rw [List.length_append, show fcells (k ++ l) = fcells k ++ fcells l by simp [fcells]]; exact h1, h2, h4⟩
theorem OwnX.made (w : World) : (w.alloc (.cells #[] 71)).ownsRow 0 71 2 (.slice (some ⟨w.heap.size, 0, none⟩) 0 0) ([] : List Fld).length (fcells []) := World.ownsRow_made w #[] 0 (Nat.zero_le _) (by simp [maxLen]) rfl
/-- definitions with the slices that hold their fields -/
def dcells (l : List (ByteArray × Value)) : List Value := l.flatMap fun d => [.string d.1, d.2]
theorem dcells_len (l : List (ByteArray × Value)) : (dcells l).length = l.length * 2 := by
  induction l with
  | nil => rfl
  | cons r l ih => simp [dcells] at ih ⊢; omega
theorem dcells_at (l : List (ByteArray × Value)) (k j : Nat) (hk : k < l.length) (hj : j < 2) : (dcells l)[k * 2 + j]? = [Value.string l[k].1, l[k].2][j]? := by
  induction l generalizing k with
  | nil => simp at hk
  | cons r l ih =>
    cases k with
    | zero => simp only [dcells, List.flatMap_cons, Nat.zero_mul, Nat.zero_add]; rw [List.getElem?_append_left (by simpa using hj)]; rfl
    | succ k =>
      simp only [dcells, List.flatMap_cons]
      rw [List.getElem?_append_right (by simp; omega)]
      have := ih k (by simpa using hk)
      simp only [dcells] at this
      simpa [show (k + 1) * 2 + j - 2 = k * 2 + j by omega] using this
end Go.Proofs.YtdoeinccnfggiaaDoor

namespace Go.Proofs.YtdoeinccnfggiaaDoor
open Go.RowKit Go.BigFrame

/-- the cells of the definitions, as a list -/
theorem RdD.list {w : World} {F : Nat → Prop} {A : Option Addr} {Ds : List (ByteArray × List Fld)} (h : RdD w F A Ds) : ∃ dl : List (ByteArray × Value), dl.length = Ds.length ∧
    (∀ (j : Nat) d, Ds[j]? = some d → ∃ C cap, dl[j]? = some (d.1, .slice C d.2.length cap) ∧ RdF w F C d.2) ∧
    ∀ (j : Nat) e, dl[j]? = some e → ∃ b, A = some ⟨b, 0, none⟩ ∧ b < w.heap.size ∧ ¬ F b ∧ w.cell? ⟨b, j * 2, none⟩ = some (.string e.1) ∧ w.cell? ⟨b, j * 2 + 1, none⟩ = some e.2 := by
  obtain ⟨blk, hblk⟩ : ∃ blk : Nat, ∀ a, A = some a → a.block = blk := by
    cases A with
    | none => exact ⟨0, fun a h => by cases h⟩
    | some a => exact ⟨a.block, fun a' h => by injection h with h; rw [h]⟩
  have hat : ∀ (j : Nat) d, Ds[j]? = some d → ((List.range Ds.length).map fun j => ((Ds.getD j (⟨#[]⟩, [])).1, (w.cell? ⟨blk, j * 2 + 1, none⟩).getD undef))[j]? = some (d.1, (w.cell? ⟨blk, j * 2 + 1, none⟩).getD undef) := fun j d hd => by
    have hj := (List.getElem?_eq_some_iff.1 hd).1
    rw [List.getElem?_map, List.getElem?_range hj]
    simp [hd]
  refine ⟨(List.range Ds.length).map fun j => ((Ds.getD j (⟨#[]⟩, [])).1, (w.cell? ⟨blk, j * 2 + 1, none⟩).getD undef), by simp, fun j d hd => ?_, fun j e he => ?_⟩
  · obtain ⟨b, C, cap, e1, e2, e3, e4, e5, e6⟩ := h j d hd
    have hb : b = blk := hblk _ e1
    subst hb
    exact ⟨C, cap, by rw [hat j d hd, e5]; rfl, e6⟩
  · have hj := (List.getElem?_eq_some_iff.1 he).1
    simp at hj
    obtain ⟨d, hd⟩ : ∃ d, Ds[j]? = some d := ⟨Ds[j], by simp [hj]⟩
    rw [hat j d hd] at he
    injection he with he
    subst he
    obtain ⟨b, C, cap, e1, e2, e3, e4, e5, e6⟩ := h j d hd
    have hb : b = blk := hblk _ e1
    subst hb
    exact ⟨b, e1, e2, e3, e4, by rw [e5]; rfl⟩
abbrev def0 : Value := .agg #[.string ⟨#[]⟩, .slice none 0 0]
theorem info85 : (Tryd.prog.info? 85).map (fun i => (i.zero, i.size, i.bytes)) = some (some def0, 2, 40) := by kernel_rfl
def RdV (w : World) (A : Option Addr) (dl : List (ByteArray × Value)) : Prop := ∀ (j : Nat) e, dl[j]? = some e → (∃ C n c, e.2 = .slice C n c) ∧ ∃ b, A = some ⟨b, 0, none⟩ ∧ b < w.heap.size ∧ w.cell? ⟨b, j * 2, none⟩ = some (.string e.1) ∧ w.cell? ⟨b, j * 2 + 1, none⟩ = some e.2
/-- append of a list of definitions onto one of the call's own -/
theorem run_append_defs (w : World) (ty : TypeId) (V : Value) (k : List (ByteArray × Value)) (hown : w.ownsRow 0 85 2 V k.length (dcells k)) (A : Option Addr) (l : List (ByteArray × Value)) (cap : Nat) (hR : RdV w A l) (hA : l = [] → A = none ∧ cap = 0) (hn : k.length + l.length ≤ 2000) :
    ∃ V' w', (Builtin.append_ #[42, 42] ty #[V, .slice A l.length cap]).run Tryd.prog w = .ok V' w' ∧ w'.ownsRow 0 85 2 V' (k ++ l).length (dcells (k ++ l)) ∧ w.grownBy w' V.ownBlock ∧ (V'.ownBlock = V.ownBlock ∨ V'.ownBlock = some w.heap.size) := by
  obtain ⟨i0, hi, hz0, hz1, hz2⟩ := info_parts info85
  by_cases hl : l = []
  · obtain ⟨rfl, rfl⟩ := hA hl
    subst hl
    exact ⟨V, w, run_append_owned_none w 0 42 ty 85 i0 2 (by kernel_rfl) hi V k.length (dcells k) hown, by simpa using hown, ⟨rfl, rfl, rfl, Nat.le_refl _, fun _ _ _ => rfl⟩, .inl rfl⟩
  · have hpos : 0 < l.length := List.length_pos_iff.2 hl
    obtain ⟨_, b, rfl, hlt, _, _⟩ := hR 0 (l[0]'hpos) (by simp)
    obtain ⟨V', w', hr, h1, h2, _, h4⟩ := run_append_own_at (P := Tryd.prog) w 0 42 ty 85 i0 def0 2 40 (by kernel_rfl) hi hz0 hz1 hz2 rfl (by decide) V k.length (dcells k) hown ⟨b, 0, none⟩ l.length cap (dcells l) (dcells_len l)
      (fun j u hu => by
        have hj : j < l.length * 2 := by rw [← dcells_len]; exact (List.getElem?_eq_some_iff.1 hu).1
        have hadd : (⟨b, 0, none⟩ : Addr).add j = ⟨b, j, none⟩ := by unfold Addr.add; split <;> simp_all
        rw [hadd]
        have hk : j / 2 < l.length := by omega
        obtain ⟨_, b', e1, _, c0, c1⟩ := hR (j / 2) (l[j / 2]) (by simp [hk])
        injection e1 with e1
        injection e1 with e1
        subst e1
        have hat := dcells_at l (j / 2) (j % 2) hk (by omega)
        rw [show j / 2 * 2 + j % 2 = j by omega, hu] at hat
        have hm : j % 2 = 0 ∨ j % 2 = 1 := by omega
        rcases hm with hm | hm <;> rw [hm] at hat <;> simp at hat
        · rw [show j = j / 2 * 2 by omega, c0, hat]
        · rw [show j = j / 2 * 2 + 1 by omega, c1, hat]) (fun u hu => by
          obtain ⟨d, hd, hud⟩ := List.mem_flatMap.1 hu
          obtain ⟨j, hj⟩ := List.mem_iff_getElem?.1 hd
          obtain ⟨⟨C, n, c, hC⟩, _⟩ := hR j d hj
          simp at hud
          rcases hud with rfl | rfl
          · rfl
          · rw [hC]; rfl) (by simp only [maxLen]; omega) (by omega) (Nat.zero_le _)
    exact ⟨V', w', hr, by rw [List.length_append, show dcells (k ++ l) = dcells k ++ dcells l by simp [dcells]]; exact h1, h2, h4⟩
end Go.Proofs.YtdoeinccnfggiaaDoor

namespace Go.Proofs.YtdoeinccnfggiaaDoor
open Go.RowKit Go.BigFrame

/-- a step of the laws -/
structure Stp where
  verb : Int
  elem : Int
  n : Int
  name : ByteArray
  fields : List Fld
/-- the slice (A, length of l) reads as the steps l -/
def RdS (w : World) (A : Option Addr) (l : List Stp) : Prop := ∀ (j : Nat) s, l[j]? = some s → ∃ b o C cap, A = some ⟨b, o, none⟩ ∧ b < w.heap.size ∧ w.cell? ⟨b, o + j * 5, none⟩ = some (.int .i64 s.verb) ∧ w.cell? ⟨b, o + j * 5 + 1, none⟩ = some (.int .i64 s.elem) ∧
  w.cell? ⟨b, o + j * 5 + 2, none⟩ = some (.int .i64 s.n) ∧ w.cell? ⟨b, o + j * 5 + 3, none⟩ = some (.string s.name) ∧ w.cell? ⟨b, o + j * 5 + 4, none⟩ = some (.slice C s.fields.length cap) ∧ FRdO w C s.fields
theorem RdS.below {w w' : World} {A : Option Addr} {l : List Stp} (h : RdS w A l) (hb : Below w.heap.size w w') : RdS w' A l := fun j s hs => by
  obtain ⟨b, o, C, cap, e1, e2, e3, e4, e5, e6, e7, e8⟩ := h j s hs
  exact ⟨b, o, C, cap, e1, Nat.lt_of_lt_of_le e2 hb.size, (hb.cell (p := ⟨b, _, none⟩) e2).trans e3, (hb.cell (p := ⟨b, _, none⟩) e2).trans e4, (hb.cell (p := ⟨b, _, none⟩) e2).trans e5, (hb.cell (p := ⟨b, _, none⟩) e2).trans e6, (hb.cell (p := ⟨b, _, none⟩) e2).trans e7, e8.below hb⟩
/-- a step that may be gone through -/
def FineS (s : Stp) : Prop := s.name.size ≤ 100 ∧ s.fields.length ≤ 10 ∧ ∀ f ∈ s.fields, f.name.size ≤ 100
end Go.Proofs.YtdoeinccnfggiaaDoor
