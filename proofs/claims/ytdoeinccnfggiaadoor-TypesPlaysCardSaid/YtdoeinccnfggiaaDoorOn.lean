import Derived.Test.YtdoeinccnfggiaaDoorRl
import Derived.Deep.Slices
import Derived.ChangeArms
/- WHAT A SLICE OF STEPS IS THAT COMES IN. -/
namespace Go.Proofs.YtdoeinccnfggiaaDoor
open Go.ChangeShapes Go.WideShapes Go.ChangeAt Go.RowKit

theorem vi3 : Tryd.prog.underlying 3 = some (.int .i64) := by kernel_rfl
theorem vs9 : Tryd.prog.underlying 9 = some .string := by kernel_rfl
theorem v71 : Tryd.prog.underlying 71 = some (.struct (Tryd.prog.fieldsOf 71)) := by kernel_rfl
theorem v48 : Tryd.prog.underlying 48 = some (.struct (Tryd.prog.fieldsOf 48)) := by kernel_rfl
theorem vc3 : Tryd.prog.cellsOf 3 = 1 := by kernel_rfl
theorem vc9 : Tryd.prog.cellsOf 9 = 1 := by kernel_rfl
theorem vc46 : Tryd.prog.cellsOf 46 = 1 := by kernel_rfl
theorem vc71 : Tryd.prog.cellsOf 71 = 2 := by kernel_rfl
theorem vc48 : Tryd.prog.cellsOf 48 = 5 := by kernel_rfl
theorem vf71 : (Tryd.prog.fieldsOf 71).toList.map (fun f => (f.type, f.offset)) = [(9, 0), (3, 1)] := by kernel_rfl
theorem vf48 : (Tryd.prog.fieldsOf 48).toList.map (fun f => (f.type, f.offset)) = [(3, 0), (3, 1), (3, 2), (9, 3), (46, 4)] := by kernel_rfl
theorem field_at {fs : Array Field} {l : List (Nat × Nat)} (h : fs.toList.map (fun f => (f.type, f.offset)) = l) (i : Nat) (p : Nat × Nat) (hp : l[i]? = some p) : ∃ f, fs[i]? = some f ∧ f.type = p.1 ∧ f.offset = p.2 := by
  subst h
  rw [List.getElem?_map] at hp
  cases hf : fs.toList[i]? with
  | none => rw [hf] at hp; cases hp
  | some f =>
    rw [hf] at hp
    injection hp with hp
    subst hp
    exact ⟨f, by simpa using hf, rfl, rfl⟩
theorem cell_lt {w : World} {b o : Nat} {v : Value} (h : w.cell? ⟨b, o, none⟩ = some v) : b < w.heap.size := by
  by_cases hb : b < w.heap.size
  · exact hb
  · have : w.heap[b]? = none := by simp; omega
    simp [World.cell?, this] at h

section
variable {H : Type} {enc : TypeId × Value → H} {w : World} {base : Nat} {sp : Nat → Bool} {held : Bool} {fuel : Nat} {cs : List Value} {x : DataW H × List MemPlace}
theorem trod_fld (h : DataW.trod enc Tryd.prog w base sp held fuel 71 cs = some x) : ∃ f : Fld, cs = f.l := by
  obtain ⟨xs, m, _, _, hl, hxl, hi⟩ := DataW.trod_struct v71 h
  have hsz : (Tryd.prog.fieldsOf 71).size = 2 := by simpa using congrArg List.length vf71
  rw [vc71] at hl
  rw [hsz] at hxl
  obtain ⟨f0, a0, b0, c0⟩ := field_at vf71 0 _ rfl
  obtain ⟨f1, a1, b1, c1⟩ := field_at vf71 1 _ rfl
  have h0 := hi 0 f0 a0
  have h1 := hi 1 f1 a1
  rw [b0, c0, vc9, List.getElem?_eq_getElem (by omega)] at h0
  rw [b1, c1, vc3, List.getElem?_eq_getElem (by omega)] at h1
  obtain ⟨s, e0, _⟩ := DataW.trod_string vs9 h0
  obtain ⟨n, e1, _⟩ := DataW.trod_int vi3 h1
  match cs, hl with
  | [a, b], _ =>
    simp at e0 e1
    exact ⟨⟨s, n⟩, by simp [e0, e1]⟩
theorem addr_add2 (b o q m : Nat) : ((⟨b, o, none⟩ : Addr).add q).add m = ⟨b, o + (q + m), none⟩ := by
  rw [Go.Deep.add_add]; unfold Addr.add; split
  · rename_i h0; rw [h0, Nat.add_zero]
  · rfl
theorem no_spot {a : Addr} {v : Value} {n : Nat} (h : w.cell? (a.add n) = some v) (hn : n = 0) : a.spot = none := by
  subst hn
  rcases hs : a.spot with _ | s
  · rfl
  · exfalso
    have e1 : a.add 0 = a := by simp [Addr.add]
    rw [e1] at h
    have : w.cell? a = none := by unfold World.cell?; split <;> simp [hs]
    rw [this] at h
    cases h
theorem trod_flds (h : DataW.trod enc Tryd.prog w 0 sp held fuel 46 cs = some x) (hsp : ∀ b, sp b = true) : ∃ (A : Option Addr) (l : List Fld) (cap : Nat), cs = [.slice A l.length cap] ∧ FRdO w A l := by
  rcases Go.Deep.open_slice (e := 71) (by kernel_rfl) h with ⟨hcs, _⟩ | ⟨a, len, cap, m, n, D, Pl, hcs, _, hlc, hcm, hm, hx, hi⟩
  · exact ⟨none, [], 0, hcs, fun j f hf => by simp at hf⟩
  · rw [vc71] at hi
    have hm' : m = cap := by rw [hm, if_pos (hsp _)]
    subst hm'
    have hrows : ∀ i, i < len → ∃ r : Fld, w.cells? 0 (a.add (i * 2)) 2 = some r.l := fun i hil => by
      obtain ⟨cs', hc, ht⟩ := hi i (by omega)
      obtain ⟨r, rfl⟩ := trod_fld ht
      exact ⟨r, hc⟩
    haveI : Inhabited Fld := ⟨⟨⟨#[]⟩, 0⟩⟩
    obtain ⟨f, hfr⟩ := Go.Deep.choose_lt hrows
    refine ⟨some a, (List.range len).map f, m, by simpa using hcs, fun j g hg => ?_⟩
    have hj : j < len := by simpa using (List.getElem?_eq_some_iff.1 hg).1
    have hgf : g = f j := by simp [hj] at hg; exact hg.symm
    subst hgf
    have hc := (World.cells?_some (hfr j hj)).2.2
    have h00 := (World.cells?_some (hfr 0 (by omega))).2.2 0 (by omega)
    have hsp' : a.spot = none := by
      have e1 : (a.add (0 * 2)).add 0 = a.add 0 := by simp [Addr.add]
      rw [e1] at h00
      exact no_spot (v := (f 0).l[0]) h00 rfl
    obtain ⟨b, o, spot⟩ := a
    simp only at hsp'
    subst hsp'
    have c0 := hc 0 (by omega)
    have c1 := hc 1 (by omega)
    rw [addr_add2] at c0 c1
    exact ⟨b, o, rfl, cell_lt c0, c0, c1⟩
theorem trod_stp (h : DataW.trod enc Tryd.prog w 0 sp held fuel 48 cs = some x) (hsp : ∀ b, sp b = true) : ∃ (s : Stp) (C : Option Addr) (cap : Nat), cs = [.int .i64 s.verb, .int .i64 s.elem, .int .i64 s.n, .string s.name, .slice C s.fields.length cap] ∧ FRdO w C s.fields := by
  obtain ⟨xs, m, _, _, hl, hxl, hi⟩ := DataW.trod_struct v48 h
  have hsz : (Tryd.prog.fieldsOf 48).size = 5 := by simpa using congrArg List.length vf48
  rw [vc48] at hl
  rw [hsz] at hxl
  obtain ⟨f0, a0, b0, c0⟩ := field_at vf48 0 _ rfl
  obtain ⟨f1, a1, b1, c1⟩ := field_at vf48 1 _ rfl
  obtain ⟨f2, a2, b2, c2⟩ := field_at vf48 2 _ rfl
  obtain ⟨f3, a3, b3, c3⟩ := field_at vf48 3 _ rfl
  obtain ⟨f4, a4, b4, c4⟩ := field_at vf48 4 _ rfl
  have h0 := hi 0 f0 a0
  have h1 := hi 1 f1 a1
  have h2 := hi 2 f2 a2
  have h3 := hi 3 f3 a3
  have h4 := hi 4 f4 a4
  rw [b0, c0, vc3, List.getElem?_eq_getElem (by omega)] at h0
  rw [b1, c1, vc3, List.getElem?_eq_getElem (by omega)] at h1
  rw [b2, c2, vc3, List.getElem?_eq_getElem (by omega)] at h2
  rw [b3, c3, vc9, List.getElem?_eq_getElem (by omega)] at h3
  rw [b4, c4, vc46, List.getElem?_eq_getElem (by omega)] at h4
  obtain ⟨n0, e0, _⟩ := DataW.trod_int vi3 h0
  obtain ⟨n1, e1, _⟩ := DataW.trod_int vi3 h1
  obtain ⟨n2, e2, _⟩ := DataW.trod_int vi3 h2
  obtain ⟨s, e3, _⟩ := DataW.trod_string vs9 h3
  obtain ⟨C, l, cap, e4, hF⟩ := trod_flds h4 hsp
  match cs, hl with
  | [a, b, c, d, e], _ =>
    simp at e0 e1 e2 e3 e4
    exact ⟨⟨n0, n1, n2, s, l⟩, C, cap, by simp [e0, e1, e2, e3, e4], hF⟩
end
/-- a slice of steps that came in -/
theorem open_stps {H : Type} {enc : TypeId × Value → H} {w : World} {v : Value} {d : DataW H} {p : List MemPlace} (h : DataW.Trod enc Tryd.prog w 0 (fun _ => true) true 39 v d p) (hv : ∃ a len cap, v = .slice a len cap) :
    ∃ (A : Option Addr) (l : List Stp) (cap : Nat), v = .slice A l.length cap ∧ RdS w A l ∧ l.length ≤ 9223372036854775807 := by
  obtain ⟨a0, len0, cap0, rfl⟩ := hv
  obtain ⟨fuel, hf⟩ := h
  rcases Go.Deep.open_slice (e := 48) (by kernel_rfl) hf with ⟨hcs, _⟩ | ⟨a, len, cap, m, n, D, Pl, hcs, _, hlc, hcm, hm, hx, hi⟩
  · simp [Value.cells] at hcs
    obtain ⟨rfl, rfl, rfl⟩ := hcs
    exact ⟨none, [], 0, rfl, (fun j s hs => by simp at hs), by simp⟩
  · simp [Value.cells] at hcs
    obtain ⟨rfl, rfl, rfl⟩ := hcs
    rw [vc48] at hi
    have hm' : m = cap0 := by simpa using hm
    subst hm'
    have hrows : ∀ i, i < len0 → ∃ r : Stp × Option Addr × Nat, w.cells? 0 (a.add (i * 5)) 5 = some [.int .i64 r.1.verb, .int .i64 r.1.elem, .int .i64 r.1.n, .string r.1.name, .slice r.2.1 r.1.fields.length r.2.2] ∧ FRdO w r.2.1 r.1.fields := fun i hil => by
      obtain ⟨cs', hc, ht⟩ := hi i (by omega)
      obtain ⟨r, C, cap, rfl, hF⟩ := trod_stp ht (fun _ => rfl)
      exact ⟨(r, C, cap), hc, hF⟩
    haveI : Inhabited (Stp × Option Addr × Nat) := ⟨(⟨0, 0, 0, ⟨#[]⟩, []⟩, none, 0)⟩
    obtain ⟨f, hfr⟩ := Go.Deep.choose_lt hrows
    refine ⟨some a, (List.range len0).map fun i => (f i).1, m, by simp, fun j g hg => ?_, by simp [maxLen] at hcm ⊢; omega⟩
    have hj : j < len0 := by simpa using (List.getElem?_eq_some_iff.1 hg).1
    have hgf : g = (f j).1 := by simp [hj] at hg; exact hg.symm
    subst hgf
    have hc := (World.cells?_some (hfr j hj).1).2.2
    have h00 := (World.cells?_some (hfr 0 (by omega)).1).2.2 0 (by omega)
    have hsp' : a.spot = none := by
      have e1 : (a.add (0 * 5)).add 0 = a.add 0 := by simp [Addr.add]
      rw [e1] at h00
      exact no_spot h00 rfl
    obtain ⟨b, o, spot⟩ := a
    simp only at hsp'
    subst hsp'
    have c0 := hc 0 (by omega)
    have c1 := hc 1 (by omega)
    have c2 := hc 2 (by omega)
    have c3 := hc 3 (by omega)
    have c4 := hc 4 (by omega)
    rw [addr_add2] at c0 c1 c2 c3 c4
    exact ⟨b, o, _, _, rfl, cell_lt c0, c0, c1, c2, c3, c4, (hfr j hj).2⟩
end Go.Proofs.YtdoeinccnfggiaaDoor
