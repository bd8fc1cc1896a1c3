import Derived.Test.YtihbgppcacaekaaDoorQh
import Derived.Deep.Slices
import Derived.ChangeArms
import Derived.OpenShut
import Derived.ProofKit
import Derived.WalkKit
import Derived.SizedLaws
import Derived.Carry
/- WHAT COMES IN: an object, an image, bytes. -/
namespace Go.Proofs.YtihbgppcacaekaaDoor
open Go.ChangeShapes Go.WideShapes Go.ChangeAt Go.RowKit

theorem oi3 : Tryd.prog.underlying 3 = some (.int .i64) := by kernel_rfl
theorem ois : Tryd.prog.underlying 9 = some .string := by kernel_rfl
theorem oib : Tryd.prog.underlying 5 = some (.int .u8) := by kernel_rfl
theorem oiL : Tryd.prog.underlying 36 = some (.struct (Tryd.prog.fieldsOf 36)) := by kernel_rfl
theorem oiO : Tryd.prog.underlying 39 = some (.struct (Tryd.prog.fieldsOf 39)) := by kernel_rfl
theorem oiG : Tryd.prog.underlying 52 = some (.struct (Tryd.prog.fieldsOf 52)) := by kernel_rfl
theorem oiU : Tryd.prog.underlying 25 = some (.struct (Tryd.prog.fieldsOf 25)) := by kernel_rfl
theorem oc3 : Tryd.prog.cellsOf 3 = 1 := by kernel_rfl
theorem ocs : Tryd.prog.cellsOf 9 = 1 := by kernel_rfl
theorem ocb : Tryd.prog.cellsOf 5 = 1 := by kernel_rfl
theorem ocL : Tryd.prog.cellsOf 36 = 6 := by kernel_rfl
theorem ocO : Tryd.prog.cellsOf 39 = 4 := by kernel_rfl
theorem ocG : Tryd.prog.cellsOf 52 = 4 := by kernel_rfl
theorem ocU : Tryd.prog.cellsOf 25 = 3 := by kernel_rfl
theorem ocLs : Tryd.prog.cellsOf 37 = 1 := by kernel_rfl
theorem ocOs : Tryd.prog.cellsOf 22 = 1 := by kernel_rfl
theorem ocGs : Tryd.prog.cellsOf 23 = 1 := by kernel_rfl
theorem ofL : (Tryd.prog.fieldsOf 36).toList.map (fun f => (f.type, f.offset)) = [(3, 0), (3, 1), (3, 2), (3, 3), (3, 4), (9, 5)] := by kernel_rfl
theorem ofO : (Tryd.prog.fieldsOf 39).toList.map (fun f => (f.type, f.offset)) = [(9, 0), (3, 1), (3, 2), (37, 3)] := by kernel_rfl
theorem ofG : (Tryd.prog.fieldsOf 52).toList.map (fun f => (f.type, f.offset)) = [(9, 0), (3, 1), (3, 2), (3, 3)] := by kernel_rfl
theorem ofU : (Tryd.prog.fieldsOf 25).toList.map (fun f => (f.type, f.offset)) = [(22, 0), (23, 1), (3, 2)] := by kernel_rfl
theorem field_at {fs : Array Field} {l : List (Nat × Nat)} (h : fs.toList.map (fun f => (f.type, f.offset)) = l) (i : Nat) (p : Nat × Nat) (hp : l[i]? = some p) : ∃ f, fs[i]? = some f ∧ f.type = p.1 ∧ f.offset = p.2 := by
  subst h
  rw [List.getElem?_map] at hp
  cases hf : fs.toList[i]? with
  | none => rw [hf] at hp; cases hp
  | some f =>
    rw [hf] at hp
    injection hp with hp
    subst hp
    exact ⟨f, by simpa using hf, rfl, rfl⟩
theorem cell_lt {w : World} {b o : Nat} {v : Value} (h : w.cell? ⟨b, o, none⟩ = some v) : b < w.heap.size := by
  by_cases hb : b < w.heap.size
  · exact hb
  · have : w.heap[b]? = none := by simp; omega
    simp [World.cell?, this] at h
theorem addr_add2 (b o q m : Nat) : ((⟨b, o, none⟩ : Addr).add q).add m = ⟨b, o + (q + m), none⟩ := by
  rw [Go.Deep.add_add]; unfold Addr.add; split
  · rename_i h0; rw [h0, Nat.add_zero]
  · rfl
theorem no_spot {w : World} {a : Addr} {v : Value} {n : Nat} (h : w.cell? (a.add n) = some v) (hn : n = 0) : a.spot = none := by
  subst hn
  rcases hs : a.spot with _ | s
  · rfl
  · exfalso
    have e1 : a.add 0 = a := by simp [Addr.add]
    rw [e1] at h
    have : w.cell? a = none := by unfold World.cell?; split <;> simp [hs]
    rw [this] at h
    cases h
section
variable {H : Type} {enc : TypeId × Value → H} {w : World} {base : Nat} {sp : Nat → Bool} {held : Bool} {fuel : Nat} {cs : List Value} {x : DataW H × List MemPlace}
set_option maxRecDepth 100000 in
theorem trod_ln (h : DataW.trod enc Tryd.prog w base sp held fuel 36 cs = some x) : ∃ i : Ln, cs = i.l := by
  obtain ⟨xs, m, _, _, hl, hxl, hi⟩ := DataW.trod_struct oiL h
  have hz : (Tryd.prog.fieldsOf 36).size = 6 := by simpa using congrArg List.length ofL
  rw [ocL] at hl
  rw [hz] at hxl
  obtain ⟨f0, a0, b0, c0⟩ := field_at ofL 0 _ rfl
  obtain ⟨f1, a1, b1, c1⟩ := field_at ofL 1 _ rfl
  obtain ⟨f2, a2, b2, c2⟩ := field_at ofL 2 _ rfl
  obtain ⟨f3, a3, b3, c3⟩ := field_at ofL 3 _ rfl
  obtain ⟨f4, a4, b4, c4⟩ := field_at ofL 4 _ rfl
  obtain ⟨f5, a5, b5, c5⟩ := field_at ofL 5 _ rfl
  have h0 := hi 0 f0 a0
  have h1 := hi 1 f1 a1
  have h2 := hi 2 f2 a2
  have h3 := hi 3 f3 a3
  have h4 := hi 4 f4 a4
  have h5 := hi 5 f5 a5
  rw [b0, c0, oc3, List.getElem?_eq_getElem (by omega)] at h0
  rw [b1, c1, oc3, List.getElem?_eq_getElem (by omega)] at h1
  rw [b2, c2, oc3, List.getElem?_eq_getElem (by omega)] at h2
  rw [b3, c3, oc3, List.getElem?_eq_getElem (by omega)] at h3
  rw [b4, c4, oc3, List.getElem?_eq_getElem (by omega)] at h4
  rw [b5, c5, ocs, List.getElem?_eq_getElem (by omega)] at h5
  obtain ⟨n0, e0, _, hw0⟩ := DataW.trod_int oi3 h0
  obtain ⟨n1, e1, _, hw1⟩ := DataW.trod_int oi3 h1
  obtain ⟨n2, e2, _, hw2⟩ := DataW.trod_int oi3 h2
  obtain ⟨n3, e3, _, hw3⟩ := DataW.trod_int oi3 h3
  obtain ⟨n4, e4, _, hw4⟩ := DataW.trod_int oi3 h4
  obtain ⟨s5, e5, _⟩ := DataW.trod_string ois h5
  clear hi h0 h1 h2 h3 h4 h5
  match cs, hl with
  | [a, b, c, d, e, f], _ =>
    simp at e0 e1 e2 e3 e4 e5
    exact ⟨⟨n0, n1, n2, n3, n4, s5⟩, by simp [e0, e1, e2, e3, e4, e5]⟩
set_option maxRecDepth 100000 in
theorem trod_gb (h : DataW.trod enc Tryd.prog w base sp held fuel 52 cs = some x) : ∃ g : Gb, cs = glL g := by
  obtain ⟨xs, m, _, _, hl, hxl, hi⟩ := DataW.trod_struct oiG h
  have hz : (Tryd.prog.fieldsOf 52).size = 4 := by simpa using congrArg List.length ofG
  rw [ocG] at hl
  rw [hz] at hxl
  obtain ⟨f0, a0, b0, c0⟩ := field_at ofG 0 _ rfl
  obtain ⟨f1, a1, b1, c1⟩ := field_at ofG 1 _ rfl
  obtain ⟨f2, a2, b2, c2⟩ := field_at ofG 2 _ rfl
  obtain ⟨f3, a3, b3, c3⟩ := field_at ofG 3 _ rfl
  have h0 := hi 0 f0 a0
  have h1 := hi 1 f1 a1
  have h2 := hi 2 f2 a2
  have h3 := hi 3 f3 a3
  rw [b0, c0, ocs, List.getElem?_eq_getElem (by omega)] at h0
  rw [b1, c1, oc3, List.getElem?_eq_getElem (by omega)] at h1
  rw [b2, c2, oc3, List.getElem?_eq_getElem (by omega)] at h2
  rw [b3, c3, oc3, List.getElem?_eq_getElem (by omega)] at h3
  obtain ⟨s0, e0, _⟩ := DataW.trod_string ois h0
  obtain ⟨n1, e1, _, hw1⟩ := DataW.trod_int oi3 h1
  obtain ⟨n2, e2, _, hw2⟩ := DataW.trod_int oi3 h2
  obtain ⟨n3, e3, _, hw3⟩ := DataW.trod_int oi3 h3
  clear hi h0 h1 h2 h3
  match cs, hl with
  | [a, b, c, d], _ =>
    simp at e0 e1 e2 e3
    exact ⟨⟨s0, n1, n2, n3⟩, by simp [e0, e1, e2, e3]⟩
set_option maxRecDepth 100000 in
theorem trod_lines (h : DataW.trod enc Tryd.prog w 0 sp held fuel 37 cs = some x) (hsp : ∀ b, sp b = true) : ∃ (A : Option Addr) (l : List Ln) (cap : Nat), cs = [.slice A l.length cap] ∧ RdL w A l ∧ l.length ≤ 9223372036854775807 := by
  rcases Go.Deep.open_slice (e := 36) (by kernel_rfl) h with ⟨hcs, _⟩ | ⟨a, len, cap, m, n, D, Pl, hcs, _, hlc, hcm, hm, hx, hi⟩
  · exact ⟨none, [], 0, hcs, (fun j f hf => by simp at hf), by simp⟩
  · rw [ocL] at hi
    have hm' : m = cap := by rw [hm, if_pos (hsp _)]
    subst hm'
    have hrows : ∀ i, i < len → ∃ r : Ln, w.cells? 0 (a.add (i * 6)) 6 = some r.l := fun i hil => by
      obtain ⟨cs', hc, ht⟩ := hi i (by omega)
      obtain ⟨r, rfl⟩ := trod_ln ht
      exact ⟨r, hc⟩
    haveI : Inhabited Ln := ⟨Ln.zero⟩
    obtain ⟨f, hfr⟩ := Go.Deep.choose_lt hrows
    refine ⟨some a, (List.range len).map f, m, by simpa using hcs, fun j g hg => ?_, by simp [maxLen] at hcm ⊢; omega⟩
    have hj : j < len := by simpa using (List.getElem?_eq_some_iff.1 hg).1
    have hgf : g = f j := by simp [hj] at hg; exact hg.symm
    subst hgf
    have hc := (World.cells?_some (hfr j hj)).2.2
    have h00 := (World.cells?_some (hfr 0 (by omega))).2.2 0 (by omega)
    have hsp' : a.spot = none := by
      have e1 : (a.add (0 * 6)).add 0 = a.add 0 := by simp [Addr.add]
      rw [e1] at h00
      exact no_spot (v := (f 0).l[0]) h00 rfl
    obtain ⟨b, o, spot⟩ := a
    simp only at hsp'
    subst hsp'
    have c0 := hc 0 (by omega)
    rw [addr_add2] at c0
    refine ⟨b, o, rfl, cell_lt c0, fun k hk => ?_⟩
    have ck := hc k hk
    rw [addr_add2] at ck
    rw [ck, List.getElem?_eq_getElem (by exact hk)]
set_option maxRecDepth 100000 in
theorem trod_ob (h : DataW.trod enc Tryd.prog w 0 sp held fuel 39 cs = some x) (hsp : ∀ b, sp b = true) : ∃ (f : Ob) (C : Option Addr) (cap : Nat), cs = obL f C cap ∧ RdL w C f.lines ∧ f.lines.length ≤ 9223372036854775807 := by
  obtain ⟨xs, m, _, _, hl, hxl, hi⟩ := DataW.trod_struct oiO h
  have hz : (Tryd.prog.fieldsOf 39).size = 4 := by simpa using congrArg List.length ofO
  rw [ocO] at hl
  rw [hz] at hxl
  obtain ⟨f0, a0, b0, c0⟩ := field_at ofO 0 _ rfl
  obtain ⟨f1, a1, b1, c1⟩ := field_at ofO 1 _ rfl
  obtain ⟨f2, a2, b2, c2⟩ := field_at ofO 2 _ rfl
  obtain ⟨f3, a3, b3, c3⟩ := field_at ofO 3 _ rfl
  have h0 := hi 0 f0 a0
  have h1 := hi 1 f1 a1
  have h2 := hi 2 f2 a2
  have h3 := hi 3 f3 a3
  rw [b0, c0, ocs, List.getElem?_eq_getElem (by omega)] at h0
  rw [b1, c1, oc3, List.getElem?_eq_getElem (by omega)] at h1
  rw [b2, c2, oc3, List.getElem?_eq_getElem (by omega)] at h2
  rw [b3, c3, ocLs, List.getElem?_eq_getElem (by omega)] at h3
  obtain ⟨s0, e0, _⟩ := DataW.trod_string ois h0
  obtain ⟨n1, e1, _, hw1⟩ := DataW.trod_int oi3 h1
  obtain ⟨n2, e2, _, hw2⟩ := DataW.trod_int oi3 h2
  obtain ⟨C, l, cap, e3, hF, hll⟩ := trod_lines h3 hsp
  clear hi h0 h1 h2 h3
  match cs, hl with
  | [a, b, c, d], _ =>
    simp at e0 e1 e2 e3
    exact ⟨⟨s0, n1, n2, l⟩, C, cap, by simp [e0, e1, e2, e3], hF, hll⟩
set_option maxRecDepth 100000 in
theorem trod_obs (h : DataW.trod enc Tryd.prog w 0 sp held fuel 22 cs = some x) (hsp : ∀ b, sp b = true) : ∃ (A : Option Addr) (l : List Ob) (cap : Nat), cs = [.slice A l.length cap] ∧ RdO w A l ∧ l.length ≤ 9223372036854775807 ∧ (∀ f ∈ l, f.lines.length ≤ 9223372036854775807) ∧ l.length ≤ cap := by
  rcases Go.Deep.open_slice (e := 39) (by kernel_rfl) h with ⟨hcs, _⟩ | ⟨a, len, cap, m, n, D, Pl, hcs, _, hlc, hcm, hm, hx, hi⟩
  · exact ⟨none, [], 0, hcs, (fun j f hf => by simp at hf), by simp, (fun f hf => by simp at hf), Nat.le_refl _⟩
  · rw [ocO] at hi
    have hm' : m = cap := by rw [hm, if_pos (hsp _)]
    subst hm'
    have hrows : ∀ i, i < len → ∃ r : Ob × Option Addr × Nat, w.cells? 0 (a.add (i * 4)) 4 = some (obL r.1 r.2.1 r.2.2) ∧ RdL w r.2.1 r.1.lines ∧ r.1.lines.length ≤ 9223372036854775807 := fun i hil => by
      obtain ⟨cs', hc, ht⟩ := hi i (by omega)
      obtain ⟨f, C, c, rfl, h1, h2⟩ := trod_ob ht hsp
      exact ⟨(f, C, c), hc, h1, h2⟩
    haveI : Inhabited (Ob × Option Addr × Nat) := ⟨(Ob.zero, none, 0)⟩
    obtain ⟨f, hfr⟩ := Go.Deep.choose_lt hrows
    refine ⟨some a, (List.range len).map fun i => (f i).1, m, by simpa using hcs, fun j g hg => ?_, by simp [maxLen] at hcm ⊢; omega, fun g hg => ?_, by simpa using hlc⟩
    · have hj : j < len := by simpa using (List.getElem?_eq_some_iff.1 hg).1
      have hgf : g = (f j).1 := by simp [hj] at hg; exact hg.symm
      subst hgf
      have hc := (World.cells?_some (hfr j hj).1).2.2
      have h00 := (World.cells?_some (hfr 0 (by omega)).1).2.2 0 (by omega)
      have hsp' : a.spot = none := by
        have e1 : (a.add (0 * 4)).add 0 = a.add 0 := by simp [Addr.add]
        rw [e1] at h00
        exact no_spot h00 rfl
      obtain ⟨b, o, spot⟩ := a
      simp only at hsp'
      subst hsp'
      have c0 := hc 0 (by omega)
      rw [addr_add2] at c0
      refine ⟨b, o, (f j).2.1, (f j).2.2, rfl, cell_lt c0, fun k hk => ?_, (hfr j hj).2.1⟩
      have ck := hc k hk
      rw [addr_add2] at ck
      rw [ck, List.getElem?_eq_getElem (by exact hk)]
    · obtain ⟨i, hi, rfl⟩ := List.mem_map.1 hg
      exact (hfr i (by simpa using hi)).2.2
set_option maxRecDepth 100000 in
theorem trod_gbs (h : DataW.trod enc Tryd.prog w 0 sp held fuel 23 cs = some x) (hsp : ∀ b, sp b = true) : ∃ (A : Option Addr) (l : List Gb) (cap : Nat), cs = [.slice A l.length cap] ∧ RdG w A l ∧ l.length ≤ 9223372036854775807 := by
  rcases Go.Deep.open_slice (e := 52) (by kernel_rfl) h with ⟨hcs, _⟩ | ⟨a, len, cap, m, n, D, Pl, hcs, _, hlc, hcm, hm, hx, hi⟩
  · exact ⟨none, [], 0, hcs, (fun j f hf => by simp at hf), by simp⟩
  · rw [ocG] at hi
    have hm' : m = cap := by rw [hm, if_pos (hsp _)]
    subst hm'
    have hrows : ∀ i, i < len → ∃ r : Gb, w.cells? 0 (a.add (i * 4)) 4 = some (glL r) := fun i hil => by
      obtain ⟨cs', hc, ht⟩ := hi i (by omega)
      obtain ⟨r, rfl⟩ := trod_gb ht
      exact ⟨r, hc⟩
    haveI : Inhabited Gb := ⟨⟨⟨#[]⟩, 0, 0, 0⟩⟩
    obtain ⟨f, hfr⟩ := Go.Deep.choose_lt hrows
    refine ⟨some a, (List.range len).map f, m, by simpa using hcs, fun j g hg => ?_, by simp [maxLen] at hcm ⊢; omega⟩
    have hj : j < len := by simpa using (List.getElem?_eq_some_iff.1 hg).1
    have hgf : g = f j := by simp [hj] at hg; exact hg.symm
    subst hgf
    have hc := (World.cells?_some (hfr j hj)).2.2
    have h00 := (World.cells?_some (hfr 0 (by omega))).2.2 0 (by omega)
    have hsp' : a.spot = none := by
      have e1 : (a.add (0 * 4)).add 0 = a.add 0 := by simp [Addr.add]
      rw [e1] at h00
      exact no_spot h00 rfl
    obtain ⟨b, o, spot⟩ := a
    simp only at hsp'
    subst hsp'
    have c0 := hc 0 (by omega)
    rw [addr_add2] at c0
    refine ⟨b, o, rfl, cell_lt c0, fun k hk => ?_⟩
    have ck := hc k hk
    rw [addr_add2] at ck
    rw [ck, List.getElem?_eq_getElem (by exact hk)]
end
theorem i64_le {r : Int} (h : (Lit.int .i64 r).wf = true) : r ≤ 9223372036854775807 := by
  have h : (decide ((IntKind.i64).min ≤ r) && decide (r ≤ (IntKind.i64).max)) = true := h
  rw [Bool.and_eq_true, decide_eq_true_eq, decide_eq_true_eq, show (IntKind.i64).max = 9223372036854775807 from by decide] at h
  exact h.2
set_option maxRecDepth 100000 in
theorem open_image {H : Type} {enc : TypeId × Value → H} {w : World} {v : Value} {d : DataW H} {p : List MemPlace} {r : Reach} {b0 : Nat} (h : DataW.Trod enc Tryd.prog w 0 (fun _ => true) true 25 v d p) (hv : Value.okWide Tryd.prog w r b0 25 v) :
    ∃ (u : Im) (F G : Option Addr) (cF cG : Nat), v = imAgg u F G cF cG ∧ RdU w F G u ∧ u.objs.length ≤ 9223372036854775807 ∧ u.globs.length ≤ 9223372036854775807 ∧ (∀ f ∈ u.objs, f.lines.length ≤ 9223372036854775807) ∧ u.top ≤ 9223372036854775807 ∧ u.objs.length ≤ cF := by
  obtain ⟨cs, rfl, hsz⟩ := okWide_struct oiU hv
  obtain ⟨fuel, hf⟩ := h
  obtain ⟨xs, m, _, _, hl, hxl, hi⟩ := DataW.trod_struct oiU hf
  have hz : (Tryd.prog.fieldsOf 25).size = 3 := by simpa using congrArg List.length ofU
  rw [ocU] at hl hsz
  rw [hz] at hxl
  obtain ⟨f0, a0, b0, c0⟩ := field_at ofU 0 _ rfl
  obtain ⟨f1, a1, b1, c1⟩ := field_at ofU 1 _ rfl
  obtain ⟨f2, a2, b2, c2⟩ := field_at ofU 2 _ rfl
  have h0 := hi 0 f0 a0
  have h1 := hi 1 f1 a1
  have h2 := hi 2 f2 a2
  rw [b0, c0, ocOs, List.getElem?_eq_getElem (by omega)] at h0
  rw [b1, c1, ocGs, List.getElem?_eq_getElem (by omega)] at h1
  rw [b2, c2, oc3, List.getElem?_eq_getElem (by omega)] at h2
  obtain ⟨F, fs, cF, e0, hF, hl0, hc0, hlc0⟩ := trod_obs h0 (fun _ => rfl)
  obtain ⟨G, gs, cG, e1, hG, hl1⟩ := trod_gbs h1 (fun _ => rfl)
  obtain ⟨n2, e2, _, hw2⟩ := DataW.trod_int oi3 h2
  have ht2 : n2 ≤ 9223372036854775807 := i64_le hw2
  clear hi h0 h1 h2 hf
  obtain ⟨c⟩ := cs
  match c, hsz with
  | [a, b, c], _ =>
    simp [Value.cells] at e0 e1 e2
    exact ⟨⟨fs, gs, n2⟩, F, G, cF, cG, by simp [e0, e1, e2], ⟨hF, hG⟩, hl0, hl1, hc0, ht2, hlc0⟩
set_option maxRecDepth 100000 in
theorem open_object {H : Type} {enc : TypeId × Value → H} {w : World} {v : Value} {d : DataW H} {p : List MemPlace} {r : Reach} {b0 : Nat} (h : DataW.Trod enc Tryd.prog w 0 (fun _ => true) true 39 v d p) (hv : Value.okWide Tryd.prog w r b0 39 v) :
    ∃ (o : Ob) (C : Option Addr) (cap : Nat), v = obAgg o C cap ∧ RdL w C o.lines ∧ o.lines.length ≤ 9223372036854775807 := by
  obtain ⟨cs, rfl, hsz⟩ := okWide_struct oiO hv
  obtain ⟨fuel, hf⟩ := h
  obtain ⟨o, C, cap, e, hR, hl⟩ := trod_ob hf (fun _ => rfl)
  obtain ⟨c⟩ := cs
  simp [Value.cells] at e
  exact ⟨o, C, cap, by rw [e], hR, hl⟩
set_option maxRecDepth 100000 in
theorem open_bytes {H : Type} {enc : TypeId × Value → H} {w : World} {v : Value} {d : DataW H} {p : List MemPlace} {r : Reach} {b0 : Nat} (h : DataW.Trod enc Tryd.prog w 0 (fun _ => true) true 26 v d p) (hv : Value.okWide Tryd.prog w r b0 26 v) :
    ∃ (A : Option Addr) (l : List Int) (cap : Nat), v = .slice A l.length cap ∧ RdB w A l ∧ l.length ≤ cap ∧ l.length ≤ 9223372036854775807 ∧ ∀ n ∈ l, 0 ≤ n ∧ n ≤ 255 := by
  obtain ⟨a0, len0, cap0, rfl⟩ := okWide_slice (show Tryd.prog.underlying 26 = some (.slice 5) by kernel_rfl) hv
  obtain ⟨fuel, hf⟩ := h
  rcases Go.Deep.open_slice (e := 5) (by kernel_rfl) hf with ⟨hcs, _⟩ | ⟨a, len, cap, m, n, D, Pl, hcs, _, hlc, hcm, hm, hx, hi⟩
  · simp [Value.cells] at hcs
    obtain ⟨rfl, rfl, rfl⟩ := hcs
    exact ⟨none, [], 0, rfl, (fun j s hs => by simp at hs), by simp, by simp, fun n hn => by simp at hn⟩
  · simp [Value.cells] at hcs
    obtain ⟨rfl, rfl, rfl⟩ := hcs
    rw [ocb] at hi
    have hm' : m = cap0 := by simpa using hm
    subst hm'
    have hrows : ∀ i, i < len0 → ∃ r : Int, w.cells? 0 (a.add (i * 1)) 1 = some [.int .u8 r] ∧ 0 ≤ r ∧ r ≤ 255 := fun i hil => by
      obtain ⟨cs', hc, ht⟩ := hi i (by omega)
      obtain ⟨r, rfl, _, hwf⟩ := DataW.trod_int oib ht
      refine ⟨r, hc, ?_⟩
      have h : (decide ((IntKind.u8).min ≤ r) && decide (r ≤ (IntKind.u8).max)) = true := hwf
      rw [Bool.and_eq_true, decide_eq_true_eq, decide_eq_true_eq, show (IntKind.u8).min = 0 from by decide, show (IntKind.u8).max = 255 from by decide] at h
      exact h
    obtain ⟨f, hfr⟩ := Go.Deep.choose_lt hrows
    refine ⟨some a, (List.range len0).map f, m, by simp, fun j g hg => ?_, by simp; omega, by simp [maxLen] at hcm ⊢; omega, fun g hg => ?_⟩
    · have hj : j < len0 := by simpa using (List.getElem?_eq_some_iff.1 hg).1
      have hgf : g = f j := by simp [hj] at hg; exact hg.symm
      subst hgf
      have hc := (World.cells?_some (hfr j hj).1).2.2
      have h00 := (World.cells?_some (hfr 0 (by omega)).1).2.2 0 (by omega)
      have hsp' : a.spot = none := by
        have e1 : (a.add (0 * 1)).add 0 = a.add 0 := by simp [Addr.add]
        rw [e1] at h00
        exact no_spot h00 rfl
      obtain ⟨b, o, spot⟩ := a
      simp only at hsp'
      subst hsp'
      have c0 := hc 0 (by omega)
      rw [addr_add2] at c0
      refine ⟨b, o, rfl, cell_lt c0, ?_⟩
      have e : o + j = o + (j * 1 + 0) := by omega
      rw [e, c0]
      rfl
    · obtain ⟨i, hi, rfl⟩ := List.mem_map.1 hg
      exact (hfr i (by simpa using hi)).2
end Go.Proofs.YtihbgppcacaekaaDoor
