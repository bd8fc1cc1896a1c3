import Derived.Test.YtaofdbboalcceaaGf
import Derived.Test.YtaofdbboalcceaaCl
/- flow.Ahead of a function that may not be; code.Clone; a value that is Never. -/
namespace Go.Proofs.Ytaofdbboalcceaa
open Go.RowKit Go.BigFrame

set_option maxRecDepth 1000000 in
set_option maxHeartbeats 4000000 in
theorem ahead_no (f : Fn7) (hf : ¬ OkF f) (C : Option Addr) (cap : Nat) (w : World) (hC : RdI w C f.code) :
    Calls Try.prog 22 #[funcAgg f.nm f.ps f.R f.Fr C f.code.length cap] w fun e w' => e = .returned (.slice none 0 0) ∧ Below w.heap.size w w' := by
  have hB0 := Below.one w (funcObj f.nm f.ps f.R f.Fr C f.code.length cap)
  have bx := heap_alloc_new w (funcObj f.nm f.ps f.R f.Fr C f.code.length cap)
  have hr0 := RightFunc_any f C cap _ (hC.below hB0)
  simp only [funcObj, funcAgg] at hB0 bx hr0 ⊢
  obtain ⟨W0, hW0⟩ : ∃ W0, w.alloc (.cells #[.string f.nm, .int .i64 f.ps, .int .i64 f.R, .int .i64 f.Fr, .slice C f.code.length cap] 24) = W0 := ⟨_, rfl⟩
  rw [hW0] at hB0 bx hr0
  have y0 := cell_of_heap bx 0 (.string f.nm) rfl
  have y1 := cell_of_heap bx 1 (.int .i64 f.ps) rfl
  have y2 := cell_of_heap bx 2 (.int .i64 f.R) rfl
  have y3 := cell_of_heap bx 3 (.int .i64 f.Fr) rfl
  have y4 := cell_of_heap bx 4 (.slice C f.code.length cap) rfl
  have HF := Lib.hid hf
  clear hf hC
  generalize f.code.length = L at *
  go_enter Try.func22, Try.ntmps22
  go_wp2_with (first
    | (go_at_call 47; refine hr0.mono ?_; rintro e w1 ⟨⟨b, rfl, hb⟩, hb1⟩; obtain rfl : b = false := (by cases b with | false => rfl | true => exact absurd (hb.1 rfl) HF.out); clear hb))
  go_returns
  exact ⟨rfl, hB0.trans (hb1.mono hB0.size)⟩
/-- a number is told, that is not negative just if a value is Never -/
def IdxV (l : List Vl) (e : Ending) : Prop := ∃ i : Int, e = .returned (.int .i64 i) ∧ (i ≥ 0 ↔ ∃ x ∈ l, x.k = 0)
set_option maxRecDepth 1000000 in
theorem fold1_any (x : Vl) (w : World) : Calls Try.prog 62 #[x.agg] w fun e w' => e = .returned (.bool (x.k == 0)) ∧ Below w.heap.size w w' := by
  have hB := Below.one w x.obj
  obtain ⟨k, n⟩ := x
  simp only [Vl.agg, Vl.obj] at hB ⊢
  go_enter Try.func62, Try.ntmps62
  go_wp2
  go_returns
  exact ⟨rfl, hB⟩
set_option maxRecDepth 1000000 in
set_option maxHeartbeats 4000000 in
theorem IndexFuncV_any (b cap : Nat) (l : List Vl) (R : Nat) (hR : l.length = R) (hR4 : R ≤ 4096) (w : World) (h : PreV w b l) :
    Calls Try.prog 81 #[.slice (some ⟨b, 0, none⟩) R cap, .func (.func 62) #[] #[]] w fun e w' => IdxV l e ∧ Below w.heap.size w w' := by
  have HL := Lib.hid hR
  clear hR
  go_enter Try.func81, Try.ntmps81
  go_wp2
  go_loopw [8] (fun i w8 => ∃ k : Nat, k ≤ R ∧ i = .int .i64 k ∧ Below w.heap.size w w8 ∧ ∀ (j : Nat) x, j < k → l[j]? = some x → x.k ≠ 0) (fun i _ => R - (intOf i).toNat)
  case atStart => exact ⟨0, by omega, rfl, Below.refl _ _, fun j r hj => by omega⟩
  case round =>
    obtain ⟨k, hk, rfl, hbw, hno⟩ := hrel
    by_cases hlt : k < R
    · have hr : l[k]? = some (l[k]'(by rw [HL.out]; exact hlt)) := by simp
      generalize l[k]'(by rw [HL.out]; exact hlt) = x at hr
      obtain ⟨c0, c1⟩ := PreV.cells (Pre.later h hbw) hr
      have h1 := fold1_any x wr
      obtain ⟨xk, xn⟩ := x
      simp only [Vl.agg] at c0 c1 h1
      cases hb : (xk == 0)
      · rw [hb] at h1
        have HB : Hid (xk ≠ 0) := Lib.hid (by simpa using hb)
        clear hb
        go_wp2_with (first
          | (go_at_call 62; refine h1.mono ?_; rintro e w1 ⟨rfl, hb1⟩))
        exact ⟨⟨k + 1, by omega, by simp, hbw.trans (hb1.mono hbw.size), fun j x' hj hx' => by
          by_cases hjk : j = k
          · subst hjk
            rw [hr] at hx'
            injection hx' with hx'
            subst hx'
            exact HB.out
          · exact hno j x' (by omega) hx'⟩, by simp [intOf]; omega⟩
      · rw [hb] at h1
        have HE : Hid ((k : Int) ≥ 0 ↔ ∃ x ∈ l, x.k = 0) := Lib.hid ⟨fun _ => ⟨⟨xk, xn⟩, List.mem_of_getElem? hr, by simpa using hb⟩, fun _ => by omega⟩
        clear hb
        go_wp2_with (first
          | (go_at_call 62; refine h1.mono ?_; rintro e w1 ⟨rfl, hb1⟩))
        go_returns
        exact ⟨⟨_, rfl, HE.out⟩, hbw.trans (hb1.mono hbw.size)⟩
    · have HE : Hid ((-1 : Int) ≥ 0 ↔ ∃ x ∈ l, x.k = 0) := Lib.hid ⟨fun h => by omega, fun ⟨x, hx, hb⟩ => by
        obtain ⟨j, hj⟩ := List.mem_iff_getElem?.1 hx
        exact absurd hb (hno j x (by have h1 := (List.getElem?_eq_some_iff.1 hj).1; rw [HL.out] at h1; omega) hj)⟩
      clear hno
      go_wp2
      go_returns
      exact ⟨⟨_, rfl, HE.out⟩, hbw⟩
def NevV (l : List Vl) (e : Ending) : Prop := ∃ b : Bool, e = .returned (.bool b) ∧ (b = true ↔ ∃ x ∈ l, x.k = 0)
theorem ContainsV_any (b cap : Nat) (l : List Vl) (R : Nat) (hR : l.length = R) (hR4 : R ≤ 4096) (w : World) (h : PreV w b l) :
    Calls Try.prog 61 #[.slice (some ⟨b, 0, none⟩) R cap, .func (.func 62) #[] #[]] w fun e w' => NevV l e ∧ Below w.heap.size w w' := by
  have hI := IndexFuncV_any b cap l R hR hR4 w h
  clear hR h
  go_enter Try.func61, Try.ntmps61
  go_wp2_with (first
    | (go_at_call 81; refine hI.mono ?_; rintro e w1 ⟨⟨i, rfl, hi⟩, hb⟩; have HI := Lib.hid hi; clear hi))
  go_returns
  exact ⟨⟨decide (i ≥ 0), by simp, by rw [decide_eq_true_eq]; exact HI.out⟩, hb⟩
end Go.Proofs.Ytaofdbboalcceaa

/- code.Clone. -/
namespace Go.Proofs.Ytaofdbboalcceaa
open Go.RowKit Go.BigFrame

abbrev PreI (W : World) (b : Nat) (l : List Ins) : Prop := Pre Ins.l 15 38 W b l
theorem ins_len (i : Ins) : (Ins.l i).length = 15 := rfl
theorem PreI.read {W : World} {b : Nat} {l : List Ins} (h : PreI W b l) : RdI W (some ⟨b, 0, none⟩) l := fun j i hi => by
  refine ⟨b, 0, rfl, Pre.lt h, fun k hk => ?_⟩
  obtain ⟨cs, h1, h2⟩ := h
  rw [Nat.zero_add, cell_of_row W b _ cs _ _ h1]
  exact h2 j i hi k hk
theorem flatI_get : ∀ (v : List Ins) (j k : Nat), k < 15 → (v.flatMap Ins.l)[j * 15 + k]? = (v[j]?).bind fun x => (Ins.l x)[k]?
  | [], j, k, _ => by simp
  | x :: v, 0, k, hk => by
    rw [List.flatMap_cons, List.getElem?_append_left (by rw [ins_len]; omega)]
    simp
  | x :: v, j + 1, k, hk => by
    rw [List.flatMap_cons, List.getElem?_append_right (by rw [ins_len]; omega)]
    have h := flatI_get v j k hk
    rw [show (j + 1) * 15 + k - (Ins.l x).length = j * 15 + k by rw [ins_len]; omega, h]
    simp
theorem flatI_len (v : List Ins) : (v.flatMap Ins.l).length = v.length * 15 := by
  induction v with
  | nil => rfl
  | cons x v ih => rw [List.flatMap_cons, List.length_append, ih, ins_len, List.length_cons]; omega
theorem flatI_one (v : List Ins) : ∀ u ∈ v.flatMap Ins.l, u.oneCell' = true := fun u hu => by
  obtain ⟨x, _, hx⟩ := List.mem_flatMap.1 hu
  simp only [List.mem_cons, List.not_mem_nil, or_false] at hx
  rcases hx with rfl | rfl | rfl | rfl | rfl | rfl | rfl | rfl | rfl | rfl | rfl | rfl | rfl | rfl | rfl <;> rfl
theorem flatI_src {W : World} {b o : Nat} {v : List Ins} (h : RdI W (some ⟨b, o, none⟩) v) : ∀ j u, (v.flatMap Ins.l)[j]? = some u → W.cell? ((⟨b, o, none⟩ : Addr).add j) = some u := fun j u hu => by
  have hadd : (⟨b, o, none⟩ : Addr).add j = ⟨b, o + j, none⟩ := by
    unfold Addr.add; split
    · rename_i h0; rw [h0, Nat.add_zero]
    · rfl
  rw [hadd]
  have hj : j / 15 * 15 + j % 15 = j := by omega
  rw [← hj, flatI_get v (j / 15) (j % 15) (Nat.mod_lt _ (by decide))] at hu
  cases hx : v[j / 15]? with
  | none => rw [hx] at hu; cases hu
  | some x =>
    rw [hx] at hu
    obtain ⟨b', o', e1, _, e3⟩ := h (j / 15) x hx
    injection e1 with e1
    injection e1 with e2 e4
    subst e2 e4
    have := e3 (j % 15) (Nat.mod_lt _ (by decide))
    rw [hj] at this
    rw [this]
    exact hu
theorem info_i : (Try.prog.info? 38).map (fun i => (i.zero, i.size, i.bytes)) = some (some zeroI.agg, 15, 128) := by kernel_rfl
theorem make_ins (L : Nat) (hL : L ≤ 100000) (W : World) : (Instr.makeSlice 22 (.int .i64 L) (.int .i64 L)).run Try.prog W = .ok (.slice (some ⟨W.heap.size, 0, none⟩) L L) (W.alloc (.cells (madeCells zeroI.l.toArray (L * 15)) 38)) := by
  obtain ⟨i0, hi, hz0, hz1, hz2⟩ := info_parts info_i
  have := run_make (P := Try.prog) W 22 38 i0 zeroI.agg (by kernel_rfl) hi hz0 .i64 .i64 L L (by omega) (by omega) (by rw [hz2]; omega) (by omega)
  simpa [hz1, Value.cells] using this
theorem copy_ins {W : World} {b o L cap : Nat} {v : List Ins} (h : RdI W (some ⟨b, o, none⟩) v) (hv : v.length = L) (ty : TypeId) :
    ∃ W', (Builtin.copy_ #[22, 22] ty #[.slice (some ⟨W.heap.size, 0, none⟩) L L, .slice (some ⟨b, o, none⟩) L cap]).run Try.prog (W.alloc (.cells (madeCells zeroI.l.toArray (L * 15)) 38)) = .ok (goInt L) W' ∧ PreI W' W.heap.size v ∧ Below W.heap.size W W' ∧ W'.heap.size = W.heap.size + 1 := by
  have hb := Below.one W (.cells (madeCells zeroI.l.toArray (L * 15)) 38)
  have hn := heap_alloc_new W (.cells (madeCells zeroI.l.toArray (L * 15)) 38)
  have hs : (madeCells zeroI.l.toArray (L * 15)).size = L * 15 := by simp [madeCells]
  have hr := run_copy_any (P := Try.prog) _ 22 22 ty 38 W.heap.size 0 L L ⟨b, o, none⟩ L cap _ 38 (v.flatMap Ins.l) 15 L (by kernel_rfl) sI hn (Nat.min_self L).symm (by rw [flatI_len, hv]) (flatI_src (h.below hb)) (by rw [flatI_len, hv, hs]; omega) (flatI_one v)
  refine ⟨_, hr, ⟨_, setRow_heap _ W.heap.size _ _ _ _ hn, fun j x hx k hk => ?_⟩, below_setRow hb (Nat.le_refl _) _, by simp⟩
  have hf := flatI_get v j k hk
  rw [hx] at hf
  simp only [Option.bind_some] at hf
  rw [← hf, List.getElem?_toArray, List.take_zero, List.nil_append, List.getElem?_append_left]
  rw [flatI_len]
  have := (List.getElem?_eq_some_iff.1 hx).1
  omega
theorem sF : (Try.prog.info? 24).map (·.size) = some 5 := by kernel_rfl
theorem func_one (nm : ByteArray) (ps R Fr : Int) (A : Option Addr) (n c : Nat) : (#[Value.string nm, .int .i64 ps, .int .i64 R, .int .i64 Fr, .slice A n c].all (·.oneCell')) = true := by simp [Value.oneCell']
def ClonedF (base : Nat) (f : Fn7) (e : Ending) (w : World) : Prop := ∃ nb, e = .returned (funcAgg f.nm f.ps f.R f.Fr (some ⟨nb, 0, none⟩) f.code.length f.code.length) ∧ base ≤ nb ∧ PreI w nb f.code
set_option maxRecDepth 1000000 in
set_option maxHeartbeats 4000000 in
theorem clone_code (f : Fn7) (hL0 : 1 ≤ f.code.length ∧ f.code.length ≤ 8192) (C : Option Addr) (cap : Nat) (w : World) (hC : RdI w C f.code) :
    Calls Try.prog 60 #[funcAgg f.nm f.ps f.R f.Fr C f.code.length cap] w fun e w' => ClonedF w.heap.size f e w' ∧ Below w.heap.size w w' := by
  have hi0 : f.code[0]? = some (f.code[0]'(by omega)) := by simp
  obtain ⟨b, o, rfl, hbl, _⟩ := hC 0 _ hi0
  clear hi0
  obtain ⟨L, hL⟩ : ∃ L, f.code.length = L := ⟨_, rfl⟩
  have HL := Lib.hid hL
  rw [hL] at hL0
  simp only [funcAgg, hL]
  clear hL
  have b0 := heap_alloc_new w (.cells #[.string f.nm, .int .i64 f.ps, .int .i64 f.R, .int .i64 f.Fr, .slice (some ⟨b, o, none⟩) L cap] 24)
  have b1 := heap_alloc_new (w.alloc (.cells #[.string f.nm, .int .i64 f.ps, .int .i64 f.R, .int .i64 f.Fr, .slice (some ⟨b, o, none⟩) L cap] 24)) (.cells #[.string ⟨#[]⟩, .int .i64 0, .int .i64 0, .int .i64 0, .slice none 0 0] 24)
  rw [show (w.alloc (.cells #[.string f.nm, .int .i64 f.ps, .int .i64 f.R, .int .i64 f.Fr, .slice (some ⟨b, o, none⟩) L cap] 24)).heap.size = w.heap.size + 1 by simp] at b1
  have b0 := alloc_keeps b0 (.cells #[.string ⟨#[]⟩, .int .i64 0, .int .i64 0, .int .i64 0, .slice none 0 0] 24)
  have hB := (Below.one w (.cells #[.string f.nm, .int .i64 f.ps, .int .i64 f.R, .int .i64 f.Fr, .slice (some ⟨b, o, none⟩) L cap] 24)).alloc (by simp) (.cells #[.string ⟨#[]⟩, .int .i64 0, .int .i64 0, .int .i64 0, .slice none 0 0] 24)
  obtain ⟨W, hW⟩ : ∃ W, (w.alloc (.cells #[.string f.nm, .int .i64 f.ps, .int .i64 f.R, .int .i64 f.Fr, .slice (some ⟨b, o, none⟩) L cap] 24)).alloc (.cells #[.string ⟨#[]⟩, .int .i64 0, .int .i64 0, .int .i64 0, .slice none 0 0] 24) = W := ⟨_, rfl⟩
  have hsW : w.heap.size + 2 ≤ W.heap.size := by rw [← hW]; simp
  rw [hW] at b0 b1 hB
  have y4 := cell_of_heap b0 4 (.slice (some ⟨b, o, none⟩) L cap) rfl
  have hl0 := (Array.getElem?_eq_some_iff.1 b0).1
  obtain ⟨W2, hcp, hP, hB2, hs2⟩ := copy_ins (cap := cap) (hC.below hB) HL.out 3
  have hmk := fun W => make_ins L (by omega) W
  have c0 := (hB2.block _ hl0).trans b0
  have c1 := (hB2.block _ (Array.getElem?_eq_some_iff.1 b1).1).trans b1
  have hBB := hB.trans (hB2.mono hB.size)
  have z0 := cell_of_heap c0 0 (.string f.nm) rfl
  have z1 := cell_of_heap c0 1 (.int .i64 f.ps) rfl
  have z2 := cell_of_heap c0 2 (.int .i64 f.R) rfl
  have z3 := cell_of_heap c0 3 (.int .i64 f.Fr) rfl
  have z4 := cell_of_heap c0 4 (.slice (some ⟨b, o, none⟩) L cap) rfl
  have zf := free_of_heap c0
  have HP := Lib.hid hP
  have HS2 := Lib.hid hs2
  clear hC hP hs2 b0 b1
  have d1 := (heap_setCell_other W2 ⟨w.heap.size, 4, none⟩ (w.heap.size + 1) (.slice (some ⟨W.heap.size, 0, none⟩) L L) (by simp only; omega)).trans c1
  have hR := setRow_heap _ _ _ #[.string f.nm, .int .i64 f.ps, .int .i64 f.R, .int .i64 f.Fr, .slice (some ⟨W.heap.size, 0, none⟩) L L] _ _ d1
  have r0 := cell_of_heap hR 0 (.string f.nm) rfl
  have r1 := cell_of_heap hR 1 (.int .i64 f.ps) rfl
  have r2 := cell_of_heap hR 2 (.int .i64 f.R) rfl
  have r3 := cell_of_heap hR 3 (.int .i64 f.Fr) rfl
  have r4 := cell_of_heap hR 4 (.slice (some ⟨W.heap.size, 0, none⟩) L L) rfl
  have HPF : Hid (PreI ((W2.setCell ⟨w.heap.size, 4, none⟩ (.slice (some ⟨W.heap.size, 0, none⟩) L L)).setRow (w.heap.size + 1) #[.string f.nm, .int .i64 f.ps, .int .i64 f.R, .int .i64 f.Fr, .slice (some ⟨W.heap.size, 0, none⟩) L L]) W.heap.size f.code) := Lib.hid (Pre.of_heap (Pre.other HP.out (by simp only; omega) _) (setRow_other _ _ _ _ (by omega)))
  have HBF : Hid (Below w.heap.size w ((W2.setCell ⟨w.heap.size, 4, none⟩ (.slice (some ⟨W.heap.size, 0, none⟩) L L)).setRow (w.heap.size + 1) #[.string f.nm, .int .i64 f.ps, .int .i64 f.R, .int .i64 f.Fr, .slice (some ⟨W.heap.size, 0, none⟩) L L])) := Lib.hid (below_setRow (hBB.setCell (Nat.le_refl _) _) (by omega) _)
  have HSW := Lib.hid hsW
  clear hR hsW c0 c1 hB hBB hB2 hbl
  go_enter Try.func60, Try.ntmps60
  go_wp2_with (first
    | (refine copy_ran (o := ⟨some 11, _, _, _, _, _⟩) rfl (.tmp 8) (.tmp 10) rfl rfl rfl hcp ?_)
    | (show wpList Try.prog _ _ (⟨none, .store _ (.tmp 2) _, _, _, _, _⟩ :: _) _ _; refine wpList_store_row rfl 24 (.tmp 2) (.tmp 14) rfl (w.heap.size + 1) #[.string f.nm, .int .i64 f.ps, .int .i64 f.R, .int .i64 f.Fr, .slice (some ⟨W.heap.size, 0, none⟩) L L] rfl rfl 24 _ d1 sF rfl (func_one _ _ _ _ _ _ _) ?_))
  (try simp only [Exit.inBlock, Exit.then])
  refine bodyPost_ret (by simp [results, Try.results60, go_sem, r0, r1, r2, r3, r4]; try rfl) rfl ?_
  exact ⟨⟨W.heap.size, by rw [HL.out], by have := HSW.out; omega, HPF.out⟩, HBF.out⟩
end Go.Proofs.Ytaofdbboalcceaa

/- A struct stored within a block; what Fold makes (plain). -/
namespace Go.Proofs.Ytaofdbboalcceaa
open Go.RowKit Go.BigFrame

theorem run_storeVar_at {P : Program} (w : World) (g o : Nat) (t ty : TypeId) (old : Array Value) (vs : List Value) (hg : w.heap[g]? = some (.cells old t (0, 0))) (hi : (P.info? ty).map (·.size) = some vs.length)
    (hfit : o + vs.length ≤ old.size) (h1 : ∀ v ∈ vs, v.oneCell' = true) :
    (storeVar ty ⟨g, o, none⟩ (.agg vs.toArray)).run P w = .ok () (w.setRow g (old.toList.take o ++ vs ++ old.toList.drop (o + vs.length)).toArray) := by
  have := run_storeCells_at P g o t vs 0 old w hg (by omega) h1
  cases hq : P.info? ty with
  | none => simp [hq] at hi
  | some i =>
    have hs : i.size = vs.length := by simpa [hq] using hi
    simp only [Nat.add_zero] at this
    simp [storeVar, sizeOf, typeInfo, hq, Value.cells, hs, this]
theorem wpList_store_at {P : Program} {ops : Array Oper} {rest : List Oper} {o : Oper} {a : Act} {w : World} {Q : Exit → Act → World → Prop} (hgd : o.guard = none) (ty : TypeId) (x y : Operand) (ho : o.op = .store ty x y)
    (g off : Nat) (vs : List Value) (hx : a.eval x = .pointer (some ⟨g, off, none⟩)) (hy : a.eval y = .agg vs.toArray)
    (t : TypeId) (old : Array Value) (hg : w.heap[g]? = some (.cells old t (0, 0))) (hi : (P.info? ty).map (·.size) = some vs.length)
    (hfit : off + vs.length ≤ old.size) (h1 : ∀ v ∈ vs, v.oneCell' = true)
    (h : wpList P ops Q rest (a.put o.dst undef) (w.setRow g (old.toList.take off ++ vs ++ old.toList.drop (off + vs.length)).toArray)) : wpList P ops Q (o :: rest) a w :=
  wpList_plain hgd fun _ hK => by
    unfold Oper.wp execOp
    simp only [ho, hx, hy, Instr.storeAt, Instr.sureAddr, Sem.run_bind, Sem.run_pure, Result.andThen_ok, run_storeVar_at w g off t ty old vs hg hi hfit h1]
    exact hK _ _ h
theorem PreI.setRow {W : World} {b : Nat} {l : List Ins} {cs : Array Value} (h1 : W.heap[b]? = some (.cells cs 38 (0, 0))) (h2 : ∀ j x, l[j]? = some x → ∀ k, k < 15 → cs[j * 15 + k]? = (Ins.l x)[k]?) {p : Nat} (hp : p < l.length) (y : Ins) :
    p * 15 + 15 ≤ cs.size ∧ PreI (W.setRow b (cs.toList.take (p * 15) ++ Ins.l y ++ cs.toList.drop (p * 15 + 15)).toArray) b (l.set p y) := by
  have hx := List.getElem?_eq_getElem hp
  have h14 := h2 p _ hx 14 (by omega)
  have hsz : p * 15 + 15 ≤ cs.size := by
    have : (Ins.l l[p])[14]? = some (.int .i64 (l[p]).els) := rfl
    rw [this] at h14
    have := (Array.getElem?_eq_some_iff.1 h14).1
    omega
  refine ⟨hsz, ⟨_, setRow_heap W b cs _ _ _ h1, fun j x hj k hk => ?_⟩⟩
  have hlt : (cs.toList.take (p * 15)).length = p * 15 := by simp; omega
  rw [List.getElem?_toArray]
  by_cases hjp : p = j
  · subst hjp
    rw [List.getElem?_set_self hp] at hj
    injection hj with hj
    subst hj
    rw [List.append_assoc, List.getElem?_append_right (by rw [hlt]; omega), hlt, List.getElem?_append_left (by rw [ins_len]; omega)]
    congr 1
    omega
  · rw [List.getElem?_set_ne hjp] at hj
    have h3 := h2 j x hj k hk
    by_cases hlt2 : j < p
    · have : (j + 1) * 15 ≤ p * 15 := Nat.mul_le_mul_right 15 hlt2
      rw [List.append_assoc, List.getElem?_append_left (by rw [hlt]; omega), List.getElem?_take, if_pos (by omega), ← h3]
      simp
    · have : (p + 1) * 15 ≤ j * 15 := Nat.mul_le_mul_right 15 (by omega)
      rw [List.getElem?_append_right (by rw [List.length_append, hlt, ins_len]; omega), List.length_append, hlt, ins_len, List.getElem?_drop, ← h3]
      simp only [Array.getElem?_toList]
      congr 1
      omega
/-- an instruction, with what is known in place -/
def foldI (i : Ins) (p : Nat) (v : List Vl) : Ins :=
  if v.any (fun x => x.k == 0) then i
  else if i.kind = 4 ∨ i.kind = 2 ∨ i.kind = 3 then
    (if (setV i v).2 = true ∧ (setV i v).1.k = 1 then ⟨1, 0, i.dst, 0, 0, (setV i v).1.n, ⟨#[]⟩, 0, 0, 0, 0, 0, 0, 0, -1⟩ else i)
  else if i.kind = 12 then
    (match nextV i p v with
     | [n] => ⟨11, 0, -1, 0, 0, 0, ⟨#[]⟩, 0, 0, 0, 0, 0, 0, n, -1⟩
     | _ => i)
  else i
def insAt (l : List Ins) (p : Nat) : Ins := l.getD p zeroI
theorem insAt_in {l : List Ins} {p : Nat} (h : p < l.length) : l[p]? = some (insAt l p) := by simp [insAt, List.getD, h]
def foldL (f : Fn7) (M : List (List Vl)) : List Ins := (List.range f.code.length).map fun p => foldI (insAt f.code p) p (row M p)
def foldTo (f : Fn7) (M : List (List Vl)) (p : Nat) : List Ins := (foldL f M).take p ++ f.code.drop p
def foldN (f : Fn7) (M : List (List Vl)) : Nat → Nat
  | 0 => 0
  | p + 1 => foldN f M p + (if foldI (insAt f.code p) p (row M p) = insAt f.code p then 0 else 1)
theorem foldL_len (f : Fn7) (M : List (List Vl)) : (foldL f M).length = f.code.length := by simp [foldL]
theorem foldL_at {f : Fn7} {M : List (List Vl)} {p : Nat} (h : p < f.code.length) : (foldL f M)[p]? = some (foldI (insAt f.code p) p (row M p)) := by simp [foldL, h]
theorem foldTo_zero (f : Fn7) (M : List (List Vl)) : foldTo f M 0 = f.code := by simp [foldTo]
theorem foldTo_all (f : Fn7) (M : List (List Vl)) : foldTo f M f.code.length = foldL f M := by
  unfold foldTo
  rw [List.take_of_length_le (by rw [foldL_len]; omega), List.drop_eq_nil_of_le (Nat.le_refl _), List.append_nil]
theorem foldTo_len {f : Fn7} {M : List (List Vl)} {p : Nat} (h : p ≤ f.code.length) : (foldTo f M p).length = f.code.length := by
  unfold foldTo
  rw [List.length_append, List.length_take, List.length_drop, foldL_len]
  omega
theorem foldTo_get {f : Fn7} {M : List (List Vl)} {p j : Nat} (h : p ≤ f.code.length) : (foldTo f M p)[j]? = if j < p then (foldL f M)[j]? else f.code[j]? := by
  unfold foldTo
  by_cases hj : j < p
  · rw [if_pos hj, List.getElem?_append_left (by rw [List.length_take, foldL_len]; omega), List.getElem?_take, if_pos hj]
  · rw [if_neg hj, List.getElem?_append_right (by rw [List.length_take, foldL_len]; omega), List.getElem?_drop]
    congr 1
    rw [List.length_take, foldL_len]
    omega
theorem foldTo_at {f : Fn7} {M : List (List Vl)} {p : Nat} (h : p < f.code.length) : (foldTo f M p)[p]? = some (insAt f.code p) := by
  rw [foldTo_get (by omega), if_neg (Nat.lt_irrefl p), insAt_in h]
theorem foldTo_set {f : Fn7} {M : List (List Vl)} {p : Nat} (h : p < f.code.length) : (foldTo f M p).set p (foldI (insAt f.code p) p (row M p)) = foldTo f M (p + 1) := by
  apply List.ext_getElem?
  intro j
  rw [List.getElem?_set, foldTo_get (by omega), foldTo_get (by omega), foldTo_len (by omega)]
  by_cases hj : p = j
  · subst hj
    rw [if_pos rfl, if_pos h, if_pos (Nat.lt_succ_self p), foldL_at h]
  · rw [if_neg hj]
    by_cases h3 : j < p
    · rw [if_pos h3, if_pos (by omega)]
    · rw [if_neg h3, if_neg (by omega)]
theorem foldTo_same {f : Fn7} {M : List (List Vl)} {p : Nat} (h : p < f.code.length) (e : foldI (insAt f.code p) p (row M p) = insAt f.code p) : foldTo f M (p + 1) = foldTo f M p := by
  rw [← foldTo_set h, e]
  apply List.ext_getElem?
  intro j
  rw [List.getElem?_set]
  by_cases hj : p = j
  · subst hj
    rw [if_pos rfl, if_pos (by rw [foldTo_len (by omega)]; exact h), foldTo_at h]
  · rw [if_neg hj]
theorem foldN_le (f : Fn7) (M : List (List Vl)) : ∀ p, foldN f M p ≤ p
  | 0 => Nat.le_refl _
  | p + 1 => by
    have := foldN_le f M p
    unfold foldN
    split <;> omega
end Go.Proofs.Ytaofdbboalcceaa
