import Derived.Test.YtdoeinccnfggiaaDoorA
import Derived.Test.YtdoeinccnfggiaaDoorChecked
import Derived.WalkLawsBesides
import Derived.WalkSpells
import Derived.Outline
import Derived.Laws.Rows
import Derived.Lib.Hide
import Derived.Handy
import Derived.OwnWalk
import Derived.Maps.AppendAt
import Derived.Deep.QuietTactic
import Derived.BigQuiet
namespace Go.Proofs.YtdoeinccnfggiaaDoor
open Go.RowKit Go.BigFrame

def tyEq (x y : Ty) : Bool := x.kind == y.kind && (x.elem == y.elem && (x.n == y.n && x.name.toList == y.name.toList))
theorem bytes_same {a b : ByteArray} (h : (a.toList == b.toList) = true) : a = b := by
  rw [Go.ByteArray.toList_eq, Go.ByteArray.toList_eq] at h
  have h1 := eq_of_beq h
  cases a
  cases b
  simp at h1
  rw [h1]
theorem bytes_other {a b : ByteArray} (h : (a.toList == b.toList) = false) : a ≠ b := by
  rintro rfl
  simp at h
theorem bytes_beq (a b : ByteArray) : (a.toList == b.toList) = decide (a = b) := by
  by_cases h : a = b
  · subst h; simp
  · cases hh : (a.toList == b.toList)
    · simp [h]
    · exact absurd (bytes_same hh) h
theorem tyEq_dec (x y : Ty) : tyEq x y = decide (x = y) := by
  unfold tyEq
  rw [bytes_beq]
  cases x; cases y
  simp only [Ty.mk.injEq]
  rename_i a b c d a' b' c' d'
  by_cases h1 : a = a' <;> by_cases h2 : b = b' <;> by_cases h3 : c = c' <;> by_cases h4 : d = d' <;> simp [h1, h2, h3, h4]
theorem fields51 : (Tryd.prog.fieldsOf 51).toList.map (fun f => (f.name != "_", f.type, f.offset)) = [(true, 3, 0), (true, 3, 1), (true, 3, 2), (true, 9, 3)] := by kernel_rfl
theorem eqFields_four {P : Program} (d : Nat) (xs ys : Array Value) (fs : List Field) (t1 t2 t3 t4 o1 o2 o3 o4 : Nat) (w : World) (a1 b1 a2 b2 a3 b3 a4 b4 : Value) (r1 r2 r3 r4 : Bool)
    (hf : fs.map (fun f => (f.name != "_", f.type, f.offset)) = [(true, t1, o1), (true, t2, o2), (true, t3, o3), (true, t4, o4)])
    (ha1 : (part t1 xs o1).run P w = .ok a1 w) (hb1 : (part t1 ys o1).run P w = .ok b1 w) (h1 : (Op.equalIn d t1 a1 b1).run P w = .ok r1 w)
    (ha2 : (part t2 xs o2).run P w = .ok a2 w) (hb2 : (part t2 ys o2).run P w = .ok b2 w) (h2 : (Op.equalIn d t2 a2 b2).run P w = .ok r2 w)
    (ha3 : (part t3 xs o3).run P w = .ok a3 w) (hb3 : (part t3 ys o3).run P w = .ok b3 w) (h3 : (Op.equalIn d t3 a3 b3).run P w = .ok r3 w)
    (ha4 : (part t4 xs o4).run P w = .ok a4 w) (hb4 : (part t4 ys o4).run P w = .ok b4 w) (h4 : (Op.equalIn d t4 a4 b4).run P w = .ok r4 w) :
    (Op.eqFields d xs ys fs).run P w = .ok (r1 && (r2 && (r3 && r4))) w := by
  have hl : fs.length = 4 := by simpa using congrArg List.length hf
  match fs, hl, hf with
  | [f, g, h, i], _, hf =>
    simp only [List.map_cons, List.map_nil, List.cons.injEq, Prod.mk.injEq, bne_iff_ne] at hf
    obtain ⟨⟨n1, rfl, rfl⟩, ⟨n2, rfl, rfl⟩, ⟨n3, rfl, rfl⟩, ⟨n4, rfl, rfl⟩, _⟩ := hf
    cases r1 <;> cases r2 <;> cases r3 <;> cases r4 <;> simp [Op.eqFields, n1, n2, n3, n4, ha1, hb1, h1, ha2, hb2, h2, ha3, hb3, h3, ha4, hb4, h4]
theorem eql_ty (x y : Ty) (w : World) : (binOp .eql 51 x.agg y.agg).run Tryd.prog w = .ok (.bool (tyEq x y)) w := by
  have h : (Op.equalIn 10000 51 x.agg y.agg).run Tryd.prog w = .ok (tyEq x y) w := by
    rw [run_equalIn_struct w 9999 51 _ _ (by kernel_rfl) (by kernel_rfl)]
    exact eqFields_four 9999 _ _ _ 3 3 3 9 0 1 2 3 w (.int .i64 x.kind) (.int .i64 y.kind) (.int .i64 x.elem) (.int .i64 y.elem) (.int .i64 x.n) (.int .i64 y.n) (.string x.name) (.string y.name) _ _ _ _ fields51
      (by kernel_rfl) (by kernel_rfl) (run_equalIn_int w 9998 3 .i64 .i64 _ _ (by kernel_rfl)) (by kernel_rfl) (by kernel_rfl) (run_equalIn_int w 9998 3 .i64 .i64 _ _ (by kernel_rfl))
      (by kernel_rfl) (by kernel_rfl) (run_equalIn_int w 9998 3 .i64 .i64 _ _ (by kernel_rfl)) (by kernel_rfl) (by kernel_rfl) (run_equalIn_string w 9998 9 _ _ (by kernel_rfl))
  simp only [binOp, Op.equal, Op.maxDepth, Sem.run_bind, h, Result.andThen_ok, Sem.run_pure]

def OwnT (w : World) (V : Value) (T : List Ty) : Prop := w.ownsRow 0 51 4 V T.length (tcells T)
def FOk (w : World) (F : Nat → Prop) (g : ByteArray → Option Value) (D : ByteArray → Option (List Fld)) : Prop :=
  ∀ s, (D s = none → g s = none) ∧ ∀ l, D s = some l → ∃ b cap cs, g s = some (.slice (some ⟨b, 0, none⟩) l.length cap) ∧ F b ∧ w.heap[b]? = some (.cells cs 31 (0, 0)) ∧ (∀ j, j < l.length * 2 → cs[j]? = (fcells l)[j]?) ∧ l.length ≤ 1000
def Tb (w : World) (p : Nat) (F : Nat → Prop) (T : List Ty) (D : ByteArray → Option (List Fld)) : Prop :=
  ∃ V M n g, w.heap[p]? = some (.cells #[V, .map (some M)] 66 (0, 0)) ∧ OwnT w V T ∧ MapS w M n g ∧ F p ∧ F M ∧ (∀ b, V.ownBlock = some b → F b) ∧ FOk w F g D ∧ T.length ≤ 256
theorem OwnT.form {w : World} {V : Value} {T : List Ty} (h : OwnT w V T) : ∃ A cap, V = .slice A T.length cap ∧ (∀ b, V.ownBlock = some b → ∃ cur, w.heap[b]? = some (.cells cur 51 (0, 0)) ∧ b < w.heap.size) ∧
    (0 < T.length → ∃ b, A = some ⟨b, 0, none⟩ ∧ b < w.heap.size ∧ ∀ j, j < T.length * 4 → w.cell? ⟨b, j, none⟩ = (tcells T)[j]?) := by
  have h0 := h
  obtain ⟨h1, h2⟩ := h
  rcases h2 with ⟨rfl, hn⟩ | ⟨g, cap, cur, rfl, hB, hg, hnc, _, hsz, htake⟩
  · exact ⟨none, 0, by rw [hn], fun b hb => by simp [Value.ownBlock] at hb, fun hp => by omega⟩
  · have hlt := (Array.getElem?_eq_some_iff.1 hg).1
    refine ⟨_, _, rfl, fun b hb => ?_, fun hp => ⟨g, rfl, hlt, fun j hj => World.ownsRow.cellAt h0 j hj⟩⟩
    simp [Value.ownBlock] at hb
    subst hb
    exact ⟨cur, hg, hlt⟩
theorem cell_of_heap {w : World} {p : Nat} {cs : Array Value} {t : TypeId} {fz : Nat × Nat} (h : w.heap[p]? = some (.cells cs t fz)) (j : Nat) (v : Value) (hj : cs[j]? = some v) : w.cell? ⟨p, j, none⟩ = some v := by
  simp [World.cell?, h, hj]
/-- the type at a number, read in the table's row -/
theorem OwnT.at_ {w : World} {V : Value} {T : List Ty} (h : OwnT w V T) (k : Nat) (hk : k < T.length) : ∃ b cap, V = .slice (some ⟨b, 0, none⟩) T.length cap ∧ b < w.heap.size ∧
    w.cell? ⟨b, k * 4, none⟩ = some (.int .i64 T[k].kind) ∧ w.cell? ⟨b, k * 4 + 1, none⟩ = some (.int .i64 T[k].elem) ∧ w.cell? ⟨b, k * 4 + 2, none⟩ = some (.int .i64 T[k].n) ∧ w.cell? ⟨b, k * 4 + 3, none⟩ = some (.string T[k].name) := by
  obtain ⟨A, cap, rfl, _, h3⟩ := h.form
  obtain ⟨b, rfl, hlt, hc⟩ := h3 (by omega)
  have hh : ∀ j, j < 4 → w.cell? ⟨b, k * 4 + j, none⟩ = (T[k]).l[j]? := fun j hj => by
    rw [hc (k * 4 + j) (by omega), tcells_at T k j hk hj]
  exact ⟨b, cap, rfl, hlt, hh 0 (by omega), hh 1 (by omega), hh 2 (by omega), hh 3 (by omega)⟩
theorem OwnT.get {w : World} {V : Value} {T : List Ty} (h : OwnT w V T) (k : Nat) (y : Ty) (hy : T[k]? = some y) : ∃ b cap, V = .slice (some ⟨b, 0, none⟩) T.length cap ∧ b < w.heap.size ∧
    w.cell? ⟨b, k * 4, none⟩ = some (.int .i64 y.kind) ∧ w.cell? ⟨b, k * 4 + 1, none⟩ = some (.int .i64 y.elem) ∧ w.cell? ⟨b, k * 4 + 2, none⟩ = some (.int .i64 y.n) ∧ w.cell? ⟨b, k * 4 + 3, none⟩ = some (.string y.name) := by
  obtain ⟨hk, rfl⟩ := List.getElem?_eq_some_iff.1 hy
  exact h.at_ k hk
theorem Tb.below {w w' : World} {p : Nat} {F : Nat → Prop} {T : List Ty} {D} (h : Tb w p F T D) (hb : Below w.heap.size w w') : Tb w' p F T D := by
  obtain ⟨V, M, n, g, h1, h2, h3, h4, h5, h6, h7, h8⟩ := h
  have hp := (Array.getElem?_eq_some_iff.1 h1).1
  refine ⟨V, M, n, g, (hb.block p hp).trans h1, ?_, h3.below hb h3.lt, h4, h5, h6, fun s => ⟨(h7 s).1, fun l hl => ?_⟩, h8⟩
  · exact World.ownsRow.kept h2 ⟨hb.os, hb.tape, hb.output, hb.size, fun k hk _ => hb.block k hk⟩ (row := none) (by cases hv : V.ownBlock <;> simp)
  · obtain ⟨b, cap, cs, e1, e2, e3, e4⟩ := (h7 s).2 l hl
    exact ⟨b, cap, cs, e1, e2, (hb.block b (Array.getElem?_eq_some_iff.1 e3).1).trans e3, e4⟩

theorem Below.one (w : World) (o : Obj) : Below w.heap.size w (w.alloc o) := (Below.refl _ _).alloc (Nat.le_refl _) _
set_option maxRecDepth 1000000 in
theorem at_nil (n : Int) (w : World) : Calls Tryd.prog 19 #[.pointer none, .int .i64 n] w fun e w' => e = .returned (.tuple #[ty0.agg, .bool false]) ∧ Below w.heap.size w w' := by
  go_enter Tryd.func19, Tryd.ntmps19
  go_wp2
  go_returns
  exact ⟨rfl, Below.one _ _⟩
set_option maxRecDepth 1000000 in
theorem at_any {w : World} {p : Nat} {F : Nat → Prop} {T : List Ty} {D} (h : Tb w p F T D) (n : Int) : Calls Tryd.prog 19 #[.pointer (some ⟨p, 0, none⟩), .int .i64 n] w fun e w' =>
    e = .returned (.tuple #[((atT T n).getD ty0).agg, .bool (atT T n).isSome]) ∧ Below w.heap.size w w' := by
  obtain ⟨V, M, m, g, h1, h2, _⟩ := h
  have hc0 := cell_of_heap h1 0 V rfl
  have hp := (Array.getElem?_eq_some_iff.1 h1).1
  by_cases hr : 0 ≤ n ∧ n < T.length
  · obtain ⟨k, rfl⟩ : ∃ k : Nat, n = k := ⟨n.toNat, by omega⟩
    have hk : k < T.length := by omega
    have hat : atT T (k : Int) = some T[k] := by
      unfold atT
      rw [if_pos hr]
      simp [hk]
    rw [hat]
    obtain ⟨b, cap, rfl, hlt, k0, k1, k2, k3⟩ := h2.at_ k hk
    clear h2 h1 hat
    generalize T[k] = x at *
    generalize T.length = L at *
    have q1 : decide ((k : Int) < 0) = false := by simp
    have q2 : decide ((k : Int) ≥ (L : Int)) = false := by simp; omega
    go_enter Tryd.func19, Tryd.ntmps19
    go_wp2
    go_returns
    exact ⟨rfl, Below.one _ _⟩
  · have hat : atT T n = none := by
      unfold atT
      rw [if_neg hr]
    rw [hat]
    obtain ⟨A, cap, rfl, _, _⟩ := h2.form
    clear h2 h1 hat
    generalize T.length = L at *
    by_cases hn : n < 0
    · have q1 : decide (n < 0) = true := by simp [hn]
      clear hn hr
      go_enter Tryd.func19, Tryd.ntmps19
      go_wp2
      go_returns
      exact ⟨rfl, Below.one _ _⟩
    · have q1 : decide (n < 0) = false := by simp; omega
      have q2 : decide (n ≥ (L : Int)) = true := by simp; omega
      clear hn hr
      go_enter Tryd.func19, Tryd.ntmps19
      go_wp2
      go_returns
      exact ⟨rfl, Below.one _ _⟩
set_option maxRecDepth 1000000 in
theorem len_any {w : World} {p : Nat} {F : Nat → Prop} {T : List Ty} {D} (h : Tb w p F T D) : Calls Tryd.prog 18 #[.pointer (some ⟨p, 0, none⟩)] w fun e w' => e = .returned (.int .i64 T.length) ∧ w = w' := by
  obtain ⟨V, M, m, g, h1, h2, _⟩ := h
  have hc0 := cell_of_heap h1 0 V rfl
  obtain ⟨A, cap, rfl, _, _⟩ := h2.form
  clear h2 h1
  generalize T.length = L at *
  go_enter Tryd.func18, Tryd.ntmps18
  go_wp2
  go_returns
  exact ⟨rfl, rfl⟩
set_option maxRecDepth 1000000 in
theorem len_nil (w : World) : Calls Tryd.prog 18 #[.pointer none] w fun e w' => e = .returned (.int .i64 0) ∧ w = w' := by
  go_enter Tryd.func18, Tryd.ntmps18
  go_wp2
  go_returns
  exact ⟨rfl, rfl⟩

def idx (T : List Ty) (x : Ty) : Int := match find1 x T 0 with | some i => (i : Int) | none => -1
set_option maxRecDepth 1000000 in
set_option maxHeartbeats 1000000 in
theorem index_any {w : World} {V : Value} {T : List Ty} (h : OwnT w V T) (hT : T.length ≤ 256) (x : Ty) : Calls Tryd.prog 35 #[V, x.agg] w fun e w' => e = .returned (.int .i64 (idx T x)) ∧ Below w.heap.size w w' := by
  have hW : ∀ o : Obj, Below w.heap.size w (w.alloc o) := fun o => Below.one w o
  obtain ⟨A, cap, hV, _, _⟩ := h.form
  have hat := h.get
  obtain ⟨L, hL⟩ : ∃ L, T.length = L := ⟨_, rfl⟩
  subst hV
  rw [hL] at hat hT ⊢
  clear h
  obtain ⟨x1, x2, x3, x4⟩ := x
  have hB := hW (.cells #[.int .i64 x1, .int .i64 x2, .int .i64 x3, .string x4] 51)
  have hnew := heap_alloc_new w (.cells #[.int .i64 x1, .int .i64 x2, .int .i64 x3, .string x4] 51)
  obtain ⟨W, hW'⟩ : ∃ W, w.alloc (.cells #[.int .i64 x1, .int .i64 x2, .int .i64 x3, .string x4] 51) = W := ⟨_, rfl⟩
  rw [hW'] at hnew hB
  have c0 := cell_of_heap hnew 0 (.int .i64 x1) rfl
  have c1 := cell_of_heap hnew 1 (.int .i64 x2) rfl
  have c2 := cell_of_heap hnew 2 (.int .i64 x3) rfl
  have c3 := cell_of_heap hnew 3 (.string x4) rfl
  have hget : ∀ (k : Nat) (y : Ty), T[k]? = some y → ∃ b cap_1, Value.slice A L cap = Value.slice (some ⟨b, 0, none⟩) L cap_1 ∧
      W.cell? ⟨b, k * 4, none⟩ = some (.int .i64 y.kind) ∧ W.cell? ⟨b, k * 4 + 1, none⟩ = some (.int .i64 y.elem) ∧ W.cell? ⟨b, k * 4 + 2, none⟩ = some (.int .i64 y.n) ∧ W.cell? ⟨b, k * 4 + 3, none⟩ = some (.string y.name) := fun k y hy => by
    obtain ⟨b, cap1, e, hlt, k0, k1, k2, k3⟩ := hat k y hy
    exact ⟨b, cap1, e, (hB.cell (p := ⟨b, _, none⟩) hlt).trans k0, (hB.cell (p := ⟨b, _, none⟩) hlt).trans k1, (hB.cell (p := ⟨b, _, none⟩) hlt).trans k2, (hB.cell (p := ⟨b, _, none⟩) hlt).trans k3⟩
  clear hnew hat hW
  go_enter Tryd.func35, Tryd.ntmps35
  go_wp2
  clear hW'
  go_loopw [8] (fun i w8 => ∃ k : Nat, k ≤ L ∧ i = .int .i64 k ∧ (∃ n, w8 = W.drewN n) ∧ ∀ (j : Nat) y, j < k → T[j]? = some y → y ≠ ⟨x1, x2, x3, x4⟩) (fun i _ => L - (intOf i).toNat)
  case atStart => exact ⟨0, by omega, rfl, ⟨0, rfl⟩, fun j y hj => by omega⟩
  case round =>
    obtain ⟨k, hk, rfl, ⟨n, rfl⟩, hno⟩ := hrel
    by_cases hlt : k < L
    · have hty : T[k]? = some (T[k]'(by omega)) := by simp
      generalize T[k]'(by omega) = y at hty
      obtain ⟨y1, y2, y3, y4⟩ := y
      obtain ⟨b, cap1, hV, k0, k1, k2, k3⟩ := hget k _ hty
      injection hV with hA _ hcap
      subst hA hcap
      have heq := fun w => eql_ty ⟨x1, x2, x3, x4⟩ ⟨y1, y2, y3, y4⟩ w
      have hdec := tyEq_dec ⟨x1, x2, x3, x4⟩ ⟨y1, y2, y3, y4⟩
      cases hb : tyEq ⟨x1, x2, x3, x4⟩ ⟨y1, y2, y3, y4⟩
      · rw [hb] at heq hdec
        have hne : (⟨y1, y2, y3, y4⟩ : Ty) ≠ ⟨x1, x2, x3, x4⟩ := fun e => of_decide_eq_false hdec.symm e.symm
        clear hb hdec
        go_wp2
        go_quiet (fail)
        go_wp2
        exact ⟨⟨k + 1, by omega, by simp, ⟨_, rfl⟩, fun j y hj hy => by
          by_cases hjk : j = k
          · subst hjk
            rw [hty] at hy
            injection hy with hy
            exact hy ▸ hne
          · exact hno j y (by omega) hy⟩, by simp [intOf]; omega⟩
      · rw [hb] at heq hdec
        have he := of_decide_eq_true hdec.symm
        have hi : idx T ⟨x1, x2, x3, x4⟩ = k := by
          unfold idx
          rw [find1_some ⟨x1, x2, x3, x4⟩ T 0 k (by rw [hty, he]) hno]
          simp
        clear hb hdec he
        go_wp2
        go_quiet (fail)
        go_wp2
        go_returns
        exact ⟨by rw [hi]; rfl, below_drewN (below_drewN hB _) _⟩
    · obtain rfl : k = L := by omega
      have hi : idx T ⟨x1, x2, x3, x4⟩ = -1 := by
        unfold idx
        rw [find1_none ⟨x1, x2, x3, x4⟩ T 0 (fun i y hy => hno i y (by rw [← hL]; exact (List.getElem?_eq_some_iff.1 hy).1) hy)]
      go_wp2
      go_returns
      exact ⟨by rw [hi]; rfl, below_drewN hB _⟩
end Go.Proofs.YtdoeinccnfggiaaDoor
