import Derived.Test.YtaofdbboalcceaaCe
import Derived.Test.YtaofdbboalcceaaFp
import Derived.Test.YtaofdbboalcceaaWn
import Derived.Laws.Tables
import Derived.Laws.CopyOwn
/- THE FLOW's small functions: Join, set, next; values compared. -/
namespace Go.Proofs.Ytaofdbboalcceaa
open Go.RowKit Go.BigFrame

abbrev Vl.agg (v : Vl) : Value := .agg #[.int .i64 v.k, .int .i64 v.n]
abbrev Vl.obj (v : Vl) : Obj := .cells #[.int .i64 v.k, .int .i64 v.n] 28
theorem vVal : Try.prog.underlying 28 = some (.struct (Try.prog.fieldsOf 28)) := by kernel_rfl
theorem sVal : (Try.prog.info? 28).map (·.size) = some 2 := by kernel_rfl
theorem val_one (x y : Int) : (#[Value.int .i64 x, .int .i64 y].all (·.oneCell')) = true := by simp [Value.oneCell']
theorem fields_val : (Try.prog.fieldsOf 28).toList.map (fun f => (f.name != "_", f.type, f.offset)) = [(true, 3, 0), (true, 3, 1)] := by kernel_rfl
theorem equalIn_val (x y : Vl) (w : World) : (Op.equalIn 10000 28 x.agg y.agg).run Try.prog w = .ok (decide (x = y)) w := by
  rw [run_equalIn_struct w 9999 28 _ _ (by kernel_rfl) (by kernel_rfl)]
  have h := run_eqFields (P := Try.prog) 9999 #[.int .i64 x.k, .int .i64 x.n] #[.int .i64 y.k, .int .i64 y.n] w
    [⟨3, 0, .int .i64 x.k, .int .i64 y.k, x.k == y.k⟩, ⟨3, 1, .int .i64 x.n, .int .i64 y.n, x.n == y.n⟩]
    _ fields_val (fun r hr => by
      simp only [List.mem_cons, List.not_mem_nil, or_false] at hr
      rcases hr with rfl | rfl
      · exact ⟨by kernel_rfl, by kernel_rfl, run_equalIn_int w 9998 3 .i64 .i64 _ _ (by kernel_rfl)⟩
      · exact ⟨by kernel_rfl, by kernel_rfl, run_equalIn_int w 9998 3 .i64 .i64 _ _ (by kernel_rfl)⟩)
  rw [h]
  have e : [FEq.mk 3 0 (.int .i64 x.k) (.int .i64 y.k) (x.k == y.k), ⟨3, 1, .int .i64 x.n, .int .i64 y.n, x.n == y.n⟩].all (·.r) = decide (x = y) := by
    cases x; cases y
    rw [Bool.eq_iff_iff]
    simp
  rw [e]
theorem eql_val (x y : Vl) (w : World) : (binOp .eql 28 x.agg y.agg).run Try.prog w = .ok (.bool (decide (x = y))) w := by
  simp only [binOp, Op.equal, Op.maxDepth, Sem.run_bind, equalIn_val, Result.andThen_ok, Sem.run_pure]
theorem neq_val (x y : Vl) (w : World) : (binOp .neq 28 x.agg y.agg).run Try.prog w = .ok (.bool (!decide (x = y))) w := by
  simp only [binOp, Op.equal, Op.maxDepth, Sem.run_bind, equalIn_val, Result.andThen_ok, Sem.run_pure]
set_option maxRecDepth 1000000 in
/-- flow.Join -/
theorem join_any (a b : Vl) (w : World) : Calls Try.prog 20 #[a.agg, b.agg] w fun e w' => e = .returned (join a b).agg ∧ Below w.heap.size w w' := by
  have hB := (box3 w a.obj b.obj (join a b).obj).2.2.2.2
  have he := fun w => eql_val a b w
  obtain ⟨ak, an⟩ := a
  obtain ⟨bk, bn⟩ := b
  simp only [Vl.agg, Vl.obj, join] at hB he ⊢
  have hc : ((ak == 0) = true ∧ ak = 0) ∨ ((ak == 0) = false ∧ ¬ ak = 0 ∧ (bk == 0) = true ∧ bk = 0) ∨ ((ak == 0) = false ∧ ¬ ak = 0 ∧ (bk == 0) = false ∧ ¬ bk = 0) := by simp; omega
  rcases hc with ⟨q1, q2⟩ | ⟨q1, q2, q3, q4⟩ | ⟨q1, q2, q3, q4⟩
  · rw [if_pos q2] at hB ⊢
    clear q2 he
    go_enter Try.func20, Try.ntmps20
    go_wp2
    (try simp only [Exit.inBlock, Exit.then])
    refine bodyPost_ret (by simp [results, Try.results20, go_sem]; try rfl) rfl ?_
    exact ⟨rfl, hB⟩
  · rw [if_neg q2, if_pos (Or.inl q4)] at hB ⊢
    clear q2 q4 he
    go_enter Try.func20, Try.ntmps20
    go_wp2
    (try simp only [Exit.inBlock, Exit.then])
    refine bodyPost_ret (by simp [results, Try.results20, go_sem]; try rfl) rfl ?_
    exact ⟨rfl, hB⟩
  · rw [if_neg q2] at hB ⊢
    by_cases hab : Vl.mk ak an = ⟨bk, bn⟩
    · rw [if_pos (Or.inr hab)] at hB ⊢
      rw [show decide (Vl.mk ak an = ⟨bk, bn⟩) = true by simp [hab]] at he
      clear q2 q4 hab
      go_enter Try.func20, Try.ntmps20
      go_wp2
      (try simp only [Exit.inBlock, Exit.then])
      refine bodyPost_ret (by simp [results, Try.results20, go_sem]; try rfl) rfl ?_
      exact ⟨rfl, hB⟩
    · rw [if_neg (by rintro (h | h); exact q4 h; exact hab h)] at hB ⊢
      rw [show decide (Vl.mk ak an = ⟨bk, bn⟩) = false by simp [hab]] at he
      clear q2 q4 hab
      go_enter Try.func20, Try.ntmps20
      go_wp2
      (try simp only [Exit.inBlock, Exit.then])
      refine bodyPost_ret (by simp [results, Try.results20, go_sem]; try rfl) rfl ?_
      exact ⟨rfl, hB⟩
/-- the slice (A, length of l) reads as the values l, wherever it begins -/
def RdV (w : World) (A : Option Addr) (l : List Vl) : Prop := ∀ (j : Nat) x, l[j]? = some x → ∃ b o, A = some ⟨b, o, none⟩ ∧ b < w.heap.size ∧ w.cell? ⟨b, o + j * 2, none⟩ = some (.int .i64 x.k) ∧ w.cell? ⟨b, o + j * 2 + 1, none⟩ = some (.int .i64 x.n)
theorem RdV.below {w w' : World} {A : Option Addr} {l : List Vl} (h : RdV w A l) (hb : Below w.heap.size w w') : RdV w' A l := fun j x hx => by
  obtain ⟨b, o, e1, e2, e3, e4⟩ := h j x hx
  exact ⟨b, o, e1, Nat.lt_of_lt_of_le e2 hb.size, (hb.cell (p := ⟨b, _, none⟩) e2).trans e3, (hb.cell (p := ⟨b, _, none⟩) e2).trans e4⟩
def SetT (i : Ins) (v : List Vl) (e : Ending) : Prop := e = .returned (.tuple #[(setV i v).1.agg, .bool (setV i v).2])
set_option maxRecDepth 1000000 in
set_option maxHeartbeats 4000000 in
/-- flow.set -/
theorem set_any (i : Ins) (v : List Vl) {R : Nat} {Fr : Int} {L : Nat} (hi : Ok i R Fr L) (hl : v.length = R) (A : Option Addr) (cap : Nat) (w : World) (hA : RdV w A v) : Calls Try.prog 50 #[i.agg, .slice A R cap] w fun e w' => SetT i v e ∧ Below w.heap.size w w' := by
  have hB := (Below.one w i.obj).alloc (by simp) (setV i v).1.obj
  have hBn := (Below.one w i.obj).alloc (by simp) nv.obj
  have ha := hi.a_in
  have hb := hi.b_in
  have hat : ∀ r : Nat, r < R → ∃ b o x, at_ v r = x ∧ A = some ⟨b, o, none⟩ ∧ b < w.heap.size ∧ w.cell? ⟨b, o + r * 2, none⟩ = some (.int .i64 x.k) ∧ w.cell? ⟨b, o + r * 2 + 1, none⟩ = some (.int .i64 x.n) := fun r hr => by
    obtain ⟨b, o, h1, h2, h3, h4⟩ := hA r (at_ v r) (by rw [at_in (by omega)]; simp)
    exact ⟨b, o, _, rfl, h1, h2, h3, h4⟩
  unfold SetT
  obtain ⟨k, op, dst, a, b, n, text, r0, r1, r2, r3, r4, r5, to_, els⟩ := i
  simp only [Ins.agg, Ins.obj, Vl.obj, Vl.agg] at hB hBn ha hb ⊢
  simp only [setV] at hB ⊢
  by_cases h1 : k = 1
  · subst h1
    clear ha hb hat hi hBn
    go_enter Try.func50, Try.ntmps50
    go_wp2
    (try simp only [Exit.inBlock, Exit.then])
    refine bodyPost_ret (by simp [results, Try.results50, go_sem]; try rfl) rfl ?_
    exact ⟨rfl, hB⟩
  rw [if_neg h1] at hB ⊢
  by_cases h4 : k = 4
  · subst h4
    obtain ⟨ha0, ha1⟩ := ha rfl
    obtain ⟨m, rfl⟩ : ∃ m : Nat, a = m := ⟨a.toNat, by omega⟩
    simp only [Int.toNat_natCast] at hB ⊢
    obtain ⟨bb, o, x, hx, rfl, hlt, c0, c1⟩ := hat m (by omega)
    rw [hx] at hB ⊢
    have q1 : m < R := by omega
    clear hb hat hi h1 hx hA hBn ha ha0 ha1
    go_enter Try.func50, Try.ntmps50
    go_wp2
    (try simp only [Exit.inBlock, Exit.then])
    refine bodyPost_ret (by simp [results, Try.results50, go_sem]; try rfl) rfl ?_
    exact ⟨rfl, hB⟩
  rw [if_neg h4] at hB ⊢
  by_cases h2 : k = 2
  · subst h2
    obtain ⟨ha0, ha1⟩ := ha rfl
    obtain ⟨m, rfl⟩ : ∃ m : Nat, a = m := ⟨a.toNat, by omega⟩
    simp only [Int.toNat_natCast] at hB ⊢
    obtain ⟨bb, o, x, hx, rfl, hlt, c0, c1⟩ := hat m (by omega)
    obtain ⟨y, hy⟩ : ∃ y : Vl, y = ⟨1, 0⟩ := ⟨_, rfl⟩
    have hbv : bval ⟨2, op, dst, (m : Int), b, n, text, r0, r1, r2, r3, r4, r5, to_, els⟩ v = y := by simp only [bval]; rw [hy]; exact if_neg (by decide)
    rw [hx, hbv, if_pos (by decide)] at hB ⊢
    have q1 : m < R := by omega
    have hB3 := hBn.alloc (by simp; omega) y.obj
    have hB2 := hB.alloc (by simp; omega) y.obj
    simp only [Vl.obj] at hB3 hB2
    obtain ⟨xk, xn⟩ := x
    obtain ⟨yk, yn⟩ := y
    injection hy with hy1 hy2
    subst hy1 hy2
    simp only at c0 c1 hB hB2 hB3 ⊢
    clear hbv hx hA hat hi ha hb ha0 ha1 h1 h4
    clear hB hB2 hB3
    have hbb0 := heap_alloc_new (w.alloc (Ins.obj ⟨2, op, dst, (m : Int), b, n, text, r0, r1, r2, r3, r4, r5, to_, els⟩)) nv.obj
    have hbx0 := heap_alloc_new w (Ins.obj ⟨2, op, dst, (m : Int), b, n, text, r0, r1, r2, r3, r4, r5, to_, els⟩)
    have hbx := alloc_keeps hbx0 nv.obj
    rw [show (w.alloc (Ins.obj ⟨2, op, dst, (m : Int), b, n, text, r0, r1, r2, r3, r4, r5, to_, els⟩)).heap.size = w.heap.size + 1 by simp] at hbb0
    have ec0 := (hBn.cell (p := ⟨bb, _, none⟩) hlt).trans c0
    have ec1 := (hBn.cell (p := ⟨bb, _, none⟩) hlt).trans c1
    have hs0 : ((w.alloc (Ins.obj ⟨2, op, dst, (m : Int), b, n, text, r0, r1, r2, r3, r4, r5, to_, els⟩)).alloc nv.obj).heap.size = w.heap.size + 2 := by simp
    obtain ⟨W0, hW⟩ : ∃ W0, (w.alloc (Ins.obj ⟨2, op, dst, (m : Int), b, n, text, r0, r1, r2, r3, r4, r5, to_, els⟩)).alloc nv.obj = W0 := ⟨_, rfl⟩
    simp only [Ins.obj, Vl.obj] at hW hbx hbb0 hBn hs0
    rw [hW] at hbx hbb0 hBn hs0 ec0 ec1
    clear c0 c1 hbx0
    have hlt2 : bb < W0.heap.size := by omega
    have hltw : w.heap.size + 1 < W0.heap.size := by omega
    have hltx : w.heap.size < W0.heap.size := by omega
    clear hs0
    have x0 := cell_of_heap hbx 0 (.int .i64 2) rfl
    have x1 := cell_of_heap hbx 1 (.int .i64 op) rfl
    have x3 := cell_of_heap hbx 3 (.int .i64 m) rfl
    have hB1 := Below.one W0 (.cells #[.int .i64 1, .int .i64 0] 28)
    have hbb := alloc_keeps hbb0 (.cells #[.int .i64 1, .int .i64 0] 28)
    have hBA := hBn.trans (hB1.mono hBn.size)
    by_cases hany : xk = 2 ∨ (1 : Int) = 2
    · rw [if_pos hany]
      have q3 : (xk == 2) = true := by simp; omega
      all_goals
        clear hany
        have hR := setRow_heap _ _ _ #[.int .i64 2, .int .i64 0] _ _ hbb
        have z0 := cell_of_heap hR 0 (.int .i64 2) rfl
        have z1 := cell_of_heap hR 1 (.int .i64 0) rfl
        clear hR
        go_enter Try.func50, Try.ntmps50
        go_wp2_with (first
          | (show wpList Try.prog _ _ (⟨none, .store _ (.tmp 4) _, _, _, _, _⟩ :: _) _ _; refine wpList_store_row rfl 28 (.tmp 4) (.tmp 47) rfl (w.heap.size + 1) #[.int .i64 2, .int .i64 0] rfl rfl 28 _ hbb sVal rfl (val_one _ _) ?_))
        (try simp only [Exit.inBlock, Exit.then])
        refine bodyPost_ret (by simp [results, Try.results50, go_sem, z0, z1]; try rfl) rfl ?_
        exact ⟨rfl, below_setRow hBA (by omega) _⟩
    · rw [if_neg hany]
      have q3 : (xk == 2) = false := by simp; omega
      clear hany
      have hdo := fun w => do_any op xn 0 w
      generalize dov op xn 0 = dd at *
      obtain ⟨dn, db⟩ := dd
      simp only at hdo ⊢
      have hby := heap_alloc_new W0 (.cells #[.int .i64 1, .int .i64 0] 28)
      have y1 := cell_of_heap hby 1 (.int .i64 0) rfl
      clear hby
      go_enter Try.func50, Try.ntmps50
      go_wp2
      clear hW
      have x1 := (hB1.cell (p := ⟨w.heap.size, _, none⟩) hltx).trans x1
      have x3 := (hB1.cell (p := ⟨w.heap.size, _, none⟩) hltx).trans x3
      have ec0 := (hB1.cell (p := ⟨bb, _, none⟩) hlt2).trans ec0
      have ec1 := (hB1.cell (p := ⟨bb, _, none⟩) hlt2).trans ec1
      generalize W0.alloc (.cells #[.int .i64 1, .int .i64 0] 28) = W at *
      have lx1 := fun s : Later W => Later.cell x1 s
      have lx3 := fun s : Later W => Later.cell x3 s
      have ly1 := fun s : Later W => Later.cell y1 s
      have lec0 := fun s : Later W => Later.cell ec0 s
      have lec1 := fun s : Later W => Later.cell ec1 s
      have lc := fun s : Later W => hdo s.w
      refine wp_region_later (by kernel_rfl) (by kernel_rfl) ?_
      repeat (go_big_quiet_step ((go_at_call 77; exact Calls.later (lc _))))
      refine wpQuiet_nil ?_
      rintro w3 ⟨s', rfl⟩
      have hb3 := hBA.trans (s'.h.mono hBA.size)
      have hbb3 := (s'.h.block _ (Array.getElem?_eq_some_iff.1 hbb).1).trans hbb
      generalize s'.w = w3 at *
      have hR := setRow_heap _ _ _ #[.int .i64 1, .int .i64 dn] _ _ hbb3
      have z0 := cell_of_heap hR 0 (.int .i64 1) rfl
      have z1 := cell_of_heap hR 1 (.int .i64 dn) rfl
      clear hR
      go_wp2_with (first
        | (show wpList Try.prog _ _ (⟨none, .store _ (.tmp 4) _, _, _, _, _⟩ :: _) _ _; refine wpList_store_row rfl 28 (.tmp 4) (.tmp 63) rfl (w.heap.size + 1) #[.int .i64 1, .int .i64 dn] rfl rfl 28 _ hbb3 sVal rfl (val_one _ _) ?_))
      (try simp only [Exit.inBlock, Exit.then])
      refine bodyPost_ret (by simp [results, Try.results50, go_sem, z0, z1]; try rfl) rfl ?_
      exact ⟨rfl, below_setRow hb3 (by omega) _⟩
  by_cases h3 : k = 3
  · subst h3
    obtain ⟨ha0, ha1⟩ := ha rfl
    obtain ⟨m, rfl⟩ : ∃ m : Nat, a = m := ⟨a.toNat, by omega⟩
    obtain ⟨hb0, hb1⟩ := hb rfl
    obtain ⟨m', rfl⟩ : ∃ m' : Nat, b = m' := ⟨b.toNat, by omega⟩
    simp only [Int.toNat_natCast] at hB ⊢
    obtain ⟨bb, o, x, hx, rfl, hlt, c0, c1⟩ := hat m (by omega)
    obtain ⟨bb', o', y, hy, e1, _, d0, d1⟩ := hat m' (by omega)
    injection e1 with e1
    injection e1 with e2 e3
    subst e2 e3
    have hbv : bval ⟨3, op, dst, (m : Int), (m' : Int), n, text, r0, r1, r2, r3, r4, r5, to_, els⟩ v = y := by simp only [bval, Int.toNat_natCast]; rw [if_pos trivial]; exact hy
    rw [hx, hbv, if_pos (by decide)] at hB ⊢
    have q1 : m < R := by omega
    have q2 : m' < R := by omega
    have hB3 := hBn.alloc (by simp; omega) y.obj
    have hB2 := hB.alloc (by simp; omega) y.obj
    simp only [Vl.obj] at hB3 hB2
    obtain ⟨xk, xn⟩ := x
    obtain ⟨yk, yn⟩ := y
    simp only at c0 c1 hB hB2 hB3 ⊢ d0 d1
    clear hbv hx hA hat hi ha hb ha0 ha1 h1 h4 hy hb0 hb1 h2
    clear hB hB2 hB3
    have hbb0 := heap_alloc_new (w.alloc (Ins.obj ⟨3, op, dst, (m : Int), (m' : Int), n, text, r0, r1, r2, r3, r4, r5, to_, els⟩)) nv.obj
    have hbx0 := heap_alloc_new w (Ins.obj ⟨3, op, dst, (m : Int), (m' : Int), n, text, r0, r1, r2, r3, r4, r5, to_, els⟩)
    have hbx := alloc_keeps hbx0 nv.obj
    rw [show (w.alloc (Ins.obj ⟨3, op, dst, (m : Int), (m' : Int), n, text, r0, r1, r2, r3, r4, r5, to_, els⟩)).heap.size = w.heap.size + 1 by simp] at hbb0
    have ec0 := (hBn.cell (p := ⟨bb, _, none⟩) hlt).trans c0
    have ec1 := (hBn.cell (p := ⟨bb, _, none⟩) hlt).trans c1
    have ed0 := (hBn.cell (p := ⟨bb, _, none⟩) hlt).trans d0
    have ed1 := (hBn.cell (p := ⟨bb, _, none⟩) hlt).trans d1
    have hs0 : ((w.alloc (Ins.obj ⟨3, op, dst, (m : Int), (m' : Int), n, text, r0, r1, r2, r3, r4, r5, to_, els⟩)).alloc nv.obj).heap.size = w.heap.size + 2 := by simp
    obtain ⟨W0, hW⟩ : ∃ W0, (w.alloc (Ins.obj ⟨3, op, dst, (m : Int), (m' : Int), n, text, r0, r1, r2, r3, r4, r5, to_, els⟩)).alloc nv.obj = W0 := ⟨_, rfl⟩
    simp only [Ins.obj, Vl.obj] at hW hbx hbb0 hBn hs0
    rw [hW] at hbx hbb0 hBn hs0 ec0 ec1 ed0 ed1
    clear c0 c1 hbx0 d0 d1
    have hlt2 : bb < W0.heap.size := by omega
    have hltw : w.heap.size + 1 < W0.heap.size := by omega
    have hltx : w.heap.size < W0.heap.size := by omega
    clear hs0
    have x0 := cell_of_heap hbx 0 (.int .i64 3) rfl
    have x1 := cell_of_heap hbx 1 (.int .i64 op) rfl
    have x3 := cell_of_heap hbx 3 (.int .i64 m) rfl
    have x4 := cell_of_heap hbx 4 (.int .i64 m') rfl
    have hB1 := Below.one W0 (.cells #[.int .i64 yk, .int .i64 yn] 28)
    have hbb := alloc_keeps hbb0 (.cells #[.int .i64 yk, .int .i64 yn] 28)
    have hBA := hBn.trans (hB1.mono hBn.size)
    by_cases hany : xk = 2 ∨ yk = 2
    · rw [if_pos hany]
      have hc : ((xk == 2) = true) ∨ ((xk == 2) = false ∧ (yk == 2) = true) := by simp; omega
      rcases hc with q3 | ⟨q3, q4⟩
      all_goals
        clear hany
        have hR := setRow_heap _ _ _ #[.int .i64 2, .int .i64 0] _ _ hbb
        have z0 := cell_of_heap hR 0 (.int .i64 2) rfl
        have z1 := cell_of_heap hR 1 (.int .i64 0) rfl
        clear hR
        go_enter Try.func50, Try.ntmps50
        go_wp2_with (first
          | (show wpList Try.prog _ _ (⟨none, .store _ (.tmp 4) _, _, _, _, _⟩ :: _) _ _; refine wpList_store_row rfl 28 (.tmp 4) (.tmp 47) rfl (w.heap.size + 1) #[.int .i64 2, .int .i64 0] rfl rfl 28 _ hbb sVal rfl (val_one _ _) ?_))
        (try simp only [Exit.inBlock, Exit.then])
        refine bodyPost_ret (by simp [results, Try.results50, go_sem, z0, z1]; try rfl) rfl ?_
        exact ⟨rfl, below_setRow hBA (by omega) _⟩
    · rw [if_neg hany]
      have q3 : (xk == 2) = false := by simp; omega
      have q4 : (yk == 2) = false := by simp; omega
      clear hany
      have hdo := fun w => do_any op xn yn w
      generalize dov op xn yn = dd at *
      obtain ⟨dn, db⟩ := dd
      simp only at hdo ⊢
      have hby := heap_alloc_new W0 (.cells #[.int .i64 yk, .int .i64 yn] 28)
      have y1 := cell_of_heap hby 1 (.int .i64 yn) rfl
      clear hby
      go_enter Try.func50, Try.ntmps50
      go_wp2
      clear hW
      have x1 := (hB1.cell (p := ⟨w.heap.size, _, none⟩) hltx).trans x1
      have x3 := (hB1.cell (p := ⟨w.heap.size, _, none⟩) hltx).trans x3
      have ec0 := (hB1.cell (p := ⟨bb, _, none⟩) hlt2).trans ec0
      have ec1 := (hB1.cell (p := ⟨bb, _, none⟩) hlt2).trans ec1
      generalize W0.alloc (.cells #[.int .i64 yk, .int .i64 yn] 28) = W at *
      have lx1 := fun s : Later W => Later.cell x1 s
      have lx3 := fun s : Later W => Later.cell x3 s
      have ly1 := fun s : Later W => Later.cell y1 s
      have lec0 := fun s : Later W => Later.cell ec0 s
      have lec1 := fun s : Later W => Later.cell ec1 s
      have lc := fun s : Later W => hdo s.w
      refine wp_region_later (by kernel_rfl) (by kernel_rfl) ?_
      repeat (go_big_quiet_step ((go_at_call 77; exact Calls.later (lc _))))
      refine wpQuiet_nil ?_
      rintro w3 ⟨s', rfl⟩
      have hb3 := hBA.trans (s'.h.mono hBA.size)
      have hbb3 := (s'.h.block _ (Array.getElem?_eq_some_iff.1 hbb).1).trans hbb
      generalize s'.w = w3 at *
      have hR := setRow_heap _ _ _ #[.int .i64 1, .int .i64 dn] _ _ hbb3
      have z0 := cell_of_heap hR 0 (.int .i64 1) rfl
      have z1 := cell_of_heap hR 1 (.int .i64 dn) rfl
      clear hR
      go_wp2_with (first
        | (show wpList Try.prog _ _ (⟨none, .store _ (.tmp 4) _, _, _, _, _⟩ :: _) _ _; refine wpList_store_row rfl 28 (.tmp 4) (.tmp 63) rfl (w.heap.size + 1) #[.int .i64 1, .int .i64 dn] rfl rfl 28 _ hbb3 sVal rfl (val_one _ _) ?_))
      (try simp only [Exit.inBlock, Exit.then])
      refine bodyPost_ret (by simp [results, Try.results50, go_sem, z0, z1]; try rfl) rfl ?_
      exact ⟨rfl, below_setRow hb3 (by omega) _⟩
  rw [if_neg (by omega)] at hB ⊢
  have n1 : (k == 1) = false := by simp; omega
  have n4 : (k == 4) = false := by simp; omega
  have n2 : (k == 2) = false := by simp; omega
  have n3 : (k == 3) = false := by simp; omega
  clear ha hb hat hi hBn h1 h2 h3 h4
  go_enter Try.func50, Try.ntmps50
  go_wp2
  (try simp only [Exit.inBlock, Exit.then])
  refine bodyPost_ret (by simp [results, Try.results50, go_sem]; try rfl) rfl ?_
  exact ⟨rfl, hB⟩
end Go.Proofs.Ytaofdbboalcceaa
