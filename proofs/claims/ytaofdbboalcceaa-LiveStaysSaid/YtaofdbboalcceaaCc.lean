import Derived.Test.YtaofdbboalcceaaCb
/- INSTRUCTIONS COMPARED. -/
namespace Go.Proofs.Ytaofdbboalcceaa
open Go.RowKit Go.BigFrame

/-- a field's comparison: its type, offset, values and outcome -/
structure FEq where
  t : Nat
  o : Nat
  x : Value
  y : Value
  r : Bool
theorem run_eqFields {P : Program} (d : Nat) (xs ys : Array Value) (w : World) : ∀ (rs : List FEq) (fs : List Field), fs.map (fun f => (f.name != "_", f.type, f.offset)) = rs.map (fun r => (true, r.t, r.o)) →
    (∀ r ∈ rs, (part r.t xs r.o).run P w = .ok r.x w ∧ (part r.t ys r.o).run P w = .ok r.y w ∧ (Op.equalIn d r.t r.x r.y).run P w = .ok r.r w) → (Op.eqFields d xs ys fs).run P w = .ok (rs.all (·.r)) w
  | [], [], _, _ => by simp [Op.eqFields]
  | [], _ :: _, h, _ => by simp at h
  | _ :: _, [], h, _ => by simp at h
  | r :: rs, f :: fs, h, hr => by
    simp only [List.map_cons, List.cons.injEq, Prod.mk.injEq, bne_iff_ne] at h
    obtain ⟨⟨n1, h2, h3⟩, h4⟩ := h
    obtain ⟨e1, e2, e3⟩ := hr r (by simp)
    have ih := run_eqFields (P := P) d xs ys w rs fs h4 (fun s hs => hr s (by simp [hs]))
    cases hb : r.r
    · rw [hb] at e3; simp [Op.eqFields, n1, h2, h3, e1, e2, e3, hb]
    · rw [hb] at e3; simp [Op.eqFields, n1, h2, h3, e1, e2, e3, hb, ih]
theorem run_forIn_all {P : Program} (w : World) (f : Nat → Sem Bool) (b : Nat → Bool) : ∀ (l : List Nat), (∀ i ∈ l, (f i).run P w = .ok (b i) w) →
    (Sem.run P (forIn l ((none, ()) : Option Bool × Unit) fun i __s => do
      let r ← f i
      if (!r) = true then pure (ForInStep.done (some false, ())) else pure (ForInStep.yield (none, ()))) w) = .ok (if l.all b then (none, ()) else (some false, ())) w
  | [], _ => by simp
  | i :: l, h => by
    have h1 := h i (by simp)
    have ih := run_forIn_all w f b l (fun j hj => h j (by simp [hj]))
    simp only [List.forIn_cons, Sem.run_bind, h1, Result.andThen_ok]
    cases hb : b i
    · simp [hb]
    · simpa [hb] using ih
theorem run_equal_arr {P : Program} (w : World) (d : Nat) (t elem : TypeId) (len n : Nat) (xs ys : Array Value) (ht : P.underlying t = some (.array len elem))
    (hn : (sizeOf elem).run P w = .ok n w) (b : Nat → Bool) (h : ∀ i, i < len → ((do Op.equalIn d elem (← part elem xs (i * n)) (← part elem ys (i * n)) : Sem Bool)).run P w = .ok (b i) w) :
    (Op.equalIn (d + 1) t (.agg xs) (.agg ys)).run P w = .ok ((List.range len).all b) w := by
  simp only [Op.equalIn, Sem.run_bind, run_underlying ht, Result.andThen_ok, hn]
  rw [Std.Legacy.Range.forIn_eq_forIn_range']
  have := run_forIn_all (P := P) w (fun i => (do Op.equalIn d elem (← part elem xs (i * n)) (← part elem ys (i * n)) : Sem Bool)) b (List.range len) (fun i hi => h i (List.mem_range.1 hi))
  simp only [bind_assoc] at this
  simp only [Std.Legacy.Range.size, Nat.sub_zero, Nat.add_sub_cancel, Nat.div_one]
  rw [← List.range_eq_range', this]
  cases (List.range len).all b <;> simp
abbrev arr6 (i : Ins) : Value := .agg #[.int .i64 i.r0, .int .i64 i.r1, .int .i64 i.r2, .int .i64 i.r3, .int .i64 i.r4, .int .i64 i.r5]
def arg6 (i : Ins) (k : Nat) : Int := match k with | 0 => i.r0 | 1 => i.r1 | 2 => i.r2 | 3 => i.r3 | 4 => i.r4 | _ => i.r5
theorem part_arr6 (i : Ins) (k : Nat) (h : k < 6) (w : World) : (part 3 #[.int .i64 i.r0, .int .i64 i.r1, .int .i64 i.r2, .int .i64 i.r3, .int .i64 i.r4, .int .i64 i.r5] (k * 1)).run Try.prog w = .ok (.int .i64 (arg6 i k)) w :=
  match k, h with
  | 0, _ => by kernel_rfl
  | 1, _ => by kernel_rfl
  | 2, _ => by kernel_rfl
  | 3, _ => by kernel_rfl
  | 4, _ => by kernel_rfl
  | 5, _ => by kernel_rfl
def arrEq (x y : Ins) : Bool := (List.range 6).all fun k => arg6 x k == arg6 y k
theorem equalIn_arr6 (x y : Ins) (d : Nat) (w : World) : (Op.equalIn (d + 2) 36 (arr6 x) (arr6 y)).run Try.prog w = .ok (arrEq x y) w := by
  refine run_equal_arr w (d + 1) 36 3 6 1 _ _ (by kernel_rfl) (by kernel_rfl) _ (fun i hi => ?_)
  simp only [Sem.run_bind, part_arr6 x i hi, part_arr6 y i hi, Result.andThen_ok]
  exact run_equalIn_int w d 3 .i64 .i64 (arg6 x i) (arg6 y i) (by kernel_rfl)
theorem fields_ins : (Try.prog.fieldsOf 38).toList.map (fun f => (f.name != "_", f.type, f.offset)) = [(true, 3, 0), (true, 35, 1), (true, 3, 2), (true, 3, 3), (true, 3, 4), (true, 3, 5), (true, 9, 6), (true, 36, 7), (true, 3, 13), (true, 3, 14)] := by kernel_rfl
def insEq (x y : Ins) : Bool := [x.kind == y.kind, x.op == y.op, x.dst == y.dst, x.a == y.a, x.b == y.b, x.n == y.n, x.text.toList == y.text.toList, arrEq x y, x.to_ == y.to_, x.els == y.els].all id
theorem insEq_dec (x y : Ins) : insEq x y = decide (x = y) := by
  unfold insEq arrEq
  rw [bytes_beq]
  cases x; cases y
  simp only [Ins.mk.injEq, List.all_cons, List.all_nil, id, show List.range 6 = [0, 1, 2, 3, 4, 5] from rfl, arg6]
  rw [Bool.eq_iff_iff]
  simp only [Bool.and_eq_true, beq_iff_eq, decide_eq_true_eq, and_true]
  constructor
  · rintro ⟨h1, h2, h3, h4, h5, h6, h7, ⟨h8, h9, h10, h11, h12, h13⟩, h14, h15⟩
    exact ⟨h1, h2, h3, h4, h5, h6, h7, h8, h9, h10, h11, h12, h13, h14, h15⟩
  · rintro ⟨h1, h2, h3, h4, h5, h6, h7, h8, h9, h10, h11, h12, h13, h14, h15⟩
    exact ⟨h1, h2, h3, h4, h5, h6, h7, ⟨h8, h9, h10, h11, h12, h13⟩, h14, h15⟩
theorem equalIn_ins (x y : Ins) (w : World) : (Op.equalIn 10000 38 x.agg y.agg).run Try.prog w = .ok (insEq x y) w := by
  rw [run_equalIn_struct w 9999 38 _ _ (by kernel_rfl) (by kernel_rfl)]
  have h := run_eqFields (P := Try.prog) 9999 #[.int .i64 x.kind, .int .i64 x.op, .int .i64 x.dst, .int .i64 x.a, .int .i64 x.b, .int .i64 x.n, .string x.text, .int .i64 x.r0, .int .i64 x.r1, .int .i64 x.r2, .int .i64 x.r3, .int .i64 x.r4, .int .i64 x.r5, .int .i64 x.to_, .int .i64 x.els]
    #[.int .i64 y.kind, .int .i64 y.op, .int .i64 y.dst, .int .i64 y.a, .int .i64 y.b, .int .i64 y.n, .string y.text, .int .i64 y.r0, .int .i64 y.r1, .int .i64 y.r2, .int .i64 y.r3, .int .i64 y.r4, .int .i64 y.r5, .int .i64 y.to_, .int .i64 y.els] w
    [⟨3, 0, .int .i64 x.kind, .int .i64 y.kind, x.kind == y.kind⟩, ⟨35, 1, .int .i64 x.op, .int .i64 y.op, x.op == y.op⟩, ⟨3, 2, .int .i64 x.dst, .int .i64 y.dst, x.dst == y.dst⟩, ⟨3, 3, .int .i64 x.a, .int .i64 y.a, x.a == y.a⟩, ⟨3, 4, .int .i64 x.b, .int .i64 y.b, x.b == y.b⟩,
     ⟨3, 5, .int .i64 x.n, .int .i64 y.n, x.n == y.n⟩, ⟨9, 6, .string x.text, .string y.text, x.text.toList == y.text.toList⟩, ⟨36, 7, arr6 x, arr6 y, arrEq x y⟩, ⟨3, 13, .int .i64 x.to_, .int .i64 y.to_, x.to_ == y.to_⟩, ⟨3, 14, .int .i64 x.els, .int .i64 y.els, x.els == y.els⟩]
    _ fields_ins (fun r hr => by
      simp only [List.mem_cons, List.not_mem_nil, or_false] at hr
      rcases hr with rfl | rfl | rfl | rfl | rfl | rfl | rfl | rfl | rfl | rfl
      · exact ⟨by kernel_rfl, by kernel_rfl, run_equalIn_int w 9998 3 .i64 .i64 _ _ (by kernel_rfl)⟩
      · exact ⟨by kernel_rfl, by kernel_rfl, run_equalIn_int w 9998 35 .i64 .i64 _ _ (by kernel_rfl)⟩
      · exact ⟨by kernel_rfl, by kernel_rfl, run_equalIn_int w 9998 3 .i64 .i64 _ _ (by kernel_rfl)⟩
      · exact ⟨by kernel_rfl, by kernel_rfl, run_equalIn_int w 9998 3 .i64 .i64 _ _ (by kernel_rfl)⟩
      · exact ⟨by kernel_rfl, by kernel_rfl, run_equalIn_int w 9998 3 .i64 .i64 _ _ (by kernel_rfl)⟩
      · exact ⟨by kernel_rfl, by kernel_rfl, run_equalIn_int w 9998 3 .i64 .i64 _ _ (by kernel_rfl)⟩
      · exact ⟨by kernel_rfl, by kernel_rfl, run_equalIn_string w 9998 9 _ _ (by kernel_rfl)⟩
      · exact ⟨by kernel_rfl, by kernel_rfl, equalIn_arr6 x y 9997 w⟩
      · exact ⟨by kernel_rfl, by kernel_rfl, run_equalIn_int w 9998 3 .i64 .i64 _ _ (by kernel_rfl)⟩
      · exact ⟨by kernel_rfl, by kernel_rfl, run_equalIn_int w 9998 3 .i64 .i64 _ _ (by kernel_rfl)⟩)
  rw [h]
  simp [insEq]
theorem eql_ins (x y : Ins) (w : World) : (binOp .eql 38 x.agg y.agg).run Try.prog w = .ok (.bool (decide (x = y))) w := by
  have h := equalIn_ins x y w
  rw [insEq_dec] at h
  simp only [binOp, Op.equal, Op.maxDepth, Sem.run_bind, h, Result.andThen_ok, Sem.run_pure]
theorem neq_ins (x y : Ins) (w : World) : (binOp .neq 38 x.agg y.agg).run Try.prog w = .ok (.bool (!decide (x = y))) w := by
  have h := equalIn_ins x y w
  rw [insEq_dec] at h
  simp only [binOp, Op.equal, Op.maxDepth, Sem.run_bind, h, Result.andThen_ok, Sem.run_pure]
end Go.Proofs.Ytaofdbboalcceaa
