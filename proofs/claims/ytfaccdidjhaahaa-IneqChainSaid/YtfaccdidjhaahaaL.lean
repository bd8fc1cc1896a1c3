import Derived.Test.YtfaccdidjhaahaaA
namespace Go.Proofs.Ytfaccdidjhaahaa
open Go.RowKit

theorem run_forIn_all {P : Program} (w : World) (f : Nat → Sem Bool) (b : Nat → Bool) : ∀ (l : List Nat), (∀ i ∈ l, (f i).run P w = .ok (b i) w) →
    (Sem.run P (forIn l ((none, ()) : Option Bool × Unit) fun i __s => do
      let r ← f i
      if (!r) = true then pure (ForInStep.done (some false, ())) else pure (ForInStep.yield (none, ()))) w) = .ok (if l.all b then (none, ()) else (some false, ())) w
  | [], _ => by simp
  | i :: l, h => by
    have h1 := h i (by simp)
    have ih := run_forIn_all w f b l (fun j hj => h j (by simp [hj]))
    simp only [List.forIn_cons, Sem.run_bind, h1, Result.andThen_ok]
    cases hb : b i
    · simp [hb]
    · simpa [hb] using ih

theorem run_equalIn_array {P : Program} (w : World) (d : Nat) (t elem : TypeId) (len n : Nat) (xs ys : Array Value) (ht : P.underlying t = some (.array len elem))
    (hn : (sizeOf elem).run P w = .ok n w) (b : Nat → Bool) (h : ∀ i, i < len → ((do Op.equalIn d elem (← part elem xs (i * n)) (← part elem ys (i * n)) : Sem Bool)).run P w = .ok (b i) w) :
    (Op.equalIn (d + 1) t (.agg xs) (.agg ys)).run P w = .ok ((List.range len).all b) w := by
  simp only [Op.equalIn, Sem.run_bind, run_underlying ht, Result.andThen_ok, hn]
  rw [Std.Legacy.Range.forIn_eq_forIn_range']
  have := run_forIn_all (P := P) w (fun i => (do Op.equalIn d elem (← part elem xs (i * n)) (← part elem ys (i * n)) : Sem Bool)) b (List.range len) (fun i hi => h i (List.mem_range.1 hi))
  simp only [bind_assoc] at this
  simp only [Std.Legacy.Range.size, Nat.sub_zero, Nat.add_sub_cancel, Nat.div_one]
  rw [← List.range_eq_range', this]
  cases (List.range len).all b <;> simp

abbrev Row.arr (r : Row) : Value := .agg #[.int .i64 r.f0, .int .i64 r.f1, .int .i64 r.f2, .int .i64 r.f3, .int .i64 r.f4, .int .i64 r.f5, .int .i64 r.f6, .int .i64 r.f7]

theorem all8 (b : Nat → Bool) : (List.range 8).all b = (b 0 && (b 1 && (b 2 && (b 3 && (b 4 && (b 5 && (b 6 && b 7))))))) := by
  simp [show List.range 8 = [0,1,2,3,4,5,6,7] from rfl]
theorem F_beq (r s : Row) : (List.range 8).all (fun i => r.at i == s.at i) = (r.F == s.F) := by
  rw [all8]
  simp [Row.at, Row.F]

theorem part_arr (r : Row) (i : Nat) (h : i < 8) (w : World) : (part 3 #[.int .i64 r.f0, .int .i64 r.f1, .int .i64 r.f2, .int .i64 r.f3, .int .i64 r.f4, .int .i64 r.f5, .int .i64 r.f6, .int .i64 r.f7] (i * 1)).run Try.prog w = .ok (.int .i64 (r.at i)) w :=
  match i, h with
  | 0, _ => by kernel_rfl
  | 1, _ => by kernel_rfl
  | 2, _ => by kernel_rfl
  | 3, _ => by kernel_rfl
  | 4, _ => by kernel_rfl
  | 5, _ => by kernel_rfl
  | 6, _ => by kernel_rfl
  | 7, _ => by kernel_rfl

theorem equalIn_arr (r s : Row) (d : Nat) (w : World) : (Op.equalIn (d + 2) 22 r.arr s.arr).run Try.prog w = .ok (r.F == s.F) w := by
  rw [← F_beq]
  refine run_equalIn_array w (d + 1) 22 3 8 1 _ _ (by kernel_rfl) (by kernel_rfl) _ (fun i hi => ?_)
  simp only [Sem.run_bind, part_arr r i hi, part_arr s i hi, Result.andThen_ok]
  exact run_equalIn_int w d 3 .i64 .i64 (r.at i) (s.at i) (by kernel_rfl)

theorem eql_arr (r s : Row) (w : World) : (binOp .eql 22 r.arr s.arr).run Try.prog w = .ok (.bool (r.F == s.F)) w := by
  have h := equalIn_arr r s 9998 w
  simp only [binOp, Op.equal, Op.maxDepth, Sem.run_bind, h, Result.andThen_ok, Sem.run_pure]

theorem eql_zero (r : Row) (w : World) : (binOp .eql 22 r.arr (.agg #[.int .i64 0, .int .i64 0, .int .i64 0, .int .i64 0, .int .i64 0, .int .i64 0, .int .i64 0, .int .i64 0])).run Try.prog w = .ok (.bool (r.F == [0, 0, 0, 0, 0, 0, 0, 0])) w :=
  eql_arr r ⟨0, 0, 0, 0, 0, 0, 0, 0, 0⟩ w

theorem fields24 : (Try.prog.fieldsOf 24).toList.map (fun f => (f.name != "_", f.type, f.offset)) = [(true, 22, 0), (true, 3, 8)] := by kernel_rfl
theorem eqFields_two {P : Program} (d : Nat) (xs ys : Array Value) (fs : List Field) (t1 t2 o1 o2 : Nat) (w : World) (a1 b1 a2 b2 : Value) (r1 r2 : Bool)
    (hf : fs.map (fun f => (f.name != "_", f.type, f.offset)) = [(true, t1, o1), (true, t2, o2)])
    (ha1 : (part t1 xs o1).run P w = .ok a1 w) (hb1 : (part t1 ys o1).run P w = .ok b1 w) (h1 : (Op.equalIn d t1 a1 b1).run P w = .ok r1 w)
    (ha2 : (part t2 xs o2).run P w = .ok a2 w) (hb2 : (part t2 ys o2).run P w = .ok b2 w) (h2 : (Op.equalIn d t2 a2 b2).run P w = .ok r2 w) :
    (Op.eqFields d xs ys fs).run P w = .ok (r1 && r2) w := by
  have hl : fs.length = 2 := by simpa using congrArg List.length hf
  match fs, hl, hf with
  | [f, g], _, hf =>
    simp only [List.map_cons, List.map_nil, List.cons.injEq, Prod.mk.injEq, bne_iff_ne] at hf
    obtain ⟨⟨n1, rfl, rfl⟩, ⟨n2, rfl, rfl⟩, _⟩ := hf
    cases r1 <;> cases r2 <;> simp [Op.eqFields, n1, n2, ha1, hb1, h1, ha2, hb2, h2]

theorem equalIn_row (r s : Row) (d : Nat) (w : World) : (Op.equalIn (d + 3) 24 r.enc s.enc).run Try.prog w = .ok (r.F == s.F && r.c == s.c) w := by
  rw [run_equalIn_struct w (d + 2) 24 _ _ (by kernel_rfl) (by kernel_rfl)]
  exact eqFields_two (d + 2) _ _ _ 22 3 0 8 w r.arr s.arr (.int .i64 r.c) (.int .i64 s.c) _ _ fields24 (by kernel_rfl) (by kernel_rfl) (equalIn_arr r s d w) (by kernel_rfl) (by kernel_rfl)
    (run_equalIn_int w (d + 1) 3 .i64 .i64 r.c s.c (by kernel_rfl))

theorem eql_row (r s : Row) (w : World) : (binOp .eql 24 r.enc s.enc).run Try.prog w = .ok (.bool (r.F == s.F && r.c == s.c)) w := by
  have h := equalIn_row r s 9997 w
  simp only [binOp, Op.equal, Op.maxDepth, Sem.run_bind, h, Result.andThen_ok, Sem.run_pure]
end Go.Proofs.Ytfaccdidjhaahaa
