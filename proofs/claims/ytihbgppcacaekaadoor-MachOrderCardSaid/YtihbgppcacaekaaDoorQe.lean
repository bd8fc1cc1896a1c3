import Derived.Test.YtihbgppcacaekaaDoorQd
/- LINES COMPARED; plain: what a line's parts are. -/
namespace Go.Proofs.YtihbgppcacaekaaDoor
open Go.RowKit Go.BigFrame

/-- a field's comparison: its type, offset, values and outcome -/
structure FEq where
  t : Nat
  o : Nat
  x : Value
  y : Value
  r : Bool
theorem run_eqFields {P : Program} (d : Nat) (xs ys : Array Value) (w : World) : ∀ (rs : List FEq) (fs : List Field), fs.map (fun f => (f.name != "_", f.type, f.offset)) = rs.map (fun r => (true, r.t, r.o)) →
    (∀ r ∈ rs, (part r.t xs r.o).run P w = .ok r.x w ∧ (part r.t ys r.o).run P w = .ok r.y w ∧ (Op.equalIn d r.t r.x r.y).run P w = .ok r.r w) → (Op.eqFields d xs ys fs).run P w = .ok (rs.all (·.r)) w
  | [], [], _, _ => by simp [Op.eqFields]
  | [], _ :: _, h, _ => by simp at h
  | _ :: _, [], h, _ => by simp at h
  | r :: rs, f :: fs, h, hr => by
    simp only [List.map_cons, List.cons.injEq, Prod.mk.injEq, bne_iff_ne] at h
    obtain ⟨⟨n1, h2, h3⟩, h4⟩ := h
    obtain ⟨e1, e2, e3⟩ := hr r (by simp)
    have ih := run_eqFields (P := P) d xs ys w rs fs h4 (fun s hs => hr s (by simp [hs]))
    cases hb : r.r
    · rw [hb] at e3; simp [Op.eqFields, n1, h2, h3, e1, e2, e3, hb]
    · rw [hb] at e3; simp [Op.eqFields, n1, h2, h3, e1, e2, e3, hb, ih]
theorem fields_ln : (Tryd.prog.fieldsOf 36).toList.map (fun f => (f.name != "_", f.type, f.offset)) = [(true, 3, 0), (true, 3, 1), (true, 3, 2), (true, 3, 3), (true, 3, 4), (true, 9, 5)] := by kernel_rfl
def lnEq (x y : Ln) : Bool := [x.op == y.op, x.r == y.r, x.a == y.a, x.b == y.b, x.n == y.n, x.text.toList == y.text.toList].all id
theorem lnEq_dec (x y : Ln) : lnEq x y = decide (x = y) := by
  unfold lnEq
  rw [bytes_beq]
  cases x; cases y
  simp only [Ln.mk.injEq, List.all_cons, List.all_nil, id]
  rw [Bool.eq_iff_iff]
  simp only [Bool.and_eq_true, beq_iff_eq, decide_eq_true_eq, and_true]
theorem equalIn_ln (x y : Ln) (w : World) : (Op.equalIn 10000 36 x.agg y.agg).run Tryd.prog w = .ok (lnEq x y) w := by
  rw [run_equalIn_struct w 9999 36 _ _ (by kernel_rfl) (by kernel_rfl)]
  have h := run_eqFields (P := Tryd.prog) 9999 #[.int .i64 x.op, .int .i64 x.r, .int .i64 x.a, .int .i64 x.b, .int .i64 x.n, .string x.text] #[.int .i64 y.op, .int .i64 y.r, .int .i64 y.a, .int .i64 y.b, .int .i64 y.n, .string y.text] w
    [⟨3, 0, .int .i64 x.op, .int .i64 y.op, x.op == y.op⟩, ⟨3, 1, .int .i64 x.r, .int .i64 y.r, x.r == y.r⟩, ⟨3, 2, .int .i64 x.a, .int .i64 y.a, x.a == y.a⟩, ⟨3, 3, .int .i64 x.b, .int .i64 y.b, x.b == y.b⟩, ⟨3, 4, .int .i64 x.n, .int .i64 y.n, x.n == y.n⟩, ⟨9, 5, .string x.text, .string y.text, x.text.toList == y.text.toList⟩]
    _ fields_ln (fun r hr => by
      simp only [List.mem_cons, List.not_mem_nil, or_false] at hr
      rcases hr with rfl | rfl | rfl | rfl | rfl | rfl
      · exact ⟨by kernel_rfl, by kernel_rfl, run_equalIn_int w 9998 3 .i64 .i64 _ _ (by kernel_rfl)⟩
      · exact ⟨by kernel_rfl, by kernel_rfl, run_equalIn_int w 9998 3 .i64 .i64 _ _ (by kernel_rfl)⟩
      · exact ⟨by kernel_rfl, by kernel_rfl, run_equalIn_int w 9998 3 .i64 .i64 _ _ (by kernel_rfl)⟩
      · exact ⟨by kernel_rfl, by kernel_rfl, run_equalIn_int w 9998 3 .i64 .i64 _ _ (by kernel_rfl)⟩
      · exact ⟨by kernel_rfl, by kernel_rfl, run_equalIn_int w 9998 3 .i64 .i64 _ _ (by kernel_rfl)⟩
      · exact ⟨by kernel_rfl, by kernel_rfl, run_equalIn_string w 9998 9 _ _ (by kernel_rfl)⟩)
  rw [h]
  simp [lnEq]
theorem neq_ln (x y : Ln) (w : World) : (binOp .neq 36 x.agg y.agg).run Tryd.prog w = .ok (.bool (!decide (x = y))) w := by
  have h := equalIn_ln x y w
  rw [lnEq_dec] at h
  simp only [binOp, Op.equal, Op.maxDepth, Sem.run_bind, h, Result.andThen_ok, Sem.run_pure]
/-! plain -/
def letters : List UInt8 := [114, 97, 98, 110, 111, 116]
theorem shapes_letters : shapes.all (fun x => x.2.all fun p => letters.contains p) = true := by decide +kernel
theorem shp_letters (op : Int) (p : UInt8) (h : p ∈ (shp op).2) : p = 114 ∨ p = 97 ∨ p = 98 ∨ p = 110 ∨ p = 111 ∨ p = 116 := by
  unfold shp at h
  split at h
  · rw [List.getD_eq_getElem?_getD] at h
    cases hj : shapes[(op - 1).toNat]? with
    | none => rw [hj] at h; simp at h
    | some x =>
      rw [hj] at h
      have h1 := List.all_eq_true.1 shapes_letters x (List.mem_of_getElem? hj)
      have h2 := List.all_eq_true.1 h1 p h
      simpa [letters] using h2
  · simp at h
theorem bareL_snoc (l : Ln) (ps : List UInt8) (p : UInt8) : bareL l (ps ++ [p]) = if p = 116 then bareL l ps else (bareL l ps).set p 0 := by
  unfold bareL
  rw [List.foldl_append]
  rfl
theorem shp_out {op : Int} (h : ¬ (1 ≤ op ∧ op ≤ 18)) : shp op = ([], []) := by unfold shp; rw [if_neg h]
theorem op_cases {op : Int} (h : 1 ≤ op ∧ op ≤ 18) : op = 1 ∨ op = 2 ∨ op = 3 ∨ op = 4 ∨ op = 5 ∨ op = 6 ∨ op = 7 ∨ op = 8 ∨ op = 9 ∨ op = 10 ∨ op = 11 ∨ op = 12 ∨ op = 13 ∨ op = 14 ∨ op = 15 ∨ op = 16 ∨ op = 17 ∨ op = 18 := by omega
theorem ba_list (l : List UInt8) : (⟨l.toArray⟩ : ByteArray).toList = l := by rw [Go.ByteArray.toList_eq]
theorem rune_any (p : UInt8) (hp : p.toNat < 128) (w : World) : Calls Tryd.prog 48 #[.string ⟨#[114, 97, 98]⟩, .int .i32 p.toNat] w fun e w' => e = .returned (.bool (isReg p)) ∧ w = w' := by
  have hc := Tryd.strings_ContainsRune_ascii ⟨#[114, 97, 98]⟩ p.toNat w (by omega) (by omega)
  refine hc.mono fun e w' ⟨he, hw⟩ => ⟨?_, hw.symm⟩
  rw [he]
  congr 2
  have e1 : ((p.toNat : Int).toNat.toUInt8) = p := by simp
  rw [e1]
  unfold isReg
  revert hp
  have : ∀ q : Fin 128, decide (0 ≤ Lib.indexByte [114, 97, 98] (UInt8.ofNat q)) = (decide ((UInt8.ofNat q) = 114) || decide ((UInt8.ofNat q) = 97) || decide ((UInt8.ofNat q) = 98)) := by decide +kernel
  intro hp
  have h := this ⟨p.toNat, hp⟩
  simp only [UInt8.ofNat_toNat] at h
  exact h
theorem decode_part (P : List UInt8) (k : Nat) (p : UInt8) (hk : P[k]? = some p) (hp : p.toNat < 128) : k < (⟨P.toArray⟩ : ByteArray).size ∧ Utf8.decode ⟨P.toArray⟩ k = (p.toNat, 1) := by
  have hlt : k < (⟨P.toArray⟩ : ByteArray).size := by
    show k < P.toArray.size
    simpa using (List.getElem?_eq_some_iff.1 hk).1
  refine ⟨hlt, ?_⟩
  have hg := get_list ⟨P.toArray⟩ k hlt
  simp only at hg
  rw [hk] at hg
  injection hg with hg
  rw [Lib.decode_at, ← hg]
  exact dn_small _ _ _ _ _ hp
end Go.Proofs.YtihbgppcacaekaaDoor
