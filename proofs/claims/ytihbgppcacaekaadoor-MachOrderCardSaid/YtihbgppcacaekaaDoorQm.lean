import Derived.Test.YtihbgppcacaekaaDoorQj
import Derived.Test.YtihbgppcacaekaaDoorCw
/- SINGLE OPERATIONS OF A REGION, by what was told. -/
namespace Go.Proofs.YtihbgppcacaekaaDoor
open Go.RowKit Go.BigFrame
section
variable {ρ : Operand → Value} {o : Oper} {w w' : World} {r : Value}
theorem nilT (x : Operand) (ho : o.op = .nilCheck x) (a : Addr) (hx : ρ x = .pointer (some a)) : (execOp ρ o).run Tryd.prog w = .ok (.value (.pointer (some a))) w := by
  unfold execOp
  simp only [ho, hx]
  simp [go_sem]
theorem fldT (t k : Nat) (x : Operand) (ho : o.op = .fieldAddr t x k) (v : Value) (hx : ρ x = v) (h : (Instr.fieldAt t v k).run Tryd.prog w = .ok r w) : (execOp ρ o).run Tryd.prog w = .ok (.value r) w := by
  unfold execOp
  simp only [ho, hx, Sem.run_bind, h, Result.andThen_ok, Sem.run_pure]
theorem ldT (t : Nat) (x : Operand) (ho : o.op = .load t x) (b j : Nat) (hx : ρ x = .pointer (some ⟨b, j, none⟩)) (hc : w.cell? ⟨b, j, none⟩ = some r) (ha : (isAgg t).run Tryd.prog w = .ok false w) : (execOp ρ o).run Tryd.prog w = .ok (.value r) w := by
  unfold execOp
  simp only [ho, hx]
  simp [go_sem, hc, ha]
theorem mkT (t : Nat) (x y : Operand) (ho : o.op = .makeSlice t x y) (v u : Value) (hx : ρ x = v) (hy : ρ y = u) (h : (Instr.makeSlice t v u).run Tryd.prog w = .ok r w') : (execOp ρ o).run Tryd.prog w = .ok (.value r) w' := by
  unfold execOp
  simp only [ho, hx, hy, Sem.run_bind, h, Result.andThen_ok, Sem.run_pure]
theorem mmT (t : Nat) (ho : o.op = .makeMap t none) (h : (Instr.makeMap t none).run Tryd.prog w = .ok r w') : (execOp ρ o).run Tryd.prog w = .ok (.value r) w' := by
  unfold execOp
  simp only [ho, Option.map_none, Sem.run_bind, h, Result.andThen_ok, Sem.run_pure]
theorem bldT (t : Nat) (ps : Array (Nat × Operand)) (ho : o.op = .build t ps) (vs : Array (Nat × Value)) (hp : ps.map (fun (i, x) => (i, ρ x)) = vs) (h : (Instr.build t vs).run Tryd.prog w = .ok r w') : (execOp ρ o).run Tryd.prog w = .ok (.value r) w' := by
  unfold execOp
  simp only [ho, hp, Sem.run_bind, h, Result.andThen_ok, Sem.run_pure]
theorem bslT (t k : Nat) (ps : Array (Nat × Operand)) (ho : o.op = .buildSlice t k ps) (vs : Array (Nat × Value)) (hp : ps.map (fun (i, x) => (i, ρ x)) = vs) (h : (Instr.buildSlice t k vs).run Tryd.prog w = .ok r w') : (execOp ρ o).run Tryd.prog w = .ok (.value r) w' := by
  unfold execOp
  simp only [ho, hp, Sem.run_bind, h, Result.andThen_ok, Sem.run_pure]
theorem boxT (t : Nat) (x : Operand) (ho : o.op = .box t x) (v : Value) (hx : ρ x = v) (h : (Instr.box t v).run Tryd.prog w = .ok r w') : (execOp ρ o).run Tryd.prog w = .ok (.value r) w' := by
  unfold execOp
  simp only [ho, hx, Sem.run_bind, h, Result.andThen_ok, Sem.run_pure]
theorem na62 (w : World) : (isAgg 62).run Tryd.prog w = .ok false w := by kernel_rfl
theorem na3 (w : World) : (isAgg 3).run Tryd.prog w = .ok false w := by kernel_rfl
theorem fa_13 (w : World) (xb : Nat) : (Instr.fieldAt 64 (.pointer (some ⟨xb, 0, none⟩)) 6).run Tryd.prog w = .ok (.pointer (some ⟨xb, 13, none⟩)) w := by kernel_rfl
theorem fa_10 (w : World) (xb : Nat) : (Instr.fieldAt 64 (.pointer (some ⟨xb, 0, none⟩)) 3).run Tryd.prog w = .ok (.pointer (some ⟨xb, 10, none⟩)) w := by kernel_rfl
theorem fa_o1 (w : World) (xb : Nat) : (Instr.fieldAt 39 (.pointer (some ⟨xb, 0, none⟩)) 1).run Tryd.prog w = .ok (.pointer (some ⟨xb, 1, none⟩)) w := by kernel_rfl
theorem bld_fr (w : World) (nm : ByteArray) (s f : Int) (C : Option Addr) (N cap tb sn : Nat) (a0 a1 a2 a3 a4 a5 sp : Int) : (Instr.build 88 #[(0, .agg #[.string nm, .int .i64 s, .int .i64 f, .slice C N cap]), (1, .slice (some ⟨tb, 0, none⟩) sn sn), (2, .agg #[.int .i64 a0, .int .i64 a1, .int .i64 a2, .int .i64 a3, .int .i64 a4, .int .i64 a5]), (4, .int .i64 sp)]).run Tryd.prog w =
    .ok (.agg #[.string nm, .int .i64 s, .int .i64 f, .slice C N cap, .slice (some ⟨tb, 0, none⟩) sn sn, .int .i64 a0, .int .i64 a1, .int .i64 a2, .int .i64 a3, .int .i64 a4, .int .i64 a5, .int .i64 0, .int .i64 0, .int .i64 0, .int .i64 0, .int .i64 0, .int .i64 0, .int .i64 sp, .int .i64 0]) w := by kernel_rfl
theorem box_fr (w : World) (nm : ByteArray) (s f : Int) (C : Option Addr) (N cap tb sn : Nat) (a0 a1 a2 a3 a4 a5 sp : Int) : (Instr.box 88 (.agg #[.string nm, .int .i64 s, .int .i64 f, .slice C N cap, .slice (some ⟨tb, 0, none⟩) sn sn, .int .i64 a0, .int .i64 a1, .int .i64 a2, .int .i64 a3, .int .i64 a4, .int .i64 a5, .int .i64 0, .int .i64 0, .int .i64 0, .int .i64 0, .int .i64 0, .int .i64 0, .int .i64 sp, .int .i64 0])).run Tryd.prog w =
    .ok (.pointer (some ⟨w.heap.size, 0, none⟩)) (w.alloc (.cells #[.string nm, .int .i64 s, .int .i64 f, .slice C N cap, .slice (some ⟨tb, 0, none⟩) sn sn, .int .i64 a0, .int .i64 a1, .int .i64 a2, .int .i64 a3, .int .i64 a4, .int .i64 a5, .int .i64 0, .int .i64 0, .int .i64 0, .int .i64 0, .int .i64 0, .int .i64 0, .int .i64 sp, .int .i64 0] 88 (0, 0))) := by kernel_rfl
theorem bsl_p (w : World) (p : Nat) : (Instr.buildSlice 62 1 #[(0, .pointer (some ⟨p, 0, none⟩))]).run Tryd.prog w = .ok (.slice (some ⟨w.heap.size, 0, none⟩) 1 1) (w.alloc (.cells #[.pointer (some ⟨p, 0, none⟩)] 86 (0, 0))) := by kernel_rfl
theorem appT {V : Value} (t : Nat) (x y : Operand) (ho : o.op = .call { callee := .builtin .append, args := #[x, y], argTypes := #[t, t] }) (v u : Value) (hx : ρ x = v) (hy : ρ y = u) (h : (Builtin.append_ #[t, t] o.type #[v, u]).run Tryd.prog w = .ok V w') : (execOp ρ o).run Tryd.prog w = .ok (.value V) w' := by
  unfold execOp
  simp only [ho, resolve, invoke, builtin, Sem.run_bind, Sem.run_pure, Result.andThen_ok, List.map_toArray, List.map_cons, List.map_nil, hx, hy, h]
end
/-- what is held on to while blocks O 0, O 1, .. are made, in this order, by the operations of the list A; operation c then makes the world wc -/
structure Mk (W wc : World) (c : Nat) (vals : List Value) (A : List Nat) (O : List Obj) (s : Nat → Option Value) (w : World) : Prop where
  g : ∀ i v, s i = some v → vals[i]? = some v
  w : (s c = none ∧ ∃ k, k ≤ O.length ∧ w = (O.take k).foldl World.alloc W ∧ ∀ (j i : Nat), A[j]? = some i → ((s i).isSome = true ↔ j < k)) ∨ ((s c).isSome = true ∧ w = wc ∧ ∀ i ∈ A, (s i).isSome = true)
theorem foldl_below (W : World) : ∀ (O : List Obj), Below W.heap.size W (O.foldl World.alloc W) ∧ (O.foldl World.alloc W).heap.size = W.heap.size + O.length
  | [] => ⟨Below.refl _ _, rfl⟩
  | o :: O => by
    obtain ⟨h1, h2⟩ := foldl_below (W.alloc o) O
    refine ⟨(Below.one W o).trans (h1.mono (by simp)), ?_⟩
    rw [List.foldl_cons, h2]
    simp
    omega
section
variable {W wc w : World} {c : Nat} {vals : List Value} {A : List Nat} {O : List Obj} {s : Nat → Option Value}
theorem Mk.below (h : Mk W wc c vals A O s w) : Below W.heap.size W w ∨ w = wc := by
  rcases h.w with ⟨_, k, _, rfl, _⟩ | ⟨_, rfl, _⟩
  · exact Or.inl (foldl_below W _).1
  · exact Or.inr rfl
theorem Mk.told (h : Mk W wc c vals A O s w) {j : Nat} {v : Value} (hv : vals[j]? = some v) (hs : (s j).isSome = true) : s j = some v := by
  cases hj : s j with
  | none => rw [hj] at hs; cases hs
  | some u =>
    have := h.g j u hj
    rw [hv] at this
    exact this.symm
theorem Mk.upd (h : ∀ i v, s i = some v → vals[i]? = some v) (i : Nat) (v : Value) (hv : vals[i]? = some v) : ∀ j u, updT s i v j = some u → vals[j]? = some u := fun j u hu => by
  unfold updT at hu
  split at hu
  · rename_i e
    subst e
    injection hu with hu
    rw [← hu]
    exact hv
  · exact h j u hu
theorem isSome_upd (i : Nat) (v : Value) (j : Nat) (h : (s j).isSome = true) : (updT s i v j).isSome = true := by
  unfold updT
  split
  · rfl
  · exact h
/-- an operation that makes nothing -/
theorem Mk.step (h : Mk W wc c vals A O s w) (i : Nat) (v : Value) (hv : vals[i]? = some v) (hA : i ∉ A) (hc : i ≠ c) : Mk W wc c vals A O (updT s i v) w where
  g := Mk.upd h.g i v hv
  w := by
    rcases h.w with ⟨h0, k, h1, h2, h3⟩ | ⟨h1, h2, h3⟩
    · refine Or.inl ⟨by unfold updT; rw [if_neg (Ne.symm hc)]; exact h0, k, h1, h2, fun j q hq => ?_⟩
      have hne : q ≠ i := fun e => hA (by rw [← e]; exact List.mem_of_getElem? hq)
      unfold updT
      rw [if_neg hne]
      exact h3 j q hq
    · exact Or.inr ⟨isSome_upd _ _ _ h1, h2, fun q hq => isSome_upd _ _ _ (h3 q hq)⟩
/-- the k-th that makes something -/
theorem Mk.make (h : Mk W wc c vals A O s w) (k i : Nat) (v : Value) (o : Obj) (hv : vals[i]? = some v) (hA : A[k]? = some i) (hO : O[k]? = some o) (hn : A.Nodup) (hc : i ≠ c) (h0 : s i = none) (hp : ∀ j, j + 1 = k → ∃ q, A[j]? = some q ∧ (s q).isSome = true) :
    w.heap.size = W.heap.size + k ∧ Mk W wc c vals A O (updT s i v) (w.alloc o) := by
  rcases h.w with ⟨hc0, m, h1, h2, h3⟩ | ⟨_, _, h3⟩
  · have hm : m = k := by
      have a1 : ¬ k < m := fun hk => by
        have := (h3 k i hA).2 hk
        rw [h0] at this
        cases this
      rcases Nat.lt_or_ge m k with hmk | hmk
      · obtain ⟨q, hq, hs⟩ := hp (k - 1) (by omega)
        have := (h3 _ _ hq).1 hs
        omega
      · omega
    subst hm
    have hsz := (foldl_below W (O.take m)).2
    rw [← h2, List.length_take, Nat.min_eq_left h1] at hsz
    refine ⟨hsz, ⟨Mk.upd h.g i v hv, Or.inl ⟨by unfold updT; rw [if_neg (Ne.symm hc)]; exact hc0, m + 1, ?_, ?_, fun j q hq => ?_⟩⟩⟩
    · have := (List.getElem?_eq_some_iff.1 hO).1
      omega
    · rw [List.take_add_one, hO, h2, List.foldl_append]
      rfl
    · unfold updT
      by_cases e : q = i
      · subst e
        rw [if_pos rfl]
        have hj : j = m := by
          have h5 := (List.getElem?_eq_some_iff.1 hq).1
          have h6 := (List.getElem?_eq_some_iff.1 hA).1
          rw [List.getElem?_eq_getElem h5] at hq
          rw [List.getElem?_eq_getElem h6] at hA
          exact (List.getElem_inj hn).1 ((Option.some.inj hq).trans (Option.some.inj hA).symm)
        subst hj
        simp
      · rw [if_neg e, h3 j q hq]
        constructor
        · intro hh; omega
        · intro hh
          have : j ≠ m := fun e2 => by
            subst e2
            rw [hA] at hq
            exact e (Option.some.inj hq).symm
          omega
  · have := h3 i (List.mem_of_getElem? hA)
    rw [h0] at this
    cases this
/-- the world when all were made -/
theorem Mk.full (h : Mk W wc c vals A O s w) (hc : s c = none) (k i : Nat) (hk : A[k]? = some i) (hlast : k + 1 = O.length) (hs : (s i).isSome = true) : w = O.foldl World.alloc W := by
  rcases h.w with ⟨_, m, h1, h2, h3⟩ | ⟨h1, _, _⟩
  · have := (h3 k i hk).1 hs
    obtain rfl : m = O.length := by omega
    rw [h2, List.take_length]
  · rw [hc] at h1
    cases h1
/-- operation c -/
theorem Mk.last (h : Mk W wc c vals A O s w) (v : Value) (hv : vals[c]? = some v) (hc : s c = none) (hl : A.length = O.length) (hs : ∀ k i, A[k]? = some i → k + 1 = O.length → (s i).isSome = true) (_ : O.length ≠ 0) : Mk W wc c vals A O (updT s c v) wc where
  g := Mk.upd h.g c v hv
  w := Or.inr ⟨by unfold updT; rw [if_pos rfl]; rfl, rfl, fun i hi => isSome_upd _ _ _ (by
    rcases h.w with ⟨_, m, h1, h2, h3⟩ | ⟨h1, _, _⟩
    · obtain ⟨j, hj⟩ := List.mem_iff_getElem?.1 hi
      have hjl := (List.getElem?_eq_some_iff.1 hj).1
      have hk : O.length - 1 < A.length := by omega
      have hlast := (h3 _ _ (List.getElem?_eq_getElem hk)).1 (hs _ _ (List.getElem?_eq_getElem hk) (by omega))
      exact (h3 j i hj).2 (by omega)
    · rw [hc] at h1
      cases h1)⟩
end
theorem append_ran {P : Program} {ops : Array Oper} {rest : List Oper} {o : Oper} {a : Act} {w w' : World} {Q : Exit → Act → World → Prop} {t : TypeId} {vs vx V : Value} (hgd : o.guard = none) (s x : Operand)
    (ho : o.op = .call { callee := .builtin .append, args := #[s, x], argTypes := #[t, t] }) (hs : a.eval s = vs) (hx : a.eval x = vx) (hr : (Builtin.append_ #[t, t] o.type #[vs, vx]).run P w = .ok V w')
    (h : wpList P ops Q rest (a.put o.dst V) w') : wpList P ops Q (o :: rest) a w := by
  refine wpList_plain hgd fun K' hK' => ?_
  unfold Oper.wp execOp
  simp only [ho, resolve, invoke, builtin, Sem.run_bind, Sem.run_pure, Result.andThen_ok, List.map_toArray, List.map_cons, List.map_nil, hs, hx, hr]
  exact hK' _ _ h
/-- .. and where operation p was done, q was -/
structure Mk3 (p q : Nat) (W wc : World) (c : Nat) (vals : List Value) (A : List Nat) (O : List Obj) (s : Nat → Option Value) (w : World) : Prop where
  m : Mk W wc c vals A O s w
  h : (s p).isSome = true → (s q).isSome = true
theorem Mk3.next {p q c : Nat} {W wc w w' : World} {vals : List Value} {A : List Nat} {O : List Obj} {s : Nat → Option Value} (h : Mk3 p q W wc c vals A O s w) (i : Nat) (v : Value) (hm : Mk W wc c vals A O (updT s i v) w') (hi : i ≠ p ∨ (s q).isSome = true) : Mk3 p q W wc c vals A O (updT s i v) w' where
  m := hm
  h := fun hp => by
    unfold updT at hp ⊢
    by_cases e : q = i
    · rw [if_pos e]; rfl
    · rw [if_neg e]
      rcases hi with hi | hi
      · rw [if_neg (Ne.symm hi)] at hp
        exact h.h hp
      · exact hi
theorem dOb : Tryd.prog.underlying 39 = some (.struct (Tryd.prog.fieldsOf 39)) := by kernel_rfl
theorem dsOb : (Tryd.prog.info? 39).map (·.size) = some 4 := by kernel_rfl
theorem dAr : Tryd.prog.underlying 67 = some (.array 6 3) := by kernel_rfl
theorem dsAr : (Tryd.prog.info? 67).map (·.size) = some 6 := by kernel_rfl
end Go.Proofs.YtihbgppcacaekaaDoor
