import Derived.Test.YtfaccdidjhaahaaS
import Derived.Test.YtfaccdidjhaahaaN
namespace Go.Proofs.Ytfaccdidjhaahaa
open Go.RowKit Go.BigFrame

theorem run_append_rd (w : World) (ty : TypeId) (B : Nat) (V : Value) (k : List Row) (hown : Own w B V k) (B' : Nat) (A : Option Addr) (l : List Row) (cap : Nat) (hR : Rd w B' A l) (hA : A = none → cap = 0) (hn : k.length + l.length ≤ 100000) (hB : B ≤ w.heap.size) :
    ∃ V' w', (Builtin.append_ #[29, 29] ty #[V, .slice A l.length cap]).run Try.prog w = .ok V' w' ∧ Own w' B V' (k ++ l) ∧ w.grownBy w' V.ownBlock ∧ (V'.ownBlock = V.ownBlock ∨ V'.ownBlock = some w.heap.size) := by
  obtain ⟨i0, hi, hz0, hz1, hz2⟩ := info_parts i24'
  cases A with
  | none =>
    have hl : l = [] := by
      rcases Nat.eq_zero_or_pos l.length with h | h
      · exact List.eq_nil_of_length_eq_zero h
      · obtain ⟨_, _, e, _⟩ := hR h; cases e
    subst hl
    rw [hA rfl]
    exact ⟨V, w, run_append_owned_none w B 29 ty 24 i0 9 (by kernel_rfl) hi V k.length (cellsOf k) hown, by simpa using hown, ⟨rfl, rfl, rfl, Nat.le_refl _, fun _ _ _ => rfl⟩, .inl rfl⟩
  | some ad =>
    have hone : ∀ u ∈ cellsOf l, u.oneCell' = true := fun u hu => by
      obtain ⟨r, _, hr⟩ := List.mem_flatMap.1 hu
      exact row_one r u hr
    obtain ⟨V', w', hr, h1, h2, _, h4⟩ := run_append_own_at (P := Try.prog) w B 29 ty 24 i0 row0.enc 9 72 (by kernel_rfl) hi hz0 hz1 hz2 rfl (by decide) V k.length (cellsOf k) hown ad l.length cap (cellsOf l) (cellsOf_len l)
      (fun j u hu => by
        have hj : j < l.length * 9 := by rw [← cellsOf_len]; exact (List.getElem?_eq_some_iff.1 hu).1
        obtain ⟨b, o, e, _, hc⟩ := hR (by omega)
        injection e with e
        subst e
        have hadd : (⟨b, o, none⟩ : Addr).add j = ⟨b, o + j, none⟩ := by unfold Addr.add; split <;> simp_all
        rw [hadd, hc j hj, hu]) hone (by simp only [maxLen]; omega) (by omega) hB
    exact ⟨V', w', hr, by unfold Own; rw [List.length_append, cellsOf_app]; exact h1, h2, h4⟩

theorem append_rd {ops : Array Oper} {rest : List Oper} {o : Oper} {a : Act} {w : World} {Q : Exit → Act → World → Prop} (hw : Region.wanted o (yielded ops a.tmps) = true) (s x : Operand)
    (ho : o.op = .call { callee := .builtin .append, args := #[s, x], argTypes := #[29, 29] }) (B : Nat) (V : Value) (k : List Row) (hs : a.eval s = V) (hown : Own w B V k)
    (B' : Nat) (A : Option Addr) (l : List Row) (cap : Nat) (hx : a.eval x = .slice A l.length cap) (hR : Rd w B' A l) (hA : A = none → cap = 0) (hn : k.length + l.length ≤ 100000) (hB : B ≤ w.heap.size)
    (h : ∀ V' w', Own w' B V' (k ++ l) → w.grownBy w' V.ownBlock → (V'.ownBlock = V.ownBlock ∨ V'.ownBlock = some w.heap.size) → wpList Try.prog ops Q rest (a.put o.dst V') w') :
    wpList Try.prog ops Q (o :: rest) a w := by
  refine wpList_step fun K hK => ?_
  rw [if_pos hw]
  obtain ⟨V', w', hr, h1, h2, h3⟩ := run_append_rd w o.type B V k hown B' A l cap hR hA hn hB
  unfold Oper.wp execOp
  simp only [ho, resolve, invoke, builtin, Sem.run_bind, Sem.run_pure, Result.andThen_ok, List.map_toArray, List.map_cons, List.map_nil, hs, hx, hr]
  exact hK _ _ (h V' w' h1 h2 h3)
theorem Own.made (w : World) {B : Nat} (hB : B ≤ w.heap.size) : Own (w.alloc (.cells #[] 24)) B (.slice (some ⟨w.heap.size, 0, none⟩) 0 0) [] :=
  World.ownsRow_made w #[] 0 hB (by simp [maxLen]) rfl

/-- a slice of rows that came in -/
theorem open_rows {H : Type} {enc : TypeId × Value → H} {w : World} {v : Value} {d : DataW H} {p : List MemPlace} (h : DataW.Trod enc Try.prog w 0 (fun _ => true) true 29 v d p) (hv : ∃ a len cap, v = .slice a len cap) (hlt : ∀ x ∈ p, x.block < w.heap.size) :
    ∃ (A : Option Addr) (l : List Row) (cap : Nat), v = .slice A l.length cap ∧ Rd w w.heap.size A l ∧ (A = none → cap = 0) := by
  obtain ⟨a0, len0, cap0, rfl⟩ := hv
  obtain ⟨fuel, hf⟩ := h
  rcases Go.Deep.open_slice (e := 24) (by kernel_rfl) hf with ⟨hcs, _⟩ | ⟨a, len, cap, m, n, D, Pl, hcs, _, hlc, hcm, hm, hx, hi⟩
  · simp [Value.cells] at hcs
    obtain ⟨rfl, rfl, rfl⟩ := hcs
    exact ⟨none, [], 0, rfl, Rd.nil _ _ _, fun _ => rfl⟩
  · simp [Value.cells] at hcs
    obtain ⟨rfl, rfl, rfl⟩ := hcs
    rw [c24] at hi hx
    have hm' : m = cap0 := by simpa using hm
    subst hm'
    have hrows : ∀ i, i < len0 → ∃ r : Row, w.cells? 0 (a.add (i * 9)) 9 = some r.l := fun i hil => by
      obtain ⟨cs', hc, ht⟩ := hi i (by omega)
      obtain ⟨r, rfl⟩ := trod_row ht
      exact ⟨r, hc⟩
    haveI : Inhabited Row := ⟨row0⟩
    obtain ⟨f, hfr⟩ := Go.Deep.choose_lt hrows
    have hlen : ((List.range len0).map f).length = len0 := by simp
    refine ⟨some a, (List.range len0).map f, m, by rw [hlen], ?_, fun e => by cases e⟩
    intro hpos
    rw [hlen] at hpos
    have h0 := (World.cells?_some (hfr 0 hpos)).2.2 0 (by omega)
    have hsp : a.spot = none := by
      rcases hs : a.spot with _ | s
      · rfl
      · exfalso
        have e1 : (a.add (0 * 9)).add 0 = a := by simp [Addr.add]
        rw [e1] at h0
        have : w.cell? a = none := by unfold World.cell?; split <;> simp [hs]
        rw [this] at h0
        simp at h0
    obtain ⟨b, o, spot⟩ := a
    simp only at hsp
    subst hsp
    refine ⟨b, o, rfl, ?_, ?_⟩
    · exact hlt (.cell b (o + 0)) (by
        have hp := (congrArg Prod.snd hx)
        simp only at hp
        rw [hp]
        refine List.mem_append_left _ ?_
        unfold MemPlace.row
        exact List.mem_map.2 ⟨0, List.mem_range.2 (by omega), rfl⟩)
    · intro j hj
      rw [hlen] at hj
      have h1 : j / 9 < len0 := by omega
      have h2 : j % 9 < 9 := Nat.mod_lt _ (by omega)
      have hc := (World.cells?_some (hfr (j / 9) h1)).2.2 (j % 9) h2
      have hadd : ∀ q m : Nat, ((⟨b, o, none⟩ : Addr).add q).add m = ⟨b, o + (q + m), none⟩ := fun q m => by
        rw [Go.Deep.add_add]; unfold Addr.add; split
        · rename_i h0; rw [h0, Nat.add_zero]
        · rfl
      rw [hadd, show j / 9 * 9 + j % 9 = j by omega] at hc
      rw [hc]
      have hat := cellsOf_at ((List.range len0).map f) (j / 9) (j % 9) (by rw [hlen]; exact h1) h2
      rw [show j / 9 * 9 + j % 9 = j by omega] at hat
      rw [hat]
      simp
end Go.Proofs.Ytfaccdidjhaahaa
