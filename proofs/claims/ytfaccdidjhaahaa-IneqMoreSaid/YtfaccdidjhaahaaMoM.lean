import Derived.Test.YtfaccdidjhaahaaY
/- PLAIN LAWS: WITH MORE ROWS WHAT IS TOLD NEVER TO HOLD IS TOLD SO STILL, where each step goes on. -/
namespace Go.Proofs.Ytfaccdidjhaahaa

def within (b n : Int) : Prop := -b ≤ n ∧ n ≤ b
/-- bounds of a row's numbers, and: no factor from place 3 on, nor below v -/
structure Bd (b d : Int) (v : Nat) (r : Row) : Prop where
  f : ∀ j, j < 8 → within b (r.at j)
  c : within d r.c
  z : ∀ j, j < 8 → (3 ≤ j ∨ j < v) → r.at j = 0
theorem Bd.mono {b b' d d' : Int} {v : Nat} {r : Row} (h : Bd b d v r) (hb : b ≤ b') (hd : d ≤ d') : Bd b' d' v r :=
  ⟨fun j hj => by have := h.f j hj; unfold within at *; omega, by have := h.c; unfold within at *; omega, h.z⟩
theorem Bd.right {b d : Int} {v : Nat} {r : Row} (h : Bd b d v r) (hb : b ≤ 1048576) (hd : d ≤ 1048576) : r.right = true :=
  right_of r (fun j hj => by have := h.f j hj; rw [far_iff]; unfold within at this; omega) (by have := h.c; rw [far_iff]; unfold within at this; omega)
theorem within_div {b n : Int} {d : Nat} (hb : 0 ≤ b) (hd : 0 < d) (h : within b n) : within b (n / d) := by
  unfold within at *
  have h1 : (0 : Int) < d := by omega
  constructor
  · refine (Int.le_ediv_iff_mul_le h1).2 ?_
    have : (-b) * d ≤ -b * 1 := Int.mul_le_mul_of_nonpos_left (by omega) (by omega)
    omega
  · refine Int.ediv_le_of_le_mul h1 ?_
    have : b * 1 ≤ b * d := Int.mul_le_mul_of_nonneg_left (by omega) (by omega)
    omega
theorem Bd.div {b d : Int} {v : Nat} {r : Row} {g : Nat} (hb : 0 ≤ b) (hd : 0 ≤ d) (hg : 0 < g) (h : Bd b d v r) : Bd b d v (r.div g) :=
  ⟨fun j hj => by rw [div_at r g j hj]; exact within_div hb hg (h.f j hj), within_div hd hg h.c, fun j hj hz => by rw [div_at r g j hj, h.z j hj hz]; simp⟩
theorem Bd.shrink {b d : Int} {v : Nat} {r : Row} (hb : 0 ≤ b) (hd : 0 ≤ d) (h : Bd b d v r) : Bd b d v r.shrink := by
  rcases shrink_cases r with e | ⟨hg, e⟩
  · rw [e]; exact h
  · rw [e]; exact h.div hb hd hg
theorem Bd.tight {b d : Int} {v : Nat} {r : Row} (hb : 0 ≤ b) (hd : 0 ≤ d) (h : Bd b d v r) : Bd b d v r.tight := by
  unfold Row.tight
  split
  · exact h
  · split
    · exact h
    · exact h.div hb hd (by omega)
theorem mul_within {a b x y : Int} (ha : 0 ≤ a) (h1 : within a x) (h2 : within b y) : within (a * b) (x * y) := by
  unfold within at *
  have hb : 0 ≤ b := by omega
  have h3 : (x * y).natAbs ≤ (a * b).natAbs := by
    rw [Int.natAbs_mul, Int.natAbs_mul]
    exact Nat.mul_le_mul (by omega) (by omega)
  have h4 := Int.mul_nonneg ha hb
  omega
theorem Bd.combo {b d : Int} {v : Nat} {p q : Row} (hb : 0 ≤ b) (hv : v < 8) (h1 : Bd b d v p) (h2 : Bd b d v q) : Bd (2 * (b * b)) (2 * (b * d)) (v + 1) (combo p q v) := by
  have hp := h1.f v hv
  have hq := h2.f v hv
  have hn : within b (-q.at v) := by unfold within at *; omega
  refine ⟨fun j hj => ?_, ?_, fun j hj hz => ?_⟩
  · rw [combo_at p q v j hj]
    have m1 := mul_within hb hn (h1.f j hj)
    have m2 := mul_within hb hp (h2.f j hj)
    unfold within at *; omega
  · have m1 := mul_within hb hn h1.c
    have m2 := mul_within hb hp h2.c
    show within _ (-q.at v * p.c + p.at v * q.c)
    unfold within at *; omega
  · rw [combo_at p q v j hj]
    by_cases hjv : j = v
    · subst hjv; rw [Int.neg_mul, Int.mul_comm]; omega
    · rw [h1.z j hj (by omega), h2.z j hj (by omega)]; simp
theorem Bd.next {b d : Int} {v : Nat} {r : Row} (h : Bd b d v r) (hz : r.at v = 0) : Bd b d (v + 1) r :=
  ⟨h.f, h.c, fun j hj hjz => by
    by_cases hjv : j = v
    · rw [hjv]; exact hz
    · exact h.z j hj (by omega)⟩

/-- all rows of the first are rows of the second -/
def Sub (l m : List Row) : Prop := ∀ r ∈ l, r ∈ m
/-- the rows of a pair of lists, where nothing fails -/
def pairs (v : Nat) (up down : List Row) : List Row := up.flatMap fun a => (down.map fun b => (combo a b v).shrink).filter Row.keep
theorem inner_ok (v : Nat) (a : Row) : ∀ (down out : List Row), (∀ b ∈ down, (combo a b v).shrink.right = true) → inner v down out a = some (out ++ (down.map fun b => (combo a b v).shrink).filter Row.keep)
  | [], out, _ => by simp [inner]
  | b :: down, out, h => by
    have hb := h b (by simp)
    unfold inner
    rw [List.foldlM_cons]
    have h1 : one v a out b = some (if (combo a b v).shrink.keep then out ++ [(combo a b v).shrink] else out) := by unfold one; rw [if_pos hb]
    rw [h1]
    show inner v down _ a = _
    rw [inner_ok v a down _ (fun b' hb' => h b' (by simp [hb']))]
    by_cases hk : (combo a b v).shrink.keep = true
    · simp [hk]
    · simp [hk]
theorem outer_ok (v : Nat) (down : List Row) : ∀ (up out : List Row), (∀ a ∈ up, ∀ b ∈ down, (combo a b v).shrink.right = true) → up.foldlM (inner v down) out = some (out ++ pairs v up down)
  | [], out, _ => by simp [pairs]
  | a :: up, out, h => by
    rw [List.foldlM_cons, inner_ok v a down out (h a (by simp))]
    show up.foldlM (inner v down) _ = _
    rw [outer_ok v down up _ (fun a' ha' => h a' (by simp [ha']))]
    simp [pairs]
theorem pairs_len (v : Nat) (down : List Row) : ∀ up : List Row, (pairs v up down).length ≤ up.length * down.length
  | [] => by simp [pairs]
  | a :: up => by
    have h1 := pairs_len v down up
    have h2 : ((down.map fun b => (combo a b v).shrink).filter Row.keep).length ≤ down.length := Nat.le_trans (List.length_filter_le _ _) (by simp)
    simp only [pairs, List.flatMap_cons, List.length_append, List.length_cons] at *
    rw [Nat.add_mul]; omega
theorem parts_len (v : Nat) : ∀ l : List Row, (upOf v l).length + (downOf v l).length + (restOf v l).length ≤ l.length
  | [] => by simp [upOf, downOf, restOf]
  | r :: l => by
    have h := parts_len v l
    simp only [upOf, downOf, restOf, List.filter_cons, List.length_cons] at *
    rcases Int.lt_trichotomy (r.at v) 0 with h1 | h1 | h1
    · simp [h1, show ¬ 0 < r.at v by omega, show ¬ r.at v = 0 by omega] at *; omega
    · by_cases hk : r.keep = true
      · simp [h1, hk] at *; omega
      · simp [h1, hk] at *; omega
    · simp [h1, show ¬ r.at v < 0 by omega, show ¬ r.at v = 0 by omega] at *; omega
/-- a step where nothing fails -/
theorem step_ok {b d : Int} {v : Nat} {l : List Row} (hb : 0 ≤ b) (hd : 0 ≤ d) (hv : v < 8) (hbd : ∀ r ∈ l, Bd b d v r) (h1 : b ≤ 1048576) (h2 : d ≤ 1048576) (h3 : 2 * (b * b) ≤ 1048576) (h4 : 2 * (b * d) ≤ 1048576)
    (hl : (restOf v l).length + (upOf v l).length * (downOf v l).length ≤ 64) :
    stepS v l = some (restOf v l ++ pairs v (upOf v l) (downOf v l)) := by
  have hall : l.all Row.right = true := List.all_eq_true.2 (fun r hr => (hbd r hr).right h1 h2)
  have hpos := Int.mul_nonneg hb hb
  have hpos2 := Int.mul_nonneg hb hd
  have hpr : ∀ a ∈ upOf v l, ∀ c ∈ downOf v l, (combo a c v).shrink.right = true := fun a ha c hc =>
    (((hbd a (List.mem_filter.1 ha).1).combo hb hv (hbd c (List.mem_filter.1 hc).1)).shrink (by omega) (by omega)).right h3 h4
  unfold stepS
  rw [if_pos hall, outer_ok v _ _ _ hpr]
  have hpl := pairs_len v (downOf v l) (upOf v l)
  show (if (restOf v l ++ pairs v (upOf v l) (downOf v l)).length ≤ 64 then some _ else none) = _
  rw [if_pos (by rw [List.length_append]; omega)]
theorem step_sub {v : Nat} {l m o : List Row} (h : Sub l m) (hs : stepS v l = some o) : Sub o (restOf v m ++ pairs v (upOf v m) (downOf v m)) := by
  unfold stepS at hs
  split at hs
  · split at hs
    · rename_i out hf
      split at hs
      · injection hs with hs
        subst hs
        refine foldlM_inv (fun o => Sub o (restOf v m ++ pairs v (upOf v m) (downOf v m))) _ _ ?_ _ _ ?_ hf
        · intro y a z ha hy hz
          refine foldlM_inv (fun o => Sub o (restOf v m ++ pairs v (upOf v m) (downOf v m))) _ _ ?_ _ _ hy hz
          intro y' c z' hc hy' hz' r hr
          have ha' := List.mem_filter.1 ha
          have hc' := List.mem_filter.1 hc
          unfold one at hz'
          split at hz'
          · injection hz' with hz'
            subst hz'
            split at hr
            · rename_i hk
              rcases List.mem_append.1 hr with h1 | h1
              · exact hy' r h1
              · rw [List.mem_singleton.1 h1]
                refine List.mem_append_right _ (List.mem_flatMap.2 ⟨a, List.mem_filter.2 ⟨h a ha'.1, ha'.2⟩, List.mem_filter.2 ⟨List.mem_map.2 ⟨c, List.mem_filter.2 ⟨h c hc'.1, hc'.2⟩, rfl⟩, hk⟩⟩)
            · exact hy' r hr
          · cases hz'
        · intro r hr
          have hr' := List.mem_filter.1 hr
          exact List.mem_append_left _ (List.mem_filter.2 ⟨h r hr'.1, hr'.2⟩)
      · cases hs
    · cases hs
  · cases hs
theorem any_sub {l m : List Row} (h : Sub l m) (hl : l.any Row.never = true) : m.any Row.never = true := by
  obtain ⟨r, hr, hn⟩ := List.any_eq_true.1 hl
  exact List.any_eq_true.2 ⟨r, h r hr, hn⟩
theorem step_bd {b d : Int} {v : Nat} {l : List Row} (hb : 1 ≤ b) (hd : 0 ≤ d) (hv : v < 8) (hbd : ∀ r ∈ l, Bd b d v r) : ∀ r ∈ restOf v l ++ pairs v (upOf v l) (downOf v l), Bd (2 * (b * b)) (2 * (b * d)) (v + 1) r := by
  have p1 : b * 1 ≤ b * b := Int.mul_le_mul_of_nonneg_left hb (by omega)
  have p2 : 1 * d ≤ b * d := Int.mul_le_mul_of_nonneg_right hb hd
  intro r hr
  rcases List.mem_append.1 hr with h | h
  · have h' := List.mem_filter.1 h
    simp only [Bool.and_eq_true, decide_eq_true_eq] at h'
    exact ((hbd r h'.1).next h'.2.1).mono (by omega) (by omega)
  · obtain ⟨a, ha, hr2⟩ := List.mem_flatMap.1 h
    obtain ⟨c, hc, rfl⟩ := List.mem_map.1 (List.mem_filter.1 hr2).1
    exact ((hbd a (List.mem_filter.1 ha).1).combo (by omega) hv (hbd c (List.mem_filter.1 hc).1)).shrink (by omega) (by omega)
/-- from place 3 on all rows are bare -/
theorem nev_tail {b d : Int} (hb : 0 ≤ b) (hd : 0 ≤ d) (h1 : b ≤ 1048576) (h2 : d ≤ 1048576) : ∀ (n v : Nat) (l m : List Row), v + n ≤ 8 → 3 ≤ v → (∀ r ∈ m, Bd b d v r) → m.length ≤ 64 → Sub l m → nevAux n v l = true → nevAux n v m = true
  | 0, v, l, m, _, _, _, _, hs, h => any_sub hs h
  | n + 1, v, l, m, hvn, hv3, hbd, hml, hs, h => by
    have hz : ∀ r ∈ m, ∀ j, j < 8 → r.at j = 0 := fun r hr j hj => (hbd r hr).z j hj (by omega)
    have hu : upOf v m = [] := List.filter_eq_nil_iff.2 (fun r hr => by simp [hz r hr v (by omega)])
    have hall : m.all Row.right = true := List.all_eq_true.2 (fun r hr => (hbd r hr).right h1 h2)
    have hst : stepS v m = some (restOf v m) := by
      unfold stepS
      rw [if_pos hall, hu]
      have : (restOf v m).length ≤ 64 := Nat.le_trans (List.length_filter_le _ _) hml
      simp [this]
    have hh : (l.any Row.never || match stepS v l with
      | none => false
      | some out => nevAux n (v + 1) out) = true := h
    show (m.any Row.never || match stepS v m with
      | none => false
      | some out => nevAux n (v + 1) out) = true
    rw [hst]
    rcases Bool.or_eq_true _ _ ▸ hh with h3 | h3
    · rw [any_sub hs h3]; rfl
    · cases hsl : stepS v l with
      | none => rw [hsl] at h3; cases h3
      | some o =>
        rw [hsl] at h3
        have hsub := step_sub hs hsl
        rw [hu] at hsub
        have hsub' : Sub o (restOf v m) := fun r hr => by have := hsub r hr; simpa [pairs] using this
        have := nev_tail hb hd h1 h2 n (v + 1) o (restOf v m) (by omega) (by omega) (fun r hr => ((hbd r (List.mem_filter.1 hr).1).next (hz r (List.mem_filter.1 hr).1 v (by omega)))) (Nat.le_trans (List.length_filter_le _ _) hml) hsub' h3
        show (m.any Row.never || nevAux n (v + 1) (restOf v m)) = true
        rw [this, Bool.or_true]
theorem nev_step {b d : Int} {n v : Nat} {l m : List Row} (hb : 1 ≤ b) (hd : 0 ≤ d) (hv : v < 8) (hbd : ∀ r ∈ m, Bd b d v r) (h1 : b ≤ 1048576) (h2 : d ≤ 1048576) (h3 : 2 * (b * b) ≤ 1048576) (h4 : 2 * (b * d) ≤ 1048576)
    (N : Nat) (hN : N ≤ 64) (hl : (restOf v m).length + (upOf v m).length * (downOf v m).length ≤ N) (hs : Sub l m) (h : nevAux (n + 1) v l = true)
    (next : ∀ l' m', (∀ r ∈ m', Bd (2 * (b * b)) (2 * (b * d)) (v + 1) r) → m'.length ≤ N → Sub l' m' → nevAux n (v + 1) l' = true → nevAux n (v + 1) m' = true) : nevAux (n + 1) v m = true := by
  have hst := step_ok (by omega) hd hv hbd h1 h2 h3 h4 (by omega)
  have hh : (l.any Row.never || match stepS v l with
    | none => false
    | some out => nevAux n (v + 1) out) = true := h
  show (m.any Row.never || match stepS v m with
    | none => false
    | some out => nevAux n (v + 1) out) = true
  rw [hst]
  rcases Bool.or_eq_true _ _ ▸ hh with h5 | h5
  · rw [any_sub hs h5]; rfl
  · cases hsl : stepS v l with
    | none => rw [hsl] at h5; cases h5
    | some o =>
      rw [hsl] at h5
      have hpl := pairs_len v (downOf v m) (upOf v m)
      have := next o (restOf v m ++ pairs v (upOf v m) (downOf v m)) (step_bd hb hd hv hbd) (by rw [List.length_append]; omega) (step_sub hs hsl) h5
      show (m.any Row.never || nevAux n (v + 1) _) = true
      rw [this, Bool.or_true]
theorem count5 (u d r : Nat) (h : u + d + r ≤ 5) : r + u * d ≤ 6 := by
  have : u = 0 ∨ u = 1 ∨ u = 2 ∨ u = 3 ∨ u = 4 ∨ u = 5 := by omega
  rcases this with rfl | rfl | rfl | rfl | rfl | rfl <;> omega
theorem count6 (u d r : Nat) (h : u + d + r ≤ 6) : r + u * d ≤ 9 := by
  have : u = 0 ∨ u = 1 ∨ u = 2 ∨ u = 3 ∨ u = 4 ∨ u = 5 ∨ u = 6 := by omega
  rcases this with rfl | rfl | rfl | rfl | rfl | rfl | rfl <;> omega
theorem count9 (u d r : Nat) (h : u + d + r ≤ 9) : r + u * d ≤ 20 := by
  have : u = 0 ∨ u = 1 ∨ u = 2 ∨ u = 3 ∨ u = 4 ∨ u = 5 ∨ u = 6 ∨ u = 7 ∨ u = 8 ∨ u = 9 := by omega
  rcases this with rfl | rfl | rfl | rfl | rfl | rfl | rfl | rfl | rfl | rfl <;> omega
theorem never_more {l m : List Row} (hs : Sub l m) (hm : m.length ≤ 5) (hbd : ∀ r ∈ m, Bd 2 3 0 r) (h : neverS l = true) : neverS m = true := by
  have hallm : m.all Row.right = true := List.all_eq_true.2 (fun r hr => (hbd r hr).right (by decide) (by decide))
  have halll : l.all Row.right = true := List.all_eq_true.2 (fun r hr => (hbd r (hs r hr)).right (by decide) (by decide))
  unfold neverS at *
  rw [if_pos halll] at h
  rw [if_pos hallm]
  have hs1 : Sub (l.map Row.tight) (m.map Row.tight) := fun r hr => by
    obtain ⟨q, hq, rfl⟩ := List.mem_map.1 hr
    exact List.mem_map.2 ⟨q, hs q hq, rfl⟩
  have hbd1 : ∀ r ∈ m.map Row.tight, Bd 2 3 0 r := fun r hr => by
    obtain ⟨q, hq, rfl⟩ := List.mem_map.1 hr
    exact (hbd q hq).tight (by decide) (by decide)
  have hl1 : (m.map Row.tight).length ≤ 5 := by rw [List.length_map]; exact hm
  refine nev_step (b := 2) (d := 3) (by decide) (by decide) (by decide) hbd1 (by decide) (by decide) (by decide) (by decide) 6 (by decide) (count5 _ _ _ (Nat.le_trans (parts_len 0 _) hl1)) hs1 h ?_
  intro l2 m2 hbd2 hl2 hs2 h2
  refine nev_step (b := 8) (d := 12) (by decide) (by decide) (by decide) hbd2 (by decide) (by decide) (by decide) (by decide) 9 (by decide) (count6 _ _ _ (Nat.le_trans (parts_len 1 _) hl2)) hs2 h2 ?_
  intro l3 m3 hbd3 hl3 hs3 h3
  refine nev_step (b := 128) (d := 192) (by decide) (by decide) (by decide) hbd3 (by decide) (by decide) (by decide) (by decide) 20 (by decide) (count9 _ _ _ (Nat.le_trans (parts_len 2 _) hl3)) hs3 h3 ?_
  intro l4 m4 hbd4 hl4 hs4 h4
  exact nev_tail (b := 32768) (d := 49152) (by decide) (by decide) (by decide) (by decide) 5 3 l4 m4 (by decide) (by decide) hbd4 (by omega) hs4 h4
end Go.Proofs.Ytfaccdidjhaahaa
