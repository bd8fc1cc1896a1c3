import Derived.Lib.AtoiAll
import Derived.Lib.Itoa
import Derived.Lib.ItoaNum
import Derived.Test.YtihbgppcacaekaaDoorRe
/- PLAIN: numerals, printed and read. -/
namespace Go.Proofs.YtihbgppcacaekaaDoor
open Go Go.Lib

theorem dig_toNat {u : Nat} (h : u < 10) : (UInt8.ofNat (48 + u)).toNat = 48 + u := by
  rw [UInt8.toNat_ofNat']
  omega
theorem dec_digit : ∀ (u : Nat), ∀ c ∈ decDigits u, 48 ≤ c.toNat ∧ c.toNat ≤ 57 := by
  intro u
  induction u using Nat.strongRecOn with
  | _ u ih =>
    intro c hc
    rw [decDigits] at hc
    split at hc
    · rename_i h
      rw [List.mem_singleton] at hc
      subst hc
      rw [dig_toNat h]
      omega
    · rename_i h
      rcases List.mem_append.1 hc with hc | hc
      · exact ih (u / 10) (by omega) c hc
      · rw [List.mem_singleton] at hc
        subst hc
        rw [dig_toNat (by omega)]
        omega
theorem dec_ne (u : Nat) : decDigits u ≠ [] := by
  rw [decDigits]
  split <;> simp
theorem parse_app : ∀ (l : List UInt8) (acc u : Nat) (c : UInt8), parseUint10 acc l = .ok u → parseUint10 acc (l ++ [c]) = parseUint10 u [c]
  | [], acc, u, c, h => by
    simp only [parseUint10] at h
    injection h with h
    subst h
    rfl
  | a :: l, acc, u, c, h => by
    rw [List.cons_append]
    unfold parseUint10 at h ⊢
    split at h
    · rename_i h1
      rw [if_pos h1]
      split at h
      · cases h
      · rename_i h2
        rw [if_neg h2]
        split at h
        · cases h
        · rename_i h3
          rw [if_neg h3]
          exact parse_app l _ u c h
    · cases h
theorem parse_dec : ∀ (u : Nat), u ≤ 1000000000000000 → parseUint10 0 (decDigits u) = .ok u := by
  intro u
  induction u using Nat.strongRecOn with
  | _ u ih =>
    intro hu
    rw [decDigits]
    split
    · rename_i h
      unfold parseUint10
      rw [dig_toNat h, if_pos (by omega), if_neg (by omega), if_neg (by omega)]
      simp [parseUint10]
    · rename_i h
      rw [parse_app _ _ _ _ (ih (u / 10) (by omega) (by omega))]
      unfold parseUint10
      rw [dig_toNat (by omega), if_pos (by omega), if_neg (by omega), if_neg (by omega)]
      simp only [parseUint10]
      congr 1
      omega
theorem atoi_itoa {v : Int} (h : -1000000000000000 ≤ v ∧ v ≤ 1000000000000000) : atoiAll (itoa v) = .ok v := by
  unfold itoa
  split
  · rename_i hn
    unfold atoiAll
    have h1 : parseMag (decDigits v.natAbs) = .ok v.natAbs := by
      unfold parseMag
      rw [if_neg (dec_ne _)]
      exact parse_dec _ (by omega)
    have e45 : UInt8.toNat 45 = 45 := rfl
    simp only [e45]
    rw [if_pos (Or.inr trivial), h1]
    simp only [not_true_eq_false, false_and, if_false, true_and, if_true]
    rw [if_neg (by omega)]
    congr 1
    omega
  · rename_i hn
    have hp := parse_dec v.toNat (by omega)
    have hd := dec_digit v.toNat
    cases hc : decDigits v.toNat with
    | nil => exact absurd hc (dec_ne _)
    | cons c r =>
      rw [hc] at hp hd
      have hcd := hd c (by simp)
      unfold atoiAll
      simp only
      rw [if_neg (by omega)]
      have h1 : parseMag (c :: r) = .ok v.toNat := by
        unfold parseMag
        rw [if_neg (by simp)]
        exact hp
      rw [h1]
      simp only
      rw [if_neg (by omega), if_neg (by omega), if_neg (by omega)]
      congr 1
      omega
/-- what a numeral is made of -/
theorem itoa_char (v : Int) : ∀ c ∈ itoa v, c = 45 ∨ 48 ≤ c.toNat := by
  intro c hc
  unfold itoa at hc
  split at hc
  · rcases List.mem_cons.1 hc with hc | hc
    · exact Or.inl hc
    · exact Or.inr (dec_digit _ c hc).1
  · exact Or.inr (dec_digit _ c hc).1
theorem itoa_byte (v : Int) : ∀ c ∈ itoa v, 33 ≤ c.toNat := by
  intro c hc
  rcases itoa_char v c hc with rfl | h
  · decide
  · omega
end Go.Proofs.YtihbgppcacaekaaDoor
/- PLAIN: what is printed is read as it; what is read is printed as it. -/
namespace Go.Proofs.YtihbgppcacaekaaDoor
open Go Go.Lib

def bA (l : List UInt8) : ByteArray := ⟨l.toArray⟩
theorem bA_list (s : ByteArray) : bA s.data.toList = s := rfl
theorem list_bA (l : List UInt8) : (bA l).data.toList = l := rfl
def partL (l : Ln) (p : UInt8) : List UInt8 := if p = 116 then l.text.data.toList else if p = 111 then (nm (l.n - 1).toNat).data.toList else itoa (l.get p)
def lineL (l : Ln) : List UInt8 := (shp l.op).1 ++ (shp l.op).2.flatMap (fun p => 32 :: partL l p)
def headL (o : Ob) : List UInt8 := objectB.data.toList ++ 32 :: (o.name.data.toList ++ 32 :: (itoa o.slots ++ 32 :: itoa o.frame))
def printL (o : Ob) : List UInt8 := headL o ++ 10 :: o.lines.flatMap (fun l => lineL l ++ [10])
/-- no byte below 33 -/
def Hi (a : List UInt8) : Prop := ∀ c ∈ a, 33 ≤ c.toNat
theorem Hi.not {a : List UInt8} (h : Hi a) {c : UInt8} (hc : c.toNat < 33) : c ∉ a := fun hm => by have := h c hm; omega
theorem named_hi {a : List UInt8} (h : namedL a = true) : Hi a := fun c hc => by
  unfold namedL at h
  rw [Bool.and_eq_true] at h
  simpa using List.all_eq_true.1 h.2 c hc
theorem splt_cons (c x : UInt8) (s : List UInt8) : splt c (x :: s) = if x = c then [] :: splt c s else match splt c s with
    | h :: t => (x :: h) :: t
    | [] => [[x]] := rfl
theorem splt_nosep (c : UInt8) : ∀ a : List UInt8, c ∉ a → splt c a = [a]
  | [], _ => rfl
  | x :: a, h => by
    unfold splt
    rw [if_neg (fun e => h (by rw [e]; simp)), splt_nosep c a (fun hm => h (by simp [hm]))]
theorem splt_app (c : UInt8) : ∀ (a rest : List UInt8), c ∉ a → splt c (a ++ c :: rest) = a :: splt c rest
  | [], rest, _ => by
    show splt c (c :: rest) = _
    conv => lhs; unfold splt
    rw [if_pos rfl]
  | x :: a, rest, h => by
    rw [List.cons_append, splt_cons, if_neg (fun e => h (by rw [e]; simp)), splt_app c a rest (fun hm => h (by simp [hm]))]
theorem splt_words (c : UInt8) {α : Type} (f : α → List UInt8) : ∀ (ps : List α) (a : List UInt8), c ∉ a → (∀ p ∈ ps, c ∉ f p) → splt c (a ++ ps.flatMap (fun p => c :: f p)) = a :: ps.map f
  | [], a, h, _ => by
    rw [List.flatMap_nil, List.append_nil]
    exact splt_nosep c a h
  | p :: ps, a, h, hp => by
    rw [List.flatMap_cons, List.cons_append, splt_app c a _ h, splt_words c f ps (f p) (hp p (by simp)) (fun q hq => hp q (by simp [hq]))]
    rfl
theorem splt_lines (c : UInt8) {α : Type} (f : α → List UInt8) : ∀ (ps : List α), (∀ p ∈ ps, c ∉ f p) → splt c (ps.flatMap (fun p => f p ++ [c])) = ps.map f ++ [[]]
  | [], _ => rfl
  | p :: ps, h => by
    rw [List.flatMap_cons, List.append_assoc, List.singleton_append, splt_app c _ _ (h p (by simp)), splt_lines c f ps (fun q hq => h q (by simp [hq]))]
    rfl
def joinS (c : UInt8) : List (List UInt8) → List UInt8
  | [] => []
  | [a] => a
  | a :: b :: t => a ++ c :: joinS c (b :: t)
theorem joinS_words (c : UInt8) : ∀ (t : List (List UInt8)) (a : List UInt8), joinS c (a :: t) = a ++ t.flatMap (fun p => c :: p)
  | [], a => by simp [joinS]
  | b :: t, a => by
    show a ++ c :: joinS c (b :: t) = _
    rw [joinS_words c t b]
    simp
theorem joinS_splt (c : UInt8) : ∀ s : List UInt8, joinS c (splt c s) = s
  | [] => rfl
  | x :: s => by
    have ih := joinS_splt c s
    cases e : splt c s with
    | nil => exact absurd e (splt_ne c s)
    | cons h t =>
      rw [e] at ih
      by_cases hx : x = c
      · have e2 : splt c (x :: s) = [] :: h :: t := by unfold splt; rw [if_pos hx, e]
        rw [e2, joinS, ih, hx]
        rfl
      · have e2 : splt c (x :: s) = (x :: h) :: t := by unfold splt; rw [if_neg hx, e]
        rw [e2, joinS_words, List.cons_append, ← joinS_words, ih]
theorem numF_itoa {v : Int} (h : -1000000000000000 ≤ v ∧ v ≤ 1000000000000000) : numF (bA (itoa v)) = (v, true) := by
  unfold numF
  rw [list_bA, atoi_itoa h]
  simp
theorem numF_ok {s : ByteArray} (h : (numF s).2 = true) : itoa (numF s).1 = s.data.toList := by
  unfold numF at h ⊢
  split at h
  · simpa using h
  · cases h
  · cases h
theorem opOf_nm {i : Nat} (h : i < 23) : opOf (nm i) = i + 1 := (opOf_found (nm i)).same (Or.inr ⟨by omega, by omega, rfl⟩)
theorem nm_opOf {s : ByteArray} (h : 0 < opOf s) : nm (opOf s - 1) = s ∧ opOf s ≤ 23 := by
  rcases opOf_found s with ⟨h0, _⟩ | ⟨_, h1, h2⟩
  · omega
  · exact ⟨h2, h1⟩
theorem nm_hi_all : (List.range 23).all (fun i => (nm i).data.toList.all fun c => decide (33 ≤ c.toNat)) = true := by decide +kernel
theorem nm_hi {i : Nat} (h : i < 23) : Hi (nm i).data.toList := fun c hc => by
  simpa using List.all_eq_true.1 (List.all_eq_true.1 nm_hi_all i (List.mem_range.2 h)) c hc
theorem shp_hi_all : (List.range 18).all (fun k => (shp (k + 1)).1.all fun c => decide (33 ≤ c.toNat)) = true := by decide +kernel
theorem shp_diff_all : (List.range 18).all (fun k => (List.range 18).all fun j => decide (j = k) || !decide ((shp (j + 1)).1 = (shp (k + 1)).1)) = true := by decide +kernel
theorem shp_hi {k : Nat} (h : k < 18) : Hi (shp ((k : Int) + 1)).1 := fun c hc => by
  simpa using List.all_eq_true.1 (List.all_eq_true.1 shp_hi_all k (List.mem_range.2 h)) c hc
theorem shp_diff {j k : Nat} (hj : j < 18) (hk : k < 18) (h : j ≠ k) : (shp ((j : Int) + 1)).1 ≠ (shp ((k : Int) + 1)).1 := by
  have := List.all_eq_true.1 (List.all_eq_true.1 shp_diff_all k (List.mem_range.2 hk)) j (List.mem_range.2 hj)
  rcases Bool.or_eq_true _ _ ▸ this with h1 | h1
  · exact absurd (of_decide_eq_true h1) h
  · simpa using h1
/-- the words of a line that was printed fit its operation -/
theorem fit_printed {k : Nat} (hk : k < 18) (ws : List ByteArray) (hl : ws.length = (shp ((k : Int) + 1)).2.length) : opFit (bA (shp ((k : Int) + 1)).1 :: ws) = some k := by
  refine opFit_some hk ?_ fun j hj => ?_
  · unfold fitsB
    rw [decide_eq_true (show (⟨(shp ((k : Int) + 1)).1.toArray⟩ : ByteArray) = (bA (shp ((k : Int) + 1)).1 :: ws).headD ⟨#[]⟩ from rfl), decide_eq_true (by simp [hl])]
    rfl
  · unfold fitsB
    rw [decide_eq_false (fun e => shp_diff (j := j) (k := k) (by omega) hk (by omega) (by
      have e2 : (⟨(shp ((j : Int) + 1)).1.toArray⟩ : ByteArray) = bA (shp ((k : Int) + 1)).1 := e
      exact congrArg (fun s : ByteArray => s.data.toList) e2))]
    rfl
/-- what a right line's parts are -/
theorem okP_num {p : UInt8} {v : Int} (h1 : p ≠ 116) (h2 : p ≠ 111) (h : -1000000000000000 ≤ v ∧ v ≤ 1000000000000000) : okP p (bA (itoa v)) = true := by
  unfold okP
  rw [if_neg h1, if_neg h2, numF_itoa h]
theorem setP_num (l : Ln) {p : UInt8} {v : Int} (h1 : p ≠ 116) (h2 : p ≠ 111) (h : -1000000000000000 ≤ v ∧ v ≤ 1000000000000000) : setP l p (bA (itoa v)) = l.set p v := by
  unfold setP
  rw [if_neg h1, if_neg h2, numF_itoa h]
theorem okP_op {n : Int} (h : 1 ≤ n ∧ n ≤ 23) : okP 111 (bA (nm (n - 1).toNat).data.toList) = true := by
  unfold okP
  rw [if_neg (by decide), if_pos rfl, bA_list, opOf_nm (by omega)]
  simp
theorem setP_op (l : Ln) {n : Int} (h : 1 ≤ n ∧ n ≤ 23) : setP l 111 (bA (nm (n - 1).toNat).data.toList) = { l with n := n } := by
  unfold setP
  rw [if_neg (by decide), if_pos rfl, bA_list, opOf_nm (by omega)]
  congr 1
  omega
theorem okP_text {s : ByteArray} (h : namedL s.data.toList = true) : okP 116 (bA s.data.toList) = true := h
theorem empty_text {s : ByteArray} (h : s.data.toList.isEmpty = true) : s = ByteArray.empty := by
  cases s with
  | mk d =>
    cases d with
    | mk l =>
      cases l with
      | nil => rfl
      | cons a t => cases h
/-- a line's parts, by its operation -/
theorem rightO_prt {o : Ob} (h : rightO o = true) : headOk o = true ∧ ∀ l ∈ o.lines, rightL l o = true := by
  unfold rightO at h
  rw [Bool.and_eq_true, Bool.and_eq_true] at h
  exact ⟨h.1.1, List.all_eq_true.1 h.1.2⟩
theorem head_parts {o : Ob} (h : headOk o = true) : namedL o.name.data.toList = true ∧ (0 ≤ o.slots ∧ o.slots ≤ 4096) ∧ (0 ≤ o.frame ∧ o.frame ≤ 4096) ∧ (1 ≤ o.lines.length ∧ o.lines.length ≤ 65536) := by
  unfold headOk at h
  simp only [Bool.and_eq_true, decide_eq_true_eq] at h
  exact ⟨h.1.1.1, h.1.1.2, h.1.2, h.2⟩
theorem reg_bd {l : Ln} {p : UInt8} (hp : isReg p = true) (h : partOk l p = true) : 0 ≤ l.get p ∧ l.get p < 8 := by
  unfold partOk at h
  rw [hp] at h
  have hne : p ≠ 116 := by
    rintro rfl
    cases hp
  simp [hne] at h
  exact h
theorem line_ok {l : Ln} {o : Ob} (h : rightL l o = true) (hh : headOk o = true) :
    ∃ k : Nat, k < 18 ∧ l.op = (k : Int) + 1 ∧ ((shp ((k : Int) + 1)).2.all fun p => okP p (bA (partL l p))) = true ∧ foldP { Ln.zero with op := (k : Int) + 1 } ((shp ((k : Int) + 1)).2.map fun p => (p, bA (partL l p))) = l ∧ ∀ p ∈ (shp ((k : Int) + 1)).2, Hi (partL l p) := by
  obtain ⟨_, hs, hf, hln⟩ := head_parts hh
  obtain ⟨op, r, a, b, n, t⟩ := l
  unfold rightL at h
  simp only [Bool.and_eq_true] at h
  obtain ⟨⟨⟨⟨h1, h2⟩, h3⟩, h4⟩, h5⟩ := h
  have hop : 1 ≤ op ∧ op ≤ 18 := by
    by_cases hop : 1 ≤ op ∧ op ≤ 18
    · exact hop
    · rw [shp_out hop] at h1
      cases h1
  clear hh h1
  rcases op_cases hop with rfl | rfl | rfl | rfl | rfl | rfl | rfl | rfl | rfl | rfl | rfl | rfl | rfl | rfl | rfl | rfl | rfl | rfl
  · refine ⟨0, by decide, rfl, ?_⟩
    have hb : (⟨0, 0, a, b, 0, ByteArray.empty⟩ : Ln) = Ln.zero := of_decide_eq_true h4
    unfold Ln.zero at hb
    injection hb with b0 b1 b2 b3 b4 b5
    have ea : a = 0 := b2
    have eb : b = 0 := b3
    have ht : t = ByteArray.empty := empty_text h2
    have hr : 0 ≤ r ∧ r < 8 := reg_bd (l := ⟨1, r, a, b, n, t⟩) (p := 114) rfl (List.all_eq_true.1 h3 114 (by decide))
    have hn : -2147483648 ≤ n ∧ n < 2147483648 := of_decide_eq_true h5
    subst ea
    subst eb
    subst ht
    refine ⟨?_, ?_, ?_⟩
    · show (okP 114 (bA (itoa r)) && (okP 110 (bA (itoa n)) && true)) = true
      rw [show okP 114 (bA (itoa r)) = true from okP_num (by decide) (by decide) (by omega), show okP 110 (bA (itoa n)) = true from okP_num (by decide) (by decide) (by omega)]
      all_goals rfl
    · show setP (setP ({ Ln.zero with op := ((0 : Nat) : Int) + 1 }) 114 (bA (itoa r))) 110 (bA (itoa n)) = _
      rw [setP_num _ (p := 114) (v := r) (by decide) (by decide) (by omega), setP_num _ (p := 110) (v := n) (by decide) (by decide) (by omega)]
      rfl
    · intro p hp
      have hp' : p ∈ ([114, 110] : List UInt8) := hp
      simp only [List.mem_cons, List.not_mem_nil, or_false] at hp'
      rcases hp' with rfl | rfl
      · exact itoa_byte _
      · exact itoa_byte _
  · refine ⟨1, by decide, rfl, ?_⟩
    have hb : (⟨0, 0, 0, b, 0, ByteArray.empty⟩ : Ln) = Ln.zero := of_decide_eq_true h4
    unfold Ln.zero at hb
    injection hb with b0 b1 b2 b3 b4 b5
    have eb : b = 0 := b3
    have ht : t = ByteArray.empty := empty_text h2
    have hr : 0 ≤ r ∧ r < 8 := reg_bd (l := ⟨2, r, a, b, n, t⟩) (p := 114) rfl (List.all_eq_true.1 h3 114 (by decide))
    have ha : 0 ≤ a ∧ a < 8 := reg_bd (l := ⟨2, r, a, b, n, t⟩) (p := 97) rfl (List.all_eq_true.1 h3 97 (by decide))
    have hn : 20 ≤ n ∧ n ≤ 23 := of_decide_eq_true h5
    subst eb
    subst ht
    refine ⟨?_, ?_, ?_⟩
    · show (okP 114 (bA (itoa r)) && (okP 97 (bA (itoa a)) && (okP 111 (bA (nm (n - 1).toNat).data.toList) && true))) = true
      rw [show okP 114 (bA (itoa r)) = true from okP_num (by decide) (by decide) (by omega), show okP 97 (bA (itoa a)) = true from okP_num (by decide) (by decide) (by omega), show okP 111 (bA (nm (n - 1).toNat).data.toList) = true from okP_op (by omega)]
      all_goals rfl
    · show setP (setP (setP ({ Ln.zero with op := ((1 : Nat) : Int) + 1 }) 114 (bA (itoa r))) 97 (bA (itoa a))) 111 (bA (nm (n - 1).toNat).data.toList) = _
      rw [setP_num _ (p := 114) (v := r) (by decide) (by decide) (by omega), setP_num _ (p := 97) (v := a) (by decide) (by decide) (by omega), setP_op _ (n := n) (by omega)]
      rfl
    · intro p hp
      have hp' : p ∈ ([114, 97, 111] : List UInt8) := hp
      simp only [List.mem_cons, List.not_mem_nil, or_false] at hp'
      rcases hp' with rfl | rfl | rfl
      · exact itoa_byte _
      · exact itoa_byte _
      · exact nm_hi (i := (n - 1).toNat) (by omega)
  · refine ⟨2, by decide, rfl, ?_⟩
    have hb : (⟨0, 0, 0, 0, 0, ByteArray.empty⟩ : Ln) = Ln.zero := of_decide_eq_true h4
    unfold Ln.zero at hb
    injection hb with b0 b1 b2 b3 b4 b5
    have ht : t = ByteArray.empty := empty_text h2
    have hr : 0 ≤ r ∧ r < 8 := reg_bd (l := ⟨3, r, a, b, n, t⟩) (p := 114) rfl (List.all_eq_true.1 h3 114 (by decide))
    have ha : 0 ≤ a ∧ a < 8 := reg_bd (l := ⟨3, r, a, b, n, t⟩) (p := 97) rfl (List.all_eq_true.1 h3 97 (by decide))
    have hb : 0 ≤ b ∧ b < 8 := reg_bd (l := ⟨3, r, a, b, n, t⟩) (p := 98) rfl (List.all_eq_true.1 h3 98 (by decide))
    have hn : 1 ≤ n ∧ n ≤ 19 := of_decide_eq_true h5
    subst ht
    refine ⟨?_, ?_, ?_⟩
    · show (okP 114 (bA (itoa r)) && (okP 97 (bA (itoa a)) && (okP 98 (bA (itoa b)) && (okP 111 (bA (nm (n - 1).toNat).data.toList) && true)))) = true
      rw [show okP 114 (bA (itoa r)) = true from okP_num (by decide) (by decide) (by omega), show okP 97 (bA (itoa a)) = true from okP_num (by decide) (by decide) (by omega), show okP 98 (bA (itoa b)) = true from okP_num (by decide) (by decide) (by omega), show okP 111 (bA (nm (n - 1).toNat).data.toList) = true from okP_op (by omega)]
      all_goals rfl
    · show setP (setP (setP (setP ({ Ln.zero with op := ((2 : Nat) : Int) + 1 }) 114 (bA (itoa r))) 97 (bA (itoa a))) 98 (bA (itoa b))) 111 (bA (nm (n - 1).toNat).data.toList) = _
      rw [setP_num _ (p := 114) (v := r) (by decide) (by decide) (by omega), setP_num _ (p := 97) (v := a) (by decide) (by decide) (by omega), setP_num _ (p := 98) (v := b) (by decide) (by decide) (by omega), setP_op _ (n := n) (by omega)]
      rfl
    · intro p hp
      have hp' : p ∈ ([114, 97, 98, 111] : List UInt8) := hp
      simp only [List.mem_cons, List.not_mem_nil, or_false] at hp'
      rcases hp' with rfl | rfl | rfl | rfl
      · exact itoa_byte _
      · exact itoa_byte _
      · exact itoa_byte _
      · exact nm_hi (i := (n - 1).toNat) (by omega)
  · refine ⟨3, by decide, rfl, ?_⟩
    have hb : (⟨0, 0, 0, b, n, ByteArray.empty⟩ : Ln) = Ln.zero := of_decide_eq_true h4
    unfold Ln.zero at hb
    injection hb with b0 b1 b2 b3 b4 b5
    have eb : b = 0 := b3
    have en : n = 0 := b4
    have ht : t = ByteArray.empty := empty_text h2
    have hr : 0 ≤ r ∧ r < 8 := reg_bd (l := ⟨4, r, a, b, n, t⟩) (p := 114) rfl (List.all_eq_true.1 h3 114 (by decide))
    have ha : 0 ≤ a ∧ a < 8 := reg_bd (l := ⟨4, r, a, b, n, t⟩) (p := 97) rfl (List.all_eq_true.1 h3 97 (by decide))
    subst eb
    subst en
    subst ht
    refine ⟨?_, ?_, ?_⟩
    · show (okP 114 (bA (itoa r)) && (okP 97 (bA (itoa a)) && true)) = true
      rw [show okP 114 (bA (itoa r)) = true from okP_num (by decide) (by decide) (by omega), show okP 97 (bA (itoa a)) = true from okP_num (by decide) (by decide) (by omega)]
      all_goals rfl
    · show setP (setP ({ Ln.zero with op := ((3 : Nat) : Int) + 1 }) 114 (bA (itoa r))) 97 (bA (itoa a)) = _
      rw [setP_num _ (p := 114) (v := r) (by decide) (by decide) (by omega), setP_num _ (p := 97) (v := a) (by decide) (by decide) (by omega)]
      rfl
    · intro p hp
      have hp' : p ∈ ([114, 97] : List UInt8) := hp
      simp only [List.mem_cons, List.not_mem_nil, or_false] at hp'
      rcases hp' with rfl | rfl
      · exact itoa_byte _
      · exact itoa_byte _
  · refine ⟨4, by decide, rfl, ?_⟩
    have hb : (⟨0, 0, a, b, 0, ByteArray.empty⟩ : Ln) = Ln.zero := of_decide_eq_true h4
    unfold Ln.zero at hb
    injection hb with b0 b1 b2 b3 b4 b5
    have ea : a = 0 := b2
    have eb : b = 0 := b3
    have ht : t = ByteArray.empty := empty_text h2
    have hr : 0 ≤ r ∧ r < 8 := reg_bd (l := ⟨5, r, a, b, n, t⟩) (p := 114) rfl (List.all_eq_true.1 h3 114 (by decide))
    have hn : 0 ≤ n ∧ n ≤ o.frame := of_decide_eq_true h5
    subst ea
    subst eb
    subst ht
    refine ⟨?_, ?_, ?_⟩
    · show (okP 114 (bA (itoa r)) && (okP 110 (bA (itoa n)) && true)) = true
      rw [show okP 114 (bA (itoa r)) = true from okP_num (by decide) (by decide) (by omega), show okP 110 (bA (itoa n)) = true from okP_num (by decide) (by decide) (by omega)]
      all_goals rfl
    · show setP (setP ({ Ln.zero with op := ((4 : Nat) : Int) + 1 }) 114 (bA (itoa r))) 110 (bA (itoa n)) = _
      rw [setP_num _ (p := 114) (v := r) (by decide) (by decide) (by omega), setP_num _ (p := 110) (v := n) (by decide) (by decide) (by omega)]
      rfl
    · intro p hp
      have hp' : p ∈ ([114, 110] : List UInt8) := hp
      simp only [List.mem_cons, List.not_mem_nil, or_false] at hp'
      rcases hp' with rfl | rfl
      · exact itoa_byte _
      · exact itoa_byte _
  · refine ⟨5, by decide, rfl, ?_⟩
    have hb : (⟨0, 0, 0, b, n, ByteArray.empty⟩ : Ln) = Ln.zero := of_decide_eq_true h4
    unfold Ln.zero at hb
    injection hb with b0 b1 b2 b3 b4 b5
    have eb : b = 0 := b3
    have en : n = 0 := b4
    have ht : t = ByteArray.empty := empty_text h2
    have hr : 0 ≤ r ∧ r < 8 := reg_bd (l := ⟨6, r, a, b, n, t⟩) (p := 114) rfl (List.all_eq_true.1 h3 114 (by decide))
    have ha : 0 ≤ a ∧ a < 8 := reg_bd (l := ⟨6, r, a, b, n, t⟩) (p := 97) rfl (List.all_eq_true.1 h3 97 (by decide))
    subst eb
    subst en
    subst ht
    refine ⟨?_, ?_, ?_⟩
    · show (okP 114 (bA (itoa r)) && (okP 97 (bA (itoa a)) && true)) = true
      rw [show okP 114 (bA (itoa r)) = true from okP_num (by decide) (by decide) (by omega), show okP 97 (bA (itoa a)) = true from okP_num (by decide) (by decide) (by omega)]
      all_goals rfl
    · show setP (setP ({ Ln.zero with op := ((5 : Nat) : Int) + 1 }) 114 (bA (itoa r))) 97 (bA (itoa a)) = _
      rw [setP_num _ (p := 114) (v := r) (by decide) (by decide) (by omega), setP_num _ (p := 97) (v := a) (by decide) (by decide) (by omega)]
      rfl
    · intro p hp
      have hp' : p ∈ ([114, 97] : List UInt8) := hp
      simp only [List.mem_cons, List.not_mem_nil, or_false] at hp'
      rcases hp' with rfl | rfl
      · exact itoa_byte _
      · exact itoa_byte _
  · refine ⟨6, by decide, rfl, ?_⟩
    have hb : (⟨0, r, 0, 0, n, ByteArray.empty⟩ : Ln) = Ln.zero := of_decide_eq_true h4
    unfold Ln.zero at hb
    injection hb with b0 b1 b2 b3 b4 b5
    have er : r = 0 := b1
    have en : n = 0 := b4
    have ht : t = ByteArray.empty := empty_text h2
    have ha : 0 ≤ a ∧ a < 8 := reg_bd (l := ⟨7, r, a, b, n, t⟩) (p := 97) rfl (List.all_eq_true.1 h3 97 (by decide))
    have hb : 0 ≤ b ∧ b < 8 := reg_bd (l := ⟨7, r, a, b, n, t⟩) (p := 98) rfl (List.all_eq_true.1 h3 98 (by decide))
    subst er
    subst en
    subst ht
    refine ⟨?_, ?_, ?_⟩
    · show (okP 97 (bA (itoa a)) && (okP 98 (bA (itoa b)) && true)) = true
      rw [show okP 97 (bA (itoa a)) = true from okP_num (by decide) (by decide) (by omega), show okP 98 (bA (itoa b)) = true from okP_num (by decide) (by decide) (by omega)]
      all_goals rfl
    · show setP (setP ({ Ln.zero with op := ((6 : Nat) : Int) + 1 }) 97 (bA (itoa a))) 98 (bA (itoa b)) = _
      rw [setP_num _ (p := 97) (v := a) (by decide) (by decide) (by omega), setP_num _ (p := 98) (v := b) (by decide) (by decide) (by omega)]
      rfl
    · intro p hp
      have hp' : p ∈ ([97, 98] : List UInt8) := hp
      simp only [List.mem_cons, List.not_mem_nil, or_false] at hp'
      rcases hp' with rfl | rfl
      · exact itoa_byte _
      · exact itoa_byte _
  · refine ⟨7, by decide, rfl, ?_⟩
    have hb : (⟨0, 0, a, b, 0, ByteArray.empty⟩ : Ln) = Ln.zero := of_decide_eq_true h4
    unfold Ln.zero at hb
    injection hb with b0 b1 b2 b3 b4 b5
    have ea : a = 0 := b2
    have eb : b = 0 := b3
    have ht : t = ByteArray.empty := empty_text h2
    have hr : 0 ≤ r ∧ r < 8 := reg_bd (l := ⟨8, r, a, b, n, t⟩) (p := 114) rfl (List.all_eq_true.1 h3 114 (by decide))
    have hn : 0 ≤ n ∧ n < o.slots := of_decide_eq_true h5
    subst ea
    subst eb
    subst ht
    refine ⟨?_, ?_, ?_⟩
    · show (okP 114 (bA (itoa r)) && (okP 110 (bA (itoa n)) && true)) = true
      rw [show okP 114 (bA (itoa r)) = true from okP_num (by decide) (by decide) (by omega), show okP 110 (bA (itoa n)) = true from okP_num (by decide) (by decide) (by omega)]
      all_goals rfl
    · show setP (setP ({ Ln.zero with op := ((7 : Nat) : Int) + 1 }) 114 (bA (itoa r))) 110 (bA (itoa n)) = _
      rw [setP_num _ (p := 114) (v := r) (by decide) (by decide) (by omega), setP_num _ (p := 110) (v := n) (by decide) (by decide) (by omega)]
      rfl
    · intro p hp
      have hp' : p ∈ ([114, 110] : List UInt8) := hp
      simp only [List.mem_cons, List.not_mem_nil, or_false] at hp'
      rcases hp' with rfl | rfl
      · exact itoa_byte _
      · exact itoa_byte _
  · refine ⟨8, by decide, rfl, ?_⟩
    have hb : (⟨0, r, 0, b, 0, ByteArray.empty⟩ : Ln) = Ln.zero := of_decide_eq_true h4
    unfold Ln.zero at hb
    injection hb with b0 b1 b2 b3 b4 b5
    have er : r = 0 := b1
    have eb : b = 0 := b3
    have ht : t = ByteArray.empty := empty_text h2
    have ha : 0 ≤ a ∧ a < 8 := reg_bd (l := ⟨9, r, a, b, n, t⟩) (p := 97) rfl (List.all_eq_true.1 h3 97 (by decide))
    have hn : 0 ≤ n ∧ n < o.slots := of_decide_eq_true h5
    subst er
    subst eb
    subst ht
    refine ⟨?_, ?_, ?_⟩
    · show (okP 97 (bA (itoa a)) && (okP 110 (bA (itoa n)) && true)) = true
      rw [show okP 97 (bA (itoa a)) = true from okP_num (by decide) (by decide) (by omega), show okP 110 (bA (itoa n)) = true from okP_num (by decide) (by decide) (by omega)]
      all_goals rfl
    · show setP (setP ({ Ln.zero with op := ((8 : Nat) : Int) + 1 }) 97 (bA (itoa a))) 110 (bA (itoa n)) = _
      rw [setP_num _ (p := 97) (v := a) (by decide) (by decide) (by omega), setP_num _ (p := 110) (v := n) (by decide) (by decide) (by omega)]
      rfl
    · intro p hp
      have hp' : p ∈ ([97, 110] : List UInt8) := hp
      simp only [List.mem_cons, List.not_mem_nil, or_false] at hp'
      rcases hp' with rfl | rfl
      · exact itoa_byte _
      · exact itoa_byte _
  · refine ⟨9, by decide, rfl, ?_⟩
    have hb : (⟨0, r, 0, b, 0, ByteArray.empty⟩ : Ln) = Ln.zero := of_decide_eq_true h4
    unfold Ln.zero at hb
    injection hb with b0 b1 b2 b3 b4 b5
    have er : r = 0 := b1
    have eb : b = 0 := b3
    have ht : t = ByteArray.empty := empty_text h2
    have ha : 0 ≤ a ∧ a < 8 := reg_bd (l := ⟨10, r, a, b, n, t⟩) (p := 97) rfl (List.all_eq_true.1 h3 97 (by decide))
    have hn : 0 ≤ n ∧ n < 6 := of_decide_eq_true h5
    subst er
    subst eb
    subst ht
    refine ⟨?_, ?_, ?_⟩
    · show (okP 97 (bA (itoa a)) && (okP 110 (bA (itoa n)) && true)) = true
      rw [show okP 97 (bA (itoa a)) = true from okP_num (by decide) (by decide) (by omega), show okP 110 (bA (itoa n)) = true from okP_num (by decide) (by decide) (by omega)]
      all_goals rfl
    · show setP (setP ({ Ln.zero with op := ((9 : Nat) : Int) + 1 }) 97 (bA (itoa a))) 110 (bA (itoa n)) = _
      rw [setP_num _ (p := 97) (v := a) (by decide) (by decide) (by omega), setP_num _ (p := 110) (v := n) (by decide) (by decide) (by omega)]
      rfl
    · intro p hp
      have hp' : p ∈ ([97, 110] : List UInt8) := hp
      simp only [List.mem_cons, List.not_mem_nil, or_false] at hp'
      rcases hp' with rfl | rfl
      · exact itoa_byte _
      · exact itoa_byte _
  · refine ⟨10, by decide, rfl, ?_⟩
    have hb : (⟨0, 0, a, b, 0, ByteArray.empty⟩ : Ln) = Ln.zero := of_decide_eq_true h4
    unfold Ln.zero at hb
    injection hb with b0 b1 b2 b3 b4 b5
    have ea : a = 0 := b2
    have eb : b = 0 := b3
    have ht : t = ByteArray.empty := empty_text h2
    have hr : 0 ≤ r ∧ r < 8 := reg_bd (l := ⟨11, r, a, b, n, t⟩) (p := 114) rfl (List.all_eq_true.1 h3 114 (by decide))
    have hn : 0 ≤ n ∧ n < 6 := of_decide_eq_true h5
    subst ea
    subst eb
    subst ht
    refine ⟨?_, ?_, ?_⟩
    · show (okP 114 (bA (itoa r)) && (okP 110 (bA (itoa n)) && true)) = true
      rw [show okP 114 (bA (itoa r)) = true from okP_num (by decide) (by decide) (by omega), show okP 110 (bA (itoa n)) = true from okP_num (by decide) (by decide) (by omega)]
      all_goals rfl
    · show setP (setP ({ Ln.zero with op := ((10 : Nat) : Int) + 1 }) 114 (bA (itoa r))) 110 (bA (itoa n)) = _
      rw [setP_num _ (p := 114) (v := r) (by decide) (by decide) (by omega), setP_num _ (p := 110) (v := n) (by decide) (by decide) (by omega)]
      rfl
    · intro p hp
      have hp' : p ∈ ([114, 110] : List UInt8) := hp
      simp only [List.mem_cons, List.not_mem_nil, or_false] at hp'
      rcases hp' with rfl | rfl
      · exact itoa_byte _
      · exact itoa_byte _
  · refine ⟨11, by decide, rfl, ?_⟩
    have hb : (⟨0, r, a, b, n, ByteArray.empty⟩ : Ln) = Ln.zero := of_decide_eq_true h4
    unfold Ln.zero at hb
    injection hb with b0 b1 b2 b3 b4 b5
    have er : r = 0 := b1
    have ea : a = 0 := b2
    have eb : b = 0 := b3
    have en : n = 0 := b4
    have ht : namedL t.data.toList = true := h2
    subst er
    subst ea
    subst eb
    subst en
    refine ⟨?_, ?_, ?_⟩
    · show (okP 116 (bA t.data.toList) && true) = true
      rw [show okP 116 (bA t.data.toList) = true from okP_text ht]
      all_goals rfl
    · show setP ({ Ln.zero with op := ((11 : Nat) : Int) + 1 }) 116 (bA t.data.toList) = _
      rfl
    · intro p hp
      have hp' : p ∈ ([116] : List UInt8) := hp
      simp only [List.mem_cons, List.not_mem_nil, or_false] at hp'
      subst hp'
      exact named_hi ht
  · refine ⟨12, by decide, rfl, ?_⟩
    have hb : (⟨0, 0, a, b, n, ByteArray.empty⟩ : Ln) = Ln.zero := of_decide_eq_true h4
    unfold Ln.zero at hb
    injection hb with b0 b1 b2 b3 b4 b5
    have ea : a = 0 := b2
    have eb : b = 0 := b3
    have en : n = 0 := b4
    have ht : t = ByteArray.empty := empty_text h2
    have hr : 0 ≤ r ∧ r < 8 := reg_bd (l := ⟨13, r, a, b, n, t⟩) (p := 114) rfl (List.all_eq_true.1 h3 114 (by decide))
    subst ea
    subst eb
    subst en
    subst ht
    refine ⟨?_, ?_, ?_⟩
    · show (okP 114 (bA (itoa r)) && true) = true
      rw [show okP 114 (bA (itoa r)) = true from okP_num (by decide) (by decide) (by omega)]
      all_goals rfl
    · show setP ({ Ln.zero with op := ((12 : Nat) : Int) + 1 }) 114 (bA (itoa r)) = _
      rw [setP_num _ (p := 114) (v := r) (by decide) (by decide) (by omega)]
      rfl
    · intro p hp
      have hp' : p ∈ ([114] : List UInt8) := hp
      simp only [List.mem_cons, List.not_mem_nil, or_false] at hp'
      subst hp'
      exact itoa_byte _
  · refine ⟨13, by decide, rfl, ?_⟩
    have hb : (⟨0, 0, a, b, n, ByteArray.empty⟩ : Ln) = Ln.zero := of_decide_eq_true h4
    unfold Ln.zero at hb
    injection hb with b0 b1 b2 b3 b4 b5
    have ea : a = 0 := b2
    have eb : b = 0 := b3
    have en : n = 0 := b4
    have ht : t = ByteArray.empty := empty_text h2
    have hr : 0 ≤ r ∧ r < 8 := reg_bd (l := ⟨14, r, a, b, n, t⟩) (p := 114) rfl (List.all_eq_true.1 h3 114 (by decide))
    subst ea
    subst eb
    subst en
    subst ht
    refine ⟨?_, ?_, ?_⟩
    · show (okP 114 (bA (itoa r)) && true) = true
      rw [show okP 114 (bA (itoa r)) = true from okP_num (by decide) (by decide) (by omega)]
      all_goals rfl
    · show setP ({ Ln.zero with op := ((13 : Nat) : Int) + 1 }) 114 (bA (itoa r)) = _
      rw [setP_num _ (p := 114) (v := r) (by decide) (by decide) (by omega)]
      rfl
    · intro p hp
      have hp' : p ∈ ([114] : List UInt8) := hp
      simp only [List.mem_cons, List.not_mem_nil, or_false] at hp'
      subst hp'
      exact itoa_byte _
  · refine ⟨14, by decide, rfl, ?_⟩
    have hb : (⟨0, r, 0, b, n, ByteArray.empty⟩ : Ln) = Ln.zero := of_decide_eq_true h4
    unfold Ln.zero at hb
    injection hb with b0 b1 b2 b3 b4 b5
    have er : r = 0 := b1
    have eb : b = 0 := b3
    have en : n = 0 := b4
    have ht : t = ByteArray.empty := empty_text h2
    have ha : 0 ≤ a ∧ a < 8 := reg_bd (l := ⟨15, r, a, b, n, t⟩) (p := 97) rfl (List.all_eq_true.1 h3 97 (by decide))
    subst er
    subst eb
    subst en
    subst ht
    refine ⟨?_, ?_, ?_⟩
    · show (okP 97 (bA (itoa a)) && true) = true
      rw [show okP 97 (bA (itoa a)) = true from okP_num (by decide) (by decide) (by omega)]
      all_goals rfl
    · show setP ({ Ln.zero with op := ((14 : Nat) : Int) + 1 }) 97 (bA (itoa a)) = _
      rw [setP_num _ (p := 97) (v := a) (by decide) (by decide) (by omega)]
      rfl
    · intro p hp
      have hp' : p ∈ ([97] : List UInt8) := hp
      simp only [List.mem_cons, List.not_mem_nil, or_false] at hp'
      subst hp'
      exact itoa_byte _
  · refine ⟨15, by decide, rfl, ?_⟩
    have hb : (⟨0, r, a, b, 0, ByteArray.empty⟩ : Ln) = Ln.zero := of_decide_eq_true h4
    unfold Ln.zero at hb
    injection hb with b0 b1 b2 b3 b4 b5
    have er : r = 0 := b1
    have ea : a = 0 := b2
    have eb : b = 0 := b3
    have ht : t = ByteArray.empty := empty_text h2
    have hn : 0 ≤ n ∧ n < o.lines.length := of_decide_eq_true h5
    subst er
    subst ea
    subst eb
    subst ht
    refine ⟨?_, ?_, ?_⟩
    · show (okP 110 (bA (itoa n)) && true) = true
      rw [show okP 110 (bA (itoa n)) = true from okP_num (by decide) (by decide) (by omega)]
      all_goals rfl
    · show setP ({ Ln.zero with op := ((15 : Nat) : Int) + 1 }) 110 (bA (itoa n)) = _
      rw [setP_num _ (p := 110) (v := n) (by decide) (by decide) (by omega)]
      rfl
    · intro p hp
      have hp' : p ∈ ([110] : List UInt8) := hp
      simp only [List.mem_cons, List.not_mem_nil, or_false] at hp'
      subst hp'
      exact itoa_byte _
  · refine ⟨16, by decide, rfl, ?_⟩
    have hb : (⟨0, r, 0, b, 0, ByteArray.empty⟩ : Ln) = Ln.zero := of_decide_eq_true h4
    unfold Ln.zero at hb
    injection hb with b0 b1 b2 b3 b4 b5
    have er : r = 0 := b1
    have eb : b = 0 := b3
    have ht : t = ByteArray.empty := empty_text h2
    have ha : 0 ≤ a ∧ a < 8 := reg_bd (l := ⟨17, r, a, b, n, t⟩) (p := 97) rfl (List.all_eq_true.1 h3 97 (by decide))
    have hn : 0 ≤ n ∧ n < o.lines.length := of_decide_eq_true h5
    subst er
    subst eb
    subst ht
    refine ⟨?_, ?_, ?_⟩
    · show (okP 97 (bA (itoa a)) && (okP 110 (bA (itoa n)) && true)) = true
      rw [show okP 97 (bA (itoa a)) = true from okP_num (by decide) (by decide) (by omega), show okP 110 (bA (itoa n)) = true from okP_num (by decide) (by decide) (by omega)]
      all_goals rfl
    · show setP (setP ({ Ln.zero with op := ((16 : Nat) : Int) + 1 }) 97 (bA (itoa a))) 110 (bA (itoa n)) = _
      rw [setP_num _ (p := 97) (v := a) (by decide) (by decide) (by omega), setP_num _ (p := 110) (v := n) (by decide) (by decide) (by omega)]
      rfl
    · intro p hp
      have hp' : p ∈ ([97, 110] : List UInt8) := hp
      simp only [List.mem_cons, List.not_mem_nil, or_false] at hp'
      rcases hp' with rfl | rfl
      · exact itoa_byte _
      · exact itoa_byte _
  · refine ⟨17, by decide, rfl, ?_⟩
    have hb : (⟨0, r, 0, b, n, ByteArray.empty⟩ : Ln) = Ln.zero := of_decide_eq_true h4
    unfold Ln.zero at hb
    injection hb with b0 b1 b2 b3 b4 b5
    have er : r = 0 := b1
    have eb : b = 0 := b3
    have en : n = 0 := b4
    have ht : t = ByteArray.empty := empty_text h2
    have ha : 0 ≤ a ∧ a < 8 := reg_bd (l := ⟨18, r, a, b, n, t⟩) (p := 97) rfl (List.all_eq_true.1 h3 97 (by decide))
    subst er
    subst eb
    subst en
    subst ht
    refine ⟨?_, ?_, ?_⟩
    · show (okP 97 (bA (itoa a)) && true) = true
      rw [show okP 97 (bA (itoa a)) = true from okP_num (by decide) (by decide) (by omega)]
      all_goals rfl
    · show setP ({ Ln.zero with op := ((17 : Nat) : Int) + 1 }) 97 (bA (itoa a)) = _
      rw [setP_num _ (p := 97) (v := a) (by decide) (by decide) (by omega)]
      rfl
    · intro p hp
      have hp' : p ∈ ([97] : List UInt8) := hp
      simp only [List.mem_cons, List.not_mem_nil, or_false] at hp'
      subst hp'
      exact itoa_byte _
theorem zip_map {α β : Type} (f : α → β) : ∀ l : List α, l.zip (l.map f) = l.map fun x => (x, f x)
  | [] => rfl
  | a :: l => by simp [zip_map f l]
theorem line_back {l : Ln} {o : Ob} (h : rightL l o = true) (hh : headOk o = true) : lineF (bA (lineL l)) = some l ∧ 10 ∉ lineL l := by
  obtain ⟨k, hk, hop, hok, hfo, hhi⟩ := line_ok h hh
  have hl : lineL l = (shp ((k : Int) + 1)).1 ++ (shp ((k : Int) + 1)).2.flatMap (fun p => 32 :: partL l p) := by unfold lineL; rw [hop]
  constructor
  · unfold lineF
    have hw : spB 32 (bA (lineL l)) = bA (shp ((k : Int) + 1)).1 :: (shp ((k : Int) + 1)).2.map (fun p => bA (partL l p)) := by
      unfold spB
      rw [list_bA, hl, splt_words 32 (partL l) _ _ ((shp_hi hk).not (by decide)) (fun p hp => (hhi p hp).not (by decide))]
      simp [bA]
    rw [hw]
    unfold lineW
    rw [fit_printed hk _ (by simp)]
    simp only [List.tail_cons, zip_map]
    rw [if_pos (by rw [List.all_map]; exact hok), hfo]
  · rw [hl]
    intro hm
    rcases List.mem_append.1 hm with hm | hm
    · exact (shp_hi hk).not (by decide) hm
    · obtain ⟨p, hp, hm⟩ := List.mem_flatMap.1 hm
      rcases List.mem_cons.1 hm with hm | hm
      · cases hm
      · exact (hhi p hp).not (by decide) hm
theorem good_all : ∀ l : List ByteArray, (∀ x ∈ l, (lineF x).isSome = true) → goodN l = l.length
  | [], _ => rfl
  | x :: t, h => by
    unfold goodN
    rw [h x (by simp), if_pos rfl, good_all t (fun y hy => h y (by simp [hy]))]
    rfl
theorem head_back {o : Ob} (h : headOk o = true) : headW (bA (headL o)) = some (o.name, o.slots, o.frame) ∧ 10 ∉ headL o := by
  obtain ⟨hn, hs, hf, _⟩ := head_parts h
  have ho : Hi objectB.data.toList := by
    have : objectB.data.toList.all (fun c => decide (33 ≤ c.toNat)) = true := by decide
    exact fun c hc => by simpa using List.all_eq_true.1 this c hc
  have hn2 := named_hi hn
  have hs2 : Hi (itoa o.slots) := itoa_byte _
  have hf2 : Hi (itoa o.frame) := itoa_byte _
  constructor
  · have e : spB 32 (bA (headL o)) = [objectB, o.name, bA (itoa o.slots), bA (itoa o.frame)] := by
      unfold spB headL
      rw [list_bA, splt_app 32 _ _ (ho.not (by decide)), splt_app 32 _ _ (hn2.not (by decide)), splt_app 32 _ _ (hs2.not (by decide)), splt_nosep 32 _ (hf2.not (by decide))]
      rfl
    unfold headW
    rw [e]
    simp only
    rw [numF_itoa (by omega), numF_itoa (by omega), if_pos (by simp [hn])]
  · unfold headL
    intro hm
    rcases List.mem_append.1 hm with hm | hm
    · exact ho.not (by decide) hm
    rcases List.mem_cons.1 hm with hm | hm
    · cases hm
    rcases List.mem_append.1 hm with hm | hm
    · exact hn2.not (by decide) hm
    rcases List.mem_cons.1 hm with hm | hm
    · cases hm
    rcases List.mem_append.1 hm with hm | hm
    · exact hs2.not (by decide) hm
    rcases List.mem_cons.1 hm with hm | hm
    · cases hm
    · exact hf2.not (by decide) hm
/-- a right object is printed as a text that is read as it -/
theorem print_read {o : Ob} (h : rightO o = true) : readF (bA (printL o)) = (o, 0, 0) := by
  obtain ⟨hh, hl⟩ := rightO_prt h
  obtain ⟨hw, h10⟩ := head_back hh
  have e : spB 10 (bA (printL o)) = bA (headL o) :: (o.lines.map (fun l => bA (lineL l)) ++ [⟨#[]⟩]) := by
    unfold spB printL
    rw [list_bA, splt_app 10 _ _ h10, splt_lines 10 lineL _ (fun l hm => (line_back (hl l hm) hh).2)]
    simp [bA]
  unfold readF
  rw [e]
  have hs : ∀ x ∈ o.lines.map (fun l => bA (lineL l)), (lineF x).isSome = true := fun x hx => by
    obtain ⟨l, hm, rfl⟩ := List.mem_map.1 hx
    rw [(line_back (hl l hm) hh).1]
    rfl
  have hm : (o.lines.map (fun l => bA (lineL l))).map lnD = o.lines := by
    rw [List.map_map]
    conv => rhs; rw [← List.map_id o.lines]
    apply List.map_congr_left
    intro l hm
    show lnD (bA (lineL l)) = l
    unfold lnD
    rw [(line_back (hl l hm) hh).1]
    rfl
  rw [readL_body _ _ _ hw, if_neg (by rw [good_all _ hs]; omega), hm, if_pos h]
end Go.Proofs.YtihbgppcacaekaaDoor
/- PLAIN: the bounds of a right line's parts. -/
namespace Go.Proofs.YtihbgppcacaekaaDoor
open Go Go.Lib

theorem line_bd {l : Ln} {o : Ob} (h : rightL l o = true) (hh : headOk o = true) : ∀ p ∈ (shp l.op).2, (p = 111 → 1 ≤ l.n ∧ l.n ≤ 23) ∧ (p ≠ 111 → p ≠ 116 → -1000000000000000 ≤ l.get p ∧ l.get p ≤ 1000000000000000) := by
  obtain ⟨_, hs, hf, hln⟩ := head_parts hh
  obtain ⟨op, r, a, b, n, t⟩ := l
  unfold rightL at h
  simp only [Bool.and_eq_true] at h
  obtain ⟨⟨⟨⟨h1, h2⟩, h3⟩, h4⟩, h5⟩ := h
  have hop : 1 ≤ op ∧ op ≤ 18 := by
    by_cases hop : 1 ≤ op ∧ op ≤ 18
    · exact hop
    · rw [shp_out hop] at h1
      cases h1
  clear hh h1 h2 h4
  rcases op_cases hop with rfl | rfl | rfl | rfl | rfl | rfl | rfl | rfl | rfl | rfl | rfl | rfl | rfl | rfl | rfl | rfl | rfl | rfl
  · have hr : 0 ≤ r ∧ r < 8 := reg_bd (l := ⟨1, r, a, b, n, t⟩) (p := 114) rfl (List.all_eq_true.1 h3 114 (by decide))
    have hn : -2147483648 ≤ n ∧ n < 2147483648 := of_decide_eq_true h5
    intro p hp
    have hp' : p ∈ ([114, 110] : List UInt8) := hp
    simp only [List.mem_cons, List.not_mem_nil, or_false] at hp'
    rcases hp' with rfl | rfl
    · exact ⟨(fun h => by cases h), fun _ _ => (by omega : -1000000000000000 ≤ r ∧ r ≤ 1000000000000000)⟩
    · exact ⟨(fun h => by cases h), fun _ _ => (by omega : -1000000000000000 ≤ n ∧ n ≤ 1000000000000000)⟩
  · have hr : 0 ≤ r ∧ r < 8 := reg_bd (l := ⟨2, r, a, b, n, t⟩) (p := 114) rfl (List.all_eq_true.1 h3 114 (by decide))
    have ha : 0 ≤ a ∧ a < 8 := reg_bd (l := ⟨2, r, a, b, n, t⟩) (p := 97) rfl (List.all_eq_true.1 h3 97 (by decide))
    have hn : 20 ≤ n ∧ n ≤ 23 := of_decide_eq_true h5
    intro p hp
    have hp' : p ∈ ([114, 97, 111] : List UInt8) := hp
    simp only [List.mem_cons, List.not_mem_nil, or_false] at hp'
    rcases hp' with rfl | rfl | rfl
    · exact ⟨(fun h => by cases h), fun _ _ => (by omega : -1000000000000000 ≤ r ∧ r ≤ 1000000000000000)⟩
    · exact ⟨(fun h => by cases h), fun _ _ => (by omega : -1000000000000000 ≤ a ∧ a ≤ 1000000000000000)⟩
    · exact ⟨fun _ => (by omega : 1 ≤ n ∧ n ≤ 23), fun h => absurd rfl h⟩
  · have hr : 0 ≤ r ∧ r < 8 := reg_bd (l := ⟨3, r, a, b, n, t⟩) (p := 114) rfl (List.all_eq_true.1 h3 114 (by decide))
    have ha : 0 ≤ a ∧ a < 8 := reg_bd (l := ⟨3, r, a, b, n, t⟩) (p := 97) rfl (List.all_eq_true.1 h3 97 (by decide))
    have hb : 0 ≤ b ∧ b < 8 := reg_bd (l := ⟨3, r, a, b, n, t⟩) (p := 98) rfl (List.all_eq_true.1 h3 98 (by decide))
    have hn : 1 ≤ n ∧ n ≤ 19 := of_decide_eq_true h5
    intro p hp
    have hp' : p ∈ ([114, 97, 98, 111] : List UInt8) := hp
    simp only [List.mem_cons, List.not_mem_nil, or_false] at hp'
    rcases hp' with rfl | rfl | rfl | rfl
    · exact ⟨(fun h => by cases h), fun _ _ => (by omega : -1000000000000000 ≤ r ∧ r ≤ 1000000000000000)⟩
    · exact ⟨(fun h => by cases h), fun _ _ => (by omega : -1000000000000000 ≤ a ∧ a ≤ 1000000000000000)⟩
    · exact ⟨(fun h => by cases h), fun _ _ => (by omega : -1000000000000000 ≤ b ∧ b ≤ 1000000000000000)⟩
    · exact ⟨fun _ => (by omega : 1 ≤ n ∧ n ≤ 23), fun h => absurd rfl h⟩
  · have hr : 0 ≤ r ∧ r < 8 := reg_bd (l := ⟨4, r, a, b, n, t⟩) (p := 114) rfl (List.all_eq_true.1 h3 114 (by decide))
    have ha : 0 ≤ a ∧ a < 8 := reg_bd (l := ⟨4, r, a, b, n, t⟩) (p := 97) rfl (List.all_eq_true.1 h3 97 (by decide))
    intro p hp
    have hp' : p ∈ ([114, 97] : List UInt8) := hp
    simp only [List.mem_cons, List.not_mem_nil, or_false] at hp'
    rcases hp' with rfl | rfl
    · exact ⟨(fun h => by cases h), fun _ _ => (by omega : -1000000000000000 ≤ r ∧ r ≤ 1000000000000000)⟩
    · exact ⟨(fun h => by cases h), fun _ _ => (by omega : -1000000000000000 ≤ a ∧ a ≤ 1000000000000000)⟩
  · have hr : 0 ≤ r ∧ r < 8 := reg_bd (l := ⟨5, r, a, b, n, t⟩) (p := 114) rfl (List.all_eq_true.1 h3 114 (by decide))
    have hn : 0 ≤ n ∧ n ≤ o.frame := of_decide_eq_true h5
    intro p hp
    have hp' : p ∈ ([114, 110] : List UInt8) := hp
    simp only [List.mem_cons, List.not_mem_nil, or_false] at hp'
    rcases hp' with rfl | rfl
    · exact ⟨(fun h => by cases h), fun _ _ => (by omega : -1000000000000000 ≤ r ∧ r ≤ 1000000000000000)⟩
    · exact ⟨(fun h => by cases h), fun _ _ => (by omega : -1000000000000000 ≤ n ∧ n ≤ 1000000000000000)⟩
  · have hr : 0 ≤ r ∧ r < 8 := reg_bd (l := ⟨6, r, a, b, n, t⟩) (p := 114) rfl (List.all_eq_true.1 h3 114 (by decide))
    have ha : 0 ≤ a ∧ a < 8 := reg_bd (l := ⟨6, r, a, b, n, t⟩) (p := 97) rfl (List.all_eq_true.1 h3 97 (by decide))
    intro p hp
    have hp' : p ∈ ([114, 97] : List UInt8) := hp
    simp only [List.mem_cons, List.not_mem_nil, or_false] at hp'
    rcases hp' with rfl | rfl
    · exact ⟨(fun h => by cases h), fun _ _ => (by omega : -1000000000000000 ≤ r ∧ r ≤ 1000000000000000)⟩
    · exact ⟨(fun h => by cases h), fun _ _ => (by omega : -1000000000000000 ≤ a ∧ a ≤ 1000000000000000)⟩
  · have ha : 0 ≤ a ∧ a < 8 := reg_bd (l := ⟨7, r, a, b, n, t⟩) (p := 97) rfl (List.all_eq_true.1 h3 97 (by decide))
    have hb : 0 ≤ b ∧ b < 8 := reg_bd (l := ⟨7, r, a, b, n, t⟩) (p := 98) rfl (List.all_eq_true.1 h3 98 (by decide))
    intro p hp
    have hp' : p ∈ ([97, 98] : List UInt8) := hp
    simp only [List.mem_cons, List.not_mem_nil, or_false] at hp'
    rcases hp' with rfl | rfl
    · exact ⟨(fun h => by cases h), fun _ _ => (by omega : -1000000000000000 ≤ a ∧ a ≤ 1000000000000000)⟩
    · exact ⟨(fun h => by cases h), fun _ _ => (by omega : -1000000000000000 ≤ b ∧ b ≤ 1000000000000000)⟩
  · have hr : 0 ≤ r ∧ r < 8 := reg_bd (l := ⟨8, r, a, b, n, t⟩) (p := 114) rfl (List.all_eq_true.1 h3 114 (by decide))
    have hn : 0 ≤ n ∧ n < o.slots := of_decide_eq_true h5
    intro p hp
    have hp' : p ∈ ([114, 110] : List UInt8) := hp
    simp only [List.mem_cons, List.not_mem_nil, or_false] at hp'
    rcases hp' with rfl | rfl
    · exact ⟨(fun h => by cases h), fun _ _ => (by omega : -1000000000000000 ≤ r ∧ r ≤ 1000000000000000)⟩
    · exact ⟨(fun h => by cases h), fun _ _ => (by omega : -1000000000000000 ≤ n ∧ n ≤ 1000000000000000)⟩
  · have ha : 0 ≤ a ∧ a < 8 := reg_bd (l := ⟨9, r, a, b, n, t⟩) (p := 97) rfl (List.all_eq_true.1 h3 97 (by decide))
    have hn : 0 ≤ n ∧ n < o.slots := of_decide_eq_true h5
    intro p hp
    have hp' : p ∈ ([97, 110] : List UInt8) := hp
    simp only [List.mem_cons, List.not_mem_nil, or_false] at hp'
    rcases hp' with rfl | rfl
    · exact ⟨(fun h => by cases h), fun _ _ => (by omega : -1000000000000000 ≤ a ∧ a ≤ 1000000000000000)⟩
    · exact ⟨(fun h => by cases h), fun _ _ => (by omega : -1000000000000000 ≤ n ∧ n ≤ 1000000000000000)⟩
  · have ha : 0 ≤ a ∧ a < 8 := reg_bd (l := ⟨10, r, a, b, n, t⟩) (p := 97) rfl (List.all_eq_true.1 h3 97 (by decide))
    have hn : 0 ≤ n ∧ n < 6 := of_decide_eq_true h5
    intro p hp
    have hp' : p ∈ ([97, 110] : List UInt8) := hp
    simp only [List.mem_cons, List.not_mem_nil, or_false] at hp'
    rcases hp' with rfl | rfl
    · exact ⟨(fun h => by cases h), fun _ _ => (by omega : -1000000000000000 ≤ a ∧ a ≤ 1000000000000000)⟩
    · exact ⟨(fun h => by cases h), fun _ _ => (by omega : -1000000000000000 ≤ n ∧ n ≤ 1000000000000000)⟩
  · have hr : 0 ≤ r ∧ r < 8 := reg_bd (l := ⟨11, r, a, b, n, t⟩) (p := 114) rfl (List.all_eq_true.1 h3 114 (by decide))
    have hn : 0 ≤ n ∧ n < 6 := of_decide_eq_true h5
    intro p hp
    have hp' : p ∈ ([114, 110] : List UInt8) := hp
    simp only [List.mem_cons, List.not_mem_nil, or_false] at hp'
    rcases hp' with rfl | rfl
    · exact ⟨(fun h => by cases h), fun _ _ => (by omega : -1000000000000000 ≤ r ∧ r ≤ 1000000000000000)⟩
    · exact ⟨(fun h => by cases h), fun _ _ => (by omega : -1000000000000000 ≤ n ∧ n ≤ 1000000000000000)⟩
  · intro p hp
    have hp' : p ∈ ([116] : List UInt8) := hp
    simp only [List.mem_cons, List.not_mem_nil, or_false] at hp'
    subst hp'
    exact ⟨(fun h => by cases h), fun _ h => absurd rfl h⟩
  · have hr : 0 ≤ r ∧ r < 8 := reg_bd (l := ⟨13, r, a, b, n, t⟩) (p := 114) rfl (List.all_eq_true.1 h3 114 (by decide))
    intro p hp
    have hp' : p ∈ ([114] : List UInt8) := hp
    simp only [List.mem_cons, List.not_mem_nil, or_false] at hp'
    subst hp'
    exact ⟨(fun h => by cases h), fun _ _ => (by omega : -1000000000000000 ≤ r ∧ r ≤ 1000000000000000)⟩
  · have hr : 0 ≤ r ∧ r < 8 := reg_bd (l := ⟨14, r, a, b, n, t⟩) (p := 114) rfl (List.all_eq_true.1 h3 114 (by decide))
    intro p hp
    have hp' : p ∈ ([114] : List UInt8) := hp
    simp only [List.mem_cons, List.not_mem_nil, or_false] at hp'
    subst hp'
    exact ⟨(fun h => by cases h), fun _ _ => (by omega : -1000000000000000 ≤ r ∧ r ≤ 1000000000000000)⟩
  · have ha : 0 ≤ a ∧ a < 8 := reg_bd (l := ⟨15, r, a, b, n, t⟩) (p := 97) rfl (List.all_eq_true.1 h3 97 (by decide))
    intro p hp
    have hp' : p ∈ ([97] : List UInt8) := hp
    simp only [List.mem_cons, List.not_mem_nil, or_false] at hp'
    subst hp'
    exact ⟨(fun h => by cases h), fun _ _ => (by omega : -1000000000000000 ≤ a ∧ a ≤ 1000000000000000)⟩
  · have hn : 0 ≤ n ∧ n < o.lines.length := of_decide_eq_true h5
    intro p hp
    have hp' : p ∈ ([110] : List UInt8) := hp
    simp only [List.mem_cons, List.not_mem_nil, or_false] at hp'
    subst hp'
    exact ⟨(fun h => by cases h), fun _ _ => (by omega : -1000000000000000 ≤ n ∧ n ≤ 1000000000000000)⟩
  · have ha : 0 ≤ a ∧ a < 8 := reg_bd (l := ⟨17, r, a, b, n, t⟩) (p := 97) rfl (List.all_eq_true.1 h3 97 (by decide))
    have hn : 0 ≤ n ∧ n < o.lines.length := of_decide_eq_true h5
    intro p hp
    have hp' : p ∈ ([97, 110] : List UInt8) := hp
    simp only [List.mem_cons, List.not_mem_nil, or_false] at hp'
    rcases hp' with rfl | rfl
    · exact ⟨(fun h => by cases h), fun _ _ => (by omega : -1000000000000000 ≤ a ∧ a ≤ 1000000000000000)⟩
    · exact ⟨(fun h => by cases h), fun _ _ => (by omega : -1000000000000000 ≤ n ∧ n ≤ 1000000000000000)⟩
  · have ha : 0 ≤ a ∧ a < 8 := reg_bd (l := ⟨18, r, a, b, n, t⟩) (p := 97) rfl (List.all_eq_true.1 h3 97 (by decide))
    intro p hp
    have hp' : p ∈ ([97] : List UInt8) := hp
    simp only [List.mem_cons, List.not_mem_nil, or_false] at hp'
    subst hp'
    exact ⟨(fun h => by cases h), fun _ _ => (by omega : -1000000000000000 ≤ a ∧ a ≤ 1000000000000000)⟩
theorem get_cell {w : World} {b : Nat} {l : Ln} (h : w.heap[b]? = some l.obj) {p : UInt8} (hp : p = 114 ∨ p = 97 ∨ p = 98 ∨ p = 110) : w.cell? ⟨b, offR p.toNat, none⟩ = some (.int .i64 (l.get p)) := by
  rcases hp with rfl | rfl | rfl | rfl
  · exact cell_of_heap h 1 _ rfl
  · exact cell_of_heap h 2 _ rfl
  · exact cell_of_heap h 3 _ rfl
  · exact cell_of_heap h 4 _ rfl
/-- what a part is, of a printed line -/
theorem part_name {l : Ln} (h : 1 ≤ l.n ∧ l.n ≤ 23) {n : ByteArray} (hn : NameIs l.n n) : n.data.toList = partL l 111 := by
  rw [hn.1 h]
  rfl
theorem part_reg {l : Ln} {p : UInt8} (h1 : p ≠ 111) (h2 : p ≠ 116) : partL l p = itoa (l.get p) := by
  unfold partL
  rw [if_neg h2, if_neg h1]
theorem take_len {α : Type} {f : α → List UInt8} {ps : List α} {m : Nat} {p : α} (h : ps[m]? = some p) : ((ps.take m).flatMap f).length + (f p).length ≤ (ps.flatMap f).length := by
  have e : ps = ps.take m ++ p :: ps.drop (m + 1) := by
    obtain ⟨hm, hp⟩ := List.getElem?_eq_some_iff.1 h
    have hd : ps.drop m = p :: ps.drop (m + 1) := by rw [List.drop_eq_getElem_cons hm, hp]
    rw [← hd, List.take_append_drop]
  conv => rhs; rw [e]
  rw [List.flatMap_append, List.flatMap_cons, List.length_append, List.length_append]
  omega
theorem take_snoc {α : Type} {f : α → List UInt8} {ps : List α} {m : Nat} {p : α} (h : ps[m]? = some p) : (ps.take (m + 1)).flatMap f = (ps.take m).flatMap f ++ f p := by
  rw [List.take_add_one, h, List.flatMap_append]
  simp
end Go.Proofs.YtihbgppcacaekaaDoor
