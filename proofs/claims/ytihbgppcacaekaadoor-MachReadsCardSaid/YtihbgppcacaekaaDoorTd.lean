import Derived.Test.YtihbgppcacaekaaDoorTa
import Derived.Test.YtihbgppcacaekaaDoorRj
import Derived.Test.YtihbgppcacaekaaDoorTb
/- PLAIN: what is read is printed as it; what is not read tells a line. -/
namespace Go.Proofs.YtihbgppcacaekaaDoor
open Go Go.Lib

theorem part_num {p : UInt8} {w : List UInt8} (h1 : p ≠ 116) (h2 : p ≠ 111) (h : okP p (bA w) = true) : itoa (numF (bA w)).1 = w := by
  unfold okP at h
  rw [if_neg h1, if_neg h2] at h
  exact numF_ok h
theorem part_op {w : List UInt8} (h : okP 111 (bA w) = true) : (nm (((opOf (bA w) : Nat) : Int) - 1).toNat).data.toList = w := by
  have h' : decide (0 < opOf (bA w)) = true := h
  have h1 := nm_opOf (of_decide_eq_true h')
  have h2 := of_decide_eq_true h'
  rw [show (((opOf (bA w) : Nat) : Int) - 1).toNat = opOf (bA w) - 1 by omega, h1.1]
  rfl
/-- the parts of a line that was read -/
theorem parts_read {k : Nat} (hk : k < 18) (t : List (List UInt8)) (ht : t.length = (shp ((k : Int) + 1)).2.length) (hok : (((shp ((k : Int) + 1)).2.zip (t.map bA)).all fun q => okP q.1 q.2) = true) :
    (shp ((k : Int) + 1)).2.map (partL (foldP { Ln.zero with op := (k : Int) + 1 } ((shp ((k : Int) + 1)).2.zip (t.map bA)))) = t := by
  have hk' : k = 0 ∨ k = 1 ∨ k = 2 ∨ k = 3 ∨ k = 4 ∨ k = 5 ∨ k = 6 ∨ k = 7 ∨ k = 8 ∨ k = 9 ∨ k = 10 ∨ k = 11 ∨ k = 12 ∨ k = 13 ∨ k = 14 ∨ k = 15 ∨ k = 16 ∨ k = 17 := by omega
  rcases hk' with rfl | rfl | rfl | rfl | rfl | rfl | rfl | rfl | rfl | rfl | rfl | rfl | rfl | rfl | rfl | rfl | rfl | rfl
  · match t, ht, hok with
    | [w0, w1], _, hok =>
      have hok : (okP 114 (bA w0) && (okP 110 (bA w1) && true)) = true := hok
      simp only [Bool.and_eq_true, Bool.and_true] at hok
      obtain ⟨k0, k1⟩ := hok
      have e0 := part_num (p := 114) (by decide) (by decide) k0
      have e1 := part_num (p := 110) (by decide) (by decide) k1
      show [itoa (numF (bA w0)).1, itoa (numF (bA w1)).1] = [w0, w1]
      rw [e0, e1]
  · match t, ht, hok with
    | [w0, w1, w2], _, hok =>
      have hok : (okP 114 (bA w0) && (okP 97 (bA w1) && (okP 111 (bA w2) && true))) = true := hok
      simp only [Bool.and_eq_true, Bool.and_true] at hok
      obtain ⟨k0, k1, k2⟩ := hok
      have e0 := part_num (p := 114) (by decide) (by decide) k0
      have e1 := part_num (p := 97) (by decide) (by decide) k1
      have e2 := part_op k2
      show [itoa (numF (bA w0)).1, itoa (numF (bA w1)).1, (nm (((opOf (bA w2) : Nat) : Int) - 1).toNat).data.toList] = [w0, w1, w2]
      rw [e0, e1, e2]
  · match t, ht, hok with
    | [w0, w1, w2, w3], _, hok =>
      have hok : (okP 114 (bA w0) && (okP 97 (bA w1) && (okP 98 (bA w2) && (okP 111 (bA w3) && true)))) = true := hok
      simp only [Bool.and_eq_true, Bool.and_true] at hok
      obtain ⟨k0, k1, k2, k3⟩ := hok
      have e0 := part_num (p := 114) (by decide) (by decide) k0
      have e1 := part_num (p := 97) (by decide) (by decide) k1
      have e2 := part_num (p := 98) (by decide) (by decide) k2
      have e3 := part_op k3
      show [itoa (numF (bA w0)).1, itoa (numF (bA w1)).1, itoa (numF (bA w2)).1, (nm (((opOf (bA w3) : Nat) : Int) - 1).toNat).data.toList] = [w0, w1, w2, w3]
      rw [e0, e1, e2, e3]
  · match t, ht, hok with
    | [w0, w1], _, hok =>
      have hok : (okP 114 (bA w0) && (okP 97 (bA w1) && true)) = true := hok
      simp only [Bool.and_eq_true, Bool.and_true] at hok
      obtain ⟨k0, k1⟩ := hok
      have e0 := part_num (p := 114) (by decide) (by decide) k0
      have e1 := part_num (p := 97) (by decide) (by decide) k1
      show [itoa (numF (bA w0)).1, itoa (numF (bA w1)).1] = [w0, w1]
      rw [e0, e1]
  · match t, ht, hok with
    | [w0, w1], _, hok =>
      have hok : (okP 114 (bA w0) && (okP 110 (bA w1) && true)) = true := hok
      simp only [Bool.and_eq_true, Bool.and_true] at hok
      obtain ⟨k0, k1⟩ := hok
      have e0 := part_num (p := 114) (by decide) (by decide) k0
      have e1 := part_num (p := 110) (by decide) (by decide) k1
      show [itoa (numF (bA w0)).1, itoa (numF (bA w1)).1] = [w0, w1]
      rw [e0, e1]
  · match t, ht, hok with
    | [w0, w1], _, hok =>
      have hok : (okP 114 (bA w0) && (okP 97 (bA w1) && true)) = true := hok
      simp only [Bool.and_eq_true, Bool.and_true] at hok
      obtain ⟨k0, k1⟩ := hok
      have e0 := part_num (p := 114) (by decide) (by decide) k0
      have e1 := part_num (p := 97) (by decide) (by decide) k1
      show [itoa (numF (bA w0)).1, itoa (numF (bA w1)).1] = [w0, w1]
      rw [e0, e1]
  · match t, ht, hok with
    | [w0, w1], _, hok =>
      have hok : (okP 97 (bA w0) && (okP 98 (bA w1) && true)) = true := hok
      simp only [Bool.and_eq_true, Bool.and_true] at hok
      obtain ⟨k0, k1⟩ := hok
      have e0 := part_num (p := 97) (by decide) (by decide) k0
      have e1 := part_num (p := 98) (by decide) (by decide) k1
      show [itoa (numF (bA w0)).1, itoa (numF (bA w1)).1] = [w0, w1]
      rw [e0, e1]
  · match t, ht, hok with
    | [w0, w1], _, hok =>
      have hok : (okP 114 (bA w0) && (okP 110 (bA w1) && true)) = true := hok
      simp only [Bool.and_eq_true, Bool.and_true] at hok
      obtain ⟨k0, k1⟩ := hok
      have e0 := part_num (p := 114) (by decide) (by decide) k0
      have e1 := part_num (p := 110) (by decide) (by decide) k1
      show [itoa (numF (bA w0)).1, itoa (numF (bA w1)).1] = [w0, w1]
      rw [e0, e1]
  · match t, ht, hok with
    | [w0, w1], _, hok =>
      have hok : (okP 97 (bA w0) && (okP 110 (bA w1) && true)) = true := hok
      simp only [Bool.and_eq_true, Bool.and_true] at hok
      obtain ⟨k0, k1⟩ := hok
      have e0 := part_num (p := 97) (by decide) (by decide) k0
      have e1 := part_num (p := 110) (by decide) (by decide) k1
      show [itoa (numF (bA w0)).1, itoa (numF (bA w1)).1] = [w0, w1]
      rw [e0, e1]
  · match t, ht, hok with
    | [w0, w1], _, hok =>
      have hok : (okP 97 (bA w0) && (okP 110 (bA w1) && true)) = true := hok
      simp only [Bool.and_eq_true, Bool.and_true] at hok
      obtain ⟨k0, k1⟩ := hok
      have e0 := part_num (p := 97) (by decide) (by decide) k0
      have e1 := part_num (p := 110) (by decide) (by decide) k1
      show [itoa (numF (bA w0)).1, itoa (numF (bA w1)).1] = [w0, w1]
      rw [e0, e1]
  · match t, ht, hok with
    | [w0, w1], _, hok =>
      have hok : (okP 114 (bA w0) && (okP 110 (bA w1) && true)) = true := hok
      simp only [Bool.and_eq_true, Bool.and_true] at hok
      obtain ⟨k0, k1⟩ := hok
      have e0 := part_num (p := 114) (by decide) (by decide) k0
      have e1 := part_num (p := 110) (by decide) (by decide) k1
      show [itoa (numF (bA w0)).1, itoa (numF (bA w1)).1] = [w0, w1]
      rw [e0, e1]
  · match t, ht, hok with
    | [w0], _, hok =>
      have hok : (okP 116 (bA w0) && true) = true := hok
      simp only [Bool.and_true] at hok
      have k0 := hok
      show [w0] = [w0]
      rfl
  · match t, ht, hok with
    | [w0], _, hok =>
      have hok : (okP 114 (bA w0) && true) = true := hok
      simp only [Bool.and_true] at hok
      have k0 := hok
      have e0 := part_num (p := 114) (by decide) (by decide) k0
      show [itoa (numF (bA w0)).1] = [w0]
      rw [e0]
  · match t, ht, hok with
    | [w0], _, hok =>
      have hok : (okP 114 (bA w0) && true) = true := hok
      simp only [Bool.and_true] at hok
      have k0 := hok
      have e0 := part_num (p := 114) (by decide) (by decide) k0
      show [itoa (numF (bA w0)).1] = [w0]
      rw [e0]
  · match t, ht, hok with
    | [w0], _, hok =>
      have hok : (okP 97 (bA w0) && true) = true := hok
      simp only [Bool.and_true] at hok
      have k0 := hok
      have e0 := part_num (p := 97) (by decide) (by decide) k0
      show [itoa (numF (bA w0)).1] = [w0]
      rw [e0]
  · match t, ht, hok with
    | [w0], _, hok =>
      have hok : (okP 110 (bA w0) && true) = true := hok
      simp only [Bool.and_true] at hok
      have k0 := hok
      have e0 := part_num (p := 110) (by decide) (by decide) k0
      show [itoa (numF (bA w0)).1] = [w0]
      rw [e0]
  · match t, ht, hok with
    | [w0, w1], _, hok =>
      have hok : (okP 97 (bA w0) && (okP 110 (bA w1) && true)) = true := hok
      simp only [Bool.and_eq_true, Bool.and_true] at hok
      obtain ⟨k0, k1⟩ := hok
      have e0 := part_num (p := 97) (by decide) (by decide) k0
      have e1 := part_num (p := 110) (by decide) (by decide) k1
      show [itoa (numF (bA w0)).1, itoa (numF (bA w1)).1] = [w0, w1]
      rw [e0, e1]
  · match t, ht, hok with
    | [w0], _, hok =>
      have hok : (okP 97 (bA w0) && true) = true := hok
      simp only [Bool.and_true] at hok
      have k0 := hok
      have e0 := part_num (p := 97) (by decide) (by decide) k0
      show [itoa (numF (bA w0)).1] = [w0]
      rw [e0]
theorem setP_opn (l : Ln) (p : UInt8) (x : ByteArray) : (setP l p x).op = l.op := by
  unfold setP
  split
  · rfl
  · split
    · rfl
    · unfold Ln.set
      split
      · rfl
      · split
        · rfl
        · split <;> rfl
theorem foldP_op : ∀ (qs : List (UInt8 × ByteArray)) (l : Ln), (foldP l qs).op = l.op
  | [], _ => rfl
  | q :: qs, l => by
    show (foldP (setP l q.1 q.2) qs).op = l.op
    rw [foldP_op qs, setP_opn]
theorem splt_cases (c : UInt8) (s : List UInt8) : ∃ a t, splt c s = a :: t := by
  cases e : splt c s with
  | nil => exact absurd e (splt_ne c s)
  | cons a t => exact ⟨a, t, rfl⟩
/-- a line that was read is printed as it -/
theorem line_print {x : ByteArray} {l : Ln} (h : lineF x = some l) : lineL l = x.data.toList := by
  obtain ⟨a, t, e⟩ := splt_cases 32 x.data.toList
  have hj := joinS_splt 32 x.data.toList
  rw [e, joinS_words] at hj
  have hw : spB 32 x = bA a :: t.map bA := by unfold spB; rw [e]; rfl
  unfold lineF lineW at h
  rw [hw] at h
  cases ho : opFit (bA a :: t.map bA) with
  | none => rw [ho] at h; cases h
  | some k =>
    rw [ho] at h
    change (if (((shp ((k : Int) + 1)).2.zip (t.map bA)).all fun q => okP q.1 q.2) = true then some (foldP { Ln.zero with op := (k : Int) + 1 } ((shp ((k : Int) + 1)).2.zip (t.map bA))) else none) = some l at h
    unfold opFit at ho
    have hf := List.find?_some ho
    have hk := List.mem_range.1 (List.mem_of_find?_eq_some ho)
    unfold fitsB at hf
    rw [Bool.and_eq_true] at hf
    obtain ⟨h1, h2⟩ := hf
    simp only [decide_eq_true_eq, List.length_cons, List.length_map] at h2
    have h1' : bA (shp ((k : Int) + 1)).1 = bA a := of_decide_eq_true h1
    have ha : (shp ((k : Int) + 1)).1 = a := by
      have := congrArg (fun s : ByteArray => s.data.toList) h1'
      exact this
    split at h
    · rename_i hok
      injection h with h
      have hp := parts_read hk t (by omega) hok
      rw [h] at hp
      have hop : l.op = (k : Int) + 1 := by rw [← h, foldP_op]
      unfold lineL
      rw [hop, ha, ← hj, ← hp, List.flatMap_map]
    · cases h
theorem splt_count (c : UInt8) : ∀ s : List UInt8, (splt c s).length = s.count c + 1
  | [] => rfl
  | x :: s => by
    have ih := splt_count c s
    rw [splt_cons, List.count_cons]
    by_cases hx : x = c
    · rw [if_pos hx, List.length_cons, ih, hx]
      simp
    · rw [if_neg hx]
      obtain ⟨a, t, e⟩ := splt_cases c s
      rw [e] at ih ⊢
      simp only [List.length_cons] at ih ⊢
      rw [ih]
      simp [hx]
theorem goodN_all : ∀ l : List ByteArray, goodN l = l.length → ∀ x ∈ l, (lineF x).isSome = true
  | [], _ => fun x hx => by cases hx
  | y :: t, h => by
    unfold goodN at h
    split at h
    · rename_i hy
      have := goodN_all t (by simpa using h)
      intro x hx
      rcases List.mem_cons.1 hx with rfl | hx
      · exact hy
      · exact this x hx
    · simp at h
theorem lines_print : ∀ xs : List (List UInt8), (∀ x ∈ xs, (lineF (bA x)).isSome = true) → ((xs.map bA).map lnD).flatMap (fun l => lineL l ++ [10]) = xs.flatMap (fun x => x ++ [10])
  | [], _ => rfl
  | x :: xs, h => by
    have h1 := h x (by simp)
    cases e : lineF (bA x) with
    | none => rw [e] at h1; cases h1
    | some l =>
      have h2 : lnD (bA x) = l := by unfold lnD; rw [e]; rfl
      rw [List.map_cons, List.map_cons, List.flatMap_cons, List.flatMap_cons, lines_print xs (fun y hy => h y (by simp [hy])), h2, line_print e, list_bA]
theorem join_lines (c : UInt8) : ∀ xs : List (List UInt8), xs.flatMap (fun x => x ++ [c]) = joinS c (xs ++ [[]])
  | [] => rfl
  | x :: xs => by
    rw [List.flatMap_cons, join_lines c xs, List.cons_append]
    cases e : xs ++ [([] : List UInt8)] with
    | nil => simp at e
    | cons b t =>
      rw [joinS]
      simp
theorem head_print {h0 : List UInt8} {q : ByteArray × Int × Int} (h : headW (bA h0) = some q) : objectB.data.toList ++ 32 :: (q.1.data.toList ++ 32 :: (itoa q.2.1 ++ 32 :: itoa q.2.2)) = h0 := by
  have hj := joinS_splt 32 h0
  unfold headW spB at h
  rw [list_bA] at h
  match e : splt 32 h0 with
  | [] => rw [e] at h; cases h
  | [a] => rw [e] at h; cases h
  | [a, b] => rw [e] at h; cases h
  | [a, b, c] => rw [e] at h; cases h
  | a :: b :: c :: d :: x :: t => rw [e] at h; cases h
  | [a, b, c, d] =>
    rw [e] at h hj
    simp only [List.map_cons, List.map_nil] at h
    split at h
    · rename_i hh
      obtain ⟨h1, _, h3, h4⟩ := hh
      injection h with h
      subst h
      have e3 := numF_ok h3
      have e4 := numF_ok h4
      have e1 := congrArg (fun s : ByteArray => s.data.toList) h1
      simp only at e1 e3 e4 ⊢
      rw [e1, e3, e4, ← hj]
      rfl
    · cases h
/-- what comes of reading a text -/
theorem read_is (s : ByteArray) : (∃ o, readF s = (o, 0, 0) ∧ rightO o = true ∧ printL o = s.data.toList) ∨ (∃ at_ : Int, readF s = (Ob.zero, at_, 11) ∧ 1 ≤ at_ ∧ at_ ≤ ((s.data.toList.count 10 : Nat) : Int) + 2) := by
  have hc := splt_count 10 s.data.toList
  have hj := joinS_splt 10 s.data.toList
  obtain ⟨h0, t, e⟩ := splt_cases 10 s.data.toList
  have hs : spB 10 s = bA h0 :: t.map bA := by unfold spB; rw [e]; rfl
  rw [e] at hc hj
  simp only [List.length_cons] at hc
  unfold readF
  rw [hs]
  cases t with
  | nil =>
    refine Or.inr ⟨1, readL_short (by simp), by omega, ?_⟩
    simp at hc
    omega
  | cons b t2 =>
    obtain ⟨xs, z, hxz⟩ : ∃ xs z, b :: t2 = xs ++ [z] := ⟨(b :: t2).dropLast, (b :: t2).getLast (by simp), (List.dropLast_concat_getLast (by simp)).symm⟩
    rw [hxz] at hc hj ⊢
    rw [List.map_append, List.map_cons, List.map_nil]
    have hl : (xs.map bA).length = xs.length := List.length_map _
    simp only [List.length_append, List.length_cons, List.length_nil] at hc
    by_cases hz : z = []
    · subst hz
      cases hh : headW (bA h0) with
      | none => exact Or.inr ⟨1, readL_head _ _ hh, by omega, by omega⟩
      | some q =>
        have hb := readL_body (bA h0) (xs.map bA) q hh
        by_cases hg : goodN (xs.map bA) < (xs.map bA).length
        · rw [if_pos hg] at hb
          refine Or.inr ⟨_, hb, by omega, by omega⟩
        · rw [if_neg hg] at hb
          have hga : goodN (xs.map bA) = (xs.map bA).length := by have := goodN_le (xs.map bA); omega
          by_cases hr : rightO ⟨q.1, q.2.1, q.2.2, (xs.map bA).map lnD⟩ = true
          · rw [if_pos hr] at hb
            refine Or.inl ⟨_, hb, hr, ?_⟩
            have hp := head_print hh
            unfold printL headL
            simp only
            rw [hp, lines_print xs (fun x hx => goodN_all _ hga (bA x) (List.mem_map_of_mem hx)), join_lines 10, ← hj]
            cases e2 : xs ++ [([] : List UInt8)] with
            | nil => simp at e2
            | cons y t3 => rfl
          · rw [if_neg hr] at hb
            exact Or.inr ⟨_, hb, by omega, by omega⟩
    · have hz' : bA z ≠ ⟨#[]⟩ := fun e3 => hz (congrArg (fun s : ByteArray => s.data.toList) e3)
      refine Or.inr ⟨_, readL_last (bA h0) (bA z) (xs.map bA) hz', by omega, by omega⟩
end Go.Proofs.YtihbgppcacaekaaDoor
/- MachReads. -/
namespace Go.Proofs.YtihbgppcacaekaaDoor
open Go.RowKit Go.BigFrame

theorem count_take {l : List UInt8} {m : Nat} {x : UInt8} (h : l[m]? = some x) : (l.take (m + 1)).count 10 = (l.take m).count 10 + (if x = 10 then 1 else 0) := by
  rw [List.take_add_one, h, List.count_append]
  by_cases hx : x = 10
  · subst hx; simp
  · simp [hx]
set_option maxRecDepth 1000000 in
set_option maxHeartbeats 16000000 in
theorem machReads_any (s : ByteArray) (w : World) (hT : Tabs w) :
    Calls Tryd.prog 10 #[.string s] w fun e w' => e = .returned (.bool true) ∧ Below w.heap.size w w' := by
  have HT := Lib.hid hT
  by_cases hbig : 3000 < s.size
  · have q1 : decide ((s.size : Int) > 3000) = true := by simp; omega
    have q2 : decide (3000 < (s.size : Int)) = true := by simp; omega
    go_enter Tryd.func10, Tryd.ntmps10
    go_wp2_with fail
    refine (awake_any _ hT).mono ?_
    rintro e w7 ⟨rfl, hb7⟩
    go_wp2
    go_returns
    exact ⟨rfl, hb7⟩
  have q1 : decide ((s.size : Int) > 3000) = false := by simp; omega
  have q2 : decide (3000 < (s.size : Int)) = false := by simp; omega
  have hrd := Read_any s (by omega) w hT
  have HSZ : Hid (s.size ≤ 3000) := Lib.hid (by omega)
  rcases read_is s with ⟨o, hre, hrt, hpt⟩ | ⟨at_, hre, hat1, hat2⟩
  · rw [hre] at hrd
    obtain ⟨n, hn⟩ : ∃ n, o.lines.length = n := ⟨_, rfl⟩
    have hh := (rightO_prt hrt).1
    have hln := (head_parts hh).2.2.2
    have hl9 : o.lines.length ≤ 9223372036854775807 := by omega
    simp only [obAgg, hn] at hrd
    have HN := Lib.hid hn
    have HRT := Lib.hid hrt
    have HPT := Lib.hid hpt
    have HL := Lib.hid hl9
    clear hT hre hrt hpt hn hh hln hl9 hbig
    go_enter Tryd.func10, Tryd.ntmps10
    go_wp2_with fail
    refine hrd.mono ?_
    rintro e w1 ⟨C, cap, rfl, hR1, hb1⟩
    have hb1a := Below.one w1 (.cells #[.string o.name, .int .i64 o.slots, .int .i64 o.frame, .slice C n cap] 39 (0, 0))
    have HB1 : Hid (Below w.heap.size w (w1.alloc (.cells #[.string o.name, .int .i64 o.slots, .int .i64 o.frame, .slice C n cap] 39 (0, 0)))) := Lib.hid (hb1.trans (hb1a.mono hb1.size))
    have HO1 := Lib.hid (heap_alloc_new w1 (.cells #[.string o.name, .int .i64 o.slots, .int .i64 o.frame, .slice C n cap] 39 (0, 0)))
    have HR1 := Lib.hid (hR1.below hb1a)
    have hT1 := HT.out.below HB1.out
    have hro := RightObject_any o C cap (w1.alloc (.cells #[.string o.name, .int .i64 o.slots, .int .i64 o.frame, .slice C n cap] 39 (0, 0))) hT1 HL.out HR1.out
    rw [HRT.out] at hro
    simp only [obAgg, HN.out] at hro
    obtain ⟨c0, c1, c2, c3⟩ := ob_cells4' HO1.out
    clear hrd hb1a hb1 hR1 q1 q2
    go_wp2_with fail
    refine hro.mono ?_
    rintro e w2 ⟨rfl, hb2⟩
    have HB2 := Lib.hid (HB1.out.trans (hb2.mono HB1.out.size))
    have HO2 := Lib.hid (keepB hb2 HO1.out)
    have hT2 := HT.out.below HB2.out
    have hpr := Print_any o C cap w2 hT2 HL.out (HR1.out.below hb2) (fun _ => by rw [HPT.out, ← bytes_len]; have := HSZ.out; omega)
    rw [HRT.out, HPT.out] at hpr
    simp only [obAgg, HN.out, if_true, bA_list] at hpr
    clear hro hb2 c0 c1 c2 c3
    obtain ⟨c0, c1, c2, c3⟩ := ob_cells4' HO2.out
    have q3 : (s.toList == s.toList) = true := by simp
    go_wp2_with fail
    refine hpr.mono ?_
    rintro e w3 ⟨rfl, hb3⟩
    have HB3 := Lib.hid (HB2.out.trans (hb3.mono HB2.out.size))
    have hT3 := HT.out.below HB3.out
    clear hpr hb3 c0 c1 c2 c3
    go_wp2_with fail
    refine (awake_any _ hT3).mono ?_
    rintro e w7 ⟨rfl, hb7⟩
    go_wp2
    go_returns
    exact ⟨rfl, HB3.out.trans (hb7.mono HB3.out.size)⟩
  · rw [hre] at hrd
    obtain ⟨ls, hls⟩ : ∃ ls, s.data.toList = ls := ⟨_, rfl⟩
    have hsz : s.size = ls.length := by rw [← hls]; exact bytes_len s
    rw [hls] at hat2
    have hrd : Calls Tryd.prog 18 #[.string s] w fun e w' => ∃ C cap, e = .returned (.tuple #[.agg #[.string ⟨#[]⟩, .int .i64 0, .int .i64 0, .slice C 0 cap], .int .i64 at_, .int .i64 11]) ∧ RdL w' C [] ∧ Below w.heap.size w w' := hrd
    have HLS := Lib.hid hls
    have HLL : Hid (ls.length = s.size) := Lib.hid hsz.symm
    have HA1 := Lib.hid hat1
    have HA2 := Lib.hid hat2
    clear hT hre hls hsz hat1 hat2 hbig
    go_enter Tryd.func10, Tryd.ntmps10
    go_upto_region 4 with (first
      | (go_at_call 18; refine hrd.mono ?_; rintro e w1 ⟨C, cap, rfl, hR1, hb1⟩))
    have hb1a := Below.one w1 (.cells #[.string ⟨#[]⟩, .int .i64 0, .int .i64 0, .slice C 0 cap] 39 (0, 0))
    have HB1 : Hid (Below w.heap.size w (w1.alloc (.cells #[.string ⟨#[]⟩, .int .i64 0, .int .i64 0, .slice C 0 cap] 39 (0, 0)))) := Lib.hid (hb1.trans (hb1a.mono hb1.size))
    have HO1 := Lib.hid (heap_alloc_new w1 (.cells #[.string ⟨#[]⟩, .int .i64 0, .int .i64 0, .slice C 0 cap] 39 (0, 0)))
    have HR1 := Lib.hid (hR1.below hb1a)
    clear hrd hb1a hb1 hR1 q1 q2
    have HF : Hid (∃ W, w1.alloc (.cells #[.string ⟨#[]⟩, .int .i64 0, .int .i64 0, .slice C 0 cap] 39 (0, 0)) = W) := Lib.hid ⟨_, rfl⟩
    obtain ⟨W, hW⟩ := HF.out
    rw [hW] at HB1 HO1 HR1
    go_upto_region 8 with fail
    clear hW HF
    go_loopw [6, 37] (fun v6 ix wq => ∃ i : Nat, i ≤ s.size ∧ v6 = .int .i64 (1 + (((ls.take i).count 10 : Nat) : Int)) ∧ ix = .int .i64 i ∧ Below W.heap.size W wq) (fun _ ix _ => s.size - (intOf ix).toNat)
    case atStart => exact ⟨0, Nat.zero_le _, by simp, rfl, Below.refl _ _⟩
    case round =>
      obtain ⟨i, hi, rfl, rfl, hb⟩ := hrel
      have HBB := Lib.hid hb
      obtain ⟨q, hq⟩ : ∃ q, (ls.take i).count 10 = q := ⟨_, rfl⟩
      have hqi : q ≤ 3000 := by
        rw [← hq]
        have h1 := List.count_le_length (a := (10 : UInt8)) (l := ls.take i)
        have h2 : (ls.take i).length ≤ i := List.length_take_le _ _
        have := HSZ.out
        omega
      rw [hq]
      have HQ := Lib.hid hq
      clear hq
      by_cases hlt : i < s.size
      · have hget : ls[i]? = some (s[i]'hlt) := by
          rw [← HLS.out, Array.getElem?_toList]
          exact Array.getElem?_eq_getElem (xs := s.data) hlt
        have hct := count_take hget
        rw [HQ.out] at hct
        have hsz := HSZ.out
        by_cases hc : s[i]'hlt = 10
        · have qc : (((s[i]'hlt).toNat : Int) == 10) = true := by rw [hc]; rfl
          rw [if_pos hc] at hct
          have HCT := Lib.hid hct
          clear hct hget hc
          go_wp2
          exact ⟨⟨i + 1, by omega, by rw [HCT.out]; congr 1, by go_num, HBB.out⟩, by simp [intOf]; omega⟩
        · have qc : (((s[i]'hlt).toNat : Int) == 10) = false := by
            simp
            intro e
            exact hc (UInt8.toNat.inj (by show (s[i]'hlt).toNat = 10; omega))
          rw [if_neg hc] at hct
          have HCT := Lib.hid hct
          clear hct hget hc
          go_wp2
          exact ⟨⟨i + 1, by omega, by rw [HCT.out]; rfl, by go_num, HBB.out⟩, by simp [intOf]; omega⟩
      · obtain rfl : i = s.size := by omega
        have hall : ls.take s.size = ls := List.take_of_length_le (by rw [HLL.out]; exact Nat.le_refl _)
        have ha := HA2.out
        have hqq := HQ.out
        rw [hall] at hqq
        rw [hqq] at ha
        have ha1 := HA1.out
        have qa : decide (at_ ≥ 1) = true := by simp; omega
        have qb : decide (1 ≤ at_) = true := by simp; omega
        have qw : wrap64 (1 + (q : Int) + 1) = 1 + (q : Int) + 1 := w64 (by omega)
        have qd : decide (at_ ≤ 1 + (q : Int) + 1) = true := by simp; omega
        have HB2 := Lib.hid (HB1.out.trans (HBB.out.mono HB1.out.size))
        have hsm := Same_eq Ob.zero C none cap 0 wr (HR1.out.below HBB.out) (fun j f hf => by simp [Ob.zero] at hf) (by decide)
        have hsm : Calls Tryd.prog 22 #[.agg #[.string ⟨#[]⟩, .int .i64 0, .int .i64 0, .slice C 0 cap], .agg #[.string ⟨#[]⟩, .int .i64 0, .int .i64 0, .slice none 0 0]] wr fun e w' => e = .returned (.bool true) ∧ Below wr.heap.size wr w' := hsm
        obtain ⟨c0, c1, c2, c3⟩ := ob_cells4' (keepB HBB.out HO1.out)
        clear hall ha hqq ha1 hb hi hlt
        go_wp2_with fail
        refine hsm.mono ?_
        rintro e w3 ⟨rfl, hb3⟩
        have HB3 := Lib.hid (HB2.out.trans (hb3.mono HB2.out.size))
        have hT3 := HT.out.below HB3.out
        clear hsm hb3 c0 c1 c2 c3
        go_wp2_with fail
        refine (awake_any _ hT3).mono ?_
        rintro e w7 ⟨rfl, hb7⟩
        go_wp2
        go_returns
        exact ⟨rfl, HB3.out.trans (hb7.mono HB3.out.size)⟩
end Go.Proofs.YtihbgppcacaekaaDoor
