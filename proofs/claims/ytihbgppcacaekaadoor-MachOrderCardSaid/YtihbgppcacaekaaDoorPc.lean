import Derived.Test.YtihbgppcacaekaaDoorPb
/- PLAIN LAWS of the small machine: one operation; the echo. -/
namespace Go.Proofs.YtihbgppcacaekaaDoor
open Go

def eB : ByteArray := ByteArray.empty
theorem iter_next {by_ : ByteArray → Option Ob} {R : Rn} (h : R.over = false) (k : Nat) : Rn.iter by_ (k + 1) R = Rn.iter by_ k (R.step by_) := by
  conv => lhs; unfold Rn.iter
  rw [if_neg (by rw [h]; exact Bool.false_ne_true)]
/-- one function, named main -/
def mainO (ls : List Ln) : Ob := ⟨mainB, 0, 0, ls⟩
def mainI (ls : List Ln) : Im := ⟨[mainO ls], [], 1⟩
theorem main_by (ls : List Ln) : byName (mainI ls) mainB = some (mainO ls) := by
  unfold byName mainI
  rw [List.find?_cons_of_pos (by simp [mainO])]
def f0 (ls : List Ln) (at_ : Int) : Fm := ⟨mainO ls, [], zero6, zero6, 1, at_⟩
theorem run_main (ls : List Ln) (inp : List Int) (fuel : Int) (hr : rightM (mainI ls) = true) :
    runM (mainI ls) inp fuel = (Rn.iter (byName (mainI ls)) (clip fuel) ⟨memOf [], [0, 0, 0, 0, 0, 0, 0, 0], 1, 0, inp, [f0 ls 0], false, 0, 0, []⟩).res := by
  unfold runM
  rw [if_pos hr, main_by]
  rfl
theorem right_main (ls : List Ln) (h : rightO (mainO ls) = true) (hc : ls.all (fun l => !decide (l.op = 12)) = true) : rightM (mainI ls) = true := by
  unfold rightM mainI
  simp only [List.all_cons, List.all_nil, h, List.map_cons, List.map_nil]
  have : (mainO ls).lines.all (fun l => !decide (l.op = 12) || memB l.text [(mainO ls).name]) = true := by
    rw [List.all_eq_true]
    intro l hl
    have := List.all_eq_true.1 hc l hl
    rw [this]; rfl
  rw [this]
  simp
/-! one operation -/
def doesL (op x y : Int) : List Ln := [⟨1, 0, 0, 0, x, eB⟩, ⟨1, 7, 0, 0, y, eB⟩, (if 20 ≤ op ∧ op ≤ 23 then ⟨2, 3, 0, 0, op, eB⟩ else ⟨3, 3, 0, 7, op, eB⟩), ⟨18, 0, 3, 0, 0, eB⟩]
theorem li_right {r x : Int} (hr : r = 0 ∨ r = 7) (hx : isWd x = true) (o : Ob) : rightL ⟨1, r, 0, 0, x, eB⟩ o = true := by
  have h1 : numOk ⟨1, r, 0, 0, x, eB⟩ o = true := hx
  unfold rightL
  rw [h1]
  rcases hr with rfl | rfl <;> rfl
theorem op_right {op : Int} (h : 1 ≤ op ∧ op ≤ 23) (o : Ob) : rightL (if 20 ≤ op ∧ op ≤ 23 then ⟨2, 3, 0, 0, op, eB⟩ else ⟨3, 3, 0, 7, op, eB⟩) o = true := by
  by_cases h2 : 20 ≤ op ∧ op ≤ 23
  · rw [if_pos h2]
    have h1 : numOk ⟨2, 3, 0, 0, op, eB⟩ o = true := decide_eq_true h2
    unfold rightL
    rw [h1]
    rfl
  · rw [if_neg h2]
    have h1 : numOk ⟨3, 3, 0, 7, op, eB⟩ o = true := decide_eq_true (p := 1 ≤ op ∧ op ≤ 19) (by omega)
    unfold rightL
    rw [h1]
    rfl
theorem op_wrong {op : Int} (h : ¬ (1 ≤ op ∧ op ≤ 23)) (o : Ob) : rightL (if 20 ≤ op ∧ op ≤ 23 then ⟨2, 3, 0, 0, op, eB⟩ else ⟨3, 3, 0, 7, op, eB⟩) o = false := by
  rw [if_neg (by omega)]
  have h1 : numOk ⟨3, 3, 0, 7, op, eB⟩ o = false := decide_eq_false (p := 1 ≤ op ∧ op ≤ 19) (by omega)
  unfold rightL
  rw [h1, Bool.and_false]
theorem ret_right (o : Ob) : rightL ⟨18, 0, 3, 0, 0, eB⟩ o = true := rfl
theorem does_right {op x y : Int} (hx : isWd x = true) (hy : isWd y = true) (h : 1 ≤ op ∧ op ≤ 23) : rightO (mainO (doesL op x y)) = true := by
  unfold rightO
  have h1 : (mainO (doesL op x y)).lines.all (fun l => rightL l (mainO (doesL op x y))) = true := by
    show (doesL op x y).all _ = true
    unfold doesL
    simp only [List.all_cons, List.all_nil, li_right (Or.inl rfl) hx, li_right (Or.inr rfl) hy, op_right h, ret_right, Bool.and_self]
  rw [h1]
  rfl
theorem does_wrong {op x y : Int} (h : ¬ (1 ≤ op ∧ op ≤ 23)) : rightO (mainO (doesL op x y)) = false := by
  unfold rightO
  have h1 : (mainO (doesL op x y)).lines.all (fun l => rightL l (mainO (doesL op x y))) = false := by
    show (doesL op x y).all _ = false
    unfold doesL
    simp only [List.all_cons, List.all_nil, op_wrong h, Bool.and_false, Bool.false_and]
  rw [h1]
  simp
theorem does_not {op x y : Int} (h : ¬ (1 ≤ op ∧ op ≤ 23)) (inp : List Int) (fuel : Int) : runM (mainI (doesL op x y)) inp fuel = ⟨4, 0, []⟩ := by
  refine run_not _ _ _ (Or.inl ?_)
  unfold rightM
  have : (mainI (doesL op x y)).objs.all rightO = false := by
    show [mainO (doesL op x y)].all rightO = false
    simp only [List.all_cons, List.all_nil, does_wrong h, Bool.false_and]
  rw [this]
  simp
theorem dov_un {op x y z : Int} (h : 20 ≤ op ∧ op ≤ 23) : dov op x y = dov op x z := by
  have : op = 20 ∨ op = 21 ∨ op = 22 ∨ op = 23 := by omega
  rcases this with rfl | rfl | rfl | rfl <;> simp [dov]
theorem does_run {op x y : Int} (hx : isWd x = true) (hy : isWd y = true) (h : 1 ≤ op ∧ op ≤ 23) :
    runM (mainI (doesL op x y)) [] 10 = if (dov op x y).2 then ⟨1, (dov op x y).1, []⟩ else ⟨2, 2, []⟩ := by
  have hc : (doesL op x y).all (fun l => !decide (l.op = 12)) = true := by
    unfold doesL
    by_cases h2 : 20 ≤ op ∧ op ≤ 23
    · rw [if_pos h2]; rfl
    · rw [if_neg h2]; rfl
  rw [run_main _ _ _ (right_main _ (does_right hx hy h) hc)]
  obtain ⟨v, is, hd⟩ : ∃ v is, dov op x y = (v, is) := ⟨_, _, rfl⟩
  rw [hd]
  obtain ⟨B, hB⟩ : ∃ B, byName (mainI (doesL op x y)) = B := ⟨_, rfl⟩
  rw [hB]
  have hM : ∃ M, memOf [] = M := ⟨_, rfl⟩
  obtain ⟨M, hM⟩ := hM
  rw [hM]
  rw [show clip 10 = 9 + 1 by unfold clip; omega, iter_next rfl, iter_next rfl]
  obtain ⟨L, hL⟩ : ∃ L, (doesL op x y) = L := ⟨_, rfl⟩
  have e1 : Rn.step B (Rn.step B ⟨M, [0, 0, 0, 0, 0, 0, 0, 0], 1, 0, [], [f0 (doesL op x y) 0], false, 0, 0, []⟩) = ⟨M, [x, 0, 0, 0, 0, 0, 0, y], 1, 0, [], [f0 (doesL op x y) 2], false, 0, 0, []⟩ := rfl
  rw [e1, iter_next rfl]
  have e2 : Rn.step B ⟨M, [x, 0, 0, 0, 0, 0, 0, y], 1, 0, [], [f0 (doesL op x y) 2], false, 0, 0, []⟩ =
      if is then ⟨M, [x, 0, 0, v, 0, 0, 0, y], 1, 0, [], [f0 (doesL op x y) 3], false, 0, 0, []⟩ else ⟨M, [x, 0, 0, 0, 0, 0, 0, y], 1, 0, [], [f0 (doesL op x y) 3], true, 2, 2, []⟩ := by
    by_cases h2 : 20 ≤ op ∧ op ≤ 23
    · rw [Rn.step_is (f := f0 (doesL op x y) 2) (tl := []) (i := ⟨2, 3, 0, 0, op, eB⟩) rfl (by unfold f0 mainO doesL; rw [if_pos h2]; rfl)]
      have hd' : dov op x x = (v, is) := by rw [← hd]; exact dov_un h2
      show (if (dov op x x).2 then Rn.setr _ _ (dov op x x).1 else _) = _
      rw [hd']
      cases is <;> rfl
    · rw [Rn.step_is (f := f0 (doesL op x y) 2) (tl := []) (i := ⟨3, 3, 0, 7, op, eB⟩) rfl (by unfold f0 mainO doesL; rw [if_neg h2]; rfl)]
      show (if (dov op x y).2 then Rn.setr _ _ (dov op x y).1 else _) = _
      rw [hd]
      cases is <;> rfl
  rw [e2]
  cases is
  · rfl
  · rfl

/-! the echo -/
def echoL : List Ln := [⟨14, 0, 0, 0, 0, eB⟩, ⟨2, 1, 0, 0, 21, eB⟩, ⟨17, 0, 1, 0, 4, eB⟩, ⟨18, 0, 0, 0, 0, eB⟩, ⟨15, 0, 0, 0, 0, eB⟩, ⟨16, 0, 0, 0, 0, eB⟩]
theorem echo_right : rightO (mainO echoL) = true := by decide
def nt (c : Int) : Int := wr (bits .xor .i64 (-1) (wr c))
theorem nt_ne : ∀ c : Fin 256, nt (c.val : Int) ≠ 0 := by decide +kernel
theorem nt_end : nt (-1) = 0 := by decide +kernel
def echoR (M : List Int) (a b : Int) (inp outp : List Int) : Rn := ⟨M, [a, b, 0, 0, 0, 0, 0, 0], 1, 0, inp, [f0 echoL 0], false, 0, 0, outp⟩
theorem echo_byte (B : ByteArray → Option Ob) (M : List Int) (a b c : Int) (rest outp : List Int) (hc : 0 ≤ c ∧ c ≤ 255) (k : Nat) :
    Rn.iter B (k + 5) (echoR M a b (c :: rest) outp) = Rn.iter B k (echoR M c (nt c) rest (outp ++ [c])) := by
  have hn : nt c ≠ 0 := by
    have := nt_ne ⟨c.toNat, by omega⟩
    rwa [show ((c.toNat : Nat) : Int) = c by omega] at this
  have h1 : Rn.step B (Rn.step B (echoR M a b (c :: rest) outp)) = ⟨M, [c, nt c, 0, 0, 0, 0, 0, 0], 1, 0, rest, [f0 echoL 2], false, 0, 0, outp⟩ := rfl
  have h2 : Rn.step B ⟨M, [c, nt c, 0, 0, 0, 0, 0, 0], 1, 0, rest, [f0 echoL 2], false, 0, 0, outp⟩ = ⟨M, [c, nt c, 0, 0, 0, 0, 0, 0], 1, 0, rest, [f0 echoL 4], false, 0, 0, outp⟩ := by
    show (if nt c = 0 then _ else _) = _
    rw [if_neg hn]
    rfl
  have h3 : Rn.step B (Rn.step B ⟨M, [c, nt c, 0, 0, 0, 0, 0, 0], 1, 0, rest, [f0 echoL 4], false, 0, 0, outp⟩) = echoR M c (nt c) rest (outp ++ [c % 256]) := rfl
  rw [show k + 5 = (((k + 1 + 1) + 1) + 1) + 1 by omega, iter_next rfl, iter_next rfl, h1, iter_next rfl, h2, iter_next rfl, iter_next rfl, h3, show c % 256 = c by omega]
theorem echo_end (B : ByteArray → Option Ob) (M : List Int) (a b : Int) (outp : List Int) (k : Nat) : (Rn.iter B (k + 4) (echoR M a b [] outp)).res = ⟨1, -1, outp⟩ := by
  have h1 : Rn.step B (Rn.step B (echoR M a b [] outp)) = ⟨M, [-1, nt (-1), 0, 0, 0, 0, 0, 0], 1, 0, [], [f0 echoL 2], false, 0, 0, outp⟩ := rfl
  have h2 : Rn.step B ⟨M, [-1, nt (-1), 0, 0, 0, 0, 0, 0], 1, 0, [], [f0 echoL 2], false, 0, 0, outp⟩ = ⟨M, [-1, nt (-1), 0, 0, 0, 0, 0, 0], 1, 0, [], [f0 echoL 3], false, 0, 0, outp⟩ := by
    rw [Rn.step_is (f := f0 echoL 2) (tl := []) (i := ⟨17, 0, 1, 0, 4, eB⟩) rfl rfl]
    have hq := nt_end
    generalize nt (-1) = q at hq ⊢
    subst hq
    rfl
  have h3 : Rn.step B ⟨M, [-1, nt (-1), 0, 0, 0, 0, 0, 0], 1, 0, [], [f0 echoL 3], false, 0, 0, outp⟩ = ⟨M, [-1, nt (-1), 0, 0, 0, 0, 0, 0], 1, -1, [], [], true, 1, -1, outp⟩ := rfl
  rw [show k + 4 = ((k + 1 + 1) + 1) + 1 by omega, iter_next rfl, iter_next rfl, h1, iter_next rfl, h2, iter_next rfl, h3, Rn.iter_over _ rfl]
  rfl
theorem echo_iter (B : ByteArray → Option Ob) (M : List Int) : ∀ (inp outp : List Int) (a b : Int) (k : Nat), (∀ c ∈ inp, 0 ≤ c ∧ c ≤ 255) →
    (Rn.iter B (k + 4 + 5 * inp.length) (echoR M a b inp outp)).res = ⟨1, -1, outp ++ inp⟩
  | [], outp, a, b, k, _ => by rw [List.append_nil]; exact echo_end B M a b outp k
  | c :: rest, outp, a, b, k, h => by
    rw [show k + 4 + 5 * (c :: rest).length = k + 4 + 5 * rest.length + 5 by simp; omega, echo_byte B M a b c rest outp (h c (by simp)),
      echo_iter B M rest _ _ _ k (fun d hd => h d (by simp [hd]))]
    simp
theorem echo_run (inp : List Int) (hl : inp.length ≤ 200) (h : ∀ c ∈ inp, 0 ≤ c ∧ c ≤ 255) : runM (mainI echoL) inp 2000 = ⟨1, -1, inp⟩ := by
  rw [run_main _ _ _ (right_main _ echo_right (by decide))]
  rw [show clip 2000 = (2000 - 4 - 5 * inp.length) + 4 + 5 * inp.length by rw [show clip 2000 = 2000 by unfold clip; omega]; omega]
  have := echo_iter (byName (mainI echoL)) (memOf []) inp [] 0 0 (2000 - 4 - 5 * inp.length) h
  rw [List.nil_append] at this
  exact this
end Go.Proofs.YtihbgppcacaekaaDoor
