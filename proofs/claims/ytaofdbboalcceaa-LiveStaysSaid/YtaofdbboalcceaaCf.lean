import Derived.Test.YtaofdbboalcceaaCe
/- THE CODE's registers in range: closures, IndexFunc, allOf. -/
namespace Go.Proofs.Ytaofdbboalcceaa
open Go.RowKit Go.BigFrame

/-- the closure reg of right, over the box fb of a function -/
abbrev regV (fb : Nat) : Value := .func (.func 93) #[] #[.pointer (some ⟨fb, 0, none⟩)]
def inR (n R : Int) : Bool := decide (0 ≤ n) && decide (n < R)
theorem right1_any {w : World} {fb : Nat} {R : Int} (h : w.cell? ⟨fb, 2, none⟩ = some (.int .i64 R)) (n : Int) : Calls Try.prog 93 #[.int .i64 n, .pointer (some ⟨fb, 0, none⟩)] w fun e w' => e = .returned (.bool (inR n R)) ∧ w = w' := by
  have hc : (decide (n ≥ 0) = true ∧ decide (0 ≤ n) = true ∧ decide (n < R) = true) ∨ (decide (n ≥ 0) = true ∧ decide (0 ≤ n) = true ∧ decide (n < R) = false) ∨ (decide (n ≥ 0) = false ∧ decide (0 ≤ n) = false) := by simp; omega
  unfold inR
  rcases hc with ⟨q1, q2, q3⟩ | ⟨q1, q2, q3⟩ | ⟨q1, q2⟩
  all_goals
    rw [q2]
    try rw [q3]
    go_enter Try.func93, Try.ntmps93
    go_wp2
    go_returns
    exact ⟨rfl, rfl⟩
theorem right2_any {w : World} {fb : Nat} {C : Option Addr} {L cap : Nat} (h : w.cell? ⟨fb, 4, none⟩ = some (.slice C L cap)) (n : Int) : Calls Try.prog 94 #[.int .i64 n, .pointer (some ⟨fb, 0, none⟩)] w fun e w' => e = .returned (.bool (inR n L)) ∧ w = w' := by
  have hc : (decide (n ≥ 0) = true ∧ decide (0 ≤ n) = true ∧ decide (n < (L : Int)) = true) ∨ (decide (n ≥ 0) = true ∧ decide (0 ≤ n) = true ∧ decide (n < (L : Int)) = false) ∨ (decide (n ≥ 0) = false ∧ decide (0 ≤ n) = false) := by simp; omega
  unfold inR
  rcases hc with ⟨q1, q2, q3⟩ | ⟨q1, q2, q3⟩ | ⟨q1, q2⟩
  all_goals
    rw [q2]
    try rw [q3]
    go_enter Try.func94, Try.ntmps94
    go_wp2
    go_returns
    exact ⟨rfl, rfl⟩
theorem allOf1_any {w : World} {Bb fb : Nat} {R : Int} (h : w.cell? ⟨Bb, 0, none⟩ = some (regV fb)) (hR : w.cell? ⟨fb, 2, none⟩ = some (.int .i64 R)) (n : Int) : Calls Try.prog 108 #[.int .i64 n, .pointer (some ⟨Bb, 0, none⟩)] w fun e w' => e = .returned (.bool (!inR n R)) ∧ w = w' := by
  have h1 := right1_any hR n
  generalize inR n R = b at *
  go_enter Try.func108, Try.ntmps108
  go_wp2_with (first
    | (go_at_call 93; refine h1.mono ?_; rintro e w1 ⟨rfl, hw⟩; subst hw))
  go_returns
  exact ⟨rfl, rfl⟩
/-- a number is told, that is not negative just if a register is out of range -/
def Idx (l : List Int) (R : Int) (e : Ending) : Prop := ∃ i : Int, e = .returned (.int .i64 i) ∧ (i ≥ 0 ↔ ∃ r ∈ l, inR r R = false)
def Bad (l : List Int) (R : Int) (e : Ending) : Prop := ∃ b : Bool, e = .returned (.bool b) ∧ (b = true ↔ ∃ r ∈ l, inR r R = false)
def AllR (l : List Int) (R : Int) (e : Ending) : Prop := ∃ b : Bool, e = .returned (.bool b) ∧ (b = true ↔ ∀ r ∈ l, 0 ≤ r ∧ r < R)
set_option maxRecDepth 1000000 in
/-- slices.IndexFunc, asked for a register that is out of range -/
theorem IndexFunc_any {w : World} {Bb fb : Nat} {R : Int} (h : w.cell? ⟨Bb, 0, none⟩ = some (regV fb)) (hR : w.cell? ⟨fb, 2, none⟩ = some (.int .i64 R)) (A : Option Addr) (l : List Int) (cap : Nat) (hl : RdN w A l) (hL : l.length ≤ 100000) :
    Calls Try.prog 120 #[.slice A l.length cap, .func (.func 108) #[] #[.pointer (some ⟨Bb, 0, none⟩)]] w fun e w' => Idx l R e ∧ w = w' := by
  obtain ⟨L, hLL⟩ : ∃ L, l.length = L := ⟨_, rfl⟩
  rw [hLL] at hL ⊢
  have HL := Lib.hid hLL
  clear hLL
  go_enter Try.func120, Try.ntmps120
  go_wp2
  go_loopw [8] (fun i w8 => ∃ k : Nat, k ≤ L ∧ i = .int .i64 k ∧ w8 = w ∧ ∀ (j : Nat) r, j < k → l[j]? = some r → inR r R = true) (fun i _ => L - (intOf i).toNat)
  case atStart => exact ⟨0, by omega, rfl, rfl, fun j r hj => by omega⟩
  case round =>
    obtain ⟨k, hk, rfl, hw0, hno⟩ := hrel
    have hw1 := hw0.symm
    subst hw1
    by_cases hlt : k < L
    · have hr : l[k]? = some (l[k]'(by rw [HL.out]; exact hlt)) := by simp
      generalize l[k]'(by rw [HL.out]; exact hlt) = r at hr
      obtain ⟨b, o, rfl, _, c0⟩ := hl k r hr
      have h1 := fun (w : World) (h : w.cell? ⟨Bb, 0, none⟩ = some (regV fb)) (hR : w.cell? ⟨fb, 2, none⟩ = some (.int .i64 R)) => allOf1_any h hR r
      cases hb : inR r R
      · rw [hb] at h1
        have HE : Hid ((k : Int) ≥ 0 ↔ ∃ r ∈ l, inR r R = false) := Lib.hid ⟨fun _ => ⟨r, List.mem_of_getElem? hr, hb⟩, fun _ => by omega⟩
        clear hb
        go_wp2_with (first
          | (go_at_call 108; refine (h1 _ h hR).mono ?_; rintro e w1 ⟨rfl, hw⟩; subst hw))
        go_returns
        exact ⟨⟨_, rfl, HE.out⟩, rfl⟩
      · rw [hb] at h1
        have HB := Lib.hid hb
        clear hb
        go_wp2_with (first
          | (go_at_call 108; refine (h1 _ h hR).mono ?_; rintro e w1 ⟨rfl, hw⟩; subst hw))
        exact ⟨⟨k + 1, by omega, by simp, trivial, fun j r' hj hr' => by
          by_cases hjk : j = k
          · subst hjk
            rw [hr] at hr'
            injection hr' with hr'
            subst hr'
            exact HB.out
          · exact hno j r' (by omega) hr'⟩, by simp [intOf]; omega⟩
    · have HE : Hid ((-1 : Int) ≥ 0 ↔ ∃ r ∈ l, inR r R = false) := Lib.hid ⟨fun h => by omega, fun ⟨r, hr, hb⟩ => by
        obtain ⟨j, hj⟩ := List.mem_iff_getElem?.1 hr
        have := hno j r (by have h1 := (List.getElem?_eq_some_iff.1 hj).1; rw [HL.out] at h1; omega) hj
        rw [hb] at this
        cases this⟩
      clear hno
      go_wp2
      go_returns
      exact ⟨⟨_, rfl, HE.out⟩, rfl⟩
/-- allOf, with reg -/
theorem allOf_any {w : World} {fb : Nat} {R : Int} (hR : w.cell? ⟨fb, 2, none⟩ = some (.int .i64 R)) (hfb : fb < w.heap.size) (A : Option Addr) (l : List Int) (cap : Nat) (hl : RdN w A l) (hL : l.length ≤ 100000) :
    Calls Try.prog 96 #[.slice A l.length cap, regV fb] w fun e w' => AllR l R e ∧ Below w.heap.size w w' := by
  have hb := Below.one w (.cells #[regV fb] 88)
  have bx := heap_alloc_new w (.cells #[regV fb] 88)
  have hI := IndexFunc_any (w := w.alloc (.cells #[regV fb] 88)) (Bb := w.heap.size) (fb := fb) (R := R) (cell_of_heap bx 0 _ rfl) ((hb.cell (p := ⟨fb, 2, none⟩) hfb).trans hR) A l cap (hl.below hb) hL
  generalize l.length = LL at *
  have hC : Calls Try.prog 107 #[.slice A LL cap, .func (.func 108) #[] #[.pointer (some ⟨w.heap.size, 0, none⟩)]] (w.alloc (.cells #[regV fb] 88)) fun e w' => Bad l R e ∧ w.alloc (.cells #[regV fb] 88) = w' := by
    generalize w.alloc (.cells #[regV fb] 88) = W at *
    generalize w.heap.size = q at *
    go_enter Try.func107, Try.ntmps107
    go_wp2_with (first
      | (go_at_call 120; refine hI.mono ?_; rintro e w1 ⟨⟨i, rfl, hi⟩, hw⟩; subst hw; have HI := Lib.hid hi; clear hi))
    go_returns
    exact ⟨⟨decide (i ≥ 0), by simp, by rw [decide_eq_true_eq]; exact HI.out⟩, rfl⟩
  clear hI
  go_enter Try.func96, Try.ntmps96
  go_wp2_with (first
    | (go_at_call 107; refine hC.mono ?_; rintro e w1 ⟨⟨b, rfl, hbb⟩, hw⟩; subst hw; have HB := Lib.hid hbb; clear hbb))
  go_returns
  refine ⟨⟨!b, rfl, ?_⟩, hb⟩
  have h1 := HB.out
  constructor
  · intro hn r hr
    cases hi : inR r R
    · have := h1.2 ⟨r, hr, hi⟩
      rw [this] at hn
      cases hn
    · simpa [inR] using hi
  · intro hall
    cases b
    · rfl
    · obtain ⟨r, hr, hi⟩ := h1.1 rfl
      have := hall r hr
      simp [inR] at hi
      omega
end Go.Proofs.Ytaofdbboalcceaa
