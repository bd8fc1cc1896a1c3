import Derived.Test.YtdoeinccnfggiaaDoorRl
namespace Go.Proofs.YtdoeinccnfggiaaDoor
open Go.RowKit Go.BigFrame

set_option maxRecDepth 1000000 in
set_option maxHeartbeats 1000000 in
/-- Few: where it tells true, every step may be gone through, and there are at most 40 -/
theorem few_any {w : World} {A : Option Addr} {l : List Stp} {cap : Nat} (h : RdS w A l) (hl : l.length ≤ 9223372036854775807) : Calls Tryd.prog 16 #[.slice A l.length cap] w fun e w' =>
    (∃ b : Bool, e = .returned (.bool b) ∧ (b = true → l.length ≤ 40 ∧ ∀ s ∈ l, FineS s)) ∧ Below w.heap.size w w' := by
  obtain ⟨L, hL⟩ : ∃ L, l.length = L := ⟨_, rfl⟩
  rw [hL] at hl ⊢
  go_enter Tryd.func16, Tryd.ntmps16
  go_wp2
  go_loopw [9] (fun i w8 => ∃ k : Nat, k ≤ L ∧ i = .int .i64 k ∧ Below w.heap.size w w8 ∧ ∀ (j : Nat) s, j < k → l[j]? = some s → FineS s) (fun i _ => L - (intOf i).toNat)
  case atStart => exact ⟨0, by omega, rfl, Below.refl _ _, fun j s hj => by omega⟩
  case round =>
    obtain ⟨k, hk, rfl, hb, hno⟩ := hrel
    by_cases hlt : k < L
    · have hs : l[k]? = some (l[k]'(by omega)) := by simp
      generalize l[k]'(by omega) = s at hs
      obtain ⟨b, o, C, c, rfl, _, e1, e2, e3, e4, e5, e6⟩ := (h.below hb) k s hs
      obtain ⟨s1, s2, s3, s4, s5⟩ := s
      simp only at e1 e2 e3 e4 e5 e6
      obtain ⟨FL, hFL⟩ : ∃ FL, s5.length = FL := ⟨_, rfl⟩
      rw [hFL] at e5
      have hBA := hb.alloc hb.size (.cells #[.int .i64 s1, .int .i64 s2, .int .i64 s3, .string s4, .slice C FL c] 48)
      have e6A := e6.below (Below.one wr (.cells #[.int .i64 s1, .int .i64 s2, .int .i64 s3, .string s4, .slice C FL c] 48))
      by_cases hn : 100 < s4.size
      · have q1 : decide (s4.size > 100) = true := by simpa using hn
        have q2 : decide ((s4.size : Int) > 100) = true := by simp; omega
        have q3 : decide (100 < s4.size) = true := by simpa using hn
        go_wp2
        go_returns
        exact ⟨⟨false, rfl, fun hh => by cases hh⟩, hBA⟩
      · have q1 : decide (s4.size > 100) = false := by simpa using hn
        have q2 : decide ((s4.size : Int) > 100) = false := by simp; omega
        have q3 : decide (100 < s4.size) = false := by simpa using hn
        by_cases hf : 10 < FL
        · have q4 : decide (FL > 10) = true := by simpa using hf
          have q5 : decide ((FL : Int) > 10) = true := by simp; omega
          have q6 : decide (10 < FL) = true := by simpa using hf
          clear hFL
          go_wp2
          go_returns
          exact ⟨⟨false, rfl, fun hh => by cases hh⟩, hBA⟩
        · have q4 : decide (FL > 10) = false := by simpa using hf
          have q5 : decide ((FL : Int) > 10) = false := by simp; omega
          have q6 : decide (10 < FL) = false := by simpa using hf
          have hnew := heap_alloc_new wr (.cells #[.int .i64 s1, .int .i64 s2, .int .i64 s3, .string s4, .slice C FL c] 48)
          have HFL := Lib.hid hFL
          clear hFL
          go_wp2
          have hw4 : ∃ w4, w4 = wr.alloc (.cells #[.int .i64 s1, .int .i64 s2, .int .i64 s3, .string s4, .slice C FL c] 48) := ⟨_, rfl⟩
          obtain ⟨w4, hw4⟩ := hw4
          rw [← hw4] at hBA e6A ⊢
          clear hnew hw4
          go_loopw [26] (fun i w8 => ∃ m : Nat, m ≤ FL ∧ i = .int .i64 m ∧ Below w4.heap.size w4 w8 ∧ ∀ (j : Nat) f, j < m → s5[j]? = some f → f.name.size ≤ 100) (fun i _ => FL - (intOf i).toNat)
          case atStart => exact ⟨0, by omega, rfl, Below.refl _ _, fun j f hj => by omega⟩
          case round =>
            obtain ⟨m, hm, rfl, hb8, hno8⟩ := hrel
            by_cases hlt2 : m < FL
            · have hfm : s5[m]? = some (s5[m]'(by rw [HFL.out]; omega)) := by simp
              generalize s5[m]'(by rw [HFL.out]; omega) = f at hfm
              obtain ⟨bc, oc, rfl, _, g0, g1⟩ := (e6A.below hb8) m f hfm
              by_cases hfn : 100 < f.name.size
              · have r1 : decide (f.name.size > 100) = true := by simpa using hfn
                have r2 : decide ((f.name.size : Int) > 100) = true := by simp; omega
                have r3 : decide (100 < f.name.size) = true := by simpa using hfn
                go_wp2
                go_returns
                exact ⟨⟨false, rfl, fun hh => by cases hh⟩, hBA.trans ((hb8.alloc hb8.size _).mono hBA.size)⟩
              · have r1 : decide (f.name.size > 100) = false := by simpa using hfn
                have r2 : decide ((f.name.size : Int) > 100) = false := by simp; omega
                have r3 : decide (100 < f.name.size) = false := by simpa using hfn
                go_wp2
                exact ⟨⟨m + 1, by omega, by simp, hb8.alloc hb8.size _, fun j f' hj hf' => by
                  by_cases hjm : j = m
                  · subst hjm
                    rw [hfm] at hf'
                    injection hf' with hf'
                    subst hf'
                    omega
                  · exact hno8 j f' (by omega) hf'⟩, by simp [intOf]; omega⟩
            · have hmF : m = FL := by omega
              subst hmF
              go_wp2
              exact ⟨⟨k + 1, by omega, by simp, hBA.trans (hb8.mono hBA.size), fun j t hj ht => by
                by_cases hjk : j = k
                · subst hjk
                  rw [hs] at ht
                  injection ht with ht
                  subst ht
                  refine ⟨by simp only; omega, by simp only; rw [HFL.out]; omega, fun f hf => ?_⟩
                  obtain ⟨i, hi⟩ := List.mem_iff_getElem?.1 hf
                  exact hno8 i f (by rw [← HFL.out]; exact (List.getElem?_eq_some_iff.1 hi).1) hi
                · exact hno j t (by omega) ht⟩, by simp [intOf]; omega⟩
    · obtain rfl : k = L := by omega
      by_cases h40 : k ≤ 40
      · have q1 : decide (k ≤ 40) = true := by simpa using h40
        have q2 : decide ((k : Int) ≤ 40) = true := by simp; omega
        go_wp2
        go_returns
        refine ⟨⟨_, rfl, fun _ => ⟨h40, fun s hs => ?_⟩⟩, hb⟩
        obtain ⟨j, hj⟩ := List.mem_iff_getElem?.1 hs
        exact hno j s (by rw [← hL]; exact (List.getElem?_eq_some_iff.1 hj).1) hj
      · have q1 : decide (k ≤ 40) = false := by simpa using h40
        have q2 : decide ((k : Int) ≤ 40) = false := by simp; omega
        go_wp2
        go_returns
        exact ⟨⟨false, by simp, fun hh => by cases hh⟩, hb⟩
end Go.Proofs.YtdoeinccnfggiaaDoor
