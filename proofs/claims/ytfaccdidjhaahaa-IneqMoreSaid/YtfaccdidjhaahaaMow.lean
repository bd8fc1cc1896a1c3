import Derived.Test.YtfaccdidjhaahaaMoM
import Derived.Test.YtfaccdidjhaahaaZ
namespace Go.Proofs.Ytfaccdidjhaahaa
open Go.RowKit Go.BigFrame

theorem rows_cap {H : Type} {enc : TypeId × Value → H} {w : World} {A : Option Addr} {n cap : Nat} {d : DataW H} {p : List MemPlace}
    (h : DataW.Trod enc Try.prog w 0 (fun _ => true) true 29 (.slice A n cap) d p) : n ≤ cap := by
  obtain ⟨fuel, hf⟩ := h
  rcases Go.Deep.open_slice (e := 24) (by kernel_rfl) hf with ⟨hcs, _⟩ | ⟨a, len, cap', m, k, D, Pl, hcs, _, hlc, _, _, _, _⟩
  · simp [Value.cells] at hcs
    obtain ⟨rfl, rfl, rfl⟩ := hcs
    exact Nat.le_refl _
  · simp [Value.cells] at hcs
    obtain ⟨rfl, rfl, rfl⟩ := hcs
    exact hlc
theorem Rd.take {w : World} {B : Nat} {A : Option Addr} {l : List Row} (h : Rd w B A l) (k : Nat) : Rd w B A (l.take k) := fun hl => by
  have hl' : 0 < l.length := by simp at hl; omega
  obtain ⟨b, o, e, hlt, hc⟩ := h hl'
  refine ⟨b, o, e, hlt, fun j hj => ?_⟩
  rw [hc j (by simp at hj; omega)]
  have e1 : cellsOf l = cellsOf (l.take k) ++ cellsOf (l.drop k) := by rw [← cellsOf_app, List.take_append_drop]
  rw [e1, List.getElem?_append_left]
  simp [cellsOf_len] at hj ⊢
  omega
theorem sub_take (l : List Row) (k : Nat) : Sub (l.take k) l := fun _ h => List.mem_of_mem_take h
theorem all_bd (l : List Row) (k : Nat) (h : k < l.length) (h0 : ∀ r ∈ l.take k, Bd 2 3 0 r) (h1 : Bd 2 3 0 l[k]) : ∀ r ∈ l.take (k + 1), Bd 2 3 0 r := by
  rw [take_snoc' l k h]
  intro r hr
  rcases List.mem_append.1 hr with hr | hr
  · exact h0 r hr
  · rw [List.mem_singleton.1 hr]; exact h1

set_option maxRecDepth 100000 in
set_option maxHeartbeats 4000000 in
theorem more_any (l : List Row) (A : Option Addr) (cap : Nat) (w : World) (hR : Rd w w.heap.size A l) (hA0 : A = none → cap = 0) (hcap : l.length ≤ cap) :
    Calls Try.prog 9 #[.slice A l.length cap] w fun e w' => e = .returned (.bool true) ∧ Below w.heap.size w w' := by
  by_cases hfew : l.length ≤ 5
  · have hd : decide ((5 : Int) < (l.length : Int)) = false := by simp; omega
    go_enter Try.func9, Try.ntmps9
    go_wp2_with fail
    go_loopw [14] (fun i wr => ∃ k : Nat, k ≤ l.length ∧ i = .int .i64 k ∧ Hid (∀ r ∈ l.take k, Bd 2 3 0 r) ∧ Below w.heap.size w wr) (fun i _ => l.length - (intOf i).toNat)
    case atStart => exact ⟨0, by omega, rfl, Lib.hid (by simp), Below.refl _ _⟩
    case round =>
      obtain ⟨k, hk, rfl, HB, hB⟩ := hrel
      by_cases hlt : k < l.length
      · obtain ⟨b, o, rfl, hb, c0, c1, c2, c3, c4, c5, c6, c7, c8⟩ := (hR.below hB (Nat.le_refl _)).at_ k hlt
        have hs := fun h => all_bd l k hlt HB.out h
        have HS := Lib.hid hs
        clear hs
        have hsz := hB.size
        generalize l[k] = r at c0 c1 c2 c3 c4 c5 c6 c7 c8 HS
        go_wp2_with fail
        have hX : HasR (wr.alloc r.o) wr.heap.size r := HasR.new wr r
        have hBX : Below w.heap.size w (wr.alloc r.o) := hB.alloc hsz _
        generalize wr.alloc r.o = W at *
        go_loopw [20] (fun i w3 => ∃ j : Nat, j ≤ 8 ∧ i = .int .i64 j ∧ Hid (∀ t, t < j → within 2 (r.at t) ∧ (2 < t → r.at t = 0)) ∧ w3 = W) (fun i _ => 8 - (intOf i).toNat)
        case atStart => exact ⟨0, by omega, rfl, Lib.hid (fun t ht => by omega), rfl⟩
        case round =>
          obtain ⟨j, hj, rfl, HJ, rfl⟩ := hrel
          by_cases hj8 : j < 8
          · have hix := index_arr r j hj8
            have hJ2 : within 2 (r.at j) → (2 < j → r.at j = 0) → ∀ t, t < j + 1 → within 2 (r.at t) ∧ (2 < t → r.at t = 0) := fun h1 h2 t ht => by
              rcases Nat.lt_succ_iff_lt_or_eq.1 ht with h | rfl
              · exact HJ.out t h
              · exact ⟨h1, h2⟩
            have HJ2 := Lib.hid hJ2
            clear hJ2
            generalize hf : r.at j = f at hix HJ2
            clear hf
            by_cases h1 : f < -2
            · go_wp2_with (go_at_call 14; refine (awake_any _).mono ?_; rintro e w5 ⟨rfl, hb1⟩)
              go_returns
              exact ⟨rfl, hBX.trans (hb1.mono hBX.size)⟩
            by_cases h2 : 2 < f
            · go_wp2_with (go_at_call 14; refine (awake_any _).mono ?_; rintro e w5 ⟨rfl, hb1⟩)
              go_returns
              exact ⟨rfl, hBX.trans (hb1.mono hBX.size)⟩
            by_cases h3 : 2 < j
            · have h3' : decide ((2 : Int) < (j : Int)) = true := by simp; omega
              by_cases h4 : f = 0
              · subst h4
                go_wp2_with fail
                exact ⟨⟨j + 1, by omega, by go_num, Lib.hid (HJ2.out (by unfold within; omega) (fun _ => rfl)), trivial⟩, by simp [intOf]; omega⟩
              · have h4' : (f == 0) = false := by simp [h4]
                have h5' : (f != 0) = true := by simp [h4]
                go_wp2_with (go_at_call 14; refine (awake_any _).mono ?_; rintro e w5 ⟨rfl, hb1⟩)
                go_returns
                exact ⟨rfl, hBX.trans (hb1.mono hBX.size)⟩
            · have h3' : decide ((2 : Int) < (j : Int)) = false := by simp; omega
              go_wp2_with fail
              exact ⟨⟨j + 1, by omega, by go_num, Lib.hid (HJ2.out (by unfold within; omega) (fun h => absurd h h3)), trivial⟩, by simp [intOf]; omega⟩
          · have hj9 : j = 8 := by omega
            subst hj9
            obtain ⟨d0, d1, d2, d3, d4, d5, d6, d7, d8⟩ := hX.cells
            generalize hc : r.c = c at *
            by_cases h1 : c < -3
            · go_wp2_with (go_at_call 14; refine (awake_any _).mono ?_; rintro e w5 ⟨rfl, hb1⟩)
              go_returns
              exact ⟨rfl, hBX.trans (hb1.mono hBX.size)⟩
            by_cases h2 : 3 < c
            · go_wp2_with (go_at_call 14; refine (awake_any _).mono ?_; rintro e w5 ⟨rfl, hb1⟩)
              go_returns
              exact ⟨rfl, hBX.trans (hb1.mono hBX.size)⟩
            go_wp2_with fail
            exact ⟨⟨k + 1, by omega, by go_num, Lib.hid (HS.out ⟨fun t ht => (HJ.out t ht).1, by unfold within; omega, fun t ht h => (HJ.out t ht).2 (by omega)⟩), hBX⟩, by simp [intOf]; omega⟩
      · have hkl : k = l.length := by omega
        subst hkl
        rw [List.take_length] at HB
        have HM : Hid (∀ t, neverS (l.take t) = true → neverS l = true) := Lib.hid (fun t h => never_more (sub_take l t) hfew HB.out h)
        go_wp2_with fail
        obtain ⟨wi, rfl⟩ : ∃ wi : World, wi = wr := ⟨_, rfl⟩
        go_loopw [52] (fun i w3 => ∃ j : Nat, j ≤ l.length ∧ i = .int .i64 j ∧ Below w.heap.size w w3) (fun i _ => l.length - (intOf i).toNat)
        case atStart => exact ⟨0, by omega, rfl, hB⟩
        case round =>
          clear hB
          obtain ⟨j, hj, rfl, hB⟩ := hrel
          have hsz := hB.size
          by_cases hjl : j < l.length
          · have htl : (l.take j).length = j := by simp; omega
            have HTL := Lib.hid htl
            clear htl
            have hjc : j ≤ cap := by omega
            cases hn : neverS (l.take j)
            · have HN := Lib.hid hn
              clear hn
              go_wp2_with (at_builtin; go_must (refine append_rd rfl _ _ rfl w.heap.size _ [] rfl (Own.made _ hsz) _ A (l.take j) cap (by rw [HTL.out]; rfl) ((hR.below (hB.alloc hsz _) (Nat.le_refl _)).take j) hA0 (by simp; omega) (by simp; omega) ?_); intro V' w2 ho hg hat)
              rw [List.nil_append] at ho
              obtain ⟨A2, cap2, rfl, _, hRd⟩ := ho.form
              have hB2 : Below w.heap.size w w2 := (hB.alloc hsz _).grown hg (by simp; omega) (fun q hq => by injection hq with hq; subst hq; simp; omega)
              refine (never_any (l.take j) A2 cap2 _ (by have := HTL.out; omega) hRd).mono ?_; rintro e w3 ⟨rfl, hb1⟩
              rw [HN.out]
              replace hB2 := hB2.trans (hb1.mono hB2.size)
              clear hb1
              go_wp2_with fail
              exact ⟨⟨j + 1, by omega, by go_num, hB2⟩, by simp [intOf]; omega⟩
            · have HN2 := Lib.hid (HM.out j hn)
              have HN := Lib.hid hn
              clear hn
              go_wp2_with (at_builtin; go_must (refine append_rd rfl _ _ rfl w.heap.size _ [] rfl (Own.made _ hsz) _ A (l.take j) cap (by rw [HTL.out]; rfl) ((hR.below (hB.alloc hsz _) (Nat.le_refl _)).take j) hA0 (by simp; omega) (by simp; omega) ?_); intro V' w2 ho hg hat)
              rw [List.nil_append] at ho
              obtain ⟨A2, cap2, rfl, _, hRd⟩ := ho.form
              have hB2 : Below w.heap.size w w2 := (hB.alloc hsz _).grown hg (by simp; omega) (fun q hq => by injection hq with hq; subst hq; simp; omega)
              refine (never_any (l.take j) A2 cap2 _ (by have := HTL.out; omega) hRd).mono ?_; rintro e w3 ⟨rfl, hb1⟩
              rw [HN.out]
              replace hB2 := hB2.trans (hb1.mono hB2.size)
              clear hb1 ho hRd hg hat
              have hsz2 := hB2.size
              go_wp2_with (at_builtin; go_must (refine append_rd rfl _ _ rfl w.heap.size _ [] rfl (Own.made _ hsz2) _ A l cap rfl (hR.below (hB2.alloc hsz2 _) (Nat.le_refl _)) hA0 (by simp; omega) (by simp; omega) ?_); intro V4 w4 ho hg hat)
              rw [List.nil_append] at ho
              obtain ⟨A4, cap4, rfl, _, hRd⟩ := ho.form
              have hB4 : Below w.heap.size w w4 := (hB2.alloc hsz2 _).grown hg (by simp; omega) (fun q hq => by injection hq with hq; subst hq; simp; omega)
              refine (never_any l A4 cap4 _ (by omega) hRd).mono ?_; rintro e w5 ⟨rfl, hb1⟩
              rw [HN2.out]
              replace hB4 := hB4.trans (hb1.mono hB4.size)
              clear hb1
              go_wp2_with fail
              exact ⟨⟨j + 1, by omega, by go_num, hB4⟩, by simp [intOf]; omega⟩
          · have hjl2 : j = l.length := by omega
            subst hjl2
            go_wp2_with (go_at_call 14; refine (awake_any _).mono ?_; rintro e w5 ⟨rfl, hb1⟩)
            go_returns
            exact ⟨rfl, hB.trans (hb1.mono hB.size)⟩
  · have hd : decide ((5 : Int) < (l.length : Int)) = true := by simp; omega
    go_enter Try.func9, Try.ntmps9
    go_wp2_with (go_at_call 14; refine (awake_any _).mono ?_; rintro e w5 ⟨rfl, hb1⟩)
    go_returns
    exact ⟨rfl, hb1⟩
end Go.Proofs.Ytfaccdidjhaahaa
