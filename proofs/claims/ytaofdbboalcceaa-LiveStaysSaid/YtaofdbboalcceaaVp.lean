import Derived.Test.YtaofdbboalcceaaVm
import Derived.Test.YtaofdbboalcceaaFz
import Derived.StillTailTactics
import Derived.RegionTactic
import Derived.BigRegion
import Derived.Deep.CutRange
import Derived.Deep.RegionWith
/- the document's In; its Ahead's inner loop. -/
namespace Go.Proofs.Ytaofdbboalcceaa
open Go.RowKit Go.BigFrame

theorem RdN.keep {w w' : World} {A : Option Addr} {l : List Int} (h : RdN w A l) (hs : w.heap.size ≤ w'.heap.size) (hk : ∀ b o, A = some ⟨b, o, none⟩ → b < w.heap.size → w'.heap[b]? = w.heap[b]?) : RdN w' A l := fun j n hn => by
  obtain ⟨b, o, e1, e2, e3⟩ := h j n hn
  exact ⟨b, o, e1, by omega, by rw [← e3]; simp only [World.cell?, hk b o e1 e2]⟩
set_option maxRecDepth 1000000 in
theorem In_any (A : Option Addr) (l : List Int) (cap : Nat) (x : Int) (w : World) (h : RdN w A l) (hl : l.length ≤ 100000) : Calls Try.prog 42 #[.slice A l.length cap, .int .i64 x] w fun e w' => e = .returned (.bool (l.contains x)) ∧ w = w' := by
  obtain ⟨L, hL⟩ : ∃ L, l.length = L := ⟨_, rfl⟩
  rw [hL] at hl ⊢
  have HL := Lib.hid hL
  have H := Lib.hid h
  obtain ⟨z, hz⟩ : ∃ z, l.contains x = z := ⟨_, rfl⟩
  rw [hz]
  have HZ := Lib.hid hz
  clear hL h hz
  go_enter Try.func42, Try.ntmps42
  go_wp2
  go_loop [5] (fun ix => ∃ k : Nat, k ≤ L ∧ ix = .int .i64 k ∧ x ∉ l.take k) (fun ix => L - (intOf ix).toNat)
  case atStart => exact ⟨0, by omega, rfl, by simp⟩
  case round =>
    obtain ⟨k, hk, rfl, hno⟩ := hrel
    have HNO := Lib.hid hno
    clear hno
    by_cases hlt : k < L
    · obtain ⟨y, hy⟩ : ∃ y, l[k]? = some y := ⟨_, List.getElem?_eq_getElem (by rw [HL.out]; exact hlt)⟩
      obtain ⟨b, o, rfl, hbl, hc⟩ := H.out k y hy
      have HY := Lib.hid hy
      clear hy
      by_cases hxy : y = x
      · have q1 : (y == x) = true := by simp [hxy]
        have HR : Hid (l.contains x = true) := Lib.hid (by rw [List.contains_iff_mem, ← hxy]; exact List.mem_of_getElem? HY.out)
        clear hxy
        go_wp2
        go_returns
        exact ⟨by rw [← HZ.out, HR.out]; rfl, rfl⟩
      · have q1 : (y == x) = false := by simp [hxy]
        have HN : Hid (x ∉ l.take (k + 1)) := Lib.hid (by
          rw [List.take_add_one, HY.out, Option.toList_some]
          intro h
          rcases List.mem_append.1 h with h | h
          · exact HNO.out h
          · simp only [List.mem_singleton] at h; exact hxy h.symm)
        clear hxy
        go_wp2
        go_round
        case rel => exact ⟨k + 1, by omega, by go_num, HN.out⟩
        case measure => simp [intOf]; omega
    · obtain rfl : k = L := by omega
      have HR : Hid (l.contains x = false) := Lib.hid (by
        rw [Bool.eq_false_iff]
        intro h
        rw [List.contains_iff_mem] at h
        exact HNO.out (by rw [List.take_of_length_le (by rw [HL.out]; omega)]; exact h))
      go_wp2
      go_returns
      exact ⟨by rw [← HZ.out, HR.out]; rfl, rfl⟩
noncomputable def ra1 : Code := ((((Try.f41.body).map loopsOf).getD [])[0]?).getD .skip
noncomputable def ra2 : Code := ((loopsOf (inLoop ra1))[0]?).getD .skip
/-- a list of places that grows: what is of nx, from the j-th on, is added unless it is there -/
structure Grow (N : Nat) (nx T0 T : List Int) (k : Nat) : Prop where
  ext : ∃ E, T = T0 ++ E
  nd : T.Nodup
  bd : ∀ x ∈ T, 0 ≤ x ∧ x < (N : Int)
  all : ∀ (j : Nat) n, j < k → nx[j]? = some n → n ∈ T
  only : ∀ x ∈ T, x ∈ T0 ∨ x ∈ nx
set_option maxRecDepth 1000000 in
set_option maxHeartbeats 8000000 in
theorem ra2_any (w : World) (base N : Nat) (hN : N ≤ 8192) (nx T0 : List Int) (V0 : Value) (A : Option Addr) (cap Ln : Nat) (hLn : nx.length = Ln) (hLn2 : Ln ≤ 100) (hown : OwnN w V0 T0) (hV : ∀ b, V0.ownBlock = some b → base ≤ b) (hbase : base ≤ w.heap.size) (hR : RdN w A nx)
    (hA : ∀ b o, A = some ⟨b, o, none⟩ → V0.ownBlock ≠ some b) (hin : ∀ n ∈ nx, 0 ≤ n ∧ n < (N : Int)) (hnd : T0.Nodup) (hbd : ∀ x ∈ T0, 0 ≤ x ∧ x < (N : Int))
    (x0 x1 x2 x3 x4 x5 x6 x8 x9 x12 x13 x14 x15 x16 x17 x18 x19 x20 x21 x22 x23 x24 x25 x26 x27 x28 x29 x30 x31 x32 x33 x34 x35 x36 x37 x38 x39 x40 x41 x42 x43 x44 x45 x46 x47 x48 x49 x50 x51 x52 x53 x54 x55 x56 x57 x58 x59 x60 x61 : Value) (Q : Exit → Act → World → Prop)
    (hexit : ∀ (y7 y42 y43 y44 y45 y46 y47 y48 y49 y50 y51 y52 y53 y54 y55 y56 y57 y58 y59 y60 y61 : Value) (w' : World) (T : List Int), OwnN w' y7 T → (∀ b, y7.ownBlock = some b → base ≤ b) → Below base w w' → Grow N nx T0 T Ln → Q (.exit 2) ⟨(x0 :: x1 :: x2 :: x3 :: x4 :: x5 :: x6 :: y7 :: x8 :: x9 :: .slice A Ln cap :: .int .i64 (Ln : Int) :: x12 :: x13 :: x14 :: x15 :: x16 :: x17 :: x18 :: x19 :: x20 :: x21 :: x22 :: x23 :: x24 :: x25 :: x26 :: x27 :: x28 :: x29 :: x30 :: x31 :: x32 :: x33 :: x34 :: x35 :: x36 :: x37 :: x38 :: x39 :: x40 :: x41 :: y42 :: y43 :: y44 :: y45 :: y46 :: y47 :: y48 :: y49 :: y50 :: y51 :: y52 :: y53 :: y54 :: y55 :: y56 :: y57 :: y58 :: y59 :: y60 :: y61 :: []).toArray, []⟩ w') :
    Code.wp Try.prog ra2 Q ⟨(x0 :: x1 :: x2 :: x3 :: x4 :: x5 :: x6 :: V0 :: x8 :: x9 :: .slice A Ln cap :: .int .i64 0 :: x12 :: x13 :: x14 :: x15 :: x16 :: x17 :: x18 :: x19 :: x20 :: x21 :: x22 :: x23 :: x24 :: x25 :: x26 :: x27 :: x28 :: x29 :: x30 :: x31 :: x32 :: x33 :: x34 :: x35 :: x36 :: x37 :: x38 :: x39 :: x40 :: x41 :: x42 :: x43 :: x44 :: x45 :: x46 :: x47 :: x48 :: x49 :: x50 :: x51 :: x52 :: x53 :: x54 :: x55 :: x56 :: x57 :: x58 :: x59 :: x60 :: x61 :: []).toArray, []⟩ w := by
  conv => arg 2; whnf
  have HE := Lib.hid hexit
  have HLN := Lib.hid hLn
  have HIN := Lib.hid hin
  have H0 := Lib.hid (show OwnN w V0 T0 ∧ (∀ b, V0.ownBlock = some b → base ≤ b) ∧ RdN w A nx ∧ (∀ b o, A = some ⟨b, o, none⟩ → V0.ownBlock ≠ some b) ∧ Below base w w ∧ Grow N nx T0 T0 0 from ⟨hown, hV, hR, hA, Below.refl _ _, ⟨[], by simp⟩, hnd, hbd, (fun j n hj => by omega), fun x hx => Or.inl hx⟩)
  clear hexit hLn hin hown hV hR hA hnd hbd
  go_loopw [7, 11] (fun V ix wr => ∃ (k : Nat) (T : List Int), k ≤ Ln ∧ ix = .int .i64 k ∧ OwnN wr V T ∧ (∀ b, V.ownBlock = some b → base ≤ b) ∧ RdN wr A nx ∧ (∀ b o, A = some ⟨b, o, none⟩ → V.ownBlock ≠ some b) ∧ Below base w wr ∧ Grow N nx T0 T k) (fun _ ix _ => Ln - (intOf ix).toNat)
  case atStart => obtain ⟨a, b, c, d, e, f⟩ := H0.out; exact ⟨0, T0, by omega, rfl, a, b, c, d, e, f⟩
  case round =>
    obtain ⟨k, T, hk, rfl, hown, hV, hR, hA, hb, hg⟩ := hrel
    clear H0
    by_cases hlt : k < Ln
    · obtain ⟨n, hn⟩ : ∃ n, nx[k]? = some n := ⟨_, List.getElem?_eq_getElem (by rw [HLN.out]; exact hlt)⟩
      have hnb := HIN.out n (List.mem_of_getElem? hn)
      obtain ⟨A1, c1, hVf, _, hrd⟩ := hown.form
      have hTl : T.length ≤ N := nodup_le N T hg.nd hg.bd
      have hin := fun W h => In_any A1 T c1 n W h (by omega)
      obtain ⟨b, o, rfl, hbl, hc⟩ := hR k n hn
      have hsz := hb.size
      have HOWN := Lib.hid hown
      have HV := Lib.hid hV
      have HR := Lib.hid hR
      have HA := Lib.hid hA
      have HB := Lib.hid hb
      have HG := Lib.hid hg
      have HN := Lib.hid hn
      have HNB := Lib.hid hnb
      have HRD := Lib.hid hrd
      obtain ⟨y, hy⟩ : ∃ y, T.contains n = y := ⟨_, rfl⟩
      have hyb : y = true ↔ n ∈ T := by rw [← hy, List.contains_iff_mem]
      rw [hy] at hin
      rw [← hVf] at hin
      have HINY := Lib.hid hin
      have HYB := Lib.hid hyb
      clear hown hV hR hA hb hg hn hnb hrd hin hy hyb hVf
      cases y with
      | true =>
        go_wp2_with (first
          | (refine (HINY.out _ HRD.out).mono ?_; rintro e w3 ⟨rfl, rfl⟩))
        exact ⟨⟨k + 1, T, by omega, by go_num, HOWN.out, HV.out, HR.out, HA.out, HB.out, HG.out.ext, HG.out.nd, HG.out.bd, fun j x hj hx => by
          by_cases hjk : j = k
          · subst hjk
            rw [HN.out] at hx
            injection hx with hx
            subst hx
            exact HYB.out.1 (by simp)
          · exact HG.out.all j x (by omega) hx, HG.out.only⟩, by simp [intOf]; omega⟩
      | false =>
        have hno : Hid (n ∉ T) := Lib.hid (fun h => by have := HYB.out.2 h; cases this)
        have HTL : Hid (T.length ≤ 90000) := Lib.hid (by omega)
        clear hTl
        go_wp2_with (first
          | (refine (HINY.out _ HRD.out).mono ?_; rintro e w3 ⟨rfl, rfl⟩)
          | (at_builtin; refine append_one rfl (.tmp 55) (.tmp 60) rfl u7 T rfl (HOWN.out.alloc _) wr.heap.size n rfl (heap_alloc_new _ _) HTL.out ?_; intro V' w8 ho8 hg8 hb8))
        refine ⟨⟨k + 1, T ++ [n], by omega, by go_num, ho8, fun x hx => ?_, ?_, fun x oo hx => ?_, ?_, ?_⟩, by simp [intOf]; omega⟩
        · rcases hb8 with e | e
          · rw [e] at hx; exact HV.out x hx
          · rw [e] at hx; injection hx with hx; simp at hx; omega
        · exact (HR.out.below (Below.one _ _)).keep hg8.size (fun x oo hx hl => hg8.block x hl (fun e => HA.out x oo hx e.symm))
        · intro e
          have hxb : b = x := by injection hx with hx; injection hx
          rcases hb8 with e2 | e2
          · rw [e2] at e; exact HA.out x oo hx e
          · rw [e2] at e; injection e with e; simp at e; omega
        · exact Below.grown (HB.out.alloc (by omega) _) hg8 (by simp; omega) (fun x hx => HV.out x hx)
        · obtain ⟨E, hE⟩ := HG.out.ext
          refine ⟨⟨E ++ [n], by rw [hE, List.append_assoc]⟩, ?_, fun x hx => ?_, fun j x hj hx => ?_, fun x hx => ?_⟩
          · rw [List.nodup_append]
            exact ⟨HG.out.nd, by simp, fun a ha b' hb' e => by
              simp only [List.mem_singleton] at hb'
              subst hb' e
              exact hno.out ha⟩
          · rcases List.mem_append.1 hx with h | h
            · exact HG.out.bd x h
            · simp only [List.mem_singleton] at h; subst h; exact HNB.out
          · by_cases hjk : j = k
            · subst hjk
              rw [HN.out] at hx
              injection hx with hx
              subst hx
              simp
            · exact List.mem_append_left _ (HG.out.all j x (by omega) hx)
          · rcases List.mem_append.1 hx with h | h
            · exact HG.out.only x h
            · simp only [List.mem_singleton] at h; subst h; exact Or.inr (List.mem_of_getElem? HN.out)
    · obtain rfl : k = Ln := by omega
      have HX := fun (y42 y43 y44 y45 y46 y47 y48 y49 y50 y51 y52 y53 y54 y55 y56 y57 y58 y59 y60 y61 : Value) => Lib.hid (HE.out u7 y42 y43 y44 y45 y46 y47 y48 y49 y50 y51 y52 y53 y54 y55 y56 y57 y58 y59 y60 y61 wr T hown hV hb hg)
      clear hown hV hR hA hb hg HE
      go_wp2
      exact (HX _ _ _ _ _ _ _ _ _ _ _ _ _ _ _ _ _ _ _ _).out
end Go.Proofs.Ytaofdbboalcceaa

/- the document's live Ahead. -/
namespace Go.Proofs.Ytaofdbboalcceaa
open Go.RowKit Go.BigFrame

/-- what is gone through -/
structure Seen (f : Fn7) (a : Nat) (r : Int) (T : List Int) (k : Nat) : Prop where
  hd : T[0]? = some (a : Int)
  nd : T.Nodup
  bd : ∀ x ∈ T, 0 ≤ x ∧ x < (f.code.length : Int)
  kl : k ≤ T.length
  done : ∀ (j : Nat) p i, j < k → T[j]? = some p → f.code[p.toNat]? = some i → r ∉ i.uses ∧ (i.sets = r ∨ ∀ n ∈ i.next p.toNat, n ∈ T)
  way : ∀ p ∈ T, Lv f.code p.toNat r → Lv f.code a r
theorem Seen.start {f : Fn7} {a : Nat} (ha : a < f.code.length) (r : Int) : Seen f a r [(a : Int)] 0 :=
  ⟨rfl, by simp, fun x hx => by simp only [List.mem_singleton] at hx; subst hx; omega, by simp, fun j p i hj => by omega, fun p hp h => by simp only [List.mem_singleton] at hp; subst hp; simpa using h⟩
theorem Seen.len {f : Fn7} {a : Nat} {r : Int} {T : List Int} {k : Nat} (h : Seen f a r T k) : T.length ≤ f.code.length := nodup_le _ T h.nd h.bd
/-- it is set: nothing is added -/
theorem Seen.skip {f : Fn7} {a : Nat} {r : Int} {T : List Int} {k : Nat} (h : Seen f a r T k) {p : Int} (hp : T[k]? = some p) {i : Ins} (hi : f.code[p.toNat]? = some i) (hu : r ∉ i.uses) (hs : i.sets = r) : Seen f a r T (k + 1) :=
  ⟨h.hd, h.nd, h.bd, by have := (List.getElem?_eq_some_iff.1 hp).1; omega, fun j q x hj hq hx => by
    by_cases hjk : j = k
    · subst hjk
      rw [hp] at hq
      injection hq with hq
      subst hq
      rw [hi] at hx
      injection hx with hx
      subst hx
      exact ⟨hu, Or.inl hs⟩
    · exact h.done j q x (by omega) hq hx, h.way⟩
theorem Seen.grow {f : Fn7} {a : Nat} {r : Int} {T T' : List Int} {k Ln : Nat} (h : Seen f a r T k) {p : Int} (hp : T[k]? = some p) {i : Ins} (hi : f.code[p.toNat]? = some i) (hu : r ∉ i.uses) (hs : i.sets ≠ r) (hL : (i.next p.toNat).length = Ln) (hg : Grow f.code.length (i.next p.toNat) T T' Ln) : Seen f a r T' (k + 1) := by
  obtain ⟨E, hE⟩ := hg.ext
  have hkl := (List.getElem?_eq_some_iff.1 hp).1
  have hmem : ∀ x, x ∈ T → x ∈ T' := fun x hx => by rw [hE]; exact List.mem_append_left _ hx
  refine ⟨by rw [hE, List.getElem?_append_left (by omega)]; exact h.hd, hg.nd, hg.bd, by rw [hE, List.length_append]; omega, fun j q x hj hq hx => ?_, fun q hq hl => ?_⟩
  · rw [hE, List.getElem?_append_left (by omega)] at hq
    by_cases hjk : j = k
    · subst hjk
      rw [hp] at hq
      injection hq with hq
      subst hq
      rw [hi] at hx
      injection hx with hx
      subst hx
      refine ⟨hu, Or.inr fun n hn => ?_⟩
      obtain ⟨m, hm⟩ := List.mem_iff_getElem?.1 hn
      exact hg.all m n (by rw [← hL]; exact (List.getElem?_eq_some_iff.1 hm).1) hm
    · obtain ⟨h1, h2⟩ := h.done j q x (by omega) hq hx
      exact ⟨h1, h2.imp (fun h => h) fun h n hn => hmem _ (h n hn)⟩
  · rcases hg.only q hq with h1 | h1
    · exact h.way q h1 hl
    · exact h.way p (List.mem_of_getElem? hp) (Lv.step hi h1 hs hl)
theorem Seen.closed {f : Fn7} {a : Nat} {r : Int} {T : List Int} (h : Seen f a r T T.length) : ¬ Lv f.code a r := by
  have : ∀ p, Lv f.code p r → (p : Int) ∈ T → False := fun p hl => by
    induction hl with
    | use h' hu =>
      intro hm
      obtain ⟨j, hj⟩ := List.mem_iff_getElem?.1 hm
      exact (h.done j _ _ (List.getElem?_eq_some_iff.1 hj).1 hj (by simpa using h')).1 hu
    | @step p i n r h' hn hs hl ih =>
      intro hm
      obtain ⟨j, hj⟩ := List.mem_iff_getElem?.1 hm
      rcases (h.done j _ _ (List.getElem?_eq_some_iff.1 hj).1 hj (by simpa using h')).2 with h1 | h1
      · exact hs h1
      · have h2 := h1 n (by simpa using hn)
        have := h.bd n h2
        exact ih h (by rw [Int.toNat_of_nonneg this.1]; exact h2)
  exact fun hl => this a hl (List.mem_of_getElem? h.hd)
theorem OwnN.one (w : World) (x : Int) : OwnN (w.alloc (.cells #[.int .i64 x] 3)) (.slice (some ⟨w.heap.size, 0, none⟩) 1 1) [x] :=
  ⟨by simp, Or.inr ⟨w.heap.size, 1, _, rfl, Nat.zero_le _, heap_alloc_new w _, Nat.le_refl _, by simp [maxLen], by simp, by simp⟩⟩
set_option maxRecDepth 1000000 in
set_option maxHeartbeats 16000000 in
theorem refAhead_any (f : Fn7) (hf : OkF f) (a : Nat) (ha : a < f.code.length) (r : Int) (C : Option Addr) (cap : Nat) (w : World) (hC : RdI w C f.code) :
    Calls Try.prog 41 #[funcAgg f.nm f.ps f.R f.Fr C f.code.length cap, .int .i64 a, .int .i64 r] w fun e w' => e = .returned (.bool (tb (Lv f.code a r))) ∧ Below w.heap.size w w' := by
  obtain ⟨N, hN⟩ : ∃ N, f.code.length = N := ⟨_, rfl⟩
  have hN2 : N ≤ 8192 := by rw [← hN]; exact hf.len.2
  have hB := Below.one w (funcObj f.nm f.ps f.R f.Fr C f.code.length cap)
  have bx := heap_alloc_new w (funcObj f.nm f.ps f.R f.Fr C f.code.length cap)
  have hC1 := hC.below hB
  have H00 := Lib.hid (Seen.start ha r)
  rw [hN] at hB bx hC1 ha ⊢
  simp only [funcObj, funcAgg] at hB bx hC1 ⊢
  have HC1 := Lib.hid hC1
  have HB := Lib.hid hB
  have HF := Lib.hid hf
  have HN := Lib.hid hN
  obtain ⟨z, hz⟩ : ∃ z, tb (Lv f.code a r) = z := ⟨_, rfl⟩
  rw [hz]
  have HZ := Lib.hid hz
  obtain ⟨W, hW⟩ : ∃ W, w.alloc (.cells #[.string f.nm, .int .i64 f.ps, .int .i64 f.R, .int .i64 f.Fr, .slice C N cap] 24) = W := ⟨_, rfl⟩
  rw [hW] at bx HC1 HB
  have HBX := Lib.hid bx
  have hBl := (Array.getElem?_eq_some_iff.1 bx).1
  clear hf hN hC hB hC1 bx hz
  go_enter Try.func41, Try.ntmps41
  go_wp2
  have H0 := Lib.hid (show OwnN (W.alloc (.cells #[.int .i64 (a : Int)] 3)) (.slice (some ⟨W.heap.size, 0, none⟩) 1 1) [(a : Int)] ∧ (∀ b, (Value.slice (some ⟨W.heap.size, 0, none⟩) 1 1).ownBlock = some b → W.heap.size ≤ b) ∧ Below W.heap.size W (W.alloc (.cells #[.int .i64 (a : Int)] 3)) from ⟨OwnN.one W a, (fun b hb => by simp [Value.ownBlock] at hb; omega), Below.one _ _⟩)
  clear hW
  go_loopg [7, 8] N (fun g V ix wr => ∃ (k : Nat) (T : List Int), g = N - k ∧ ix = .int .i64 k ∧ OwnN wr V T ∧ (∀ b, V.ownBlock = some b → W.heap.size ≤ b) ∧ Below W.heap.size W wr ∧ Seen f a r T k)
  case atStart => exact ⟨0, [(a : Int)], rfl, rfl, H0.out.1, H0.out.2.1, H0.out.2.2, H00.out⟩
  case round =>
    obtain ⟨k, T, hg, rfl, hown, hV, hb, hsn⟩ := hrel
    clear H0
    have HG := Lib.hid hg
    have hTl := hsn.len
    rw [HN.out] at hTl
    have hkl := hsn.kl
    obtain ⟨A1, c1, hVf, hVl, hrd⟩ := hown.form
    obtain ⟨LT, hLT⟩ : ∃ LT, T.length = LT := ⟨_, rfl⟩
    rw [hLT] at hTl hkl hVf
    have HLT := Lib.hid hLT
    have hsz := hb.size
    subst hVf
    clear hg hLT
    have HOWN := Lib.hid hown
    have HV := Lib.hid hV
    have HB2 := Lib.hid hb
    have HSN := Lib.hid hsn
    by_cases hlt : k < LT
    · obtain ⟨pp, hp⟩ : ∃ p, T[k]? = some p := ⟨_, List.getElem?_eq_getElem (by rw [HLT.out]; exact hlt)⟩
      have hpb := hsn.bd pp (List.mem_of_getElem? hp)
      obtain ⟨p, rfl⟩ : ∃ p : Nat, pp = (p : Int) := ⟨pp.toNat, by omega⟩
      have hpN : p < N := by have := hpb.2; rw [HN.out] at this; omega
      obtain ⟨b1, o1, rfl, hb1l, hct⟩ := hrd k _ hp
      obtain ⟨i, hi⟩ : ∃ i, f.code[p]? = some i := ⟨_, List.getElem?_eq_getElem (by rw [HN.out]; exact hpN)⟩
      obtain ⟨bb, oo, rfl, hbl, hcs⟩ := (HC1.out.below hb) p i hi
      obtain ⟨x0, x1, x2, x3, x4, x5, x6, x7, x8, x9, x10, x11, x12, x13, x14⟩ := RdI.load hcs
      have hx4 : wr.heap[w.heap.size]? = _ := (hb.block _ hBl).trans HBX.out
      have g4 := cell_of_heap hx4 4 _ rfl
      have hll2 := (Array.getElem?_eq_some_iff.1 hx4).1
      obtain ⟨kk, op, dst, a', b', n, text, r0, r1, r2, r3, r4, r5, to_, els⟩ := i
      simp only at x0 x1 x2 x3 x4 x5 x6 x7 x8 x9 x10 x11 x12 x13 x14
      have HP := Lib.hid hp
      have HI := Lib.hid hi
      have HRD := Lib.hid hrd
      have HVL := Lib.hid hVl
      clear hown hV hb hsn hp hi hcs hpb hrd hx4 hVl
      go_wp2
      go_region
      have hkx : (wr.alloc (Ins.obj ⟨kk, op, dst, a', b', n, text, r0, r1, r2, r3, r4, r5, to_, els⟩)).drew.heap[wr.heap.size]? = some (Ins.obj ⟨kk, op, dst, a', b', n, text, r0, r1, r2, r3, r4, r5, to_, els⟩) := heap_alloc_new wr _
      have hwd : Below wr.heap.size wr (wr.alloc (Ins.obj ⟨kk, op, dst, a', b', n, text, r0, r1, r2, r3, r4, r5, to_, els⟩)).drew := (Below.one wr _).drew
      simp only [Ins.obj] at hkx hwd
      have ⟨d0, d1, d2, d3, d4, d5, d6, d7, d8, d9, d10, d11, d12, d13, d14⟩ := Ins.cells (i := ⟨kk, op, dst, a', b', n, text, r0, r1, r2, r3, r4, r5, to_, els⟩) hkx
      simp only at d0 d1 d2 d3 d4 d5 d6 d7 d8 d9 d10 d11 d12 d13 d14
      have hua := fun W => refUses_any ⟨kk, op, dst, a', b', n, text, r0, r1, r2, r3, r4, r5, to_, els⟩ W
      have hsa := fun W => refSets_any ⟨kk, op, dst, a', b', n, text, r0, r1, r2, r3, r4, r5, to_, els⟩ W
      have hul := Ins.uses_len ⟨kk, op, dst, a', b', n, text, r0, r1, r2, r3, r4, r5, to_, els⟩
      have HUS : Hid (∀ x, x ∈ Ins.uses ⟨kk, op, dst, a', b', n, text, r0, r1, r2, r3, r4, r5, to_, els⟩ → Lv f.code p x) := Lib.hid fun x hx => Lv.use HI.out hx
      obtain ⟨us, hus⟩ : ∃ us, Ins.uses ⟨kk, op, dst, a', b', n, text, r0, r1, r2, r3, r4, r5, to_, els⟩ = us := ⟨_, rfl⟩
      obtain ⟨sr, hsr⟩ : ∃ sr, Ins.sets ⟨kk, op, dst, a', b', n, text, r0, r1, r2, r3, r4, r5, to_, els⟩ = sr := ⟨_, rfl⟩
      have HU := Lib.hid hus
      have HS := Lib.hid hsr
      rw [hus] at hua hul HUS
      rw [hsr] at hsa
      obtain ⟨Lu, hLu⟩ : ∃ Lu, us.length = Lu := ⟨_, rfl⟩
      obtain ⟨y, hy⟩ : ∃ y, us.contains r = y := ⟨_, rfl⟩
      have hyb : y = true ↔ r ∈ us := by rw [← hy, List.contains_iff_mem]
      have HUA : Hid (∀ W, Calls Try.prog 43 #[.agg #[.int .i64 kk, .int .i64 op, .int .i64 dst, .int .i64 a', .int .i64 b', .int .i64 n, .string text, .int .i64 r0, .int .i64 r1, .int .i64 r2, .int .i64 r3, .int .i64 r4, .int .i64 r5, .int .i64 to_, .int .i64 els]] W fun e w' => (∃ A c, e = .returned (.slice A Lu c) ∧ RdN w' A us) ∧ Below W.heap.size W w') := Lib.hid fun W => (hua W).mono fun e w' ⟨⟨A, c, h1, h2⟩, h3⟩ => ⟨⟨A, c, by rw [h1, hLu], h2⟩, h3⟩
      have HIN : Hid (∀ A c W, RdN W A us → Calls Try.prog 42 #[.slice A Lu c, .int .i64 r] W fun e w' => e = .returned (.bool y) ∧ W = w') := Lib.hid fun A c W h => by
        have := In_any A us c r W h (by omega)
        rw [hLu, hy] at this
        exact this
      have HSA := Lib.hid hsa
      have HYB := Lib.hid hyb
      have HKX := Lib.hid hkx
      have HWD := Lib.hid hwd
      simp only [Ins.agg] at HUA HSA
      clear hua hsa hul hus hsr hLu hy hyb hkx hwd
      cases y with
      | true =>
        have HZT : Hid (z = true) := Lib.hid (by
          rw [← HZ.out, tb_true]
          exact HSN.out.way p (List.mem_of_getElem? HP.out) (by rw [Int.toNat_natCast]; exact HUS.out r (HYB.out.1 rfl)))
        go_wp2_with (first
          | (refine (HUA.out _).mono ?_; rintro e w5 ⟨⟨A5, c5, rfl, hrd5⟩, hb5⟩; have HRD5 := Lib.hid hrd5; clear hrd5)
          | (refine (HIN.out _ _ _ HRD5.out).mono ?_; rintro e w6 ⟨rfl, rfl⟩))
        go_returns
        exact ⟨by rw [HZT.out]; rfl, HB.out.trans ((HB2.out.trans ((HWD.out.trans (hb5.mono HWD.out.size)).mono hsz)).mono HB.out.size)⟩
      | false =>
        by_cases hsr : sr = r
        · have q1 : (sr == r) = true := by simp [hsr]
          have HNX : Hid (Seen f a r T (k + 1)) := Lib.hid (HSN.out.skip HP.out (i := ⟨kk, op, dst, a', b', n, text, r0, r1, r2, r3, r4, r5, to_, els⟩) (by rw [Int.toNat_natCast]; exact HI.out) (by rw [HU.out]; exact fun h => by have := HYB.out.2 h; cases this) (by rw [HS.out]; exact hsr))
          clear hsr
          go_wp2_with (first
            | (refine (HUA.out _).mono ?_; rintro e w5 ⟨⟨A5, c5, rfl, hrd5⟩, hb5⟩; have HRD5 := Lib.hid hrd5; have hk5 := (hb5.block _ (Array.getElem?_eq_some_iff.1 HKX.out).1).trans HKX.out; have ⟨d0, d1, d2, d3, d4, d5, d6, d7, d8, d9, d10, d11, d12, d13, d14⟩ := Ins.cells (i := ⟨kk, op, dst, a', b', n, text, r0, r1, r2, r3, r4, r5, to_, els⟩) hk5; simp only at d0 d1 d2 d3 d4 d5 d6 d7 d8 d9 d10 d11 d12 d13 d14; clear hrd5 hk5)
            | (refine (HIN.out _ _ _ HRD5.out).mono ?_; rintro e w6 ⟨rfl, rfl⟩)
            | (refine (HSA.out _).mono ?_; rintro e w7 ⟨rfl, hb7⟩))
          have hbw := (HWD.out.trans (hb5.mono HWD.out.size)).trans (hb7.mono (Nat.le_trans HWD.out.size hb5.size))
          go_roundg (N - (k + 1))
          case measure => rw [HG.out]; omega
          case rel => exact ⟨k + 1, T, rfl, by go_num, HOWN.out.later hbw, HV.out, HB2.out.trans (hbw.mono hsz), HNX.out⟩
        · have q1 : (sr == r) = false := by simp [hsr]
          have hna := fun W => refNext_fr ⟨kk, op, dst, a', b', n, text, r0, r1, r2, r3, r4, r5, to_, els⟩ p (by omega) W
          have hnl := Ins.next_len ⟨kk, op, dst, a', b', n, text, r0, r1, r2, r3, r4, r5, to_, els⟩ p
          have hnxt := HF.out.next HI.out
          have HNX : Hid (∀ T' Ln, (Ins.next ⟨kk, op, dst, a', b', n, text, r0, r1, r2, r3, r4, r5, to_, els⟩ p).length = Ln → Grow N (Ins.next ⟨kk, op, dst, a', b', n, text, r0, r1, r2, r3, r4, r5, to_, els⟩ p) T T' Ln → Seen f a r T' (k + 1)) := Lib.hid fun T' Ln hL hg => HSN.out.grow (i := ⟨kk, op, dst, a', b', n, text, r0, r1, r2, r3, r4, r5, to_, els⟩) (Ln := Ln) HP.out (by rw [Int.toNat_natCast]; exact HI.out) (by rw [HU.out]; exact fun h => by have := HYB.out.2 h; cases this) (by rw [HS.out]; exact hsr) (by rw [Int.toNat_natCast]; exact hL) (by rw [Int.toNat_natCast, HN.out]; exact hg)
          obtain ⟨nx, hnx⟩ : ∃ nx, Ins.next ⟨kk, op, dst, a', b', n, text, r0, r1, r2, r3, r4, r5, to_, els⟩ p = nx := ⟨_, rfl⟩
          rw [hnx] at hna hnl hnxt HNX
          obtain ⟨Ln, hLn⟩ : ∃ Ln, nx.length = Ln := ⟨_, rfl⟩
          have HNA : Hid (∀ W, Calls Try.prog 27 (#[.agg #[.int .i64 kk, .int .i64 op, .int .i64 dst, .int .i64 a', .int .i64 b', .int .i64 n, .string text, .int .i64 r0, .int .i64 r1, .int .i64 r2, .int .i64 r3, .int .i64 r4, .int .i64 r5, .int .i64 to_, .int .i64 els]].push (.int .i64 p)) W fun e w' => (∃ A c, e = .returned (.slice A Ln c) ∧ RdN w' A nx ∧ ∀ b o, A = some ⟨b, o, none⟩ → W.heap.size ≤ b) ∧ Below W.heap.size W w') := Lib.hid fun W => (hna W).mono fun e w' ⟨⟨A, c, h1, h2, h3⟩, h4⟩ => ⟨⟨A, c, by rw [h1, hLn], h2, h3⟩, h4⟩
          simp only [List.push_toArray, List.cons_append, List.nil_append] at HNA
          have HLn := Lib.hid hLn
          have HNXT : Hid (∀ n ∈ nx, 0 ≤ n ∧ n < (N : Int)) := Lib.hid fun n hn => by
            have := hnxt n hn
            rw [HN.out] at this
            omega
          have HLn2 : Hid (Ln ≤ 100) := Lib.hid (by omega)
          clear hsr hna hnl hnxt hnx hLn
          go_wp2_with (first
            | (refine (HUA.out _).mono ?_; rintro e w5 ⟨⟨A5, c5, rfl, hrd5⟩, hb5⟩; have HRD5 := Lib.hid hrd5; have hk5 := (hb5.block _ (Array.getElem?_eq_some_iff.1 HKX.out).1).trans HKX.out; have ⟨d0, d1, d2, d3, d4, d5, d6, d7, d8, d9, d10, d11, d12, d13, d14⟩ := Ins.cells (i := ⟨kk, op, dst, a', b', n, text, r0, r1, r2, r3, r4, r5, to_, els⟩) hk5; simp only at d0 d1 d2 d3 d4 d5 d6 d7 d8 d9 d10 d11 d12 d13 d14; have HK5 := Lib.hid hk5; clear hrd5 hk5)
            | (refine (HIN.out _ _ _ HRD5.out).mono ?_; rintro e w6 ⟨rfl, rfl⟩)
            | (refine (HSA.out _).mono ?_; rintro e w7 ⟨rfl, hb7⟩; have hk7 := (hb7.block _ (Array.getElem?_eq_some_iff.1 HK5.out).1).trans HK5.out; have ⟨d0, d1, d2, d3, d4, d5, d6, d7, d8, d9, d10, d11, d12, d13, d14⟩ := Ins.cells (i := ⟨kk, op, dst, a', b', n, text, r0, r1, r2, r3, r4, r5, to_, els⟩) hk7; simp only at d0 d1 d2 d3 d4 d5 d6 d7 d8 d9 d10 d11 d12 d13 d14; clear hk7))
          have hbw := (HWD.out.trans (hb5.mono HWD.out.size)).trans (hb7.mono (Nat.le_trans HWD.out.size hb5.size))
          obtain ⟨b2, o2, e2, _, ct7⟩ := (HRD.out.below hbw) k _ HP.out
          injection e2 with e2
          injection e2 with e2 e3
          subst e2 e3
          have HBW := Lib.hid hbw
          clear hbw
          go_still_tail 5, (by kernel_rfl)
          go_wp2_with (first
            | (refine (HNA.out _).mono ?_; rintro e w8 ⟨⟨A8, c8, rfl, hrd8, hfr8⟩, hb8⟩))
          have hbw8 : Below wr.heap.size wr w8 := HBW.out.trans ((((Below.refl w7.heap.size w7).drew).trans hb8).mono HBW.out.size)
          have hs7 : wr.heap.size ≤ w7.heap.size := HBW.out.size
          refine ra2_any w8 W.heap.size N hN2 nx T (.slice (some ⟨b1, o1, none⟩) LT c1) A8 c8 Ln HLn.out HLn2.out (HOWN.out.later hbw8) HV.out (Nat.le_trans hsz hbw8.size) hrd8 (fun b o h e => by
            have h1 := hfr8 b o h
            have h2 := HVL.out b e
            have h3 : w7.heap.size ≤ b := h1
            omega) HNXT.out HSN.out.nd (fun x hx => by have := HSN.out.bd x hx; rw [HN.out] at this; exact this) _ _ _ _ _ _ _ _ _ _ _ _ _ _ _ _ _ _ _ _ _ _ _ _ _ _ _ _ _ _ _ _ _ _ _ _ _ _ _ _ _ _ _ _ _ _ _ _ _ _ _ _ _ _ _ _ _ _ _ _ ?_
          intro z7 z42 z43 z44 z45 z46 z47 z48 z49 z50 z51 z52 z53 z54 z55 z56 z57 z58 z59 z60 z61 w9 T' hown9 hV9 hb9 hg9
          have HSN9 := Lib.hid (HNX.out T' Ln HLn.out hg9)
          have HO9 := Lib.hid hown9
          have HV9 := Lib.hid hV9
          have HB9 := Lib.hid ((HB2.out.trans (hbw8.mono hsz)).trans hb9)
          clear hown9 hV9 hb9 hg9 hbw8 hb8 hrd8 hfr8
          go_wp2
          go_roundg (N - (k + 1))
          case measure => rw [HG.out]; omega
          case rel => exact ⟨k + 1, T', rfl, by go_num, HO9.out, HV9.out, HB9.out, HSN9.out⟩
    · obtain rfl : k = LT := by omega
      have HZF : Hid (z = false) := Lib.hid (by
        rw [← HZ.out, tb_false]
        have h := HSN.out
        rw [← HLT.out] at h
        exact h.closed)
      clear hown hV hb hsn hrd hVl
      go_wp2
      go_returns
      exact ⟨by rw [HZF.out]; rfl, HB.out.trans (HB2.out.mono HB.out.size)⟩
end Go.Proofs.Ytaofdbboalcceaa
