import Derived.Test.YtaofdbboalcceaaVc
import Derived.Deep.CutRange
import Derived.Test.YtaofdbboalcceaaCi
/- live.flow: its inner loops. -/
namespace Go.Proofs.Ytaofdbboalcceaa
open Go.RowKit Go.BigFrame

noncomputable def lf2 : Code := ((((Try.f66.body).map loopsOf).getD [])[1]?).getD .skip
noncomputable def lf3 : Code := ((loopsOf (inLoop lf2))[0]?).getD .skip
noncomputable def lf4 : Code := ((loopsOf (inLoop lf3))[0]?).getD .skip
noncomputable def lf5 : Code := ((loopsOf (inLoop lf3))[1]?).getD .skip
noncomputable def lf6 : Code := ((loopsOf (inLoop lf5))[0]?).getD .skip
theorem ne_of_obj {w : World} {a b : Nat} {x y : Obj} (h1 : w.heap[a]? = some x) (h2 : w.heap[b]? = some y) (h : x ≠ y) : a ≠ b := by
  rintro rfl
  rw [h1] at h2
  injection h2 with h2
  exact h h2
theorem SetI.ne {w : World} {a b : Nat} {S : Int → Bool} {cs : Array Value} {t : TypeId} {z : Nat × Nat} (h : SetI w b S) (h1 : w.heap[a]? = some (.cells cs t z)) : a ≠ b := by
  obtain ⟨es, clock, h2, _⟩ := h
  exact ne_of_obj h1 h2 (by simp)
/-- numbers that are read lie in no map, and not in the box of a bool -/
theorem RdN.kp {w w' : World} {mb cb : Nat} {S : Int → Bool} {c : Bool} {A : Option Addr} {l : List Int} (h : RdN w A l) (hm : SetI w mb S) (hc : w.heap[cb]? = some (.cells #[.bool c] 4 (0, 0))) (hk : Kp w w' mb cb) : RdN w' A l := fun j n hn => by
  obtain ⟨b, o, e1, e2, e3⟩ := h j n hn
  have hb : w'.heap[b]? = w.heap[b]? := hk.k b e2 (fun e => by
    subst e
    obtain ⟨es, clock, h2, _⟩ := hm
    simp [World.cell?, h2] at e3) (fun e => by
    subst e
    simp only [World.cell?, hc] at e3
    cases hx : o + j with
    | zero => rw [hx] at e3; simp at e3
    | succ k => rw [hx] at e3; simp at e3)
  exact ⟨b, o, e1, Nat.lt_of_lt_of_le e2 hk.s, by rw [← e3]; simp only [World.cell?, hb]⟩
theorem Fl.other {W1 w w' : World} {sb N : Nat} {S : Sets} {cb : Nat} {ch : Bool} (h : Fl W1 w sb N S cb ch) {r : Nat} (hg : w.grownBy w' (some r)) (hr : cb < r) : Fl W1 w' sb N S cb ch := by
  have hl := h.lt
  have hn := h.cn
  have hk : ∀ b, b < w.heap.size → b ≠ r → w'.heap[b]? = w.heap[b]? := fun b hb hne => hg.block b hb (fun e => hne (by injection e))
  exact ⟨Pre.of_heap h.h (hk _ (by omega) (by omega)), (hk _ (by omega) (by omega)).trans h.bx, fun q hq => (h.r q hq).of_block (hk _ (h.r q hq).lt (by omega)), (hk _ hl (by omega)).trans h.c, hn, Below.grown h.b hg (by omega) (fun k hk => by injection hk; omega)⟩
set_option maxRecDepth 1000000 in
set_option maxHeartbeats 8000000 in
theorem lf4_any (l : List Ins) (Rn : Nat) (W1 w : World) (sb N p cb ab : Nat) (Sp S0 : Sets) (ch0 : Bool) (us : List Int) (A : Option Addr) (cap Lu : Nat) (hLu : us.length = Lu) (hLu6 : Lu ≤ 100)
    (hF : Fl W1 w sb N S0 cb ch0) (hP : Ps l N Rn Sp S0 ch0) (hp : p < N) (ha : w.heap[ab]? = some (.cells #[.int .i64 (p : Int)] 3 (0, 0))) (hR : RdN w A us) (hus : ∀ r ∈ us, Lv l p r ∧ 0 ≤ r ∧ r < (Rn : Int))
    (x0 x1 x2 x3 x4 x5 x6 x7 x9 x10 x11 x12 x13 x14 x15 x16 x17 x18 x19 x20 x21 x22 x23 x24 x25 x26 x27 x28 x29 x30 x31 x32 x33 x34 x35 x36 x37 x38 x39 x40 x41 x42 x43 x47 x48 x49 x50 x51 x52 x53 x54 x55 x56 x57 x58 x59 x60 x61 x62 x63 x64 x65 x66 x67 x68 x69 x70 x71 x72 x73 x74 x75 x76 x77 x78 x79 x80 x81 : Value) (Q : Exit → Act → World → Prop)
    (hexit : ∀ (y10 y47 y48 y49 y50 y51 y52 y53 : Value) (w' : World) (S : Sets) (ch : Bool), Fl W1 w' sb N S cb ch → Ps l N Rn Sp S ch → Kp w w' (sb + 2 + p) cb → (ch = false → ch0 = false) → (ch = false → ∀ r ∈ us, Sp p r = true) → Q (.exit 6) ⟨(x0 :: x1 :: x2 :: x3 :: x4 :: x5 :: x6 :: x7 :: .func (.func 85) #[] #[.pointer (some ⟨sb + 1, 0, none⟩), .pointer (some ⟨ab, 0, none⟩), .pointer (some ⟨cb, 0, none⟩)] :: x9 :: y10 :: x11 :: x12 :: x13 :: x14 :: x15 :: x16 :: x17 :: x18 :: x19 :: x20 :: x21 :: x22 :: x23 :: x24 :: x25 :: x26 :: x27 :: x28 :: x29 :: x30 :: x31 :: x32 :: x33 :: x34 :: x35 :: x36 :: x37 :: x38 :: x39 :: x40 :: x41 :: x42 :: x43 :: .slice A Lu cap :: .int .i64 (Lu : Int) :: .int .i64 (Lu : Int) :: y47 :: y48 :: y49 :: y50 :: y51 :: y52 :: y53 :: x54 :: x55 :: x56 :: x57 :: x58 :: x59 :: x60 :: x61 :: x62 :: x63 :: x64 :: x65 :: x66 :: x67 :: x68 :: x69 :: x70 :: x71 :: x72 :: x73 :: x74 :: x75 :: x76 :: x77 :: x78 :: x79 :: x80 :: x81 :: []).toArray, []⟩ w') :
    Code.wp Try.prog lf4 Q ⟨(x0 :: x1 :: x2 :: x3 :: x4 :: x5 :: x6 :: x7 :: .func (.func 85) #[] #[.pointer (some ⟨sb + 1, 0, none⟩), .pointer (some ⟨ab, 0, none⟩), .pointer (some ⟨cb, 0, none⟩)] :: x9 :: x10 :: x11 :: x12 :: x13 :: x14 :: x15 :: x16 :: x17 :: x18 :: x19 :: x20 :: x21 :: x22 :: x23 :: x24 :: x25 :: x26 :: x27 :: x28 :: x29 :: x30 :: x31 :: x32 :: x33 :: x34 :: x35 :: x36 :: x37 :: x38 :: x39 :: x40 :: x41 :: x42 :: x43 :: .slice A Lu cap :: .int .i64 (Lu : Int) :: .int .i64 0 :: x47 :: x48 :: x49 :: x50 :: x51 :: x52 :: x53 :: x54 :: x55 :: x56 :: x57 :: x58 :: x59 :: x60 :: x61 :: x62 :: x63 :: x64 :: x65 :: x66 :: x67 :: x68 :: x69 :: x70 :: x71 :: x72 :: x73 :: x74 :: x75 :: x76 :: x77 :: x78 :: x79 :: x80 :: x81 :: []).toArray, []⟩ w := by
  conv => arg 2; whnf
  have hab : ab ≠ sb + 2 + p := (hF.r p hp).ne ha
  have habc : ab ≠ cb := ne_of_obj ha hF.c (by simp)
  have HE := Lib.hid hexit
  have HLU := Lib.hid hLu
  have HR := Lib.hid hR
  have HUS := Lib.hid hus
  have HF0 := Lib.hid hF
  have HA := Lib.hid ha
  clear hexit hLu hus ha
  go_loopw [46] (fun ix wr => ∃ (k : Nat) (S : Sets) (ch : Bool), k ≤ Lu ∧ ix = .int .i64 k ∧ Fl W1 wr sb N S cb ch ∧ Ps l N Rn Sp S ch ∧ Kp w wr (sb + 2 + p) cb ∧ (ch = false → ch0 = false) ∧ (ch = false → ∀ (j : Nat) r, j < k → us[j]? = some r → Sp p r = true)) (fun ix _ => Lu - (intOf ix).toNat)
  case atStart => exact ⟨0, S0, ch0, by omega, rfl, hF, hP, Kp.refl _ _ _, (fun h => h), fun _ j r hj => by omega⟩
  case round =>
    obtain ⟨k, S, ch, hk, rfl, hf, hps, hkp, hc0, hdone⟩ := hrel
    clear hF hP
    have HDN := Lib.hid hdone
    clear hdone
    by_cases hlt : k < Lu
    · obtain ⟨r, hr⟩ : ∃ r, us[k]? = some r := ⟨_, List.getElem?_eq_getElem (by rw [HLU.out]; exact hlt)⟩
      have hin := HUS.out r (List.mem_of_getElem? hr)
      obtain ⟨b, o, rfl, hbl, hc⟩ := (HR.out.kp (HF0.out.r p hp) HF0.out.c hkp) k r hr
      have ha2 : wr.heap[ab]? = some (.cells #[.int .i64 (p : Int)] 3 (0, 0)) := (hkp.k ab (Array.getElem?_eq_some_iff.1 HA.out).1 hab habc).trans HA.out
      cases hS : S p r with
      | true =>
        have HC := Lib.hid (add_yes hf ha2 hp hS)
        have HN : Hid (∃ (k' : Nat) (S' : Sets) (ch' : Bool), k' ≤ Lu ∧ Value.int IntKind.i64 ((k : Int) + 1) = .int .i64 k' ∧ Fl W1 wr sb N S' cb ch' ∧ Ps l N Rn Sp S' ch' ∧ Kp w wr (sb + 2 + p) cb ∧ (ch' = false → ch0 = false) ∧ (ch' = false → ∀ (j : Nat) x, j < k' → us[j]? = some x → Sp p x = true)) := Lib.hid ⟨k + 1, S, ch, by omega, by go_num, hf, hps, hkp, hc0, fun hch j x hj hx => by
          by_cases hjk : j = k
          · subst hjk
            rw [hr] at hx
            injection hx with hx
            subst hx
            rw [← hps.st hch]
            exact hS
          · exact HDN.out hch j x (by omega) hx⟩
        clear hr hin hf hps hkp ha2 hS hc0
        go_wp2_with (first
          | (refine HC.out.mono ?_; rintro e w2 ⟨rfl, rfl⟩))
        exact ⟨HN.out, by simp [intOf]; omega⟩
      | false =>
        have HC := Lib.hid (add_no hf ha2 hp hS)
        have hps2 := hps.add hp hin.2 hin.1 hS
        have HN : Hid (∀ w2, Fl W1 w2 sb N (upd2 S p r) cb true → Kp wr w2 (sb + 2 + p) cb → ∃ (k' : Nat) (S' : Sets) (ch' : Bool), k' ≤ Lu ∧ Value.int IntKind.i64 ((k : Int) + 1) = .int .i64 k' ∧ Fl W1 w2 sb N S' cb ch' ∧ Ps l N Rn Sp S' ch' ∧ Kp w w2 (sb + 2 + p) cb ∧ (ch' = false → ch0 = false) ∧ (ch' = false → ∀ (j : Nat) x, j < k' → us[j]? = some x → Sp p x = true)) := Lib.hid fun w2 h1 h2 => ⟨k + 1, _, true, by omega, by go_num, h1, hps2, hkp.trans h2, (fun hch => by cases hch), fun hch => by cases hch⟩
        clear hr hin hf hps hkp ha2 hS hc0 hps2
        go_wp2_with (first
          | (refine HC.out.mono ?_; rintro e w2 ⟨rfl, h1, h2⟩; have HN2 := Lib.hid (HN.out w2 h1 h2); clear h1 h2))
        exact ⟨HN2.out, by simp [intOf]; omega⟩
    · obtain rfl : k = Lu := by omega
      have HX := fun y10 y47 y48 y49 y50 y51 y52 y53 => Lib.hid (HE.out y10 y47 y48 y49 y50 y51 y52 y53 wr S ch hf hps hkp hc0 (fun hch r hr => by
        obtain ⟨j, hj⟩ := List.mem_iff_getElem?.1 hr
        exact HDN.out hch j r (by have := (List.getElem?_eq_some_iff.1 hj).1; rw [HLU.out] at this; exact this) hj))
      clear hf hps hkp HE hc0
      go_wp2
      exact (HX _ _ _ _ _ _ _ _).out
set_option maxRecDepth 1000000 in
set_option maxHeartbeats 8000000 in
theorem lf6_any (l : List Ins) (Rn : Nat) (W1 w0 w : World) (sb N p n cb ab wi rb : Nat) (Sp S0 : Sets) (ch0 : Bool) (i : Ins) (lst : List Int)
    (hF : Fl W1 w0 sb N S0 cb ch0) (hb : Below w0.heap.size w0 w) (hP : Ps l N Rn Sp S0 ch0) (hp : p < N) (hn : n < N) (ha : w0.heap[ab]? = some (.cells #[.int .i64 (p : Int)] 3 (0, 0))) (hi : w0.heap[wi]? = some i.obj)
    (hrb : w0.heap.size ≤ rb) (hR : RgD w rb (sb + 2 + n) (S0 n) lst) (hall : ∀ x, x ∈ lst ↔ S0 n x = true) (hln : ∀ r, S0 n r = true → i.sets ≠ r → Lv l p r ∧ 0 ≤ r ∧ r < (Rn : Int))
    (x0 x1 x2 x3 x4 x5 x6 x9 x10 x11 x12 x13 x14 x15 x16 x17 x18 x19 x20 x21 x22 x23 x24 x25 x26 x27 x28 x29 x30 x31 x32 x33 x34 x35 x36 x37 x38 x39 x40 x41 x42 x43 x44 x45 x46 x47 x48 x49 x50 x51 x52 x53 x54 x55 x56 x57 x58 x59 x60 x61 x62 x63 x64 x65 x67 x68 x69 x70 x71 x72 x73 x74 x75 x76 x77 x78 x79 x80 x81 : Value) (Q : Exit → Act → World → Prop)
    (hexit : ∀ (y13 y67 y68 y69 y70 y71 y72 y73 y74 y75 y76 y77 : Value) (w' : World) (S : Sets) (ch : Bool), Fl W1 w' sb N S cb ch → Ps l N Rn Sp S ch → Kp w0 w' (sb + 2 + p) cb → (ch = false → ch0 = false) → (ch = false → ∀ r, Sp n r = true → i.sets ≠ r → Sp p r = true) → Q (.exit 10) ⟨(x0 :: x1 :: x2 :: x3 :: x4 :: x5 :: x6 :: .pointer (some ⟨wi, 0, none⟩) :: .func (.func 85) #[] #[.pointer (some ⟨sb + 1, 0, none⟩), .pointer (some ⟨ab, 0, none⟩), .pointer (some ⟨cb, 0, none⟩)] :: x9 :: x10 :: x11 :: x12 :: y13 :: x14 :: x15 :: x16 :: x17 :: x18 :: x19 :: x20 :: x21 :: x22 :: x23 :: x24 :: x25 :: x26 :: x27 :: x28 :: x29 :: x30 :: x31 :: x32 :: x33 :: x34 :: x35 :: x36 :: x37 :: x38 :: x39 :: x40 :: x41 :: x42 :: x43 :: x44 :: x45 :: x46 :: x47 :: x48 :: x49 :: x50 :: x51 :: x52 :: x53 :: x54 :: x55 :: x56 :: x57 :: x58 :: x59 :: x60 :: x61 :: x62 :: x63 :: x64 :: x65 :: .pointer (some ⟨rb, 0, none⟩) :: y67 :: y68 :: y69 :: y70 :: y71 :: y72 :: y73 :: y74 :: y75 :: y76 :: y77 :: x78 :: x79 :: x80 :: x81 :: []).toArray, []⟩ w') :
    Code.wp Try.prog lf6 Q ⟨(x0 :: x1 :: x2 :: x3 :: x4 :: x5 :: x6 :: .pointer (some ⟨wi, 0, none⟩) :: .func (.func 85) #[] #[.pointer (some ⟨sb + 1, 0, none⟩), .pointer (some ⟨ab, 0, none⟩), .pointer (some ⟨cb, 0, none⟩)] :: x9 :: x10 :: x11 :: x12 :: x13 :: x14 :: x15 :: x16 :: x17 :: x18 :: x19 :: x20 :: x21 :: x22 :: x23 :: x24 :: x25 :: x26 :: x27 :: x28 :: x29 :: x30 :: x31 :: x32 :: x33 :: x34 :: x35 :: x36 :: x37 :: x38 :: x39 :: x40 :: x41 :: x42 :: x43 :: x44 :: x45 :: x46 :: x47 :: x48 :: x49 :: x50 :: x51 :: x52 :: x53 :: x54 :: x55 :: x56 :: x57 :: x58 :: x59 :: x60 :: x61 :: x62 :: x63 :: x64 :: x65 :: .pointer (some ⟨rb, 0, none⟩) :: x67 :: x68 :: x69 :: x70 :: x71 :: x72 :: x73 :: x74 :: x75 :: x76 :: x77 :: x78 :: x79 :: x80 :: x81 :: []).toArray, []⟩ w := by
  conv => arg 2; whnf
  have hab : ab ≠ sb + 2 + p := (hF.r p hp).ne ha
  have habc : ab ≠ cb := ne_of_obj ha hF.c (by simp)
  have hib : wi ≠ sb + 2 + p := (hF.r p hp).ne hi
  have hibc : wi ≠ cb := ne_of_obj hi hF.c (by simp)
  have hcb := hF.lt
  have hcn := hF.cn
  have HE := Lib.hid hexit
  have HLN := Lib.hid hln
  have HF0 := Lib.hid hF
  have HA := Lib.hid ha
  have HI := Lib.hid hi
  have hal := (Array.getElem?_eq_some_iff.1 ha).1
  have hil := (Array.getElem?_eq_some_iff.1 hi).1
  have h0 : ∃ (lst' : List Int) (S : Sets) (ch : Bool), lst.length = lst'.length ∧ RgD w rb (sb + 2 + n) (S0 n) lst' ∧ S n = S0 n ∧ Fl W1 w sb N S cb ch ∧ Ps l N Rn Sp S ch ∧ Kp w0 w (sb + 2 + p) cb ∧ (ch = false → ch0 = false) ∧ (ch = false → ∀ x, S0 n x = true → x ∉ lst' → i.sets ≠ x → Sp p x = true) :=
    ⟨lst, S0, ch0, rfl, hR, rfl, hF.later hb, hP, Kp.below hb, (fun h => h), fun _ x hx hx2 => absurd ((hall x).2 hx) hx2⟩
  have H0 := Lib.hid h0
  have hset := fun W => Sets_any i W
  simp only [Ins.agg] at hset
  have HSET := Lib.hid hset
  obtain ⟨k, op, dst, a, b', nn, text, r0, r1, r2, r3, r4, r5, to_, els⟩ := i
  clear hexit hln ha hi hF hP hR hall h0 hb hset
  go_loopg [67] lst.length (fun g _ wr => ∃ (lst' : List Int) (S : Sets) (ch : Bool), g = lst'.length ∧ RgD wr rb (sb + 2 + n) (S0 n) lst' ∧ S n = S0 n ∧ Fl W1 wr sb N S cb ch ∧ Ps l N Rn Sp S ch ∧ Kp w0 wr (sb + 2 + p) cb ∧ (ch = false → ch0 = false) ∧ (ch = false → ∀ x, S0 n x = true → x ∉ lst' → Ins.sets ⟨k, op, dst, a, b', nn, text, r0, r1, r2, r3, r4, r5, to_, els⟩ ≠ x → Sp p x = true))
  case atStart => exact H0.out
  case round =>
    obtain ⟨lst', S, ch, hg, hrg, hsn, hf, hps, hkp, hc0, hdone⟩ := hrel
    have HG := Lib.hid hg
    have HSN := Lib.hid hsn
    have HDN := Lib.hid hdone
    have HRG := Lib.hid hrg
    have HFF := Lib.hid hf
    have HPS := Lib.hid hps
    have HKP := Lib.hid hkp
    have HC0 := Lib.hid hc0
    clear hg hsn hdone H0 hrg hf hps hkp hc0
    go_wp2_with (first
      | (at_next; refine wpList_next_set _ rfl _ rfl rb (sb + 2 + n) (S0 n) lst' rfl HRG.out ?_ ?_))
    · intro hl
      have HX := fun y13 y67 y68 y69 y70 y71 y72 y73 y74 y75 y76 y77 => Lib.hid (HE.out y13 y67 y68 y69 y70 y71 y72 y73 y74 y75 y76 y77 wr S ch HFF.out HPS.out HKP.out HC0.out (fun hch r hr hs => HDN.out hch r (by rw [← HSN.out, HPS.out.st hch]; exact hr) (by rw [hl]; simp) hs))
      clear HE
      go_wp2
      exact (HX _ _ _ _ _ _ _ _ _ _ _ _).out
    · intro s l' w2 hm hs hmem hlen hrg2 hg2 hz2 hen
      have hf2 := HFF.out.other hg2 (by omega)
      have hk2 : Kp w0 w2 (sb + 2 + p) cb := ⟨by have := HKP.out.s; omega, fun b hb h1 h2 => (hg2.block b (Nat.lt_of_lt_of_le hb HKP.out.s) (fun e => by injection e; omega)).trans (HKP.out.k b hb h1 h2)⟩
      have hi2 := (hk2.k wi hil hib hibc).trans HI.out
      have ha2 := (hk2.k ab hal hab habc).trans HA.out
      have ⟨d0, d1, d2, d3, d4, d5, d6, d7, d8, d9, d10, d11, d12, d13, d14⟩ := Ins.cells (i := ⟨k, op, dst, a, b', nn, text, r0, r1, r2, r3, r4, r5, to_, els⟩) hi2
      simp only at d0 d1 d2 d3 d4 d5 d6 d7 d8 d9 d10 d11 d12 d13 d14
      have HF2 := Lib.hid hf2
      have HK2 := Lib.hid hk2
      have HA2 := Lib.hid ha2
      have HG2 := Lib.hid hrg2
      have HM := Lib.hid hm
      have HS := Lib.hid hs
      have HME := Lib.hid hmem
      have HLE := Lib.hid hlen
      obtain ⟨z, hz⟩ : ∃ z, Ins.sets ⟨k, op, dst, a, b', nn, text, r0, r1, r2, r3, r4, r5, to_, els⟩ = z := ⟨_, rfl⟩
      have HST2 : Hid (∀ W : World, Calls Try.prog 51 #[.agg #[.int .i64 k, .int .i64 op, .int .i64 dst, .int .i64 a, .int .i64 b', .int .i64 nn, .string text, .int .i64 r0, .int .i64 r1, .int .i64 r2, .int .i64 r3, .int .i64 r4, .int .i64 r5, .int .i64 to_, .int .i64 els]] W fun e w' => e = .returned (.int .i64 z) ∧ Below W.heap.size W w') := Lib.hid (by rw [← hz]; exact HSET.out)
      have HZ := Lib.hid hz
      have HRGS := Lib.hid hg2
      clear hf2 hk2 hi2 ha2 hrg2 hm hs hmem hlen hz hg2 hz2 HSET
      by_cases hsz : s = z
      · have q1 : (s == z) = true := by simp [hsz]
        have q2 : (s != z) = false := by simp [hsz]
        have HSZ := Lib.hid hsz
        clear hsz
        go_wp2_with (first
          | (refine (HST2.out _).mono ?_; rintro e w3 ⟨rfl, hb3⟩))
        go_roundg l'.length
        case measure => rw [HG.out]; exact HLE.out
        case rel =>
          exact ⟨l', S, ch, rfl, HG2.out.below hb3, HSN.out, HF2.out.later hb3, HPS.out, HK2.out.trans (Kp.below hb3), HC0.out, fun hch x hx hx2 hx3 => HDN.out hch x hx (fun h => hx2 ((HME.out x).2 ⟨h, fun e => hx3 (by rw [HZ.out, e, HSZ.out])⟩)) hx3⟩
      · have q1 : (s == z) = false := by simp [hsz]
        have q2 : (s != z) = true := by simp [hsz]
        have hin := HLN.out s HS.out (by rw [HZ.out]; exact fun e => hsz e.symm)
        have HIN := Lib.hid hin
        clear hsz hin
        cases hS : S p s with
        | true =>
          have HC := Lib.hid (fun (w3 : World) (hb3 : Below w2.heap.size w2 w3) => add_yes (HF2.out.later hb3) ((hb3.block _ (Array.getElem?_eq_some_iff.1 HA2.out).1).trans HA2.out) hp hS)
          have HSS := Lib.hid hS
          clear hS
          go_wp2_with (first
            | (refine (HST2.out _).mono ?_; rintro e w3 ⟨rfl, hb3⟩)
            | (refine (HC.out _ hb3).mono ?_; rintro e w4 ⟨rfl, rfl⟩))
          go_roundg l'.length
          case measure => rw [HG.out]; exact HLE.out
          case rel =>
            exact ⟨l', S, ch, rfl, HG2.out.below hb3, HSN.out, HF2.out.later hb3, HPS.out, HK2.out.trans (Kp.below hb3), HC0.out, fun hch x hx hx2 hx3 => by
              by_cases hxs : x = s
              · subst hxs
                rw [← HPS.out.st hch]
                exact HSS.out
              · exact HDN.out hch x hx (fun h => hx2 ((HME.out x).2 ⟨h, hxs⟩)) hx3⟩
        | false =>
          have HC := Lib.hid (fun (w3 : World) (hb3 : Below w2.heap.size w2 w3) => add_no (HF2.out.later hb3) ((hb3.block _ (Array.getElem?_eq_some_iff.1 HA2.out).1).trans HA2.out) hp hS)
          have hnp : n ≠ p := fun e => by
            subst e
            rw [HSN.out, HS.out] at hS
            cases hS
          have HPS2 := Lib.hid (HPS.out.add hp HIN.out.2 HIN.out.1 hS)
          clear hS
          go_wp2_with (first
            | (refine (HST2.out _).mono ?_; rintro e w3 ⟨rfl, hb3⟩)
            | (refine (HC.out _ hb3).mono ?_; rintro e w4 ⟨rfl, hf4, hk4⟩))
          go_roundg l'.length
          case measure => rw [HG.out]; exact HLE.out
          case rel =>
            have hlt := HG2.out.lt
            have hsz3 := hb3.size
            exact ⟨l', _, true, rfl, (HG2.out.below hb3).of_blocks (hk4.k _ (by omega) (by omega) (by omega)) (hk4.k _ (by omega) (by omega) (by omega)), by rw [upd2_other hnp]; exact HSN.out, hf4, HPS2.out, (HK2.out.trans (Kp.below hb3)).trans hk4, (fun hch => by cases hch), fun hch => by cases hch⟩
end Go.Proofs.Ytaofdbboalcceaa

/- live.flow: the loop over the next ones. -/
namespace Go.Proofs.Ytaofdbboalcceaa
open Go.RowKit Go.BigFrame

set_option maxRecDepth 1000000 in
set_option maxHeartbeats 8000000 in
theorem lf5_any (l : List Ins) (Rn : Nat) (W1 w : World) (sb N p cb ab wi : Nat) (Sp S0 : Sets) (ch0 : Bool) (i : Ins) (nx : List Int) (A : Option Addr) (cap Ln : Nat) (hLn : nx.length = Ln) (hLn2 : Ln ≤ 100)
    (hF : Fl W1 w sb N S0 cb ch0) (hP : Ps l N Rn Sp S0 ch0) (hp : p < N) (ha : w.heap[ab]? = some (.cells #[.int .i64 (p : Int)] 3 (0, 0))) (hi : w.heap[wi]? = some i.obj) (hR : RdN w A nx)
    (hin : ∀ n ∈ nx, 0 ≤ n ∧ n.toNat < N) (hst : ∀ n ∈ nx, ∀ r, Lv l n.toNat r → i.sets ≠ r → Lv l p r ∧ 0 ≤ r ∧ r < (Rn : Int))
    (x0 x1 x2 x4 x5 x6 x9 x10 x11 x12 x13 x14 x15 x16 x17 x18 x19 x20 x21 x22 x23 x24 x25 x26 x27 x28 x29 x30 x31 x32 x33 x34 x35 x36 x37 x38 x39 x40 x41 x42 x43 x44 x45 x46 x47 x48 x49 x50 x51 x52 x53 x54 x55 x59 x60 x61 x62 x63 x64 x65 x66 x67 x68 x69 x70 x71 x72 x73 x74 x75 x76 x77 x78 x79 x80 x81 : Value) (Q : Exit → Act → World → Prop)
    (hexit : ∀ (y12 y13 y59 y60 y61 y62 y63 y64 y65 y66 y67 y68 y69 y70 y71 y72 y73 y74 y75 y76 y77 y78 : Value) (w' : World) (S : Sets) (ch : Bool), Fl W1 w' sb N S cb ch → Ps l N Rn Sp S ch → Kp w w' (sb + 2 + p) cb → (ch = false → ch0 = false) → (ch = false → ∀ n ∈ nx, ∀ r, Sp n.toNat r = true → i.sets ≠ r → Sp p r = true) → Q (.exit 8) ⟨(x0 :: x1 :: x2 :: .pointer (some ⟨sb + 1, 0, none⟩) :: x4 :: x5 :: x6 :: .pointer (some ⟨wi, 0, none⟩) :: .func (.func 85) #[] #[.pointer (some ⟨sb + 1, 0, none⟩), .pointer (some ⟨ab, 0, none⟩), .pointer (some ⟨cb, 0, none⟩)] :: x9 :: x10 :: x11 :: y12 :: y13 :: x14 :: x15 :: x16 :: x17 :: x18 :: x19 :: x20 :: x21 :: x22 :: x23 :: x24 :: x25 :: x26 :: x27 :: x28 :: x29 :: x30 :: x31 :: x32 :: x33 :: x34 :: x35 :: x36 :: x37 :: x38 :: x39 :: x40 :: x41 :: x42 :: x43 :: x44 :: x45 :: x46 :: x47 :: x48 :: x49 :: x50 :: x51 :: x52 :: x53 :: x54 :: x55 :: .slice A Ln cap :: .int .i64 (Ln : Int) :: .int .i64 (Ln : Int) :: y59 :: y60 :: y61 :: y62 :: y63 :: y64 :: y65 :: y66 :: y67 :: y68 :: y69 :: y70 :: y71 :: y72 :: y73 :: y74 :: y75 :: y76 :: y77 :: y78 :: x79 :: x80 :: x81 :: []).toArray, []⟩ w') :
    Code.wp Try.prog lf5 Q ⟨(x0 :: x1 :: x2 :: .pointer (some ⟨sb + 1, 0, none⟩) :: x4 :: x5 :: x6 :: .pointer (some ⟨wi, 0, none⟩) :: .func (.func 85) #[] #[.pointer (some ⟨sb + 1, 0, none⟩), .pointer (some ⟨ab, 0, none⟩), .pointer (some ⟨cb, 0, none⟩)] :: x9 :: x10 :: x11 :: x12 :: x13 :: x14 :: x15 :: x16 :: x17 :: x18 :: x19 :: x20 :: x21 :: x22 :: x23 :: x24 :: x25 :: x26 :: x27 :: x28 :: x29 :: x30 :: x31 :: x32 :: x33 :: x34 :: x35 :: x36 :: x37 :: x38 :: x39 :: x40 :: x41 :: x42 :: x43 :: x44 :: x45 :: x46 :: x47 :: x48 :: x49 :: x50 :: x51 :: x52 :: x53 :: x54 :: x55 :: .slice A Ln cap :: .int .i64 (Ln : Int) :: .int .i64 0 :: x59 :: x60 :: x61 :: x62 :: x63 :: x64 :: x65 :: x66 :: x67 :: x68 :: x69 :: x70 :: x71 :: x72 :: x73 :: x74 :: x75 :: x76 :: x77 :: x78 :: x79 :: x80 :: x81 :: []).toArray, []⟩ w := by
  conv => arg 2; whnf
  have hab : ab ≠ sb + 2 + p := (hF.r p hp).ne ha
  have habc : ab ≠ cb := ne_of_obj ha hF.c (by simp)
  have hib : wi ≠ sb + 2 + p := (hF.r p hp).ne hi
  have hibc : wi ≠ cb := ne_of_obj hi hF.c (by simp)
  have hal := (Array.getElem?_eq_some_iff.1 ha).1
  have hil := (Array.getElem?_eq_some_iff.1 hi).1
  have HE := Lib.hid hexit
  have HLN := Lib.hid hLn
  have HR := Lib.hid hR
  have HIN := Lib.hid hin
  have HST := Lib.hid hst
  have HF0 := Lib.hid hF
  have HA := Lib.hid ha
  have HI := Lib.hid hi
  clear hexit hLn hin hst ha hi
  go_loopw [58] (fun ix wr => ∃ (k : Nat) (S : Sets) (ch : Bool), k ≤ Ln ∧ ix = .int .i64 k ∧ Fl W1 wr sb N S cb ch ∧ Ps l N Rn Sp S ch ∧ Kp w wr (sb + 2 + p) cb ∧ (ch = false → ch0 = false) ∧ (ch = false → ∀ (j : Nat) n, j < k → nx[j]? = some n → ∀ r, Sp n.toNat r = true → i.sets ≠ r → Sp p r = true)) (fun ix _ => Ln - (intOf ix).toNat)
  case atStart => exact ⟨0, S0, ch0, by omega, rfl, hF, hP, Kp.refl _ _ _, (fun h => h), fun _ j r hj => by omega⟩
  case round =>
    obtain ⟨k, S, ch, hk, rfl, hf, hps, hkp, hc0, hdone⟩ := hrel
    clear hF hP
    have HDN := Lib.hid hdone
    have HC0 := Lib.hid hc0
    clear hdone hc0
    by_cases hlt : k < Ln
    · obtain ⟨n, hn⟩ : ∃ n, nx[k]? = some n := ⟨_, List.getElem?_eq_getElem (by rw [HLN.out]; exact hlt)⟩
      have hmem := List.mem_of_getElem? hn
      have hnb := HIN.out n hmem
      have hst := HST.out n hmem
      obtain ⟨m, rfl⟩ : ∃ m : Nat, n = (m : Int) := ⟨n.toNat, by omega⟩
      have hmN : m < N := by have := hnb.2; rwa [Int.toNat_natCast] at this
      rw [Int.toNat_natCast] at hst
      obtain ⟨b, o, rfl, hbl, hc⟩ := (HR.out.kp (HF0.out.r p hp) HF0.out.c hkp) k _ hn
      have ha2 := (hkp.k ab hal hab habc).trans HA.out
      have hi2 := (hkp.k wi hil hib hibc).trans HI.out
      have c0 := cell_of_heap hf.bx 0 _ rfl
      have c1 := hf.cell hmN
      have HSET := Lib.hid (hf.r m hmN)
      have HNN := Lib.hid hn
      have HL := Lib.hid hst
      have HF := Lib.hid hf
      have HP := Lib.hid hps
      have HK := Lib.hid hkp
      have HA2 := Lib.hid ha2
      have HI2 := Lib.hid hi2
      clear hn hmem hnb hst hf hps hkp ha2 hi2
      go_wp2_with (first
        | (at_range; refine wpList_range_set _ rfl _ 84 rfl umap (sb + 2 + m) (S m) rfl HSET.out ?_; intro lst o' hrg hnd hall))
      go_frame
      refine lf6_any l Rn W1 wr (wr.alloc o') sb N p m cb ab wi wr.heap.size Sp S ch i lst HF.out (Below.one _ _) HP.out hp hmN HA2.out HI2.out (Nat.le_refl _) hrg hall (fun r h1 h2 => HL.out r (HP.out.lo _ _ h1) h2) _ _ _ _ _ _ _ _ _ _ _ _ _ _ _ _ _ _ _ _ _ _ _ _ _ _ _ _ _ _ _ _ _ _ _ _ _ _ _ _ _ _ _ _ _ _ _ _ _ _ _ _ _ _ _ _ _ _ _ _ _ _ _ _ _ _ _ _ _ _ _ _ _ _ _ _ _ _ _ _ ?_
      intro z13 z67 z68 z69 z70 z71 z72 z73 z74 z75 z76 z77 w' S' ch' hf' hps' hkp' hcc hd'
      have HN : Hid (∃ (k' : Nat) (S2 : Sets) (ch2 : Bool), k' ≤ Ln ∧ Value.int IntKind.i64 ((k : Int) + 1) = .int .i64 k' ∧ Fl W1 w' sb N S2 cb ch2 ∧ Ps l N Rn Sp S2 ch2 ∧ Kp w w' (sb + 2 + p) cb ∧ (ch2 = false → ch0 = false) ∧ (ch2 = false → ∀ (j : Nat) n, j < k' → nx[j]? = some n → ∀ r, Sp n.toNat r = true → i.sets ≠ r → Sp p r = true)) := Lib.hid ⟨k + 1, S', ch', by omega, by go_num, hf', hps', HK.out.trans hkp', (fun h => HC0.out (hcc h)), fun hch j n hj hn r h1 h2 => by
        by_cases hjk : j = k
        · subst hjk
          rw [HNN.out] at hn
          injection hn with hn
          subst hn
          rw [Int.toNat_natCast] at h1
          exact hd' hch r h1 h2
        · exact HDN.out (hcc hch) j n (by omega) hn r h1 h2⟩
      clear hf' hps' hkp' hd' hcc
      go_wp2
      exact ⟨HN.out, by simp [intOf]; omega⟩
    · obtain rfl : k = Ln := by omega
      have HX := fun y12 y13 y59 y60 y61 y62 y63 y64 y65 y66 y67 y68 y69 y70 y71 y72 y73 y74 y75 y76 y77 y78 => Lib.hid (HE.out y12 y13 y59 y60 y61 y62 y63 y64 y65 y66 y67 y68 y69 y70 y71 y72 y73 y74 y75 y76 y77 y78 wr S ch hf hps hkp HC0.out (fun hch n hn => by
        obtain ⟨j, hj⟩ := List.mem_iff_getElem?.1 hn
        exact HDN.out hch j n (by have := (List.getElem?_eq_some_iff.1 hj).1; rw [HLN.out] at this; exact this) hj))
      clear hf hps hkp HE
      go_wp2
      exact (HX _ _ _ _ _ _ _ _ _ _ _ _ _ _ _ _ _ _ _ _ _ _).out
end Go.Proofs.Ytaofdbboalcceaa

/- live.flow: a pass. -/
namespace Go.Proofs.Ytaofdbboalcceaa
open Go.RowKit Go.BigFrame

theorem Ins.next_len (i : Ins) (p : Int) : (i.next p).length ≤ 2 := by
  unfold Ins.next
  split
  · simp
  · split
    · simp
    · split <;> simp
/-- a pass: k instructions are still to come -/
def Pass (f : Fn7) (Rn : Nat) (W1 : World) (sb N : Nat) (Sp : Sets) (cb : Nat) (g : Nat) (ap : Value) (wr : World) : Prop :=
  ∃ (ab : Nat) (S : Sets) (ch : Bool), ap = .pointer (some ⟨ab, 0, none⟩) ∧ g ≤ N ∧ wr.heap[ab]? = some (.cells #[.int .i64 ((g : Int) - 1)] 3 (0, 0)) ∧ Fl W1 wr sb N S cb ch ∧ Ps f.code N Rn Sp S ch ∧ (ch = false → ∀ q, g ≤ q → q < N → Cl f.code Sp q)
set_option maxRecDepth 1000000 in
set_option maxHeartbeats 16000000 in
theorem lf3_any (f : Fn7) (hf : OkF f) (Rn : Nat) (hRn : f.R.toNat = Rn) (N : Nat) (hN : f.code.length = N) (C : Option Addr) (cap : Nat) (W1 w : World) (sb B cb ab0 : Nat) (Sp : Sets) (hsb : sb = W1.heap.size)
    (hB : W1.heap[B]? = some (funcObj f.nm f.ps f.R f.Fr C N cap)) (hC : RdI W1 C f.code) (hF : Fl W1 w sb N Sp cb false) (hlo : ∀ p r, Sp p r = true → Lv f.code p r) (ha : w.heap[ab0]? = some (.cells #[.int .i64 ((N : Int) - 1)] 3 (0, 0)))
    (x0 x2 x4 x7 x8 x9 x10 x11 x12 x13 x14 x15 x16 x17 x18 x19 x20 x21 x22 x23 x24 x25 x26 x27 x28 x29 x30 x31 x32 x33 x34 x35 x36 x37 x38 x39 x40 x41 x42 x43 x44 x45 x46 x47 x48 x49 x50 x51 x52 x53 x54 x55 x56 x57 x58 x59 x60 x61 x62 x63 x64 x65 x66 x67 x68 x69 x70 x71 x72 x73 x74 x75 x76 x77 x78 x79 x80 x81 : Value) (Q : Exit → Act → World → Prop)
    (hexit : ∀ (y6 y7 y8 y10 y12 y13 y33 y34 y35 y36 y37 y38 y39 y40 y41 y42 y43 y44 y45 y46 y47 y48 y49 y50 y51 y52 y53 y54 y55 y56 y57 y58 y59 y60 y61 y62 y63 y64 y65 y66 y67 y68 y69 y70 y71 y72 y73 y74 y75 y76 y77 y78 y79 : Value) (w' : World) (S : Sets) (ch : Bool), Fl W1 w' sb N S cb ch → Ps f.code N Rn Sp S ch → (ch = false → ∀ q, q < N → Cl f.code Sp q) → Q (.exit 4) ⟨(x0 :: .pointer (some ⟨B, 0, none⟩) :: x2 :: .pointer (some ⟨sb + 1, 0, none⟩) :: x4 :: .pointer (some ⟨cb, 0, none⟩) :: y6 :: y7 :: y8 :: x9 :: y10 :: x11 :: y12 :: y13 :: x14 :: x15 :: x16 :: x17 :: x18 :: x19 :: x20 :: x21 :: x22 :: x23 :: x24 :: x25 :: x26 :: x27 :: x28 :: x29 :: x30 :: x31 :: x32 :: y33 :: y34 :: y35 :: y36 :: y37 :: y38 :: y39 :: y40 :: y41 :: y42 :: y43 :: y44 :: y45 :: y46 :: y47 :: y48 :: y49 :: y50 :: y51 :: y52 :: y53 :: y54 :: y55 :: y56 :: y57 :: y58 :: y59 :: y60 :: y61 :: y62 :: y63 :: y64 :: y65 :: y66 :: y67 :: y68 :: y69 :: y70 :: y71 :: y72 :: y73 :: y74 :: y75 :: y76 :: y77 :: y78 :: y79 :: x80 :: x81 :: []).toArray, []⟩ w') :
    Code.wp Try.prog lf3 Q ⟨(x0 :: .pointer (some ⟨B, 0, none⟩) :: x2 :: .pointer (some ⟨sb + 1, 0, none⟩) :: x4 :: .pointer (some ⟨cb, 0, none⟩) :: .pointer (some ⟨ab0, 0, none⟩) :: x7 :: x8 :: x9 :: x10 :: x11 :: x12 :: x13 :: x14 :: x15 :: x16 :: x17 :: x18 :: x19 :: x20 :: x21 :: x22 :: x23 :: x24 :: x25 :: x26 :: x27 :: x28 :: x29 :: x30 :: x31 :: x32 :: x33 :: x34 :: x35 :: x36 :: x37 :: x38 :: x39 :: x40 :: x41 :: x42 :: x43 :: x44 :: x45 :: x46 :: x47 :: x48 :: x49 :: x50 :: x51 :: x52 :: x53 :: x54 :: x55 :: x56 :: x57 :: x58 :: x59 :: x60 :: x61 :: x62 :: x63 :: x64 :: x65 :: x66 :: x67 :: x68 :: x69 :: x70 :: x71 :: x72 :: x73 :: x74 :: x75 :: x76 :: x77 :: x78 :: x79 :: x80 :: x81 :: []).toArray, []⟩ w := by
  conv => arg 2; whnf
  have HE := Lib.hid hexit
  have H0 := Lib.hid (show Pass f Rn W1 sb N Sp cb N (.pointer (some ⟨ab0, 0, none⟩)) w from ⟨ab0, Sp, false, rfl, Nat.le_refl _, ha, hF, Ps.start hlo, fun _ q h1 h2 => by omega⟩)
  have HF := Lib.hid hf
  have HRN := Lib.hid hRn
  have HN := Lib.hid hN
  have HB := Lib.hid hB
  have HC := Lib.hid hC
  have HSB := Lib.hid hsb
  have hN2 : N ≤ 8192 := by rw [← hN]; exact hf.len.2
  clear hexit hf hRn hN hB hC hF hlo ha hsb
  go_loopg [6] N (fun g ap wr => Pass f Rn W1 sb N Sp cb g ap wr)
  case atStart => exact H0.out
  case round =>
    obtain ⟨ab, S, ch, rfl, hgN, ha, hfl, hps, hdone⟩ := hrel
    have HDN := Lib.hid hdone
    have hbb := hfl.b
    have hc0 := hfl.c
    clear hdone H0
    rcases Nat.eq_zero_or_pos gk with hg0 | hg0
    · subst hg0
      have a0 := cell_of_heap ha 0 _ rfl
      simp only [Int.natCast_zero, Int.zero_sub] at a0
      have HX := fun y6 y7 y8 y10 y12 y13 y33 y34 y35 y36 y37 y38 y39 y40 y41 y42 y43 y44 y45 y46 y47 y48 y49 y50 y51 y52 y53 y54 y55 y56 y57 y58 y59 y60 y61 y62 y63 y64 y65 y66 y67 y68 y69 y70 y71 y72 y73 y74 y75 y76 y77 y78 y79 => Lib.hid (HE.out y6 y7 y8 y10 y12 y13 y33 y34 y35 y36 y37 y38 y39 y40 y41 y42 y43 y44 y45 y46 y47 y48 y49 y50 y51 y52 y53 y54 y55 y56 y57 y58 y59 y60 y61 y62 y63 y64 y65 y66 y67 y68 y69 y70 y71 y72 y73 y74 y75 y76 y77 y78 y79 wr S ch hfl hps (fun hch q hq => HDN.out hch q (Nat.zero_le _) hq))
      clear HE ha hfl hps hbb
      go_wp2
      exact (HX _ _ _ _ _ _ _ _ _ _ _ _ _ _ _ _ _ _ _ _ _ _ _ _ _ _ _ _ _ _ _ _ _ _ _ _ _ _ _ _ _ _ _ _ _ _ _ _ _ _ _ _ _).out
    · obtain ⟨p, rfl⟩ : ∃ p, gk = p + 1 := ⟨gk - 1, by omega⟩
      have hpe : ((p + 1 : Nat) : Int) - 1 = (p : Int) := by omega
      rw [hpe] at ha
      clear hpe
      have hp : p < N := by omega
      obtain ⟨i, hi⟩ : ∃ i, f.code[p]? = some i := ⟨_, List.getElem?_eq_getElem (by rw [HN.out]; exact hp)⟩
      have hbx : wr.heap[B]? = _ := (hbb.block B (by rw [HSB.out]; exact (Array.getElem?_eq_some_iff.1 HB.out).1)).trans HB.out
      obtain ⟨bb, oo, rfl, hbl, hcs⟩ := (HC.out.below (by have h := hbb; rw [HSB.out] at h; exact h)) p i hi
      obtain ⟨x0, x1, x2, x3, x4, x5, x6, x7, x8, x9, x10, x11, x12, x13, x14⟩ := RdI.load hcs
      have g4 := cell_of_heap hbx 4 (.slice (some ⟨bb, oo, none⟩) N cap) rfl
      have a0 := cell_of_heap ha 0 _ rfl
      have hal := (Array.getElem?_eq_some_iff.1 ha).1
      have hlt := hfl.lt
      have hcn := hfl.cn
      have hab : ab ≠ sb + 2 + p := (hfl.r p hp).ne ha
      have habc : ab ≠ cb := ne_of_obj ha hfl.c (by simp)
      have huse := HF.out.uses hi
      have hnxt := HF.out.next hi
      have hLU : ∀ r ∈ i.uses, Lv f.code p r ∧ 0 ≤ r ∧ r < (Rn : Int) := fun r hr => ⟨Lv.use hi hr, (huse r hr).1, by have := (huse r hr).2; have := HRN.out; omega⟩
      have hLN : ∀ n ∈ i.next p, ∀ r, Lv f.code n.toNat r → i.sets ≠ r → Lv f.code p r ∧ 0 ≤ r ∧ r < (Rn : Int) := fun n hn r h1 h2 => ⟨Lv.step hi hn h2 h1, (h1.bound HF.out).1.1, by have := (h1.bound HF.out).1.2; have := HRN.out; omega⟩
      have hul := i.uses_len
      have hnl := Ins.next_len i p
      rw [HN.out] at hnxt
      have hua := fun W => Uses_any i W
      have hna := fun W => Next_any i p (by omega) W
      have kx := heap_alloc_new wr i.obj
      have hCL : Hid (∀ (S1 : Sets), (∀ r ∈ i.uses, Sp p r = true) → (∀ n ∈ i.next p, ∀ r, Sp n.toNat r = true → i.sets ≠ r → Sp p r = true) → Cl f.code Sp p) := Lib.hid fun _ h1 h2 i' hi' => by
        rw [hi] at hi'
        injection hi' with hi'
        subst hi'
        exact ⟨h1, h2⟩
      obtain ⟨us, hus⟩ : ∃ us, i.uses = us := ⟨_, rfl⟩
      obtain ⟨nx, hnx⟩ : ∃ nx, i.next p = nx := ⟨_, rfl⟩
      rw [hus] at hul hua hLU hCL
      rw [hnx] at hnl hna hLN hnxt hCL
      clear hus hnx huse
      obtain ⟨Lu, hLu⟩ : ∃ Lu, us.length = Lu := ⟨_, rfl⟩
      obtain ⟨Ln, hLn⟩ : ∃ Ln, nx.length = Ln := ⟨_, rfl⟩
      have hfl2 := hfl.later (Below.one wr i.obj)
      have ha2 := alloc_keeps ha i.obj
      have HI := Lib.hid hi
      obtain ⟨k, op, dst, a, b', n, text, r0, r1, r2, r3, r4, r5, to_, els⟩ := i
      have hUA : ∀ W, Calls Try.prog 86 #[.agg #[.int .i64 k, .int .i64 op, .int .i64 dst, .int .i64 a, .int .i64 b', .int .i64 n, .string text, .int .i64 r0, .int .i64 r1, .int .i64 r2, .int .i64 r3, .int .i64 r4, .int .i64 r5, .int .i64 to_, .int .i64 els]] W fun e w' => (∃ A c, e = .returned (.slice A Lu c) ∧ RdN w' A us) ∧ Below W.heap.size W w' := fun W => (hua W).mono fun e w' ⟨⟨A, c, h1, h2⟩, h3⟩ => ⟨⟨A, c, by rw [h1, hLu], h2⟩, h3⟩
      have hNA : ∀ W, Calls Try.prog 48 (#[.agg #[.int .i64 k, .int .i64 op, .int .i64 dst, .int .i64 a, .int .i64 b', .int .i64 n, .string text, .int .i64 r0, .int .i64 r1, .int .i64 r2, .int .i64 r3, .int .i64 r4, .int .i64 r5, .int .i64 to_, .int .i64 els]].push (.int .i64 p)) W fun e w' => (∃ A c, e = .returned (.slice A Ln c) ∧ RdN w' A nx) ∧ Below W.heap.size W w' := fun W => (hna W).mono fun e w' ⟨⟨A, c, h1, h2⟩, h3⟩ => ⟨⟨A, c, by rw [h1, hLn], h2⟩, h3⟩
      simp only [List.push_toArray, List.cons_append, List.nil_append] at hNA
      have HUA := Lib.hid hUA
      have HNA := Lib.hid hNA
      have HLU := Lib.hid hLU
      have HLN := Lib.hid hLN
      have HNXT := Lib.hid hnxt
      have HLu := Lib.hid hLu
      have HLn := Lib.hid hLn
      have HU10 : Hid (Lu ≤ 100) := Lib.hid (by omega)
      have HN10 : Hid (Ln ≤ 100) := Lib.hid (by omega)
      have ⟨d0, d1, d2, d3, d4, d5, d6, d7, d8, d9, d10, d11, d12, d13, d14⟩ := Ins.cells (i := ⟨k, op, dst, a, b', n, text, r0, r1, r2, r3, r4, r5, to_, els⟩) kx
      simp only at x0 x1 x2 x3 x4 x5 x6 x7 x8 x9 x10 x11 x12 x13 x14 d0 d1 d2 d3 d4 d5 d6 d7 d8 d9 d10 d11 d12 d13 d14
      have HFL := Lib.hid hfl2
      have HA2 := Lib.hid ha2
      have HPS := Lib.hid hps
      have HKX := Lib.hid kx
      clear hua hna hUA hNA hLU hLN hnxt hLu hLn hul hnl hi hfl hfl2 ha2 hps kx hcs hbb ha
      go_wp2_with (first
        | (refine (HUA.out _).mono ?_; rintro e w2 ⟨⟨A, c2, rfl, hrd⟩, hb2⟩; have hf2 := Lib.hid (HFL.out.later hb2); have ha3 := Lib.hid ((hb2.block _ (Array.getElem?_eq_some_iff.1 HA2.out).1).trans HA2.out); have kx2 := Lib.hid ((hb2.block _ (Array.getElem?_eq_some_iff.1 HKX.out).1).trans HKX.out); have HRD := Lib.hid hrd; have hsz2 : wr.heap.size < w2.heap.size := (by have h := hb2.size; simp at h; omega); clear hrd))
      refine lf4_any f.code Rn W1 w2 sb N p cb ab Sp S ch us A c2 Lu HLu.out HU10.out hf2.out HPS.out hp ha3.out HRD.out HLU.out _ _ _ _ _ _ _ _ _ _ _ _ _ _ _ _ _ _ _ _ _ _ _ _ _ _ _ _ _ _ _ _ _ _ _ _ _ _ _ _ _ _ _ _ _ _ _ _ _ _ _ _ _ _ _ _ _ _ _ _ _ _ _ _ _ _ _ _ _ _ _ _ _ _ _ _ _ _ _ ?_
      intro z10 z47 z48 z49 z50 z51 z52 z53 w3 S1 ch1 hf3 hps3 hk3 hcc3 hd3
      have kx3 := (hk3.k wr.heap.size (by omega) (by omega) (by omega)).trans kx2.out
      have a3 := (hk3.k ab (by omega) hab habc).trans ha3.out
      have a0 := cell_of_heap a3 0 _ rfl
      have ⟨d0, d1, d2, d3, d4, d5, d6, d7, d8, d9, d10, d11, d12, d13, d14⟩ := Ins.cells (i := ⟨k, op, dst, a, b', n, text, r0, r1, r2, r3, r4, r5, to_, els⟩) kx3
      simp only at d0 d1 d2 d3 d4 d5 d6 d7 d8 d9 d10 d11 d12 d13 d14
      have HF3 := Lib.hid hf3
      have HPS3 := Lib.hid hps3
      have HCC3 := Lib.hid hcc3
      have HD3 := Lib.hid hd3
      have HK3 := Lib.hid kx3
      have HA3 := Lib.hid a3
      clear hf3 hps3 hcc3 hd3 kx3 a3
      go_wp2_with (first
        | (refine (HNA.out _).mono ?_; rintro e w4 ⟨⟨A4, c4, rfl, hrd⟩, hb4⟩; have hf4 := Lib.hid (HF3.out.later hb4); have ha4 := Lib.hid ((hb4.block _ (Array.getElem?_eq_some_iff.1 HA3.out).1).trans HA3.out); have kx4 := Lib.hid ((hb4.block _ (Array.getElem?_eq_some_iff.1 HK3.out).1).trans HK3.out); have HRD4 := Lib.hid hrd; clear hrd))
      refine lf5_any f.code Rn W1 w4 sb N p cb ab wr.heap.size Sp S1 ch1 ⟨k, op, dst, a, b', n, text, r0, r1, r2, r3, r4, r5, to_, els⟩ nx A4 c4 Ln HLn.out HN10.out hf4.out HPS3.out hp ha4.out kx4.out HRD4.out HNXT.out HLN.out _ _ _ _ _ _ _ _ _ _ _ _ _ _ _ _ _ _ _ _ _ _ _ _ _ _ _ _ _ _ _ _ _ _ _ _ _ _ _ _ _ _ _ _ _ _ _ _ _ _ _ _ _ _ _ _ _ _ _ _ _ _ _ _ _ _ _ _ _ _ _ _ _ _ _ _ _ ?_
      intro z12 z13 z59 z60 z61 z62 z63 z64 z65 z66 z67 z68 z69 z70 z71 z72 z73 z74 z75 z76 z77 z78 w5 S2 ch2 hf5 hps5 hk5 hcc5 hd5
      have a5 := (hk5.k ab (Array.getElem?_eq_some_iff.1 ha4.out).1 hab habc).trans ha4.out
      have a0 := cell_of_heap a5 0 _ rfl
      have HR : Hid (∀ w6, Below w5.heap.size w5 w6 → w6.heap[w5.heap.size]? = some (.cells #[.int .i64 ((p : Int) - 1)] 3 (0, 0)) → Pass f Rn W1 sb N Sp cb p (.pointer (some ⟨w5.heap.size, 0, none⟩)) w6) := Lib.hid fun w6 h1 h2 => ⟨_, S2, ch2, rfl, by omega, h2, hf5.later h1, hps5, fun hch q hq1 hq2 => by
        by_cases hqp : q = p
        · subst hqp
          exact hCL.out S2 (HD3.out (hcc5 hch)) (hd5 hch)
        · exact HDN.out (HCC3.out (hcc5 hch)) q (by omega) hq2⟩
      clear hf5 hps5 hcc5 hd5 a5
      go_wp2
      go_roundg p
      case measure => omega
      case rel => exact HR.out _ (Below.one _ _) (heap_alloc_new _ _)
end Go.Proofs.Ytaofdbboalcceaa
