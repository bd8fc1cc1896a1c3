import Derived.Test.YthbcdckonaljiaaQq
import Derived.Test.YthbcdckonaljiaaQv
import Derived.Test.YthbcdckonaljiaaDw
namespace Go.Proofs.Ythbcdckonaljiaa
open Go.RowKit Go.BigFrame

def bumpC (d : List Int) (l : List Int) : List Int := l.foldl (fun d x => d.set x.toNat (d.getD x.toNat 0 + 1)) d
theorem bumpC_app (d : List Int) (l : List Int) (x : Int) : bumpC d (l ++ [x]) = (bumpC d l).set x.toNat ((bumpC d l).getD x.toNat 0 + 1) := by simp [bumpC]
theorem bumpC_len (d : List Int) : ∀ l : List Int, (bumpC d l).length = d.length := by
  intro l
  unfold bumpC
  induction l generalizing d with
  | nil => rfl
  | cons x l ih => rw [List.foldl_cons, ih, List.length_set]
def BdI (d : List Int) (K : Int) : Prop := ∀ x ∈ d, 0 ≤ x ∧ x ≤ K
theorem BdI.at {d : List Int} {K : Int} (h : BdI d K) (hK : 0 ≤ K) (j : Nat) : 0 ≤ d.getD j 0 ∧ d.getD j 0 ≤ K := by
  rw [List.getD_eq_getElem?_getD]
  cases hj : d[j]? with
  | none => exact ⟨Int.le_refl _, hK⟩
  | some v => exact h v (List.mem_of_getElem? hj)
theorem BdI.set {d : List Int} {K : Int} (h : BdI d K) (hK : 0 ≤ K) (j : Nat) : BdI (d.set j (d.getD j 0 + 1)) (K + 1) := fun x hx => by
  have h0 := h.at hK j
  rcases List.mem_or_eq_of_mem_set hx with hx | rfl
  · have := h x hx; omega
  · omega
theorem bumpC_bd {d : List Int} {K : Int} (h : BdI d K) (hK : 0 ≤ K) (l : List Int) : BdI (bumpC d l) (K + l.length) := by
  unfold bumpC
  induction l generalizing d K with
  | nil => simpa using h
  | cons x l ih =>
    rw [List.foldl_cons]
    have := ih (h.set hK x.toNat) (by omega)
    rw [show K + 1 + (l.length : Int) = K + ((x::l).length : Nat) by simp; omega] at this
    exact this
noncomputable def dpt (f : Fn7) (l : List Int) : List Int := l.foldl (fun d h => bumpC d (lpL f h)) (List.replicate f.code.length 0)
theorem dpt_app (f : Fn7) (l : List Int) (h : Int) : dpt f (l ++ [h]) = bumpC (dpt f l) (lpL f h) := by simp [dpt]
theorem dpt_len (f : Fn7) (l : List Int) : (dpt f l).length = f.code.length := by
  unfold dpt
  have : ∀ (l : List Int) (d : List Int), d.length = f.code.length → (l.foldl (fun d h => bumpC d (lpL f h)) d).length = f.code.length := by
    intro l
    induction l with
    | nil => exact fun d h => h
    | cons x l ih => exact fun d h => ih _ (by rw [bumpC_len]; exact h)
  exact this l _ (by simp)
theorem dpt_bd (f : Fn7) (l : List Int) : BdI (dpt f l) (l.length * f.code.length) := by
  unfold dpt
  have : ∀ (l : List Int) (d : List Int) (K : Int), 0 ≤ K → BdI d K → BdI (l.foldl (fun d h => bumpC d (lpL f h)) d) (K + l.length * f.code.length) := by
    intro l
    induction l with
    | nil => intro d K _ h; simpa using h
    | cons x l ih =>
      intro d K hK h
      have h1 := bumpC_bd h hK (lpL f x)
      have h2 : ((lpL f x).length : Int) ≤ f.code.length := by have := upL_len f.code.length fun n => 0 ≤ x ∧ IsHd (Eg f.code) x.toNat ∧ InL (Eg f.code) x.toNat n; unfold lpL; omega
      have h3 : BdI (bumpC d (lpL f x)) (K + f.code.length) := fun y hy => by have := h1 y hy; omega
      have h4 := ih _ _ (by omega) h3
      rw [List.foldl_cons]
      rw [show K + (f.code.length : Int) + (l.length : Int) * f.code.length = K + ((x::l).length : Nat) * (f.code.length : Int) by rw [List.length_cons]; push_cast; rw [Int.add_mul]; omega] at h4
      exact h4
  have h := this l (List.replicate f.code.length 0) 0 (by omega) (fun x hx => by rw [(List.mem_replicate.1 hx).2]; omega)
  rwa [Int.zero_add] at h
def wadd (ws : List (Nat × Nat)) (t : Nat) (l : List Int) : List (Nat × Nat) := l.foldl (fun ws x => ws.set x.toNat ((ws.getD x.toNat (0, 0)).1 + 1, (ws.getD x.toNat (0, 0)).2 + t)) ws
theorem wadd_app (ws : List (Nat × Nat)) (t : Nat) (l : List Int) (x : Int) : wadd ws t (l ++ [x]) = (wadd ws t l).set x.toNat (((wadd ws t l).getD x.toNat (0, 0)).1 + 1, ((wadd ws t l).getD x.toNat (0, 0)).2 + t) := by simp [wadd]
theorem wadd_len (ws : List (Nat × Nat)) (t : Nat) (l : List Int) : (wadd ws t l).length = ws.length := by
  unfold wadd
  induction l generalizing ws with
  | nil => rfl
  | cons x l ih => rw [List.foldl_cons, ih, List.length_set]
def BdW (ws : List (Nat × Nat)) (K M : Nat) : Prop := ∀ p ∈ ws, p.1 ≤ K ∧ p.2 ≤ M
theorem BdW.at {ws : List (Nat × Nat)} {K M : Nat} (h : BdW ws K M) (j : Nat) : (ws.getD j (0, 0)).1 ≤ K ∧ (ws.getD j (0, 0)).2 ≤ M := by
  rw [List.getD_eq_getElem?_getD]
  cases hj : ws[j]? with
  | none => exact ⟨Nat.zero_le _, Nat.zero_le _⟩
  | some v => exact h v (List.mem_of_getElem? hj)
theorem wadd_bd {ws : List (Nat × Nat)} {K M : Nat} (h : BdW ws K M) (t : Nat) (l : List Int) : BdW (wadd ws t l) (K + l.length) (M + l.length * t) := by
  unfold wadd
  induction l generalizing ws K M with
  | nil => simpa using h
  | cons x l ih =>
    rw [List.foldl_cons]
    have h1 : BdW (ws.set x.toNat ((ws.getD x.toNat (0, 0)).1 + 1, (ws.getD x.toNat (0, 0)).2 + t)) (K + 1) (M + t) := fun p hp => by
      have h0 := h.at x.toNat
      rcases List.mem_or_eq_of_mem_set hp with hp | rfl
      · have := h p hp; omega
      · simp only; omega
    have h2 := ih h1
    rw [show K + 1 + l.length = K + (x::l).length by simp; omega, show M + t + l.length * t = M + (x::l).length * t by rw [List.length_cons, Nat.add_mul]; omega] at h2
    exact h2
def nam (i : Ins) : List Int := i.uses ++ if 0 ≤ i.sets then [i.sets] else []
def wst (d : List Int) (R : Nat) (code : List Ins) : Nat → List (Nat × Nat)
  | 0 => List.replicate R (0, 0)
  | k + 1 => match code[k]? with
    | some i => wadd (wst d R code k) (d.getD k 0).toNat (nam i)
    | none => wst d R code k
theorem wst_len (d : List Int) (R : Nat) (code : List Ins) : ∀ k, (wst d R code k).length = R
  | 0 => by simp [wst]
  | k + 1 => by
    unfold wst
    split
    · rw [wadd_len, wst_len d R code k]
    · exact wst_len d R code k
theorem uses_len (i : Ins) : i.uses.length ≤ 8 := by
  unfold Ins.uses
  simp only [List.length_append]
  have h1 : ∀ (c : Bool) (x : Int), (if c = true then [x] else []).length ≤ 1 := fun c x => by cases c <;> simp
  have h2 : (if i.kind = 8 then i.args.take i.n.toNat else []).length ≤ 6 := by
    split
    · rw [List.length_take]; simp [Ins.args]; omega
    · simp
  have := h1 (kA i.kind) i.a
  have := h1 (kB i.kind) i.b
  omega
theorem nam_len (i : Ins) : (nam i).length ≤ 9 := by
  have := uses_len i
  unfold nam
  rw [List.length_append]
  split <;> simp <;> omega
theorem wst_bd {d : List Int} {R : Nat} {code : List Ins} {T : Nat} (hd : BdI d T) : ∀ k, BdW (wst d R code k) (k * 9) (k * (9 * T))
  | 0 => fun p hp => by
    have := (List.mem_replicate.1 hp).2
    subst this
    exact ⟨Nat.zero_le _, Nat.zero_le _⟩
  | k + 1 => by
    have ih := wst_bd (R := R) (code := code) hd k
    unfold wst
    split
    · rename_i i _
      have h1 := wadd_bd ih (d.getD k 0).toNat (nam i)
      have h2 := nam_len i
      have h3 := hd.at (by omega) k
      have h4 : (nam i).length * (d.getD k 0).toNat ≤ 9 * T := Nat.mul_le_mul h2 (by omega)
      intro p hp
      have := h1 p hp
      have e1 : (k + 1) * (9 * T) = k * (9 * T) + 9 * T := by rw [Nat.add_mul, Nat.one_mul]
      rw [e1]
      omega
    · intro p hp
      have := ih p hp
      have e1 : (k + 1) * (9 * T) = k * (9 * T) + 9 * T := by rw [Nat.add_mul, Nat.one_mul]
      rw [e1]
      omega
noncomputable def hdL (f : Fn7) : List Int := upL f.code.length (IsHd (Eg f.code))
noncomputable def wtsL (f : Fn7) : List (Nat × Nat) := wst (dpt f (hdL f)) f.R.toNat f.code f.code.length
theorem dpt_bd2 {f : Fn7} (hN : f.code.length ≤ 60) {l : List Int} (hl : l.length ≤ f.code.length) : BdI (dpt f l) 3600 := fun x hx => by
  have h := dpt_bd f l x hx
  have h2 : l.length * f.code.length ≤ 60 * 60 := Nat.mul_le_mul (by omega) hN
  have h3 : ((l.length : Int) * (f.code.length : Int)) ≤ 3600 := by
    have : ((l.length * f.code.length : Nat) : Int) ≤ ((60 * 60 : Nat) : Int) := by omega
    rw [Int.natCast_mul] at this
    exact this
  omega
theorem wst_sm {f : Fn7} (hN : f.code.length ≤ 60) {k : Nat} (hk : k ≤ f.code.length) : BdW (wst (dpt f (hdL f)) f.R.toNat f.code k) 540 1944000 := fun p hp => by
  have h := wst_bd (R := f.R.toNat) (code := f.code) (T := 3600) (dpt_bd2 hN (l := hdL f) (upL_len _ _)) k p hp
  omega
theorem wtsL_sm {f : Fn7} (hN : f.code.length ≤ 60) : SmW (wtsL f) := fun p hp => by
  have h := wst_sm hN (Nat.le_refl _) p hp
  omega
open Go.RowKit Go.BigFrame

noncomputable def wl0 : Code := ((((Try.f38.body).map loopsOf).getD [])[0]?).getD .skip
noncomputable def wl2 : Code := ((loopsOf (inLoop wl0))[0]?).getD .skip
noncomputable def wl4 : Code := ((((Try.f38.body).map loopsOf).getD [])[1]?).getD .skip
noncomputable def wl6 : Code := ((loopsOf (inLoop wl4))[0]?).getD .skip
theorem RdN.only {w wr : World} {ob : Nat} {A : Option Addr} {l : List Int} (h : RdN w A l) (ho : OnlyC w wr ob) (hA : ∀ b o, A = some ⟨b, o, none⟩ → b ≠ ob) : RdN wr A l := fun j n hn => by
  obtain ⟨b, o, e1, e2, e3⟩ := h j n hn
  refine ⟨b, o, e1, Nat.lt_of_lt_of_le e2 ho.size, ?_⟩
  unfold World.cell? at e3 ⊢
  rw [ho.blk b e2 (hA b o e1)]
  exact e3
theorem OnlyC.toBelow {w wr : World} {ob base : Nat} (ho : OnlyC w wr ob) (h1 : base ≤ ob) (h2 : base ≤ w.heap.size) : Below base w wr := ⟨ho.os, ho.tape, ho.output, ho.size, fun r hr => ho.blk r (by omega) (by omega)⟩
theorem take_more {α : Type} {l : List α} {k : Nat} {x : α} (h : l[k]? = some x) : l.take (k + 1) = l.take k ++ [x] := by rw [List.take_add_one, h]; rfl
set_option maxRecDepth 1000000 in
set_option maxHeartbeats 16000000 in
theorem wl2_any (d : List Int) (db N : Nat) (hd : d.length = N) (K : Int) (hK : 0 ≤ K ∧ K ≤ 100000) (hbd : BdI d K) (l : List Int) (A : Option Addr) (Ln cap : Nat) (hLn : l.length = Ln) (hLn2 : Ln ≤ 10000) (hin : ∀ x ∈ l, 0 ≤ x ∧ x < (N : Int)) (w : World) (hR : RdN w A l) (hA : ∀ b o, A = some ⟨b, o, none⟩ → b ≠ db) (hP : PC w db d)
    (x0 x1 x2 x4 x5 x6 x7 x8 x9 x10 x11 x12 x13 x14 x15 x16 x17 x18 x19 x20 x21 x22 x23 x24 x25 x26 x27 x28 x29 x30 x34 x35 x36 x37 x38 x39 x40 x41 x42 x43 x44 x45 x46 x47 x48 x49 x50 x51 x52 x53 x54 x55 x56 x57 x58 x59 x60 x61 x62 x63 x64 x65 x66 x67 x68 x69 x70 x71 x72 x73 x74 x75 x76 x77 x78 x79 x80 x81 x82 x83 x84 x85 x86 : Value) (Q : Exit → Act → World → Prop)
    (hQ : ∀ (y7 y33 y34 y35 y36 y37 y38 y39 y40 y41 y42 y43 : Value) (w' : World), PC w' db (bumpC d l) → OnlyC w w' db → Q (.exit 2) ⟨(x0::x1::x2::.slice (some ⟨db, 0, none⟩) N N::x4::x5::x6::y7::x8::x9::x10::x11::x12::x13::x14::x15::x16::x17::x18::x19::x20::x21::x22::x23::x24::x25::x26::x27::x28::x29::x30::.slice A Ln cap::.int .i64 (Ln : Int)::y33::y34::y35::y36::y37::y38::y39::y40::y41::y42::y43::x44::x45::x46::x47::x48::x49::x50::x51::x52::x53::x54::x55::x56::x57::x58::x59::x60::x61::x62::x63::x64::x65::x66::x67::x68::x69::x70::x71::x72::x73::x74::x75::x76::x77::x78::x79::x80::x81::x82::x83::x84::x85::x86::[]).toArray, []⟩ w') :
    Code.wp Try.prog wl2 Q ⟨(x0::x1::x2::.slice (some ⟨db, 0, none⟩) N N::x4::x5::x6::x7::x8::x9::x10::x11::x12::x13::x14::x15::x16::x17::x18::x19::x20::x21::x22::x23::x24::x25::x26::x27::x28::x29::x30::.slice A Ln cap::.int .i64 (Ln : Int)::.int .i64 (0)::x34::x35::x36::x37::x38::x39::x40::x41::x42::x43::x44::x45::x46::x47::x48::x49::x50::x51::x52::x53::x54::x55::x56::x57::x58::x59::x60::x61::x62::x63::x64::x65::x66::x67::x68::x69::x70::x71::x72::x73::x74::x75::x76::x77::x78::x79::x80::x81::x82::x83::x84::x85::x86::[]).toArray, []⟩ w := by
  conv => arg 2; whnf
  have HQ := Lib.hid hQ
  have HP := Lib.hid hP
  have HR := Lib.hid hR
  have HA := Lib.hid hA
  have HI := Lib.hid hin
  have HD := Lib.hid hbd
  have HLN := Lib.hid hLn
  have HDN := Lib.hid hd
  clear hQ hP hR hA hin hbd hLn hd
  go_loopw [33] (fun ix wr => ∃ k : Nat, k ≤ Ln ∧ ix = .int .i64 k ∧ PC wr db (bumpC d (l.take k)) ∧ OnlyC w wr db) (fun ix _ => Ln - (intOf ix).toNat)
  case atStart => exact ⟨0, by omega, rfl, by simpa [bumpC] using HP.out, OnlyC.refl _ _⟩
  case round =>
    obtain ⟨k, hk, rfl, hp, ho⟩ := hrel
    have HO := Lib.hid ho
    by_cases hlt : k < Ln
    · have hki : (k : Int) < Ln := by omega
      obtain ⟨x, hx⟩ : ∃ x, l[k]? = some x := ⟨_, List.getElem?_eq_getElem (by rw [HLN.out]; exact hlt)⟩
      have hxb := HI.out x (List.mem_of_getElem? hx)
      obtain ⟨j, rfl⟩ : ∃ j : Nat, x = j := ⟨x.toNat, by omega⟩
      obtain ⟨b, o, rfl, hbl, hc⟩ := (HR.out.only ho HA.out) k _ hx
      have hji : (j : Int) < N := hxb.2
      have hjN : j < (bumpC d (l.take k)).length := by rw [bumpC_len, HDN.out]; omega
      have c1 := hp.get hjN
      have f1 := Pre.free hp j
      have hv := (bumpC_bd HD.out hK.1 (l.take k)).at (by have := hK.1; omega) j
      have hv2 : ((l.take k).length : Int) ≤ 10000 := by rw [List.length_take]; omega
      have hs := hp.set hjN ((bumpC d (l.take k)).getD j 0 + 1)
      have e1 : (bumpC d (l.take k)).set j ((bumpC d (l.take k)).getD j 0 + 1) = bumpC d (l.take (k + 1)) := by rw [take_more hx, bumpC_app, Int.toNat_natCast]
      rw [e1] at hs
      have HS := Lib.hid hs
      have HO2 := Lib.hid (ho.setCell j (.int .i64 ((bumpC d (l.take k)).getD j 0 + 1)))
      have v0 : (0 : Int) ≤ (bumpC d (l.take k)).getD j 0 := hv.1
      have v1 : (bumpC d (l.take k)).getD j 0 ≤ 200000 := by have := hK.2; omega
      generalize (bumpC d (l.take k)).getD j 0 = v at *
      clear hv hv2 hs e1 hjN hx hp ho hxb hk
      have HLT := Lib.hid hlt
      clear hlt
      go_wp2
      have := HLT.out
      exact ⟨⟨k + 1, by omega, by go_num, HS.out, HO2.out⟩, by simp [intOf]; omega⟩
    · obtain rfl : k = Ln := by omega
      have hki : ¬ (k : Int) < (k : Int) := by omega
      have HE : Hid (PC wr db (bumpC d l)) := Lib.hid (by rw [List.take_of_length_le (by rw [HLN.out]; exact Nat.le_refl _)] at hp; exact hp)
      clear hp ho hk hlt
      go_wp2
      exact HQ.out _ _ _ _ _ _ _ _ _ _ _ _ wr HE.out HO.out
set_option maxRecDepth 1000000 in
set_option maxHeartbeats 16000000 in
theorem wl0_any (f : Fn7) (hf : OkF f) (hN60 : f.code.length ≤ 60) (db N : Nat) (hN : f.code.length = N) (l : List Int) (A : Option Addr) (Ln cap : Nat) (hLn : l.length = Ln) (hLn2 : Ln ≤ N) (W0 w : World) (B c0 : Nat) (C : Option Addr) (hB : w.heap[B]? = some (funcObj f.nm f.ps f.R f.Fr C N c0)) (hBdb : B ≠ db) (hC : RdI W0 C f.code) (hW0 : Below W0.heap.size W0 w) (hdb : W0.heap.size ≤ db) (hR : RdN w A l) (hA : ∀ b o, A = some ⟨b, o, none⟩ → b ≠ db) (hP : PC w db (List.replicate N 0))
    (x0 x2 x4 x5 x6 x7 x8 x9 x10 x11 x12 x13 x14 x15 x16 x17 x18 x19 x20 x21 x22 x26 x27 x28 x29 x30 x31 x32 x33 x34 x35 x36 x37 x38 x39 x40 x41 x42 x43 x44 x45 x46 x47 x48 x49 x50 x51 x52 x53 x54 x55 x56 x57 x58 x59 x60 x61 x62 x63 x64 x65 x66 x67 x68 x69 x70 x71 x72 x73 x74 x75 x76 x77 x78 x79 x80 x81 x82 x83 x84 x85 x86 : Value) (Q : Exit → Act → World → Prop)
    (hQ : ∀ (y5 y7 y25 y26 y27 y28 y29 y30 y31 y32 y33 y34 y35 y36 y37 y38 y39 y40 y41 y42 y43 y44 : Value) (w' : World), PC w' db (dpt f l) → OnlyC w w' db → Q (.exit 0) ⟨(x0::.pointer (some ⟨B, 0, none⟩)::x2::.slice (some ⟨db, 0, none⟩) N N::x4::y5::x6::y7::x8::x9::x10::x11::x12::x13::x14::x15::x16::x17::x18::x19::x20::x21::x22::.slice A Ln cap::.int .i64 (Ln : Int)::y25::y26::y27::y28::y29::y30::y31::y32::y33::y34::y35::y36::y37::y38::y39::y40::y41::y42::y43::y44::x45::x46::x47::x48::x49::x50::x51::x52::x53::x54::x55::x56::x57::x58::x59::x60::x61::x62::x63::x64::x65::x66::x67::x68::x69::x70::x71::x72::x73::x74::x75::x76::x77::x78::x79::x80::x81::x82::x83::x84::x85::x86::[]).toArray, []⟩ w') :
    Code.wp Try.prog wl0 Q ⟨(x0::.pointer (some ⟨B, 0, none⟩)::x2::.slice (some ⟨db, 0, none⟩) N N::x4::x5::x6::x7::x8::x9::x10::x11::x12::x13::x14::x15::x16::x17::x18::x19::x20::x21::x22::.slice A Ln cap::.int .i64 (Ln : Int)::.int .i64 (0)::x26::x27::x28::x29::x30::x31::x32::x33::x34::x35::x36::x37::x38::x39::x40::x41::x42::x43::x44::x45::x46::x47::x48::x49::x50::x51::x52::x53::x54::x55::x56::x57::x58::x59::x60::x61::x62::x63::x64::x65::x66::x67::x68::x69::x70::x71::x72::x73::x74::x75::x76::x77::x78::x79::x80::x81::x82::x83::x84::x85::x86::[]).toArray, []⟩ w := by
  conv => arg 2; whnf
  have HQ := Lib.hid hQ
  have HP := Lib.hid hP
  have HR := Lib.hid hR
  have HA := Lib.hid hA
  have HLN := Lib.hid hLn
  have HN := Lib.hid hN
  have HF := Lib.hid hf
  have HB := Lib.hid hB
  have HC := Lib.hid hC
  have HW0 := Lib.hid hW0
  have HL := fun W h H => Lib.hid (gLoop_fr f hf h C c0 W H)
  have hN60' : N ≤ 60 := by omega
  rw [hN] at HL
  simp only [funcAgg] at HL
  have hBl := (Array.getElem?_eq_some_iff.1 hB).1
  clear hQ hP hR hA hLn hN hf hB hC hW0 hN60
  go_loopw [25] (fun ix wr => ∃ k : Nat, k ≤ Ln ∧ ix = .int .i64 k ∧ PC wr db (dpt f (l.take k)) ∧ OnlyC w wr db) (fun ix _ => Ln - (intOf ix).toNat)
  case atStart => exact ⟨0, by omega, rfl, by simpa [dpt, HN.out] using HP.out, OnlyC.refl _ _⟩
  case round =>
    obtain ⟨k, hk, rfl, hp, ho⟩ := hrel
    have HO := Lib.hid ho
    by_cases hlt : k < Ln
    · have hki : (k : Int) < Ln := by omega
      obtain ⟨x, hx⟩ : ∃ x, l[k]? = some x := ⟨_, List.getElem?_eq_getElem (by rw [HLN.out]; exact hlt)⟩
      obtain ⟨b, o, rfl, hbl, hc⟩ := (HR.out.only ho HA.out) k _ hx
      have hbw : Below W0.heap.size W0 wr := HW0.out.trans (ho.toBelow hdb HW0.out.size)
      have hbx : wr.heap[B]? = _ := (ho.blk B hBl hBdb).trans HB.out
      have HL1 := HL wr x (HC.out.below hbw)
      have g0 := cell_of_heap hbx 0 _ rfl
      have g1 := cell_of_heap hbx 1 _ rfl
      have g2 := cell_of_heap hbx 2 _ rfl
      have g3 := cell_of_heap hbx 3 _ rfl
      have g4 := cell_of_heap hbx 4 _ rfl
      obtain ⟨M, hM⟩ : ∃ M, lpL f x = M := ⟨_, rfl⟩
      obtain ⟨Lm, hLm⟩ : ∃ Lm, M.length = Lm := ⟨_, rfl⟩
      have HM : Hid (∀ y ∈ M, 0 ≤ y ∧ y < (N : Int)) := Lib.hid fun y hy => by
        rw [← hM] at hy
        obtain ⟨n, rfl, h1, _⟩ := upL_mem.1 hy
        rw [HN.out] at h1
        omega
      have HLm : Hid (M.length = Lm ∧ Lm ≤ N) := Lib.hid ⟨hLm, by
        rw [← hLm, ← hM, ← HN.out]
        exact upL_len _ _⟩
      have HE : Hid (dpt f (l.take (k + 1)) = bumpC (dpt f (l.take k)) M) := Lib.hid (by rw [take_more hx, dpt_app, hM])
      have HBD : Hid (BdI (dpt f (l.take k)) 3600) := Lib.hid (dpt_bd2 (by rw [HN.out]; exact hN60') (by rw [List.length_take, HN.out]; omega))
      have HDL : Hid ((dpt f (l.take k)).length = N) := Lib.hid (by rw [dpt_len, HN.out])
      unfold SlF at HL1
      rw [hM, hLm] at HL1
      have HPP := Lib.hid hp
      have hdl := Pre.lt hp
      have HLT := Lib.hid hlt
      generalize dpt f (l.take k) = d at *
      clear hbx hbw hM hLm hx hp ho hlt hk
      go_wp2_with (first
        | (go_at_call 57; refine HL1.out.mono ?_; rintro e w3 ⟨⟨A3, c3, rfl, hrd3, hfr3⟩, hb3⟩; have HRD3 := Lib.hid hrd3; have HFR3 := Lib.hid hfr3; have HB3 := Lib.hid hb3; clear hrd3 hfr3 hb3))
      refine wl2_any d db N HDL.out 3600 (by omega) HBD.out M A3 Lm c3 HLm.out.1 (by have := HLm.out.2; omega) HM.out w3 HRD3.out (fun b o e => by have := HFR3.out b o e; omega) (Pre.later HPP.out HB3.out) _ _ _ _ _ _ _ _ _ _ _ _ _ _ _ _ _ _ _ _ _ _ _ _ _ _ _ _ _ _ _ _ _ _ _ _ _ _ _ _ _ _ _ _ _ _ _ _ _ _ _ _ _ _ _ _ _ _ _ _ _ _ _ _ _ _ _ _ _ _ _ _ _ _ _ _ _ _ _ _ _ _ _ _ ?_
      intro v7 v33 v34 v35 v36 v37 v38 v39 v40 v41 v42 v43 w4 hp4 ho4
      have HP4 := Lib.hid hp4
      have HO4 := Lib.hid (HO.out.trans ((OnlyC.below db HB3.out).trans ho4))
      clear hp4 ho4
      go_wp2
      have := HLT.out
      exact ⟨⟨k + 1, by omega, by go_num, by rw [HE.out]; exact HP4.out, HO4.out⟩, by simp [intOf]; omega⟩
    · obtain rfl : k = Ln := by omega
      have hki : ¬ (k : Int) < (k : Int) := by omega
      have HE : Hid (PC wr db (dpt f l)) := Lib.hid (by rw [List.take_of_length_le (by rw [HLN.out]; exact Nat.le_refl _)] at hp; exact hp)
      clear hp ho hk hlt
      go_wp2
      exact HQ.out _ _ _ _ _ _ _ _ _ _ _ _ _ _ _ _ _ _ _ _ _ _ wr HE.out HO.out
set_option maxRecDepth 1000000 in
set_option maxHeartbeats 16000000 in
theorem wl6_any (ws : List (Nat × Nat)) (d : List Int) (xb db N R t at_ : Nat) (hws : ws.length = R) (hxd : xb ≠ db) (K M : Nat) (hK : K ≤ 600) (hM : M ≤ 3000000) (ht : t ≤ 3600) (hbd : BdW ws K M) (hatN : at_ < N) (hdt : d[at_]? = some (t : Int)) (l : List Int) (A : Option Addr) (Ln cap : Nat) (hLn : l.length = Ln) (hLn2 : Ln ≤ 9) (hin : ∀ x ∈ l, 0 ≤ x ∧ x < (R : Int)) (w : World) (hR : RdN w A l) (hA : ∀ b o, A = some ⟨b, o, none⟩ → b ≠ xb) (hP : PX w xb ws) (hD : PC w db d)
    (x0 x1 x2 x4 x5 x6 x7 x10 x11 x12 x13 x14 x15 x16 x17 x18 x19 x20 x21 x22 x23 x24 x25 x26 x27 x28 x29 x30 x31 x32 x33 x34 x35 x36 x37 x38 x39 x40 x41 x42 x43 x44 x45 x46 x47 x48 x49 x50 x51 x52 x53 x54 x55 x56 x57 x58 x59 x60 x61 x62 x63 x64 x65 x69 x70 x71 x72 x73 x74 x75 x76 x77 x78 x79 x80 x81 x82 x83 x84 x85 x86 : Value) (Q : Exit → Act → World → Prop)
    (hQ : ∀ (y14 y68 y69 y70 y71 y72 y73 y74 y75 y76 y77 y78 y79 y80 y81 y82 y83 y84 : Value) (w' : World), PX w' xb (wadd ws t l) → OnlyC w w' xb → Q (.exit 6) ⟨(x0::x1::x2::.slice (some ⟨db, 0, none⟩) N N::x4::x5::x6::x7::.slice (some ⟨xb, 0, none⟩) R R::.int .i64 (at_ : Int)::x10::x11::x12::x13::y14::x15::x16::x17::x18::x19::x20::x21::x22::x23::x24::x25::x26::x27::x28::x29::x30::x31::x32::x33::x34::x35::x36::x37::x38::x39::x40::x41::x42::x43::x44::x45::x46::x47::x48::x49::x50::x51::x52::x53::x54::x55::x56::x57::x58::x59::x60::x61::x62::x63::x64::x65::.slice A Ln cap::.int .i64 (Ln : Int)::y68::y69::y70::y71::y72::y73::y74::y75::y76::y77::y78::y79::y80::y81::y82::y83::y84::x85::x86::[]).toArray, []⟩ w') :
    Code.wp Try.prog wl6 Q ⟨(x0::x1::x2::.slice (some ⟨db, 0, none⟩) N N::x4::x5::x6::x7::.slice (some ⟨xb, 0, none⟩) R R::.int .i64 (at_ : Int)::x10::x11::x12::x13::x14::x15::x16::x17::x18::x19::x20::x21::x22::x23::x24::x25::x26::x27::x28::x29::x30::x31::x32::x33::x34::x35::x36::x37::x38::x39::x40::x41::x42::x43::x44::x45::x46::x47::x48::x49::x50::x51::x52::x53::x54::x55::x56::x57::x58::x59::x60::x61::x62::x63::x64::x65::.slice A Ln cap::.int .i64 (Ln : Int)::.int .i64 (0)::x69::x70::x71::x72::x73::x74::x75::x76::x77::x78::x79::x80::x81::x82::x83::x84::x85::x86::[]).toArray, []⟩ w := by
  conv => arg 2; whnf
  have HQ := Lib.hid hQ
  have HP := Lib.hid hP
  have HPD := Lib.hid hD
  have HR := Lib.hid hR
  have HA := Lib.hid hA
  have HI := Lib.hid hin
  have HD := Lib.hid hbd
  have HLN := Lib.hid hLn
  have HWS := Lib.hid hws
  have HDT := Lib.hid hdt
  have hat2 : (at_ : Int) < N := by omega
  have k1 : ∀ W : World, (convert 3 83 (.int .i64 (t : Int))).run Try.prog W = .ok (.float .f64 (fW t)) W := fun W => run_convert_int_float W 3 83 .i64 .f64 t (by kernel_rfl) (by kernel_rfl)
  clear hQ hP hR hA hin hbd hLn hD hdt hws
  go_loopw [68] (fun ix wr => ∃ k : Nat, k ≤ Ln ∧ ix = .int .i64 k ∧ PX wr xb (wadd ws t (l.take k)) ∧ OnlyC w wr xb) (fun ix _ => Ln - (intOf ix).toNat)
  case atStart => exact ⟨0, by omega, rfl, by simpa [wadd] using HP.out, OnlyC.refl _ _⟩
  case round =>
    obtain ⟨k, hk, rfl, hp, ho⟩ := hrel
    have HO := Lib.hid ho
    by_cases hlt : k < Ln
    · have hki : (k : Int) < Ln := by omega
      obtain ⟨x, hx⟩ : ∃ x, l[k]? = some x := ⟨_, List.getElem?_eq_getElem (by rw [HLN.out]; exact hlt)⟩
      have hxb := HI.out x (List.mem_of_getElem? hx)
      obtain ⟨j, rfl⟩ : ∃ j : Nat, x = j := ⟨x.toNat, by omega⟩
      obtain ⟨b, o, rfl, hbl, hc⟩ := (HR.out.only ho HA.out) k _ hx
      have hji : (j : Int) < R := hxb.2
      have hlen : (wadd ws t (l.take k)).length = R := by rw [wadd_len, HWS.out]
      obtain ⟨q, hq⟩ : ∃ q, (wadd ws t (l.take k))[j]? = some q := ⟨_, List.getElem?_eq_getElem (by omega)⟩
      have c1 := hp.get hq
      have f1 := Pre.free hp j
      have c2 : wr.cell? ⟨db, at_, none⟩ = some (.int .i64 (t : Int)) := PC.cell (Pre.of_heap HPD.out (ho.blk db (Pre.lt HPD.out) (Ne.symm hxd))) HDT.out
      have hv := wadd_bd HD.out t (l.take k) q (List.mem_of_getElem? hq)
      have hv2 : (l.take k).length * t ≤ 9 * 3600 := Nat.mul_le_mul (by rw [List.length_take]; omega) ht
      have hv3 : (l.take k).length ≤ 9 := by rw [List.length_take]; omega
      have hs := hp.set (j := j) (by omega) (q.1 + 1, q.2 + t)
      have e1 : (wadd ws t (l.take k)).set j (q.1 + 1, q.2 + t) = wadd ws t (l.take (k + 1)) := by rw [take_more hx, wadd_app, Int.toNat_natCast, List.getD_eq_getElem?_getD, hq]; rfl
      rw [e1] at hs
      have s1 := fv_add (fW_fv q.1 (by omega)) (fW_fv 1 (by omega)) (by omega)
      have s2 := fv_add (fW_fv q.2 (by omega)) (fW_fv t (by omega)) (by omega)
      have k2 : ∀ W : World, (binOp .add 69 (.complex .f64 (fW q.1) (fW q.2)) (.complex .f64 4607182418800017408 (fW t))).run Try.prog W = .ok (.complex .f64 (fW (q.1 + 1)) (fW (q.2 + t))) W := fun W =>
        run_complex_sum W .add (Or.inl rfl) 69 .f64 _ _ _ _ _ _ (by
          unfold cSumBits
          rw [show (4607182418800017408 : Nat) = fW 1 by decide, s1, s2]
          rfl)
      have HS := Lib.hid hs
      have HO2 := Lib.hid (ho.setCell j (.complex .f64 (fW (q.1 + 1)) (fW (q.2 + t))))
      simp only at HS c1
      generalize fW q.1 = z1 at *
      generalize fW q.2 = z2 at *
      generalize fW (q.1 + 1) = z3 at *
      generalize fW (q.2 + t) = z4 at *
      generalize fW t = z5 at *
      clear hv hv2 hv3 hs e1 hlen hx hp ho hxb hk s1 s2 hq
      have HLT := Lib.hid hlt
      clear hlt
      have k3 : ∀ (W : World) (m : Mode), (store ⟨xb, j, none⟩ (.complex .f64 z3 z4) m).run Try.prog W = stored Try.prog W ⟨xb, j, none⟩ (.complex .f64 z3 z4) m := fun W m => run_store Try.prog W _ _ m rfl
      have c3 : wr.drew.cell? ⟨xb, j, none⟩ = some (.complex .f64 z1 z2) := c1
      have f3 : wr.drew.frozen? ⟨xb, j, none⟩ = false := f1
      go_upto_region 24 with fail
      go_region
      go_wp2
      have := HLT.out
      exact ⟨⟨k + 1, by omega, by go_num, Pre.of_heap HS.out rfl, ⟨HO2.out.os, HO2.out.tape, HO2.out.output, HO2.out.size, HO2.out.blk⟩⟩, by simp [intOf]; omega⟩
    · obtain rfl : k = Ln := by omega
      have hki : ¬ (k : Int) < (k : Int) := by omega
      have HE : Hid (PX wr xb (wadd ws t l)) := Lib.hid (by rw [List.take_of_length_le (by rw [HLN.out]; exact Nat.le_refl _)] at hp; exact hp)
      clear hp ho hk hlt k1
      go_wp2
      exact HQ.out _ _ _ _ _ _ _ _ _ _ _ _ _ _ _ _ _ _ wr HE.out HO.out
open Go.RowKit Go.BigFrame

set_option maxRecDepth 1000000 in
set_option maxHeartbeats 16000000 in
theorem wl4_any (f : Fn7) (hf : OkF f) (hN60 : f.code.length ≤ 60) (d : List Int) (xb db N R : Nat) (hN : f.code.length = N) (hR : f.R.toNat = R) (hdN : d.length = N) (hbd : BdI d 3600) (hxd : xb ≠ db) (C : Option Addr) (cap : Nat) (W0 w : World) (hC : RdI W0 C f.code) (hW0 : Below W0.heap.size W0 w) (hxb : W0.heap.size ≤ xb) (hP : PX w xb (List.replicate R (0, 0))) (hD : PC w db d)
    (x0 x1 x2 x4 x5 x6 x7 x9 x10 x11 x12 x13 x14 x15 x16 x17 x18 x19 x20 x21 x22 x23 x24 x25 x26 x27 x28 x29 x30 x31 x32 x33 x34 x35 x36 x37 x38 x39 x40 x41 x42 x43 x44 x45 x46 x47 x48 x52 x53 x54 x55 x56 x57 x58 x59 x60 x61 x62 x63 x64 x65 x66 x67 x68 x69 x70 x71 x72 x73 x74 x75 x76 x77 x78 x79 x80 x81 x82 x83 x84 x85 x86 : Value) (Q : Exit → Act → World → Prop)
    (hQ : ∀ (y9 y10 y11 y12 y14 y51 y52 y53 y54 y55 y56 y57 y58 y59 y60 y61 y62 y63 y64 y65 y66 y67 y68 y69 y70 y71 y72 y73 y74 y75 y76 y77 y78 y79 y80 y81 y82 y83 y84 y85 : Value) (w' : World), PX w' xb (wst d R f.code N) → OnlyC w w' xb → Q (.exit 4) ⟨(x0::x1::x2::.slice (some ⟨db, 0, none⟩) N N::x4::x5::x6::x7::.slice (some ⟨xb, 0, none⟩) R R::y9::y10::y11::y12::x13::y14::x15::x16::x17::x18::x19::x20::x21::x22::x23::x24::x25::x26::x27::x28::x29::x30::x31::x32::x33::x34::x35::x36::x37::x38::x39::x40::x41::x42::x43::x44::x45::x46::x47::x48::.slice C N cap::.int .i64 (N : Int)::y51::y52::y53::y54::y55::y56::y57::y58::y59::y60::y61::y62::y63::y64::y65::y66::y67::y68::y69::y70::y71::y72::y73::y74::y75::y76::y77::y78::y79::y80::y81::y82::y83::y84::y85::x86::[]).toArray, []⟩ w') :
    Code.wp Try.prog wl4 Q ⟨(x0::x1::x2::.slice (some ⟨db, 0, none⟩) N N::x4::x5::x6::x7::.slice (some ⟨xb, 0, none⟩) R R::x9::x10::x11::x12::x13::x14::x15::x16::x17::x18::x19::x20::x21::x22::x23::x24::x25::x26::x27::x28::x29::x30::x31::x32::x33::x34::x35::x36::x37::x38::x39::x40::x41::x42::x43::x44::x45::x46::x47::x48::.slice C N cap::.int .i64 (N : Int)::.int .i64 (0)::x52::x53::x54::x55::x56::x57::x58::x59::x60::x61::x62::x63::x64::x65::x66::x67::x68::x69::x70::x71::x72::x73::x74::x75::x76::x77::x78::x79::x80::x81::x82::x83::x84::x85::x86::[]).toArray, []⟩ w := by
  conv => arg 2; whnf
  have HQ := Lib.hid hQ
  have HP := Lib.hid hP
  have HPD := Lib.hid hD
  have HC := Lib.hid hC
  have HW0 := Lib.hid hW0
  have HF := Lib.hid hf
  have HN := Lib.hid hN
  have HRR := Lib.hid hR
  have HBD := Lib.hid hbd
  have HDN := Lib.hid hdN
  have hN60' : N ≤ 60 := by omega
  clear hQ hP hD hC hW0 hf hN hR hN60 hbd hdN
  go_loopw [51] (fun ix wr => ∃ k : Nat, k ≤ N ∧ ix = .int .i64 k ∧ PX wr xb (wst d R f.code k) ∧ OnlyC w wr xb) (fun ix _ => N - (intOf ix).toNat)
  case atStart => exact ⟨0, by omega, rfl, HP.out, OnlyC.refl _ _⟩
  case round =>
    obtain ⟨k, hk, rfl, hp, ho⟩ := hrel
    have HO := Lib.hid ho
    have HPP := Lib.hid hp
    by_cases hlt : k < N
    · have hki : (k : Int) < N := by omega
      obtain ⟨i, hi⟩ : ∃ i, f.code[k]? = some i := ⟨_, List.getElem?_eq_getElem (by rw [HN.out]; exact hlt)⟩
      have hbw : Below W0.heap.size W0 wr := HW0.out.trans (ho.toBelow hxb HW0.out.size)
      obtain ⟨bb, oo, rfl, hbl, hcs⟩ := (HC.out.below hbw) k i hi
      obtain ⟨x0, x1, x2, x3, x4, x5, x6, x7, x8, x9, x10, x11, x12, x13, x14⟩ := RdI.load hcs
      have kx := heap_alloc_new wr i.obj
      have hOk := HF.out.ok i (List.mem_of_getElem? hi)
      have hU := fun W => Uses_own i W
      have hS := fun W => Sets_any i W
      obtain ⟨dv, hdv⟩ : ∃ dv, d[k]? = some dv := ⟨_, List.getElem?_eq_getElem (by rw [HDN.out]; exact hlt)⟩
      have hdb := HBD.out dv (List.mem_of_getElem? hdv)
      obtain ⟨t, rfl⟩ : ∃ t : Nat, dv = t := ⟨dv.toNat, by omega⟩
      have HE : Hid (wst d R f.code (k + 1) = wadd (wst d R f.code k) t (nam i)) := Lib.hid (by
        rw [wst, hi]
        simp only
        rw [List.getD_eq_getElem?_getD, hdv]
        rfl)
      have HDV := Lib.hid hdv
      have HTB : Hid (t ≤ 3600) := Lib.hid (by omega)
      have HNL := Lib.hid (nam_len i)
      have HNI : Hid (∀ x ∈ nam i, 0 ≤ x ∧ x < (R : Int)) := Lib.hid fun x hx => by
        have hR := HRR.out
        unfold nam at hx
        rcases List.mem_append.1 hx with hx | hx
        · have := hOk.uses x hx; omega
        · split at hx
          · rename_i hs0
            rw [List.mem_singleton] at hx
            subst hx
            have hd0 := hOk.dst
            unfold Ins.sets at hs0 ⊢
            cases hkk : kS i.kind with
            | false => rw [hkk] at hs0; simp at hs0
            | true =>
              rw [hkk] at hs0
              have := hd0 hkk
              simp only [if_true] at hs0 ⊢
              omega
          · cases hx
      obtain ⟨U, hUU⟩ : ∃ U, i.uses = U := ⟨_, rfl⟩
      obtain ⟨s, hss⟩ : ∃ s, i.sets = s := ⟨_, rfl⟩
      obtain ⟨L, hL⟩ : ∃ L, nam i = L := ⟨_, rfl⟩
      have HNM : Hid (L = U ++ if 0 ≤ s then [s] else []) := Lib.hid (by rw [← hL, ← hUU, ← hss]; rfl)
      have HUL : Hid (U.length ≤ 8) := Lib.hid (by rw [← hUU]; exact uses_len i)
      rw [hUU] at hU
      rw [hss] at hS
      rw [hL] at HE HNL HNI
      have hbd2 := wst_bd (R := R) (code := f.code) (T := 3600) HBD.out k
      have HB2 : Hid (BdW (wst d R f.code k) 540 1944000) := Lib.hid fun p hp => by have := hbd2 p hp; omega
      have HWL : Hid ((wst d R f.code k).length = R) := Lib.hid (wst_len d R f.code k)
      have hxl := Pre.lt hp
      have hdl := Pre.lt HPD.out
      have hwr := ho.size
      generalize wst d R f.code k = ws at *
      obtain ⟨kk, op, dst, a, b', n, text, r0, r1, r2, r3, r4, r5, to_, els⟩ := i
      simp only [Ins.obj, Ins.agg] at kx hU hS
      simp only at x0 x1 x2 x3 x4 x5 x6 x7 x8 x9 x10 x11 x12 x13 x14
      have KX := Lib.hid kx
      have HU := Lib.hid hU
      have HS := Lib.hid hS
      have HB0 := Lib.hid (Below.one wr (.cells #[.int .i64 kk, .int .i64 op, .int .i64 dst, .int .i64 a, .int .i64 b', .int .i64 n, .string text, .int .i64 r0, .int .i64 r1, .int .i64 r2, .int .i64 r3, .int .i64 r4, .int .i64 r5, .int .i64 to_, .int .i64 els] 31))
      have HLT := Lib.hid hlt
      clear hlt hk hp ho hi hcs kx hOk hU hS hdv hdb hUU hss hL hbd2 hbw
      by_cases hs0 : 0 ≤ s
      · have HL0 : Hid (L = U ++ [s]) := Lib.hid (by have h := HNM.out; rw [if_pos hs0] at h; exact h)
        go_wp2_with (first
          | (show wpList Try.prog _ _ (⟨some 56, _, _, _, _, _⟩::_) _ _; refine wpList_load_row rfl 31 (.tmp 10) rfl wr.heap.size rfl 31 _ (0, 0) _ KX.out vIns rfl sIns ?_)
          | (go_at_call 58; refine (HU.out _).mono ?_; rintro e w3 ⟨⟨V1, rfl, ho1, hf1⟩, hb3⟩; have HB3 := Lib.hid (HB0.out.trans (hb3.mono HB0.out.size)); have KX3 := Lib.hid ((hb3.block wr.heap.size (by simp)).trans KX.out); obtain ⟨A1, c1, hV1, hl1, hr1⟩ := ho1.form; subst hV1; have HO1 := Lib.hid ho1; have HF1 := Lib.hid hf1; clear hl1 hr1 ho1 hf1 hb3)
          | (show wpList Try.prog _ _ (⟨some 58, _, _, _, _, _⟩::_) _ _; refine wpList_load_row rfl 31 (.tmp 10) rfl wr.heap.size rfl 31 _ (0, 0) _ KX3.out vIns rfl sIns ?_)
          | (go_at_call 31; refine (HS.out _).mono ?_; rintro e w4 ⟨rfl, hb4⟩; have HB4 := Lib.hid (HB3.out.trans (hb4.mono HB3.out.size)); have HO4 := Lib.hid (HO1.out.later hb4); have HZ4 := Lib.hid hb4.size; clear hb4)
          | (at_builtin; go_must (refine append_one rfl _ _ rfl (.slice A1 U.length c1) U rfl (HO4.out.alloc _) w4.heap.size s rfl (heap_alloc_new w4 (.cells #[.int .i64 s] 3)) (by have := HUL.out; omega) ?_); intro V5 w5 ho5 hg5 hat5; rw [← HL0.out] at ho5; have HB5 := Lib.hid ((HB4.out.alloc HB4.out.size (.cells #[.int .i64 s] 3)).grown hg5 (by have := HB4.out.size; simp; omega) (fun g hg => by have := HF1.out g hg; simp at this; omega)); have HF5 : Hid (∀ g, V5.ownBlock = some g → wr.heap.size < g) := Lib.hid (fun g hg => hat5.elim (fun h => by rw [h] at hg; have := HF1.out g hg; simp at this; omega) (fun h => by rw [h] at hg; injection hg with hg; have := HB4.out.size; simp at hg; omega)); obtain ⟨A5, c5, hV5, hl5, hr5⟩ := ho5.form; subst hV5; have HR5 := Lib.hid hr5; clear hl5 hr5 ho5 hg5 hat5))
        have hbz := HB5.out.size
        obtain ⟨Ln, hLn⟩ : ∃ Ln, L.length = Ln := ⟨_, rfl⟩
        have HLn := Lib.hid hLn
        refine wl6_any ws d xb db N R t k HWL.out hxd 540 1944000 (by omega) (by omega) HTB.out HB2.out HLT.out HDV.out L A5 L.length c5 rfl HNL.out HNI.out w5 HR5.out (fun b o e => by have := HF5.out b (by rw [e]; rfl); omega) (Pre.later HPP.out HB5.out) (Pre.of_heap HPD.out ((HB5.out.block db (by omega)).trans (HO.out.blk db hdl (Ne.symm hxd)))) _ _ _ _ _ _ _ _ _ _ _ _ _ _ _ _ _ _ _ _ _ _ _ _ _ _ _ _ _ _ _ _ _ _ _ _ _ _ _ _ _ _ _ _ _ _ _ _ _ _ _ _ _ _ _ _ _ _ _ _ _ _ _ _ _ _ _ _ _ _ _ _ _ _ _ _ _ _ _ _ _ _ ?_
        intro v14 v68 v69 v70 v71 v72 v73 v74 v75 v76 v77 v78 v79 v80 v81 v82 v83 v84 w6 hp6 ho6
        have HP6 := Lib.hid hp6
        have HO6 := Lib.hid (HO.out.trans ((OnlyC.below xb HB5.out).trans ho6))
        clear hp6 ho6 hLn
        go_wp2
        have := HLT.out
        exact ⟨⟨k + 1, by omega, by go_num, by rw [HE.out]; exact HP6.out, HO6.out⟩, by simp [intOf]; omega⟩
      · have HL0 : Hid (L = U) := Lib.hid (by have h := HNM.out; rw [if_neg hs0, List.append_nil] at h; exact h)
        obtain rfl : L = U := HL0.out
        go_wp2_with (first
          | (show wpList Try.prog _ _ (⟨some 56, _, _, _, _, _⟩::_) _ _; refine wpList_load_row rfl 31 (.tmp 10) rfl wr.heap.size rfl 31 _ (0, 0) _ KX.out vIns rfl sIns ?_)
          | (go_at_call 58; refine (HU.out _).mono ?_; rintro e w3 ⟨⟨V1, rfl, ho1, hf1⟩, hb3⟩; have HB3 := Lib.hid (HB0.out.trans (hb3.mono HB0.out.size)); have KX3 := Lib.hid ((hb3.block wr.heap.size (by simp)).trans KX.out); obtain ⟨A1, c1, hV1, hl1, hr1⟩ := ho1.form; subst hV1; have HR1 := Lib.hid hr1; have HF1 := Lib.hid hf1; clear hl1 hr1 ho1 hf1 hb3)
          | (show wpList Try.prog _ _ (⟨some 58, _, _, _, _, _⟩::_) _ _; refine wpList_load_row rfl 31 (.tmp 10) rfl wr.heap.size rfl 31 _ (0, 0) _ KX3.out vIns rfl sIns ?_)
          | (go_at_call 31; refine (HS.out _).mono ?_; rintro e w4 ⟨rfl, hb4⟩; have HB4 := Lib.hid (HB3.out.trans (hb4.mono HB3.out.size)); have HR4 := Lib.hid (HR1.out.below hb4); clear hb4))
        have hbz := HB4.out.size
        obtain ⟨Ln, hLn⟩ : ∃ Ln, L.length = Ln := ⟨_, rfl⟩
        have HLn := Lib.hid hLn
        refine wl6_any ws d xb db N R t k HWL.out hxd 540 1944000 (by omega) (by omega) HTB.out HB2.out HLT.out HDV.out L A1 L.length c1 rfl HNL.out HNI.out w4 HR4.out (fun b o e => by have := HF1.out b (by rw [e]; rfl); simp at this; omega) (Pre.later HPP.out HB4.out) (Pre.of_heap HPD.out ((HB4.out.block db (by omega)).trans (HO.out.blk db hdl (Ne.symm hxd)))) _ _ _ _ _ _ _ _ _ _ _ _ _ _ _ _ _ _ _ _ _ _ _ _ _ _ _ _ _ _ _ _ _ _ _ _ _ _ _ _ _ _ _ _ _ _ _ _ _ _ _ _ _ _ _ _ _ _ _ _ _ _ _ _ _ _ _ _ _ _ _ _ _ _ _ _ _ _ _ _ _ _ ?_
        intro v14 v68 v69 v70 v71 v72 v73 v74 v75 v76 v77 v78 v79 v80 v81 v82 v83 v84 w6 hp6 ho6
        have HP6 := Lib.hid hp6
        have HO6 := Lib.hid (HO.out.trans ((OnlyC.below xb HB4.out).trans ho6))
        clear hp6 ho6 hLn
        go_wp2
        have := HLT.out
        exact ⟨⟨k + 1, by omega, by go_num, by rw [HE.out]; exact HP6.out, HO6.out⟩, by simp [intOf]; omega⟩
    · obtain rfl : k = N := by omega
      have hki : ¬ (k : Int) < (k : Int) := by omega
      clear hp ho hk hlt
      go_wp2
      exact HQ.out _ _ _ _ _ _ _ _ _ _ _ _ _ _ _ _ _ _ _ _ _ _ _ _ _ _ _ _ _ _ _ _ _ _ _ _ _ _ _ _ wr HPP.out HO.out
end Go.Proofs.Ythbcdckonaljiaa
