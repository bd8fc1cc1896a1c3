import Derived.Test.YthbcdckonaljiaaQn
import Derived.Test.YthbcdckonaljiaaQo
import Derived.Test.YthbcdckonaljiaaQs
namespace Go.Proofs.Ythbcdckonaljiaa
open Go.RowKit Go.BigFrame

def bestI : Option Nat → Int
  | none => -1
  | some m => (m : Int)
theorem bestI_neg {b : Option Nat} : bestI b < 0 ↔ b = none := by
  cases b with
  | none => simp [bestI]
  | some m => simp [bestI]
theorem bestI_inj {a b : Option Nat} (h : bestI a = bestI b) : a = b := by
  cases a <;> cases b <;> simp [bestI] at h ⊢ <;> omega
def upI (N : Nat) (up : Nat → Option Nat) : List Int := (List.range N).map fun n => bestI (up n)
theorem upI_get {N n : Nat} {up : Nat → Option Nat} (h : n < N) : (upI N up)[n]? = some (bestI (up n)) := by simp [upI, h]
theorem upI_set {N n m : Nat} {up : Nat → Option Nat} : (upI N up).set n (m : Int) = upI N (setU up n m) := by
  apply List.ext_getElem?
  intro j
  by_cases hj : j < N
  · rw [List.getElem?_set, upI_get hj, upI_get hj]
    by_cases h : n = j
    · subst h; rw [if_pos rfl, setU_at]; simp [upI, hj, bestI]
    · rw [if_neg h, setU_ne (Ne.symm h)]
  · rw [List.getElem?_eq_none (by simp [upI]; omega), List.getElem?_eq_none (by simp [upI]; omega)]
def plV (O : List Nat) (x : Int) : Option Value := if 0 ≤ x ∧ x.toNat ∈ O then some (.int .i64 (O.idxOf x.toNat : Int)) else none
abbrev kI : Int → Value := fun n => .int .i64 n
theorem under_mii : Try.prog.underlying 100 = some (.map 3 3) := by kernel_rfl
theorem zero_int (w : World) : (zeroValue 3).run Try.prog w = .ok (.int .i64 0) w := by kernel_rfl
theorem plV_at {O : List Nat} {n : Nat} (h : n ∈ O) : ((plV O (n : Int)).getD (.int .i64 0)) = .int .i64 (O.idxOf n : Int) := by
  unfold plV
  rw [if_pos ⟨by omega, by simpa using h⟩]
  simp
structure MtS (w : World) (pb xb mb ob N : Nat) (O : List Nat) (up : Nat → Option Nat) : Prop where
  pb : w.cell? ⟨pb, 0, none⟩ = some (.map (some mb))
  xb : w.cell? ⟨xb, 0, none⟩ = some (.slice (some ⟨ob, 0, none⟩) N N)
  mp : MapK kI w mb (plV O)
  pre : Pre gN 1 3 w ob (upI N up)
set_option maxRecDepth 1000000 in
set_option maxHeartbeats 8000000 in
theorem meet_any {E : Nat → Nat → Prop} (w : World) (pb xb mb ob N : Nat) (O : List Nat) (up : Nat → Option Nat) (a0 b0 : Nat) (hM : MtS w pb xb mb ob N O up) (hT : Tree E (fun n => O.idxOf n) up) (ho : Ord E (fun n => O.idxOf n)) (hr : ∀ n, up n ≠ none → R0 E n)
    (hO : ∀ n, R0 E n → n ∈ O ∧ n < N) (ha : up a0 ≠ none) (hb : up b0 ≠ none) :
    Calls Try.prog 102 #[.int .i64 (a0 : Int), .int .i64 (b0 : Int), .pointer (some ⟨pb, 0, none⟩), .pointer (some ⟨xb, 0, none⟩)] w fun e w' => (∃ r : Nat, e = .returned (.int .i64 (r : Int)) ∧ up r ≠ none ∧ ∀ z, Ch up r z ↔ (Ch up a0 z ∧ Ch up b0 z)) ∧ w = w' := by
  have hpb := hM.pb
  have hxb := hM.xb
  have HM := Lib.hid hM.mp
  have HP := Lib.hid hM.pre
  have HT := Lib.hid hT
  have HO := Lib.hid ho
  have HR := Lib.hid hr
  have HOO := Lib.hid hO
  have H0 := Lib.hid (Two2.start (E := E) (pl := fun n => O.idxOf n) ha hb)
  have hobl := Pre.lt hM.pre
  clear hM hT ho hr hO ha hb
  go_enter Try.func102, Try.ntmps102
  go_wp2
  go_loopg [0, 1] (O.idxOf a0 + O.idxOf b0) (fun gk x y wr => ∃ a b : Nat, gk = O.idxOf a + O.idxOf b ∧ x = .int .i64 (a : Int) ∧ y = .int .i64 (b : Int) ∧ Two2 E (fun n => O.idxOf n) up a0 b0 a b ∧ w = wr)
  case atStart => exact ⟨a0, b0, rfl, rfl, rfl, H0.out, rfl⟩
  case round =>
    obtain ⟨a, b, hgk, rfl, rfl, h2, rfl⟩ := hrel
    clear H0
    have HGK := Lib.hid hgk
    obtain ⟨haO, haN⟩ := HOO.out a (HR.out a h2.sa)
    obtain ⟨hbO, hbN⟩ := HOO.out b (HR.out b h2.sb)
    have e1 := plV_at haO
    have e2 := plV_at hbO
    have H2 := Lib.hid h2
    have hca := PreN.cell HP.out (upI_get haN)
    have hcb := PreN.cell HP.out (upI_get hbN)
    by_cases hab : a = b
    · subst hab
      have HR2 : Hid (up a ≠ none ∧ ∀ z, Ch up a z ↔ (Ch up a0 z ∧ Ch up b0 z)) := Lib.hid ⟨h2.sa, fun z => by rw [← h2.both z]; exact ⟨fun h => ⟨h, h⟩, fun h => h.1⟩⟩
      clear h2 hgk hca hcb e1 e2
      go_wp2
      go_returns
      exact ⟨⟨a, rfl, HR2.out⟩, rfl⟩
    · have hne : ¬ ((a : Int) = b) := by omega
      have hpl : O.idxOf a ≠ O.idxOf b := fun e => hab (HO.out.inj a b (HR.out a h2.sa) (HR.out b h2.sb) e)
      by_cases hlt : O.idxOf b < O.idxOf a
      · obtain ⟨m, hu, hm, h3⟩ := h2.left HT.out HO.out.z hlt
        have hm : O.idxOf m < O.idxOf a := hm
        have H3 := Lib.hid h3
        have HMM := Lib.hid hm
        have hgt : (O.idxOf b : Int) < (O.idxOf a : Int) := by omega
        rw [hu] at hca
        simp only [bestI] at hca
        have haN' : (a : Int) < N := by omega
        obtain ⟨pa, hpa⟩ : ∃ pa, O.idxOf a = pa := ⟨_, rfl⟩
        obtain ⟨pb', hpb'⟩ : ∃ pb, O.idxOf b = pb := ⟨_, rfl⟩
        rw [hpa] at e1 hgt
        rw [hpb'] at e2 hgt
        have HPA := Lib.hid hpa
        clear h2 h3 hm hgk hcb hu hlt hpl hab hpa hpb'
        go_wp2_with (first
          | (show wpList Try.prog _ _ (⟨some 12, _, _, _, _, _⟩::_) _ _; refine wpList_lookup_map kvInt _ rfl (.tmp 10) (.tmp 11) 100 false rfl under_mii (zero_int _) mb _ rfl HM.out (a : Int) rfl ?_; rw [if_neg (by simp), e1])
          | (show wpList Try.prog _ _ (⟨some 15, _, _, _, _, _⟩::_) _ _; refine wpList_lookup_map kvInt _ rfl (.tmp 13) (.tmp 14) 100 false rfl under_mii (zero_int _) mb _ rfl HM.out (b : Int) rfl ?_; rw [if_neg (by simp), e2]))
        go_roundg (O.idxOf m + O.idxOf b)
        case measure => rw [HGK.out]; have := HMM.out; omega
        case rel => exact ⟨m, b, rfl, rfl, rfl, H3.out, rfl⟩
      · obtain ⟨m, hu, hm, h3⟩ := h2.right HT.out HO.out.z (show O.idxOf a < O.idxOf b by omega)
        have hm : O.idxOf m < O.idxOf b := hm
        have H3 := Lib.hid h3
        have HMM := Lib.hid hm
        have hgt : ¬ (O.idxOf b : Int) < (O.idxOf a : Int) := by omega
        rw [hu] at hcb
        simp only [bestI] at hcb
        have hbN' : (b : Int) < N := by omega
        obtain ⟨pa, hpa⟩ : ∃ pa, O.idxOf a = pa := ⟨_, rfl⟩
        obtain ⟨pb', hpb'⟩ : ∃ pb, O.idxOf b = pb := ⟨_, rfl⟩
        rw [hpa] at e1 hgt
        rw [hpb'] at e2 hgt
        have HPA := Lib.hid hpa
        clear h2 h3 hm hgk hca hu hlt hpl hab hpa hpb'
        go_wp2_with (first
          | (show wpList Try.prog _ _ (⟨some 12, _, _, _, _, _⟩::_) _ _; refine wpList_lookup_map kvInt _ rfl (.tmp 10) (.tmp 11) 100 false rfl under_mii (zero_int _) mb _ rfl HM.out (a : Int) rfl ?_; rw [if_neg (by simp), e1])
          | (show wpList Try.prog _ _ (⟨some 15, _, _, _, _, _⟩::_) _ _; refine wpList_lookup_map kvInt _ rfl (.tmp 13) (.tmp 14) 100 false rfl under_mii (zero_int _) mb _ rfl HM.out (b : Int) rfl ?_; rw [if_neg (by simp), e2]))
        go_roundg (O.idxOf a + O.idxOf m)
        case measure => rw [HGK.out]; have := HMM.out; omega
        case rel => exact ⟨a, m, rfl, rfl, rfl, H3.out, rfl⟩
open Go.RowKit Go.BigFrame

noncomputable def ab4 : Code := ((((Try.f80.body).map loopsOf).getD [])[2]?).getD .skip
noncomputable def ab6 : Code := ((loopsOf (inLoop ab4))[0]?).getD .skip
noncomputable def ab8 : Code := ((loopsOf (inLoop ab6))[0]?).getD .skip
structure AbF (E : Nat → Nat → Prop) (O : List Nat) (N : Nat) : Prop where
  ord : Ord E fun n => O.idxOf n
  mem : ∀ n, R0 E n → n ∈ O ∧ n < N
set_option maxRecDepth 1000000 in
set_option maxHeartbeats 8000000 in
theorem ab8_any {E : Nat → Nat → Prop} (w : World) (pb xb mb ob N : Nat) (O : List Nat) (up : Nat → Option Nat) (hF : AbF E O N) (hM : MtS w pb xb mb ob N O up) (hT : Tree E (fun n => O.idxOf n) up) (hr : ∀ n, up n ≠ none → R0 E n)
    (L : List Nat) (A : Option Addr) (cap Ln : Nat) (hLn : L.length = Ln) (hLn2 : Ln ≤ 9000) (hin : ∀ n ∈ L, n < N) (hR : RdN w A (L.map fun n : Nat => (n : Int)))
    (x0 x1 x2 x3 x4 x5 x7 x8 x9 x11 x12 x13 x15 x16 x17 x18 x19 x20 x21 x22 x23 x24 x25 x26 x27 x28 x29 x30 x31 x32 x33 x34 x35 x36 x37 x38 x39 x40 x41 x42 x43 x44 x45 x46 x47 x48 x49 x50 x51 x52 x53 x54 x55 x56 x57 x58 x59 x60 x61 x62 x66 x67 x68 x69 x70 x71 x72 x73 x74 x75 x76 x77 x78 x79 x80 x81 x82 x83 x84 x85 x86 x87 x88 x89 x90 x91 x92 x93 x94 x95 : Value) (Q : Exit → Act → World → Prop)
    (hexit : ∀ (y16 y66 y67 y68 y69 y70 y71 y72 y73 y74 y75 y76 y77 y78 y79 y80 y81 : Value) (b : Option Nat), Best up L b → Q (.exit 8) ⟨(x0::x1::x2::x3::x4::x5::.pointer (some ⟨xb, 0, none⟩)::x7::x8::x9::.func (.func 102) #[] #[.pointer (some ⟨pb, 0, none⟩), .pointer (some ⟨xb, 0, none⟩)]::x11::x12::x13::.int .i64 (bestI b)::x15::y16::x17::x18::x19::x20::x21::x22::x23::x24::x25::x26::x27::x28::x29::x30::x31::x32::x33::x34::x35::x36::x37::x38::x39::x40::x41::x42::x43::x44::x45::x46::x47::x48::x49::x50::x51::x52::x53::x54::x55::x56::x57::x58::x59::x60::x61::x62::.slice A Ln cap::.int .i64 (Ln : Int)::.int .i64 (Ln : Int)::y66::y67::y68::y69::y70::y71::y72::y73::y74::y75::y76::y77::y78::y79::y80::y81::x82::x83::x84::x85::x86::x87::x88::x89::x90::x91::x92::x93::x94::x95::[]).toArray, []⟩ w) :
    Code.wp Try.prog ab8 Q ⟨(x0::x1::x2::x3::x4::x5::.pointer (some ⟨xb, 0, none⟩)::x7::x8::x9::.func (.func 102) #[] #[.pointer (some ⟨pb, 0, none⟩), .pointer (some ⟨xb, 0, none⟩)]::x11::x12::x13::.int .i64 (-1)::x15::x16::x17::x18::x19::x20::x21::x22::x23::x24::x25::x26::x27::x28::x29::x30::x31::x32::x33::x34::x35::x36::x37::x38::x39::x40::x41::x42::x43::x44::x45::x46::x47::x48::x49::x50::x51::x52::x53::x54::x55::x56::x57::x58::x59::x60::x61::x62::.slice A Ln cap::.int .i64 (Ln : Int)::.int .i64 0::x66::x67::x68::x69::x70::x71::x72::x73::x74::x75::x76::x77::x78::x79::x80::x81::x82::x83::x84::x85::x86::x87::x88::x89::x90::x91::x92::x93::x94::x95::[]).toArray, []⟩ w := by
  conv => arg 2; whnf
  have HE := Lib.hid hexit
  have HLN := Lib.hid hLn
  have HIN := Lib.hid hin
  have HM := Lib.hid hM
  have HRD := Lib.hid hR
  have hxb := hM.xb
  have hobl := Pre.lt hM.pre
  have HMT := Lib.hid fun a b ha hb => meet_any (E := E) w pb xb mb ob N O up a b hM hT hF.ord hr hF.mem ha hb
  have H0 : Hid (Best up (L.take 0) none) := Lib.hid (fun p hp => by simp at hp)
  clear hexit hLn hin hM hR hT hr
  go_loopw [14, 65] (fun V ix wr => ∃ (k : Nat) (b : Option Nat), k ≤ Ln ∧ ix = .int .i64 k ∧ V = .int .i64 (bestI b) ∧ Best up (L.take k) b ∧ w = wr) (fun _ ix _ => Ln - (intOf ix).toNat)
  case atStart => exact ⟨0, none, by omega, rfl, rfl, H0.out, rfl⟩
  case round =>
    obtain ⟨k, b, hk, rfl, rfl, hb, rfl⟩ := hrel
    clear H0
    have HB := Lib.hid hb
    by_cases hlt : k < Ln
    · obtain ⟨p, hp⟩ : ∃ p, L[k]? = some p := ⟨_, List.getElem?_eq_getElem (by rw [HLN.out]; exact hlt)⟩
      have hpN := HIN.out p (List.mem_of_getElem? hp)
      obtain ⟨bb, oo, rfl, hbl, hc⟩ := HRD.out k p (by rw [List.getElem?_map, hp]; rfl)
      have hcp := PreN.cell HM.out.pre (upI_get hpN)
      have HP := Lib.hid hp
      have hpi : (p : Int) < N := by omega
      have hki : (k : Int) < Ln := by omega
      have HTK := Lib.hid (take_next hp)
      clear hp hb
      cases hu : up p with
      | none =>
        rw [hu] at hcp
        have HB2 : Hid (Best up (L.take (k + 1)) b) := Lib.hid (by rw [HTK.out]; exact HB.out.skip hu)
        simp only [bestI] at hcp
        clear hu
        go_wp2
        exact ⟨⟨k + 1, b, by omega, by go_num, rfl, HB2.out, by simp⟩, by simp [intOf]; omega⟩
      | some q =>
        rw [hu] at hcp
        simp only [bestI] at hcp
        have hq : ¬ ((q : Int) < 0) := by omega
        have hup : up p ≠ none := by rw [hu]; simp
        have HUP := Lib.hid hup
        clear hu hup
        cases b with
        | none =>
          have HB2 : Hid (Best up (L.take (k + 1)) (some p)) := Lib.hid (by rw [HTK.out]; exact HB.out.first HUP.out)
          simp only [bestI]
          go_wp2
          exact ⟨⟨k + 1, some p, by omega, by go_num, rfl, HB2.out, by simp⟩, by simp [intOf]; omega⟩
        | some m =>
          have hm : ¬ ((m : Int) < 0) := by omega
          have HMM := Lib.hid (HMT.out p m HUP.out HB.out.1)
          simp only [bestI]
          go_wp2_with (first
            | (refine HMM.out.mono ?_; rintro e w3 ⟨⟨r, rfl, hr1, hr2⟩, rfl⟩; have HR1 := Lib.hid hr1; have HR2 := Lib.hid hr2; clear hr1 hr2))
          exact ⟨⟨k + 1, some r, by omega, by go_num, rfl, by rw [HTK.out]; exact HB.out.more HUP.out HR1.out HR2.out, by simp⟩, by simp [intOf]; omega⟩
    · obtain rfl : k = Ln := by omega
      have HX := fun (y16 y66 y67 y68 y69 y70 y71 y72 y73 y74 y75 y76 y77 y78 y79 y80 y81 : Value) => Lib.hid (HE.out y16 y66 y67 y68 y69 y70 y71 y72 y73 y74 y75 y76 y77 y78 y79 y80 y81 b (by have h := HB.out; rw [← HLN.out, List.take_length] at h; exact h))
      clear hb HE
      go_wp2
      exact (HX _ _ _ _ _ _ _ _ _ _ _ _ _ _ _ _ _).out
theorem upN_is (N : Nat) (P : Nat → Prop) : ∃ L : List Nat, upL N P = L.map (fun n : Nat => (n : Int)) ∧ ∀ p, p ∈ L ↔ (p < N ∧ P p) :=
  ⟨(List.range N).filter fun n => tb (P n), rfl, fun p => by rw [List.mem_filter, List.mem_range, tb_true]⟩
structure AbM (w1 w0 wr : World) (ob N : Nat) (up : Nat → Option Nat) : Prop where
  bel : Below w1.heap.size w1 wr
  oth : ∀ b, b ≠ ob → wr.heap[b]? = w0.heap[b]?
  pre : Pre gN 1 3 wr ob (upI N up)
  le : w1.heap.size ≤ ob
theorem AbM.set {w1 w0 wr : World} {ob N n m : Nat} {up : Nat → Option Nat} (h : AbM w1 w0 wr ob N up) (hn : n < N) : AbM w1 w0 (wr.setCell ⟨ob, n, none⟩ (.int .i64 (m : Int))) ob N (setU up n m) :=
  ⟨h.bel.setCell h.le _, fun b hb => (heap_setCell_other wr ⟨ob, n, none⟩ b _ hb).trans (h.oth b hb), by have h1 := PreN.set h.pre (j := n) (by simp [upI, hn]) (m : Int); rw [upI_set] at h1; exact h1, h.le⟩
theorem AbM.mts {w1 w0 wr : World} {pb xb mb ob N : Nat} {O : List Nat} {up up0 : Nat → Option Nat} (h : AbM w1 w0 wr ob N up) (hM : MtS w0 pb xb mb ob N O up0) (hp : pb ≠ ob) (hx : xb ≠ ob) (hm : mb ≠ ob) : MtS wr pb xb mb ob N O up :=
  ⟨(World.cell?_of_block (h.oth pb hp)).trans hM.pb, (World.cell?_of_block (h.oth xb hx)).trans hM.xb, hM.mp.of_block (h.oth mb hm), h.pre⟩
def Cg (E : Nat → Nat → Prop) (O : List Nat) (N : Nat) (up0 up : Nat → Option Nat) (ch : Bool) (t : Nat) : Prop :=
  (ch = false ∧ up = up0 ∧ ∀ n, R0 E n → n ≠ 0 → O.idxOf n < t → ∃ m, up n = some m ∧ Meet E up n m) ∨ (ch = true ∧ sumW (fun n => O.idxOf n) N up N < sumW (fun n => O.idxOf n) N up0 N)
theorem Cg.start {E : Nat → Nat → Prop} {O : List Nat} {N : Nat} {up : Nat → Option Nat} (ho : Ord E fun n => O.idxOf n) : Cg E O N up up false 1 :=
  Or.inl ⟨rfl, rfl, fun n hn h0 hlt => absurd (ho.inj n 0 hn R0.zero (by have h1 := ho.z; show O.idxOf n = O.idxOf 0; have h2 : O.idxOf 0 = 0 := h1; omega)) h0⟩
theorem Cg.same {E : Nat → Nat → Prop} {O : List Nat} {N t : Nat} {up0 up : Nat → Option Nat} {ch : Bool} {n m : Nat} (h : Cg E O N up0 up ch t) (ho : Ord E fun n => O.idxOf n) (hr : R0 E n) (ht : O.idxOf n = t) (hu : up n = some m) (hm : Meet E up n m) : Cg E O N up0 up ch (t + 1) := by
  rcases h with ⟨h1, h2, h3⟩ | h
  · refine Or.inl ⟨h1, h2, fun x hx h0 hlt => ?_⟩
    by_cases e : O.idxOf x < t
    · exact h3 x hx h0 e
    · have : x = n := ho.inj x n hx hr (show O.idxOf x = O.idxOf n by omega)
      subst this
      exact ⟨m, hu, hm⟩
  · exact Or.inr h
theorem Cg.new {E : Nat → Nat → Prop} {O : List Nat} {N t t' : Nat} {up0 up : Nat → Option Nat} {ch : Bool} {n m : Nat} (h : Cg E O N up0 up ch t) (hl : sumW (fun n => O.idxOf n) N (setU up n m) N < sumW (fun n => O.idxOf n) N up N) : Cg E O N up0 (setU up n m) true t' := by
  rcases h with ⟨_, h2, _⟩ | ⟨_, h2⟩
  · subst h2; exact Or.inr ⟨rfl, hl⟩
  · exact Or.inr ⟨rfl, Nat.lt_trans hl h2⟩
set_option maxRecDepth 1000000 in
set_option maxHeartbeats 8000000 in
theorem ab6_any {E : Nat → Nat → Prop} (w1 w0 wr0 : World) (pb xb mb ob rb N : Nat) (O : List Nat) (up0 upz : Nat → Option Nat) (hF : AbF E O N) (hN : N ≤ 8192) (hM : MtS w0 pb xb mb ob N O upz) (hp : pb ≠ ob) (hx : xb ≠ ob) (hm : mb ≠ ob) (hrb : rb < w1.heap.size)
    (hA : AbM w1 w0 wr0 ob N up0) (hP : Psd E (fun n => O.idxOf n) up0 1) (hrows : RowsR w1 rb N fun n => upL N fun q => E q n) (hE : ∀ p q, E p q → p < N) (hOR : ∀ n ∈ O, R0 E n) (hOat : ∀ (k : Nat) n, O[k]? = some n → O.idxOf n = k) (hO0 : O[0]? = some 0)
    (A1 : Option Addr) (cap1 L1 : Nat) (hL1 : O.length = L1 + 1) (hON : O.length ≤ N) (hR : RdN w1 A1 (O.tail.map fun n : Nat => (n : Int)))
    (x0 x1 x2 x3 x5 x7 x8 x9 x12 x13 x14 x15 x16 x17 x18 x19 x20 x21 x22 x23 x24 x25 x26 x27 x28 x29 x30 x31 x32 x33 x34 x35 x36 x37 x38 x39 x40 x41 x42 x43 x44 x45 x46 x47 x48 x49 x50 x51 x52 x53 x57 x58 x59 x60 x61 x62 x63 x64 x65 x66 x67 x68 x69 x70 x71 x72 x73 x74 x75 x76 x77 x78 x79 x80 x81 x82 x83 x84 x85 x86 x87 x88 x89 x90 x91 x92 x93 x94 x95 : Value) (Q : Exit → Act → World → Prop)
    (hexit : ∀ (y13 y14 y16 y57 y58 y59 y60 y61 y62 y63 y64 y65 y66 y67 y68 y69 y70 y71 y72 y73 y74 y75 y76 y77 y78 y79 y80 y81 y82 y83 y84 y85 y86 y87 y88 y89 y90 y91 y92 : Value) (w' : World) (up : Nat → Option Nat) (ch : Bool), AbM w1 w0 w' ob N up → Psd E (fun n => O.idxOf n) up (L1 + 1) → Cg E O N up0 up ch (L1 + 1) → Q (.exit 6) ⟨(x0::x1::x2::x3::.slice (some ⟨rb, 0, none⟩) N N::x5::.pointer (some ⟨xb, 0, none⟩)::x7::x8::x9::.func (.func 102) #[] #[.pointer (some ⟨pb, 0, none⟩), .pointer (some ⟨xb, 0, none⟩)]::.bool ch::x12::y13::y14::x15::y16::x17::x18::x19::x20::x21::x22::x23::x24::x25::x26::x27::x28::x29::x30::x31::x32::x33::x34::x35::x36::x37::x38::x39::x40::x41::x42::x43::x44::x45::x46::x47::x48::x49::x50::x51::x52::x53::.slice A1 L1 cap1::.int .i64 (L1 : Int)::.int .i64 (L1 : Int)::y57::y58::y59::y60::y61::y62::y63::y64::y65::y66::y67::y68::y69::y70::y71::y72::y73::y74::y75::y76::y77::y78::y79::y80::y81::y82::y83::y84::y85::y86::y87::y88::y89::y90::y91::y92::x93::x94::x95::[]).toArray, []⟩ w') :
    Code.wp Try.prog ab6 Q ⟨(x0::x1::x2::x3::.slice (some ⟨rb, 0, none⟩) N N::x5::.pointer (some ⟨xb, 0, none⟩)::x7::x8::x9::.func (.func 102) #[] #[.pointer (some ⟨pb, 0, none⟩), .pointer (some ⟨xb, 0, none⟩)]::.bool false::x12::x13::x14::x15::x16::x17::x18::x19::x20::x21::x22::x23::x24::x25::x26::x27::x28::x29::x30::x31::x32::x33::x34::x35::x36::x37::x38::x39::x40::x41::x42::x43::x44::x45::x46::x47::x48::x49::x50::x51::x52::x53::.slice A1 L1 cap1::.int .i64 (L1 : Int)::.int .i64 0::x57::x58::x59::x60::x61::x62::x63::x64::x65::x66::x67::x68::x69::x70::x71::x72::x73::x74::x75::x76::x77::x78::x79::x80::x81::x82::x83::x84::x85::x86::x87::x88::x89::x90::x91::x92::x93::x94::x95::[]).toArray, []⟩ wr0 := by
  conv => arg 2; whnf
  have HE := Lib.hid hexit
  have HL1 := Lib.hid hL1
  have HF := Lib.hid hF
  have HM := Lib.hid hM
  have HROWS := Lib.hid hrows
  have HEE := Lib.hid hE
  have HOR := Lib.hid hOR
  have HOA := Lib.hid hOat
  have HO0 := Lib.hid hO0
  have HRD := Lib.hid hR
  have HON := Lib.hid hON
  have hL1N : L1 ≤ 8192 := by omega
  have HPX := Lib.hid (show pb ≠ ob ∧ xb ≠ ob ∧ mb ≠ ob from ⟨hp, hx, hm⟩)
  have H0 := Lib.hid (show AbM w1 w0 wr0 ob N up0 ∧ Psd E (fun n => O.idxOf n) up0 1 ∧ Cg E O N up0 up0 false 1 from ⟨hA, hP, Cg.start hF.ord⟩)
  clear hexit hL1 hF hM hrows hE hOR hOat hO0 hR hA hP hON hp hx hm
  go_loopw [11, 56] (fun V ix wr => ∃ (k : Nat) (up : Nat → Option Nat) (ch : Bool), k ≤ L1 ∧ ix = .int .i64 k ∧ V = .bool ch ∧ AbM w1 w0 wr ob N up ∧ Psd E (fun n => O.idxOf n) up (k + 1) ∧ Cg E O N up0 up ch (k + 1)) (fun _ ix _ => L1 - (intOf ix).toNat)
  case atStart => exact ⟨0, up0, false, by omega, rfl, rfl, H0.out.1, H0.out.2.1, H0.out.2.2⟩
  case round =>
    obtain ⟨k, up, ch, hk, rfl, rfl, ha, hpsd, hcg⟩ := hrel
    clear H0
    have HA := Lib.hid ha
    have HP := Lib.hid hpsd
    have HC := Lib.hid hcg
    by_cases hlt : k < L1
    · obtain ⟨n, hn⟩ : ∃ n, O[k + 1]? = some n := ⟨_, List.getElem?_eq_getElem (by rw [HL1.out]; omega)⟩
      have hnm := List.mem_of_getElem? hn
      have hnr := HOR.out n hnm
      have hnN := (HF.out.mem n hnr).2
      have hpl := HOA.out (k + 1) n hn
      have hn0 : n ≠ 0 := fun e => by
        have := HOA.out 0 0 HO0.out
        rw [e] at hpl
        omega
      have hrd := HRD.out.below ha.bel
      obtain ⟨bb, oo, rfl, hbl, hc⟩ := hrd k n (by rw [List.getElem?_map, List.getElem?_tail, hn]; rfl)
      have hrr := HROWS.out.below ha.bel
      obtain ⟨A, c, hcr, hrw⟩ := hrr n hnN
      obtain ⟨L, hLe, hLm⟩ := upN_is N fun q => E q n
      simp only at hcr hrw
      rw [hLe] at hcr hrw
      rw [List.length_map] at hcr
      obtain ⟨Ln, hLn⟩ : ∃ Ln, L.length = Ln := ⟨_, rfl⟩
      have hLn2 : Ln ≤ 9000 := by
        have h := congrArg List.length hLe
        rw [List.length_map, hLn] at h
        have := upL_len N fun q => E q n
        omega
      rw [hLn] at hcr
      have hmts := ha.mts HM.out HPX.out.1 HPX.out.2.1 HPX.out.2.2
      have hrbl : rb < wr.heap.size := Nat.lt_of_lt_of_le hrb ha.bel.size
      have HMTS := Lib.hid hmts
      have HRW := Lib.hid hrw
      have HLM := Lib.hid hLm
      have HLn := Lib.hid hLn
      have HNR := Lib.hid hnr
      have HPL := Lib.hid hpl
      have HN0 := Lib.hid hn0
      have hni : (n : Int) < N := by omega
      have hki : (k : Int) < L1 := by omega
      have hxb := hmts.xb
      have hcn := PreN.cell ha.pre (upI_get hnN)
      have hfz := Pre.free ha.pre n
      have hobl := Pre.lt ha.pre
      clear ha hpsd hcg hn hnm hnr hpl hn0 hrd hrr hrw hLe hLm hLn hmts
      go_wp2
      refine ab8_any wr pb xb mb ob N O up HF.out HMTS.out HP.out.tr HP.out.r L A c Ln HLn.out hLn2 (fun q hq => ((HLM.out q).1 hq).1) HRW.out _ _ _ _ _ _ _ _ _ _ _ _ _ _ _ _ _ _ _ _ _ _ _ _ _ _ _ _ _ _ _ _ _ _ _ _ _ _ _ _ _ _ _ _ _ _ _ _ _ _ _ _ _ _ _ _ _ _ _ _ _ _ _ _ _ _ _ _ _ _ _ _ _ _ _ _ _ _ _ _ _ _ _ _ _ _ _ _ _ _ _ ?_
      intro z16 z66 z67 z68 z69 z70 z71 z72 z73 z74 z75 z76 z77 z78 z79 z80 z81 b hb
      obtain ⟨m, hbm, hme⟩ : ∃ m, b = some m ∧ Meet E up n m := by
        cases b with
        | none =>
          obtain ⟨p1, hp1, he1, hl1⟩ := HF.out.ord.par n HNR.out HN0.out
          have hl1 : O.idxOf p1 < O.idxOf n := hl1
          exact absurd (hb p1 ((HLM.out p1).2 ⟨HEE.out p1 n he1, he1⟩)) (HP.out.seen p1 hp1 (by have := HPL.out; show O.idxOf p1 < k + 1; omega))
        | some m => exact ⟨m, rfl, hb.meet fun q => ⟨fun g => ((HLM.out q).1 g).2, fun g => (HLM.out q).2 ⟨HEE.out q n g, g⟩⟩⟩
      subst hbm
      have HME := Lib.hid hme
      simp only [bestI]
      by_cases hu : up n = some m
      · rw [hu] at hcn
        simp only [bestI] at hcn
        have HU := Lib.hid hu
        clear hu hb hme
        go_wp2
        exact ⟨⟨k + 1, up, ch, by omega, by go_num, rfl, HA.out, HP.out.skip HF.out.ord HN0.out HNR.out HPL.out HME.out HU.out, HC.out.same HF.out.ord HNR.out HPL.out HU.out HME.out⟩, by simp [intOf]; omega⟩
      · have hne : ¬ (bestI (up n) = (m : Int)) := fun e => hu (bestI_inj (b := some m) e)
        have HU := Lib.hid hu
        obtain ⟨v, hv⟩ : ∃ v, bestI (up n) = v := ⟨_, rfl⟩
        rw [hv] at hcn hne
        clear hu hb hme hv
        go_wp2
        have hmN : ∀ p, R0 E p → O.idxOf p ≤ N := fun p _ => Nat.le_trans List.idxOf_le_length HON.out
        exact ⟨⟨k + 1, setU up n m, true, by omega, by go_num, rfl, HA.out.set hnN, HP.out.next HF.out.ord HN0.out HNR.out HPL.out HME.out, HC.out.new (HP.out.less HF.out.ord hmN HN0.out HNR.out HPL.out hnN HME.out HU.out)⟩, by simp [intOf]; omega⟩
    · obtain rfl : k = L1 := by omega
      have HX := fun (y13 y14 y16 y57 y58 y59 y60 y61 y62 y63 y64 y65 y66 y67 y68 y69 y70 y71 y72 y73 y74 y75 y76 y77 y78 y79 y80 y81 y82 y83 y84 y85 y86 y87 y88 y89 y90 y91 y92 : Value) => Lib.hid (HE.out y13 y14 y16 y57 y58 y59 y60 y61 y62 y63 y64 y65 y66 y67 y68 y69 y70 y71 y72 y73 y74 y75 y76 y77 y78 y79 y80 y81 y82 y83 y84 y85 y86 y87 y88 y89 y90 y91 y92 wr up ch ha hpsd hcg)
      clear ha hpsd hcg HE
      go_wp2
      exact (HX _ _ _ _ _ _ _ _ _ _ _ _ _ _ _ _ _ _ _ _ _ _ _ _ _ _ _ _ _ _ _ _ _ _ _ _ _ _ _).out
open Go.RowKit Go.BigFrame

def abL (N : Nat) (up : Nat → Option Nat) : List Int := (upI N up).set 0 (-1)
theorem abL_len (N : Nat) (up : Nat → Option Nat) : (abL N up).length = N := by simp [abL, upI]
theorem abL_zero {N : Nat} (up : Nat → Option Nat) (h : 0 < N) : (abL N up)[0]? = some (-1) := by simp [abL, upI, h]
theorem abL_at {N n : Nat} {up : Nat → Option Nat} (h : n < N) (h0 : n ≠ 0) : (abL N up)[n]? = some (bestI (up n)) := by
  unfold abL
  rw [List.getElem?_set_ne (Ne.symm h0), upI_get h]
def AbT (f : Fn7) (N base : Nat) (e : Ending) (w : World) : Prop := ∃ ob up O, e = .returned (.slice (some ⟨ob, 0, none⟩) N N) ∧ base ≤ ob ∧ Pre gN 1 3 w ob (abL N up) ∧ OrdIs f O ∧ UpT (Eg f.code) (fun n => O.idxOf n) up
def NilS (v : Value) : Prop := v = .slice none 0 0
set_option maxHeartbeats 4000000 in
theorem gAbove_no (f : Fn7) (hf : ¬ OkF f) (C : Option Addr) (cap : Nat) (w : World) (hC : RdI w C f.code) :
    Calls Try.prog 80 #[funcAgg f.nm f.ps f.R f.Fr C f.code.length cap] w fun e w' => e = .returned (.slice none 0 0) ∧ Below w.heap.size w w' := by
  have hB := Below.one w (funcObj f.nm f.ps f.R f.Fr C f.code.length cap)
  have hO := fun W h => gOrder_no f hf C cap W h
  have hE := fun W h => Before_no f hf C cap W h
  have bx := heap_alloc_new w (funcObj f.nm f.ps f.R f.Fr C f.code.length cap)
  have hC1 := hC.below hB
  obtain ⟨N, hN⟩ : ∃ N, f.code.length = N := ⟨_, rfl⟩
  rw [hN] at hO hE hB bx hC1 ⊢
  simp only [funcObj, funcAgg] at hO hE hB bx hC1 ⊢
  have HO := Lib.hid hO
  have HE := Lib.hid hE
  have HC1 := Lib.hid hC1
  obtain ⟨W, hW⟩ : ∃ W, w.alloc (.cells #[.string f.nm, .int .i64 f.ps, .int .i64 f.R, .int .i64 f.Fr, .slice C N cap] 26) = W := ⟨_, rfl⟩
  rw [hW] at bx HC1 hB
  have HB := Lib.hid hB
  have HBX := Lib.hid bx
  have hBl := (Array.getElem?_eq_some_iff.1 bx).1
  have g0 := cell_of_heap bx 0 _ rfl
  have g1 := cell_of_heap bx 1 _ rfl
  have g2 := cell_of_heap bx 2 _ rfl
  have g3 := cell_of_heap bx 3 _ rfl
  have g4 := cell_of_heap bx 4 _ rfl
  clear hf hN hC hO hE hC1 bx hB
  go_enter Try.func80, Try.ntmps80
  go_upto_region 1 with fail
  clear hW
  go_cut [3, 4] from 17 to 20 (fun s t wx => NilS s ∧ Below W.heap.size W wx)
  case first =>
    refine wp_region_noPanic ?_
    have hd0 : Below W.heap.size W W.drew := (Below.refl _ _).drew
    have HD0 := Lib.hid hd0
    clear hd0
    go_region_with (first
      | (go_at_call 101; refine (HO.out _ (HC1.out.below (by first | exact HD0.out | exact hbB))).mono ?_; rintro e wA ⟨rfl, hbA'⟩; have hbA : Below W.heap.size W wA := (by first | exact HD0.out.trans hbA' | exact hbB.trans (hbA'.mono hbB.size)); have hxA := (hbA.block _ hBl).trans HBX.out; have h0 := cell_of_heap hxA 0 _ rfl; have h1 := cell_of_heap hxA 1 _ rfl; have h2 := cell_of_heap hxA 2 _ rfl; have h3 := cell_of_heap hxA 3 _ rfl; have h4 := cell_of_heap hxA 4 _ rfl; clear hxA)
      | (go_at_call 83; refine (HE.out _ (HC1.out.below (by first | exact HD0.out | exact hbA))).mono ?_; rintro e wB ⟨rfl, hbB'⟩; have hbB : Below W.heap.size W wB := (by first | exact HD0.out.trans hbB' | exact hbA.trans (hbB'.mono hbA.size)); have hxB := (hbB.block _ hBl).trans HBX.out; have h0 := cell_of_heap hxB 0 _ rfl; have h1 := cell_of_heap hxB 1 _ rfl; have h2 := cell_of_heap hxB 2 _ rfl; have h3 := cell_of_heap hxB 3 _ rfl; have h4 := cell_of_heap hxB 4 _ rfl; clear hxB))
    all_goals
      have HQ : NilS (.slice none 0 0) ∧ Below W.heap.size W _ := ⟨rfl, (by first | exact hbB | exact hbA)⟩
      refine NoPanic.normal ?_
      go_wp2
      go_meet
      exact HQ
  case rest =>
    obtain ⟨rfl, hbc⟩ := hcut
    have HR := Lib.hid (HB.out.trans (hbc.mono HB.out.size))
    clear hbc
    go_wp2
    go_returns
    exact ⟨rfl, HR.out⟩
structure Ab5 (wc w5 : World) (N mb pb ob xb : Nat) (g : Int → Option Value) (l : List Int) : Prop where
  mp : MapK kI w5 mb g
  cpb : w5.cell? ⟨pb, 0, none⟩ = some (.map (some mb))
  cxb : w5.cell? ⟨xb, 0, none⟩ = some (.slice (some ⟨ob, 0, none⟩) N N)
  pre : Pre gN 1 3 w5 ob l
  bel : Below wc.heap.size wc w5
  ne : pb ≠ ob ∧ xb ≠ ob ∧ mb ≠ ob ∧ pb ≠ mb ∧ xb ≠ mb ∧ wc.heap.size ≤ ob ∧ wc.heap.size ≤ mb
theorem Ab5.made (wc : World) (N : Nat) : Ab5 wc ((((wc.alloc (Obj.map #[] 0)).alloc (Obj.cells #[Value.map (some wc.heap.size)] 100)).alloc (Obj.cells (madeCells #[Value.int IntKind.i64 0] N) 3)).alloc (Obj.cells #[Value.slice (some ⟨wc.heap.size + 1 + 1, 0, none⟩) N N] 45)) N wc.heap.size (wc.heap.size + 1) (wc.heap.size + 1 + 1) (wc.heap.size + 1 + 1 + 1) (fun _ => none) (List.replicate N 0) := by
  have e1 : (wc.alloc (Obj.map #[] 0)).heap.size = wc.heap.size + 1 := by simp
  have e2 : ((wc.alloc (Obj.map #[] 0)).alloc (Obj.cells #[Value.map (some wc.heap.size)] 100)).heap.size = wc.heap.size + 1 + 1 := by simp
  have e3 : (((wc.alloc (Obj.map #[] 0)).alloc (Obj.cells #[Value.map (some wc.heap.size)] 100)).alloc (Obj.cells (madeCells #[Value.int IntKind.i64 0] N) 3)).heap.size = wc.heap.size + 1 + 1 + 1 := by simp
  have h0 := MapK.made (kv := kI) wc
  have h1 := heap_alloc_new (wc.alloc (Obj.map #[] 0)) (Obj.cells #[Value.map (some wc.heap.size)] 100)
  have h2 := made_ints ((wc.alloc (Obj.map #[] 0)).alloc (Obj.cells #[Value.map (some wc.heap.size)] 100)) N
  have h3 := heap_alloc_new (((wc.alloc (Obj.map #[] 0)).alloc (Obj.cells #[Value.map (some wc.heap.size)] 100)).alloc (Obj.cells (madeCells #[Value.int IntKind.i64 0] N) 3)) (Obj.cells #[Value.slice (some ⟨wc.heap.size + 1 + 1, 0, none⟩) N N] 45)
  rw [e1] at h1
  rw [e2] at h2
  rw [e3] at h3
  have b0 := Below.one wc (Obj.map #[] 0)
  have b1 := Below.one (wc.alloc (Obj.map #[] 0)) (Obj.cells #[Value.map (some wc.heap.size)] 100)
  have b2 := Below.one ((wc.alloc (Obj.map #[] 0)).alloc (Obj.cells #[Value.map (some wc.heap.size)] 100)) (Obj.cells (madeCells #[Value.int IntKind.i64 0] N) 3)
  have b3 := Below.one (((wc.alloc (Obj.map #[] 0)).alloc (Obj.cells #[Value.map (some wc.heap.size)] 100)).alloc (Obj.cells (madeCells #[Value.int IntKind.i64 0] N) 3)) (Obj.cells #[Value.slice (some ⟨wc.heap.size + 1 + 1, 0, none⟩) N N] 45)
  refine ⟨((h0.below b1 h0.lt).below b2 (Nat.lt_of_lt_of_le h0.lt b1.size)).below b3 (Nat.lt_of_lt_of_le h0.lt (Nat.le_trans b1.size b2.size)), ?_, cell_of_heap h3 0 _ rfl, Pre.later h2 b3, (((b0.trans (b1.mono b0.size)).trans (b2.mono (by rw [e2]; omega))).trans (b3.mono (by rw [e3]; omega))), by omega, by omega, by omega, by omega, by omega, by omega, Nat.le_refl _⟩
  have h1b : wc.heap.size + 1 < ((wc.alloc (Obj.map #[] 0)).alloc (Obj.cells #[Value.map (some wc.heap.size)] 100)).heap.size := by rw [e2]; omega
  exact cell_of_heap (alloc_keeps (alloc_keeps h1 _) _) 0 _ rfl
theorem Ab5.setO {wc w5 : World} {N mb pb ob xb : Nat} {g : Int → Option Value} {l : List Int} (h : Ab5 wc w5 N mb pb ob xb g l) {k : Nat} (hk : k < l.length) (v : Int) : Ab5 wc (w5.setCell ⟨ob, k, none⟩ (.int .i64 v)) N mb pb ob xb g (l.set k v) := by
  obtain ⟨n1, n2, n3, n4, n5, n6, n7⟩ := h.ne
  exact ⟨h.mp.of_block (heap_setCell_other w5 ⟨ob, k, none⟩ mb _ n3), (World.cell?_of_block (heap_setCell_other w5 ⟨ob, k, none⟩ pb _ n1)).trans h.cpb, (World.cell?_of_block (heap_setCell_other w5 ⟨ob, k, none⟩ xb _ n2)).trans h.cxb, PreN.set h.pre hk v, h.bel.setCell n6 _, h.ne⟩
theorem Ab5.setM {wc w5 w' : World} {N mb pb ob xb : Nat} {g g' : Int → Option Value} {l : List Int} (h : Ab5 wc w5 N mb pb ob xb g l) (hm : MapK kI w' mb g') (hg : w5.grownBy w' (some mb)) : Ab5 wc w' N mb pb ob xb g' l := by
  obtain ⟨n1, n2, n3, n4, n5, n6, n7⟩ := h.ne
  have hlt := h.mp.lt
  exact ⟨hm, (World.cell?_of_block (hg.block pb (World.block_lt_of_cell? w5 _ h.cpb) (fun e => n4 (by injection e)))).trans h.cpb, (World.cell?_of_block (hg.block xb (World.block_lt_of_cell? w5 _ h.cxb) (fun e => n5 (by injection e)))).trans h.cxb, h.pre.of_heap (hg.block ob (Pre.lt h.pre) (fun e => n3 (by injection e with e; exact e.symm))), Below.grown h.bel hg h.bel.size (fun k hk => by injection hk with hk; omega), h.ne⟩
theorem plV_step {O : List Nat} {k n : Nat} (hat : ∀ (k : Nat) n, O[k]? = some n → O.idxOf n = k) (h : O[k]? = some n) : updK (plV (O.take k)) (n : Int) (some (.int .i64 (k : Int))) = plV (O.take (k + 1)) := by
  funext x
  unfold updK
  obtain ⟨hkl, hke⟩ := List.getElem?_eq_some_iff.1 h
  have hnt : n ∉ O.take k := fun hm => by
    obtain ⟨j, hj⟩ := List.mem_iff_getElem?.1 hm
    have hjl : j < k := by have := (List.getElem?_eq_some_iff.1 hj).1; rw [List.length_take] at this; omega
    rw [List.getElem?_take_of_lt hjl] at hj
    have h1 := hat j n hj
    have h2 := hat k n h
    omega
  by_cases e : x = (n : Int)
  · subst e
    rw [if_pos rfl]
    unfold plV
    rw [if_pos ⟨by omega, by rw [take_next h]; simp⟩, Int.toNat_natCast, take_next h, List.idxOf_append, if_neg hnt]
    simp
    omega
  · rw [if_neg e]
    unfold plV
    by_cases e2 : 0 ≤ x ∧ x.toNat ∈ O.take k
    · rw [if_pos e2, if_pos ⟨e2.1, by rw [take_next h]; exact List.mem_append_left _ e2.2⟩, take_next h, List.idxOf_append, if_pos e2.2]
    · rw [if_neg e2, if_neg (fun g => e2 ⟨g.1, by
        have g2 := g.2
        rw [take_next h] at g2
        rcases List.mem_append.1 g2 with g3 | g3
        · exact g3
        · simp only [List.mem_singleton] at g3; omega⟩)]
def AbA (f : Fn7) (N : Nat) (W : World) (s t : Value) (wx : World) : Prop := ∃ O A c rb, OrdIs f O ∧ s = .slice A O.length c ∧ RdN wx A (O.map fun n : Nat => (n : Int)) ∧ O.length ≤ c ∧ t = .slice (some ⟨rb, 0, none⟩) N N ∧ rb < wx.heap.size ∧ RowsR wx rb N (bfB f.code N) ∧ Below W.heap.size W wx
set_option maxRecDepth 1000000 in
set_option maxHeartbeats 16000000 in
theorem gAbove_yes (f : Fn7) (hf : OkF f) (C : Option Addr) (cap : Nat) (w : World) (hC : RdI w C f.code) :
    Calls Try.prog 80 #[funcAgg f.nm f.ps f.R f.Fr C f.code.length cap] w fun e w' => AbT f f.code.length w.heap.size e w' ∧ Below w.heap.size w w' := by
  have hB := Below.one w (funcObj f.nm f.ps f.R f.Fr C f.code.length cap)
  have hO := fun W h => gOrder_yes f hf C cap W h
  have hE := fun W h => Before_yes f hf C cap W h
  have bx := heap_alloc_new w (funcObj f.nm f.ps f.R f.Fr C f.code.length cap)
  have hC1 := hC.below hB
  obtain ⟨N, hN⟩ : ∃ N, f.code.length = N := ⟨_, rfl⟩
  have hN2 : N ≤ 8192 := by rw [← hN]; exact hf.len.2
  have hN1 : 0 < N := by rw [← hN]; have := hf.len; omega
  rw [hN] at hO hE hB bx hC1 ⊢
  simp only [funcObj, funcAgg] at hO hE hB bx hC1 ⊢
  have HO := Lib.hid hO
  have HE := Lib.hid hE
  have HC1 := Lib.hid hC1
  have HF := Lib.hid hf
  have HN := Lib.hid hN
  obtain ⟨W, hW⟩ : ∃ W, w.alloc (.cells #[.string f.nm, .int .i64 f.ps, .int .i64 f.R, .int .i64 f.Fr, .slice C N cap] 26) = W := ⟨_, rfl⟩
  rw [hW] at bx HC1 hB
  have HB := Lib.hid hB
  have HBX := Lib.hid bx
  have hBl := (Array.getElem?_eq_some_iff.1 bx).1
  have hmk := fun W => make_ints N (by omega) W
  have g0 := cell_of_heap bx 0 _ rfl
  have g1 := cell_of_heap bx 1 _ rfl
  have g2 := cell_of_heap bx 2 _ rfl
  have g3 := cell_of_heap bx 3 _ rfl
  have g4 := cell_of_heap bx 4 _ rfl
  clear hf hN hC hO hE hC1 bx hB
  go_enter Try.func80, Try.ntmps80
  go_upto_region 1 with fail
  clear hW
  go_cut [3, 4] from 17 to 20 (fun s t wx => AbA f N W s t wx)
  case first =>
    refine wp_region_noPanic ?_
    have hd0 : Below W.heap.size W W.drew := (Below.refl _ _).drew
    have HD0 := Lib.hid hd0
    clear hd0
    go_region_with (first
      | (go_at_call 101; refine (HO.out _ (HC1.out.below (by first | exact HD0.out | exact hbB))).mono ?_; rintro e wA ⟨⟨O, A, c, hO1, rfl, hO2, hO3, _⟩, hbA'⟩; have hbA : Below W.heap.size W wA := (by first | exact HD0.out.trans hbA' | exact hbB.trans (hbA'.mono hbB.size)); have HO1 := Lib.hid hO1; have HO2 := Lib.hid hO2; have HO3 := Lib.hid hO3; have hxA := (hbA.block _ hBl).trans HBX.out; have h0 := cell_of_heap hxA 0 _ rfl; have h1 := cell_of_heap hxA 1 _ rfl; have h2 := cell_of_heap hxA 2 _ rfl; have h3 := cell_of_heap hxA 3 _ rfl; have h4 := cell_of_heap hxA 4 _ rfl; clear hxA hO1 hO2 hO3)
      | (go_at_call 83; refine (HE.out _ (HC1.out.below (by first | exact HD0.out | exact hbA))).mono ?_; rintro e wB ⟨⟨rb, rfl, _, hrl, hrr, _⟩, hbB'⟩; have hbB : Below W.heap.size W wB := (by first | exact HD0.out.trans hbB' | exact hbA.trans (hbB'.mono hbA.size)); have HRL := Lib.hid hrl; have HRR := Lib.hid hrr; have hxB := (hbB.block _ hBl).trans HBX.out; have h0 := cell_of_heap hxB 0 _ rfl; have h1 := cell_of_heap hxB 1 _ rfl; have h2 := cell_of_heap hxB 2 _ rfl; have h3 := cell_of_heap hxB 3 _ rfl; have h4 := cell_of_heap hxB 4 _ rfl; clear hxB hrl hrr))
    all_goals
      have HQ : AbA f N W (.slice A O.length c) (.slice (some ⟨rb, 0, none⟩) N N) _ := ⟨O, A, c, rb, HO1.out, rfl, (by first | exact HO2.out.below hbB' | exact HO2.out), HO3.out, rfl, (by first | exact HRL.out | exact Nat.lt_of_lt_of_le HRL.out hbA'.size), (by first | exact HRR.out | exact HRR.out.below hbA'), (by first | exact hbB | exact hbA)⟩
      refine NoPanic.normal ?_
      go_wp2
      go_meet
      exact HQ
  case rest =>
    obtain ⟨O, A, c, rb, hO1, rfl, hO2, hO3, rfl, hrl, hrr, hbc⟩ := hcut
    have hbW := HB.out.trans (hbc.mono HB.out.size)
    have hxc := (hbc.block _ hBl).trans HBX.out
    have k4 := cell_of_heap hxc 4 _ rfl
    have hlc := (Array.getElem?_eq_some_iff.1 hxc).1
    have hOL := hO1.ordL HF.out
    obtain ⟨L1, hL1⟩ : ∃ L1, O.length = L1 + 1 := ⟨O.length - 1, by have := (List.getElem?_eq_some_iff.1 hOL.hd).1; omega⟩
    have hON : O.length ≤ N := by rw [← HN.out]; exact nodup_leN _ O hOL.nd hOL.lt
    rw [hL1] at hO3 ⊢
    have HBW := Lib.hid hbW
    have HO1 := Lib.hid hO1
    have HO2 := Lib.hid hO2
    have HRR := Lib.hid hrr
    have HOL := Lib.hid hOL
    have HL1 := Lib.hid hL1
    have HON := Lib.hid hON
    have hmm := @run_makeMap Try.prog
    have hl0 : ¬ ((L1 : Int) + 1 = 0) := by omega
    clear hbW hbc hxc hO1 hO2 hrr hOL hL1 hON g0 g1 g2 g3 g4
    go_upto_region 6 with fail
    have h5 := Ab5.made wc N
    generalize ((((wc.alloc (Obj.map #[] 0)).alloc (Obj.cells #[Value.map (some wc.heap.size)] 100)).alloc (Obj.cells (madeCells #[Value.int IntKind.i64 0] N) 3)).alloc (Obj.cells #[Value.slice (some ⟨wc.heap.size + 1 + 1, 0, none⟩) N N] 45)) = w5 at h5 ⊢
    generalize wc.heap.size + 1 + 1 + 1 = xb at h5 ⊢
    generalize wc.heap.size + 1 + 1 = ob at h5 ⊢
    generalize wc.heap.size + 1 = pb at h5 ⊢
    generalize hmb : wc.heap.size = mb at h5 ⊢
    clear hmm hmk
    have hxb := h5.cxb
    have H5 := Lib.hid h5
    clear h5
    have HMB := Lib.hid hmb
    have HATT := Lib.hid fun (k : Nat) n (h : O[k]? = some n) => HOL.out.pl_at h
    clear hmb
    go_wp2
    go_loopw [31] (fun ix wr => ∃ k : Nat, k ≤ N ∧ ix = .int .i64 k ∧ Ab5 wc wr N mb pb ob xb (fun _ => none) (List.replicate k (-1) ++ List.replicate (N - k) 0)) (fun ix _ => N - (intOf ix).toNat)
    case atStart => exact ⟨0, by omega, rfl, by simpa using H5.out⟩
    case round =>
      obtain ⟨k, hk, rfl, h5⟩ := hrel
      clear hxb
      have H6 := Lib.hid h5
      by_cases hlt : k < N
      · have hxb := h5.cxb
        have hfz := Pre.free h5.pre k
        have hcl := PreN.cell h5.pre (j := k) (v := 0) (by rw [List.getElem?_append_right (by simp), List.length_replicate, Nat.sub_self, List.getElem?_replicate, if_pos (by omega)])
        have hkn : (k : Int) < N := by omega
        have hobl := Pre.lt h5.pre
        clear h5
        go_wp2
        refine ⟨⟨k + 1, by omega, by go_num, ?_⟩, by simp [intOf]; omega⟩
        have h := H6.out.setO (k := k) (by simp; omega) (-1)
        have e : (List.replicate k (-1 : Int) ++ List.replicate (N - k) 0).set k (-1) = List.replicate (k + 1) (-1) ++ List.replicate (N - (k + 1)) 0 := by
          apply List.ext_getElem?
          intro j
          rw [List.getElem?_set]
          by_cases e1 : k = j
          · subst e1
            rw [if_pos rfl, if_pos (by simp; omega), List.getElem?_append_left (by simp)]
            simp
          · rw [if_neg e1]
            by_cases e2 : j < k
            · rw [List.getElem?_append_left (by simp; omega), List.getElem?_append_left (by simp; omega)]
              rw [List.getElem?_replicate, List.getElem?_replicate, if_pos e2, if_pos (by omega)]
            · rw [List.getElem?_append_right (by simp; omega), List.getElem?_append_right (by simp; omega)]
              simp only [List.length_replicate, List.getElem?_replicate]
              by_cases e3 : j < N
              · rw [if_pos (by omega), if_pos (by omega)]
              · rw [if_neg (by omega), if_neg (by omega)]
        rw [e] at h
        exact h
      · obtain rfl : N = k := by omega
        have H7 : Hid (Ab5 wc wr N mb pb ob xb (plV (O.take 0)) (List.replicate N (-1))) := Lib.hid (by
          have e : plV (O.take 0) = fun _ => none := by funext x; simp [plV]
          rw [e]
          simpa using h5)
        clear h5 H6 H5
        have hL1N : L1 ≤ 8192 := by have := HON.out; have := HL1.out; omega
        go_wp2
        go_loopw [40] (fun ix wr => ∃ k : Nat, k ≤ L1 + 1 ∧ ix = .int .i64 k ∧ Ab5 wc wr N mb pb ob xb (plV (O.take k)) (List.replicate N (-1))) (fun ix _ => L1 + 1 - (intOf ix).toNat)
        case atStart => exact ⟨0, by omega, rfl, H7.out⟩
        case round =>
          obtain ⟨k, hk, rfl, h5⟩ := hrel
          have H8 := Lib.hid h5
          by_cases hlt : k < L1 + 1
          · obtain ⟨n, hn⟩ : ∃ n, O[k]? = some n := ⟨_, List.getElem?_eq_getElem (by rw [HL1.out]; exact hlt)⟩
            have hrd := HO2.out.below h5.bel
            obtain ⟨bb, oo, rfl, hbl, hc⟩ := hrd k n (by rw [List.getElem?_map, hn]; rfl)
            have hcp := h5.cpb
            have hki : (k : Int) < (L1 : Int) + 1 := by omega
            have HST := Lib.hid (plV_step HATT.out hn)
            have HMP := Lib.hid h5.mp
            clear h5 hrd hn
            go_wp2_with (first
              | (show wpList Try.prog _ _ (⟨none, .mapUpdate _ _ _ _, _, _, _, _⟩::_) _ _; refine wpList_update_map kvInt _ rfl (.tmp 45) (.tmp 46) (.tmp 47) 100 rfl under_mii mb _ rfl HMP.out (n : Int) (.int .i64 (k : Int)) rfl rfl ?_; intro w9 hm9 hg9 hz9; rw [HST.out] at hm9; have H9 := Lib.hid (H8.out.setM hm9 hg9); clear hm9 hg9 hz9))
            refine ⟨⟨_, _, _, _, _, _, _, _, _, _, _, ⟨k + 1, by omega, ?_, H9.out⟩, rfl⟩, by simp [intOf]; omega⟩
            go_num
          · obtain rfl : L1 + 1 = k := by omega
            have hcb := h5.cxb
            have hfz := Pre.free h5.pre 0
            have hcl := PreN.cell h5.pre (j := 0) (v := -1) (by rw [List.getElem?_replicate, if_pos hN1])
            have hN0 : (0 : Int) < N := by omega
            clear h5 H7
            go_upto_region 18 with fail
            have h8 := H8.out.setO (k := 0) (by simp; omega) 0
            rw [show (List.replicate N (-1 : Int)).set 0 0 = upI N (fun x => if x = 0 then some 0 else none) by
              apply List.ext_getElem?
              intro j
              rw [List.getElem?_set]
              by_cases hj : j < N
              · rw [upI_get hj]
                by_cases e : 0 = j
                · subst e; rw [if_pos rfl, if_pos (by simp; omega)]; rfl
                · rw [if_neg e, List.getElem?_replicate, if_pos hj, if_neg (Ne.symm e)]; rfl
              · rw [if_neg (by omega), List.getElem?_eq_none (by simp; omega), List.getElem?_eq_none (by simp [upI]; omega)]] at h8
            rw [show O.take (L1 + 1) = O by rw [← HL1.out, List.take_length]] at h8
            have hE : ∀ p q, Eg f.code p q → p < N := fun p q h => by rw [← HN.out]; exact h.lt1
            have hAF : AbF (Eg f.code) O N := ⟨HOL.out.ord, fun n hn => ⟨(HOL.out.mem n).2 hn, by rw [← HN.out]; exact HOL.out.lt n ((HOL.out.mem n).2 hn)⟩⟩
            obtain ⟨n1, n2, n3, n4, n5, n6, n7⟩ := h8.ne
            have HNE := Lib.hid (show pb ≠ ob ∧ xb ≠ ob ∧ mb ≠ ob from ⟨n1, n2, n3⟩)
            generalize wr.setCell ⟨ob, 0, none⟩ (.int .i64 0) = w8 at h8 ⊢
            have hM8 : MtS w8 pb xb mb ob N O (fun x => if x = 0 then some 0 else none) := ⟨h8.cpb, h8.cxb, h8.mp, h8.pre⟩
            have hA8 : AbM wc w8 w8 ob N (fun x => if x = 0 then some 0 else none) := ⟨h8.bel, fun b _ => rfl, h8.pre, n6⟩
            have hP8 : Psd (Eg f.code) (fun n => O.idxOf n) (fun x => if x = 0 then some 0 else none) 1 := Psd.start HOL.out.ord
            have HM8 := Lib.hid hM8
            have HEE := Lib.hid hE
            have HAF := Lib.hid hAF
            have H9 := Lib.hid (show AbM wc w8 w8 ob N (fun x => if x = 0 then some 0 else none) ∧ Psd (Eg f.code) (fun n => O.idxOf n) (fun x => if x = 0 then some 0 else none) 1 from ⟨hA8, hP8⟩)
            clear h8 hM8 hA8 hP8 hE hAF n1 n2 n3 n4 n5 n7 H8 hcb hfz hcl
            go_wp2
            go_loopg [11] (2 * sumW (fun n => O.idxOf n) N (fun x => if x = 0 then some 0 else none) N + 1) (fun gk V wr => ∃ (up : Nat → Option Nat) (ch : Bool), V = .bool ch ∧ gk = 2 * sumW (fun n => O.idxOf n) N up N + (if ch = true then 1 else 0) ∧ AbM wc w8 wr ob N up ∧ Psd (Eg f.code) (fun n => O.idxOf n) up 1 ∧ (ch = false → UpT (Eg f.code) (fun n => O.idxOf n) up))
            case atStart => exact ⟨_, true, rfl, by simp, H9.out.1, H9.out.2, fun h => by cases h⟩
            case round =>
              obtain ⟨up, ch, rfl, hgk, ha, hp, hu⟩ := hrel
              clear H9
              have HGK := Lib.hid hgk
              have HA := Lib.hid ha
              have HP := Lib.hid hp
              have HU := Lib.hid hu
              cases ch with
              | false =>
                have hcx := (ha.mts HM8.out HNE.out.1 HNE.out.2.1 HNE.out.2.2).xb
                have hfz := Pre.free ha.pre 0
                have hcl := PreN.cell ha.pre (upI_get hN1)
                have hobl := Pre.lt ha.pre
                have hxo : xb ≠ ob := HNE.out.2.1
                clear hgk ha hp hu
                go_wp2
                go_returns
                have hpre := PreN.set HA.out.pre (j := 0) (by simp [upI]; exact hN1) (-1)
                refine ⟨⟨ob, up, O, rfl, Nat.le_trans HBW.out.size n6, hpre, HO1.out, HU.out (by simp)⟩, HBW.out.trans ((HA.out.bel.setCell n6 _).mono HBW.out.size)⟩
              | true =>
                obtain ⟨b0, o0, hA0, _⟩ := HO2.out 0 _ (by rw [List.getElem?_map, HOL.out.hd]; rfl)
                have HROW : Hid (RowsR wc rb N fun n => upL N fun q => Eg f.code q n) := HRR
                have HOR : Hid (∀ n ∈ O, R0 (Eg f.code) n) := Lib.hid fun n hn => (HOL.out.mem n).1 hn
                have HA0 := Lib.hid hA0
                subst hA0
                have hc1 : (1 : Int) ≤ (L1 : Int) + 1 := by omega
                have hc2 : (L1 : Int) + 1 ≤ c := by omega
                clear hgk ha hp hu
                have HRT2 : Hid (RdN wc (some ⟨b0, o0 + 1, none⟩) (O.tail.map fun n : Nat => (n : Int))) := Lib.hid fun j n hn => by
                  rw [List.getElem?_map, List.getElem?_tail, ← List.getElem?_map] at hn
                  obtain ⟨b, o, e1, e2, e3⟩ := HO2.out (j + 1) n hn
                  injection e1 with e1
                  injection e1 with e1 e4
                  subst e1 e4
                  exact ⟨b0, o0 + 1, rfl, e2, by rw [show o0 + 1 + j = o0 + (j + 1) by omega]; exact e3⟩
                have HRT1 : Hid (c ≤ 1 → RdN wc (some ⟨b0, o0, none⟩) (O.tail.map fun n : Nat => (n : Int))) := Lib.hid fun h j n hn => by
                  have h1 := (List.getElem?_eq_some_iff.1 hn).1
                  have h2 := HL1.out
                  rw [List.length_map, List.length_tail] at h1
                  omega
                have HXT : Hid (∀ (w' : World) (up' : Nat → Option Nat) (ch : Bool), AbM wc w8 w' ob N up' → Psd (Eg f.code) (fun n => O.idxOf n) up' (L1 + 1) → Cg (Eg f.code) O N up up' ch (L1 + 1) → AbM wc w8 w' ob N up' ∧ Psd (Eg f.code) (fun n => O.idxOf n) up' 1 ∧ (ch = false → UpT (Eg f.code) (fun n => O.idxOf n) up') ∧ 2 * sumW (fun n => O.idxOf n) N up' N + (if ch = true then 1 else 0) < gk) := Lib.hid fun w' up' ch ha' hp' hc' => by
                  have hpl : ∀ n, R0 (Eg f.code) n → O.idxOf n < L1 + 1 := fun n hn => by rw [← HL1.out]; exact List.idxOf_lt_length_iff.2 ((HOL.out.mem n).2 hn)
                  refine ⟨ha', hp'.again hpl, fun e => ?_, ?_⟩
                  · rcases hc' with ⟨_, _, h3⟩ | ⟨h1, _⟩
                    · exact hp'.upT HOL.out.ord hpl fun n hn h0 => h3 n hn h0 (hpl n hn)
                    · rw [e] at h1; cases h1
                  · have h0 := HGK.out
                    rw [if_pos rfl] at h0
                    rcases hc' with ⟨h1, h2, _⟩ | ⟨h1, h2⟩
                    · subst h1 h2
                      simp only [Bool.false_eq_true, if_false]
                      omega
                    · subst h1
                      simp only [if_true]
                      omega
                clear HO2
                by_cases hc0 : c = 1
                · subst hc0
                  obtain rfl : L1 = 0 := by omega
                  have HRTX := HRT1.out (Nat.le_refl _)
                  have HRTX := Lib.hid HRTX
                  go_wp2
                  refine ab6_any wc w8 wr pb xb mb ob rb N O up (fun x => if x = 0 then some 0 else none) HAF.out hN2 HM8.out HNE.out.1 HNE.out.2.1 HNE.out.2.2 hrl HA.out HP.out HROW.out HEE.out HOR.out HATT.out HOL.out.hd _ _ 0 HL1.out HON.out HRTX.out _ _ _ _ _ _ _ _ _ _ _ _ _ _ _ _ _ _ _ _ _ _ _ _ _ _ _ _ _ _ _ _ _ _ _ _ _ _ _ _ _ _ _ _ _ _ _ _ _ _ _ _ _ _ _ _ _ _ _ _ _ _ _ _ _ _ _ _ _ _ _ _ _ _ _ _ _ _ _ _ _ _ _ _ _ _ _ _ _ _ ?_
                  intro z13 z14 z16 z57 z58 z59 z60 z61 z62 z63 z64 z65 z66 z67 z68 z69 z70 z71 z72 z73 z74 z75 z76 z77 z78 z79 z80 z81 z82 z83 z84 z85 z86 z87 z88 z89 z90 z91 z92 w' up' ch ha' hp' hc'
                  have HQ := Lib.hid (HXT.out w' up' ch ha' hp' hc')
                  clear ha' hp' hc'
                  go_wp2
                  go_roundg (2 * sumW (fun n => O.idxOf n) N up' N + (if ch = true then 1 else 0))
                  case measure => exact HQ.out.2.2.2
                  case rel => exact ⟨up', ch, rfl, rfl, HQ.out.1, HQ.out.2.1, HQ.out.2.2.1⟩
                · go_wp2
                  refine ab6_any wc w8 wr pb xb mb ob rb N O up (fun x => if x = 0 then some 0 else none) HAF.out hN2 HM8.out HNE.out.1 HNE.out.2.1 HNE.out.2.2 hrl HA.out HP.out HROW.out HEE.out HOR.out HATT.out HOL.out.hd _ _ L1 HL1.out HON.out HRT2.out _ _ _ _ _ _ _ _ _ _ _ _ _ _ _ _ _ _ _ _ _ _ _ _ _ _ _ _ _ _ _ _ _ _ _ _ _ _ _ _ _ _ _ _ _ _ _ _ _ _ _ _ _ _ _ _ _ _ _ _ _ _ _ _ _ _ _ _ _ _ _ _ _ _ _ _ _ _ _ _ _ _ _ _ _ _ _ _ _ _ ?_
                  intro z13 z14 z16 z57 z58 z59 z60 z61 z62 z63 z64 z65 z66 z67 z68 z69 z70 z71 z72 z73 z74 z75 z76 z77 z78 z79 z80 z81 z82 z83 z84 z85 z86 z87 z88 z89 z90 z91 z92 w' up' ch ha' hp' hc'
                  have HQ := Lib.hid (HXT.out w' up' ch ha' hp' hc')
                  clear ha' hp' hc'
                  go_wp2
                  go_roundg (2 * sumW (fun n => O.idxOf n) N up' N + (if ch = true then 1 else 0))
                  case measure => exact HQ.out.2.2.2
                  case rel => exact ⟨up', ch, rfl, rfl, HQ.out.1, HQ.out.2.1, HQ.out.2.2.1⟩
end Go.Proofs.Ythbcdckonaljiaa
