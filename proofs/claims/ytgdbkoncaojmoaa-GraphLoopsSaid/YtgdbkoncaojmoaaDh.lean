import Derived.Test.YtgdbkoncaojmoaaDe
import Derived.Test.YtgdbkoncaojmoaaDf
import Derived.Test.YtgdbkoncaojmoaaMa
import Derived.Test.YtgdbkoncaojmoaaMb
/- graph.Above: the meet; the best of the ones before. -/
namespace Go.Proofs.Ytgdbkoncaojmoaa
open Go.RowKit Go.BigFrame

def bestI : Option Nat → Int
  | none => -1
  | some m => (m : Int)
theorem bestI_neg {b : Option Nat} : bestI b < 0 ↔ b = none := by
  cases b with
  | none => simp [bestI]
  | some m => simp [bestI]
theorem bestI_inj {a b : Option Nat} (h : bestI a = bestI b) : a = b := by
  cases a <;> cases b <;> simp [bestI] at h ⊢ <;> omega
def upI (N : Nat) (up : Nat → Option Nat) : List Int := (List.range N).map fun n => bestI (up n)
theorem upI_get {N n : Nat} {up : Nat → Option Nat} (h : n < N) : (upI N up)[n]? = some (bestI (up n)) := by simp [upI, h]
theorem upI_set {N n m : Nat} {up : Nat → Option Nat} : (upI N up).set n (m : Int) = upI N (setU up n m) := by
  apply List.ext_getElem?
  intro j
  by_cases hj : j < N
  · rw [List.getElem?_set, upI_get hj, upI_get hj]
    by_cases h : n = j
    · subst h; rw [if_pos rfl, setU_at]; simp [upI, hj, bestI]
    · rw [if_neg h, setU_ne (Ne.symm h)]
  · rw [List.getElem?_eq_none (by simp [upI]; omega), List.getElem?_eq_none (by simp [upI]; omega)]
def plV (O : List Nat) (x : Int) : Option Value := if 0 ≤ x ∧ x.toNat ∈ O then some (.int .i64 (O.idxOf x.toNat : Int)) else none
abbrev kI : Int → Value := fun n => .int .i64 n
theorem under_mii : Try.prog.underlying 55 = some (.map 3 3) := by kernel_rfl
theorem zero_int (w : World) : (zeroValue 3).run Try.prog w = .ok (.int .i64 0) w := by kernel_rfl
theorem plV_at {O : List Nat} {n : Nat} (h : n ∈ O) : ((plV O (n : Int)).getD (.int .i64 0)) = .int .i64 (O.idxOf n : Int) := by
  unfold plV
  rw [if_pos ⟨by omega, by simpa using h⟩]
  simp
/-- what the closure reads -/
structure MtS (w : World) (pb xb mb ob N : Nat) (O : List Nat) (up : Nat → Option Nat) : Prop where
  pb : w.cell? ⟨pb, 0, none⟩ = some (.map (some mb))
  xb : w.cell? ⟨xb, 0, none⟩ = some (.slice (some ⟨ob, 0, none⟩) N N)
  mp : MapK kI w mb (plV O)
  pre : Pre gN 1 3 w ob (upI N up)
set_option maxRecDepth 1000000 in
set_option maxHeartbeats 8000000 in
theorem meet_any {E : Nat → Nat → Prop} (w : World) (pb xb mb ob N : Nat) (O : List Nat) (up : Nat → Option Nat) (a0 b0 : Nat) (hM : MtS w pb xb mb ob N O up) (hT : Tree E (fun n => O.idxOf n) up) (ho : Ord E (fun n => O.idxOf n)) (hr : ∀ n, up n ≠ none → R0 E n)
    (hO : ∀ n, R0 E n → n ∈ O ∧ n < N) (ha : up a0 ≠ none) (hb : up b0 ≠ none) :
    Calls Try.prog 37 #[.int .i64 (a0 : Int), .int .i64 (b0 : Int), .pointer (some ⟨pb, 0, none⟩), .pointer (some ⟨xb, 0, none⟩)] w fun e w' => (∃ r : Nat, e = .returned (.int .i64 (r : Int)) ∧ up r ≠ none ∧ ∀ z, Ch up r z ↔ (Ch up a0 z ∧ Ch up b0 z)) ∧ w = w' := by
  have hpb := hM.pb
  have hxb := hM.xb
  have HM := Lib.hid hM.mp
  have HP := Lib.hid hM.pre
  have HT := Lib.hid hT
  have HO := Lib.hid ho
  have HR := Lib.hid hr
  have HOO := Lib.hid hO
  have H0 := Lib.hid (Two2.start (E := E) (pl := fun n => O.idxOf n) ha hb)
  have hobl := Pre.lt hM.pre
  clear hM hT ho hr hO ha hb
  go_enter Try.func37, Try.ntmps37
  go_wp2
  go_loopg [0, 1] (O.idxOf a0 + O.idxOf b0) (fun gk x y wr => ∃ a b : Nat, gk = O.idxOf a + O.idxOf b ∧ x = .int .i64 (a : Int) ∧ y = .int .i64 (b : Int) ∧ Two2 E (fun n => O.idxOf n) up a0 b0 a b ∧ w = wr)
  case atStart => exact ⟨a0, b0, rfl, rfl, rfl, H0.out, rfl⟩
  case round =>
    obtain ⟨a, b, hgk, rfl, rfl, h2, rfl⟩ := hrel
    clear H0
    have HGK := Lib.hid hgk
    obtain ⟨haO, haN⟩ := HOO.out a (HR.out a h2.sa)
    obtain ⟨hbO, hbN⟩ := HOO.out b (HR.out b h2.sb)
    have e1 := plV_at haO
    have e2 := plV_at hbO
    have H2 := Lib.hid h2
    have hca := PreN.cell HP.out (upI_get haN)
    have hcb := PreN.cell HP.out (upI_get hbN)
    by_cases hab : a = b
    · subst hab
      have HR2 : Hid (up a ≠ none ∧ ∀ z, Ch up a z ↔ (Ch up a0 z ∧ Ch up b0 z)) := Lib.hid ⟨h2.sa, fun z => by rw [← h2.both z]; exact ⟨fun h => ⟨h, h⟩, fun h => h.1⟩⟩
      clear h2 hgk hca hcb e1 e2
      go_wp2
      go_returns
      exact ⟨⟨a, rfl, HR2.out⟩, rfl⟩
    · have hne : ¬ ((a : Int) = b) := by omega
      have hpl : O.idxOf a ≠ O.idxOf b := fun e => hab (HO.out.inj a b (HR.out a h2.sa) (HR.out b h2.sb) e)
      by_cases hlt : O.idxOf b < O.idxOf a
      · obtain ⟨m, hu, hm, h3⟩ := h2.left HT.out HO.out.z hlt
        have hm : O.idxOf m < O.idxOf a := hm
        have H3 := Lib.hid h3
        have HMM := Lib.hid hm
        have hgt : (O.idxOf b : Int) < (O.idxOf a : Int) := by omega
        rw [hu] at hca
        simp only [bestI] at hca
        have haN' : (a : Int) < N := by omega
        obtain ⟨pa, hpa⟩ : ∃ pa, O.idxOf a = pa := ⟨_, rfl⟩
        obtain ⟨pb', hpb'⟩ : ∃ pb, O.idxOf b = pb := ⟨_, rfl⟩
        rw [hpa] at e1 hgt
        rw [hpb'] at e2 hgt
        have HPA := Lib.hid hpa
        clear h2 h3 hm hgk hcb hu hlt hpl hab hpa hpb'
        go_wp2_with (first
          | (show wpList Try.prog _ _ (⟨some 12, _, _, _, _, _⟩ :: _) _ _; refine wpList_lookup_map kvInt _ rfl (.tmp 10) (.tmp 11) 55 false rfl under_mii (zero_int _) mb _ rfl HM.out (a : Int) rfl ?_; rw [if_neg (by simp), e1])
          | (show wpList Try.prog _ _ (⟨some 15, _, _, _, _, _⟩ :: _) _ _; refine wpList_lookup_map kvInt _ rfl (.tmp 13) (.tmp 14) 55 false rfl under_mii (zero_int _) mb _ rfl HM.out (b : Int) rfl ?_; rw [if_neg (by simp), e2]))
        go_roundg (O.idxOf m + O.idxOf b)
        case measure => rw [HGK.out]; have := HMM.out; omega
        case rel => exact ⟨m, b, rfl, rfl, rfl, H3.out, rfl⟩
      · obtain ⟨m, hu, hm, h3⟩ := h2.right HT.out HO.out.z (show O.idxOf a < O.idxOf b by omega)
        have hm : O.idxOf m < O.idxOf b := hm
        have H3 := Lib.hid h3
        have HMM := Lib.hid hm
        have hgt : ¬ (O.idxOf b : Int) < (O.idxOf a : Int) := by omega
        rw [hu] at hcb
        simp only [bestI] at hcb
        have hbN' : (b : Int) < N := by omega
        obtain ⟨pa, hpa⟩ : ∃ pa, O.idxOf a = pa := ⟨_, rfl⟩
        obtain ⟨pb', hpb'⟩ : ∃ pb, O.idxOf b = pb := ⟨_, rfl⟩
        rw [hpa] at e1 hgt
        rw [hpb'] at e2 hgt
        have HPA := Lib.hid hpa
        clear h2 h3 hm hgk hca hu hlt hpl hab hpa hpb'
        go_wp2_with (first
          | (show wpList Try.prog _ _ (⟨some 12, _, _, _, _, _⟩ :: _) _ _; refine wpList_lookup_map kvInt _ rfl (.tmp 10) (.tmp 11) 55 false rfl under_mii (zero_int _) mb _ rfl HM.out (a : Int) rfl ?_; rw [if_neg (by simp), e1])
          | (show wpList Try.prog _ _ (⟨some 15, _, _, _, _, _⟩ :: _) _ _; refine wpList_lookup_map kvInt _ rfl (.tmp 13) (.tmp 14) 55 false rfl under_mii (zero_int _) mb _ rfl HM.out (b : Int) rfl ?_; rw [if_neg (by simp), e2]))
        go_roundg (O.idxOf a + O.idxOf m)
        case measure => rw [HGK.out]; have := HMM.out; omega
        case rel => exact ⟨a, m, rfl, rfl, rfl, H3.out, rfl⟩
end Go.Proofs.Ytgdbkoncaojmoaa
