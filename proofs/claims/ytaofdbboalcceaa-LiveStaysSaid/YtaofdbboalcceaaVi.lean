import Derived.Test.YtaofdbboalcceaaVf
import Derived.Deep.CutRange
import Derived.Carry
import Derived.Test.YtaofdbboalcceaaShelf
/- live.flow: passes. -/
namespace Go.Proofs.Ytaofdbboalcceaa
open Go.RowKit Go.BigFrame

theorem Fl.rebox {W1 w : World} {sb N : Nat} {S : Sets} {cb : Nat} {ch : Bool} (h : Fl W1 w sb N S cb ch) : Fl W1 (w.alloc (.cells #[.bool ch] 4)) sb N S w.heap.size ch := by
  have h1 := h.later (Below.one w (.cells #[.bool ch] 4))
  have := h.cn
  have := h.lt
  exact ⟨h1.h, h1.bx, h1.r, heap_alloc_new w _, by omega, h1.b⟩
def Outer (f : Fn7) (Rn : Nat) (W1 : World) (sb N : Nat) (g : Nat) (cp : Value) (wr : World) : Prop :=
  ∃ (cb : Nat) (S : Sets) (ch : Bool), cp = .pointer (some ⟨cb, 0, none⟩) ∧ Fl W1 wr sb N S cb ch ∧ (∀ p r, S p r = true → Lv f.code p r) ∧ (ch = true → g = pot2 N Rn S + 1) ∧ (ch = false → g = 0 ∧ ∀ q, q < N → Cl f.code S q)
set_option maxRecDepth 1000000 in
set_option maxHeartbeats 16000000 in
theorem lf2_any (f : Fn7) (hf : OkF f) (Rn : Nat) (hRn : f.R.toNat = Rn) (N : Nat) (hN : f.code.length = N) (C : Option Addr) (cap : Nat) (W1 w : World) (sb B cb0 : Nat) (hsb : sb = W1.heap.size)
    (hB : W1.heap[B]? = some (funcObj f.nm f.ps f.R f.Fr C N cap)) (hC : RdI W1 C f.code) (hF : Fl W1 w sb N (fun _ _ => false) cb0 true)
    (x0 x2 x4 x6 x7 x8 x9 x10 x11 x12 x13 x14 x15 x16 x17 x18 x19 x20 x21 x22 x23 x24 x25 x26 x27 x28 x29 x30 x31 x32 x33 x34 x35 x36 x37 x38 x39 x40 x41 x42 x43 x44 x45 x46 x47 x48 x49 x50 x51 x52 x53 x54 x55 x56 x57 x58 x59 x60 x61 x62 x63 x64 x65 x66 x67 x68 x69 x70 x71 x72 x73 x74 x75 x76 x77 x78 x79 x80 x81 : Value) (Q : Exit → Act → World → Prop)
    (hexit : ∀ (y5 y6 y7 y8 y10 y12 y13 y28 y29 y30 y31 y32 y33 y34 y35 y36 y37 y38 y39 y40 y41 y42 y43 y44 y45 y46 y47 y48 y49 y50 y51 y52 y53 y54 y55 y56 y57 y58 y59 y60 y61 y62 y63 y64 y65 y66 y67 y68 y69 y70 y71 y72 y73 y74 y75 y76 y77 y78 y79 y80 : Value) (w' : World) (S : Sets) (cb : Nat), Fl W1 w' sb N S cb false → (∀ p, p < N → ∀ r, S p r = true ↔ Lv f.code p r) → Q (.exit 2) ⟨(x0 :: .pointer (some ⟨B, 0, none⟩) :: x2 :: .pointer (some ⟨sb + 1, 0, none⟩) :: x4 :: y5 :: y6 :: y7 :: y8 :: x9 :: y10 :: x11 :: y12 :: y13 :: x14 :: x15 :: x16 :: x17 :: x18 :: x19 :: x20 :: x21 :: x22 :: x23 :: x24 :: x25 :: x26 :: x27 :: y28 :: y29 :: y30 :: y31 :: y32 :: y33 :: y34 :: y35 :: y36 :: y37 :: y38 :: y39 :: y40 :: y41 :: y42 :: y43 :: y44 :: y45 :: y46 :: y47 :: y48 :: y49 :: y50 :: y51 :: y52 :: y53 :: y54 :: y55 :: y56 :: y57 :: y58 :: y59 :: y60 :: y61 :: y62 :: y63 :: y64 :: y65 :: y66 :: y67 :: y68 :: y69 :: y70 :: y71 :: y72 :: y73 :: y74 :: y75 :: y76 :: y77 :: y78 :: y79 :: y80 :: x81 :: []).toArray, []⟩ w') :
    Code.wp Try.prog lf2 Q ⟨(x0 :: .pointer (some ⟨B, 0, none⟩) :: x2 :: .pointer (some ⟨sb + 1, 0, none⟩) :: x4 :: .pointer (some ⟨cb0, 0, none⟩) :: x6 :: x7 :: x8 :: x9 :: x10 :: x11 :: x12 :: x13 :: x14 :: x15 :: x16 :: x17 :: x18 :: x19 :: x20 :: x21 :: x22 :: x23 :: x24 :: x25 :: x26 :: x27 :: x28 :: x29 :: x30 :: x31 :: x32 :: x33 :: x34 :: x35 :: x36 :: x37 :: x38 :: x39 :: x40 :: x41 :: x42 :: x43 :: x44 :: x45 :: x46 :: x47 :: x48 :: x49 :: x50 :: x51 :: x52 :: x53 :: x54 :: x55 :: x56 :: x57 :: x58 :: x59 :: x60 :: x61 :: x62 :: x63 :: x64 :: x65 :: x66 :: x67 :: x68 :: x69 :: x70 :: x71 :: x72 :: x73 :: x74 :: x75 :: x76 :: x77 :: x78 :: x79 :: x80 :: x81 :: []).toArray, []⟩ w := by
  conv => arg 2; whnf
  have HE := Lib.hid hexit
  have H0 := Lib.hid (show Outer f Rn W1 sb N (pot2 N Rn (fun _ _ => false) + 1) (.pointer (some ⟨cb0, 0, none⟩)) w from ⟨cb0, _, true, rfl, hF, (fun p r h => by cases h), (fun _ => rfl), fun h => by cases h⟩)
  have HF := Lib.hid hf
  have HRN := Lib.hid hRn
  have HN := Lib.hid hN
  have HB := Lib.hid hB
  have HC := Lib.hid hC
  have HSB := Lib.hid hsb
  have hN2 : N ≤ 8192 := by rw [← hN]; exact hf.len.2
  clear hexit hf hRn hN hB hC hF hsb
  generalize pot2 N Rn (fun _ _ => false) + 1 = g0 at H0
  go_loopg [5] g0 (fun g cp wr => Outer f Rn W1 sb N g cp wr)
  case atStart => exact H0.out
  case round =>
    obtain ⟨cb, S, ch, rfl, hfl, hlo, hg1, hg2⟩ := hrel
    clear H0
    have c0 := cell_of_heap hfl.c 0 _ rfl
    have cf := free_of_heap hfl.c 0
    cases ch with
    | false =>
      have hcl := (hg2 rfl).2
      have HX := fun y5 y6 y7 y8 y10 y12 y13 y28 y29 y30 y31 y32 y33 y34 y35 y36 y37 y38 y39 y40 y41 y42 y43 y44 y45 y46 y47 y48 y49 y50 y51 y52 y53 y54 y55 y56 y57 y58 y59 y60 y61 y62 y63 y64 y65 y66 y67 y68 y69 y70 y71 y72 y73 y74 y75 y76 y77 y78 y79 y80 => Lib.hid (HE.out y5 y6 y7 y8 y10 y12 y13 y28 y29 y30 y31 y32 y33 y34 y35 y36 y37 y38 y39 y40 y41 y42 y43 y44 y45 y46 y47 y48 y49 y50 y51 y52 y53 y54 y55 y56 y57 y58 y59 y60 y61 y62 y63 y64 y65 y66 y67 y68 y69 y70 y71 y72 y73 y74 y75 y76 y77 y78 y79 y80 wr S cb hfl (fun p hp r => ⟨hlo p r, fun h => Cl.all (fun q hq => hcl q (by rw [← HN.out]; exact hq)) h⟩))
      clear HE hfl hlo hg1 hg2 hcl
      go_wp2
      exact (HX _ _ _ _ _ _ _ _ _ _ _ _ _ _ _ _ _ _ _ _ _ _ _ _ _ _ _ _ _ _ _ _ _ _ _ _ _ _ _ _ _ _ _ _ _ _ _ _ _ _ _ _ _ _ _ _ _ _ _ _).out
    | true =>
      have HG := Lib.hid (hg1 rfl)
      have hm := hfl.mark false
      have hbb := hfl.b
      have hcn := hfl.cn
      have hBl := (Array.getElem?_eq_some_iff.1 HB.out).1
      rw [← HSB.out] at hBl
      have hbx : wr.heap[B]? = _ := (hbb.block B hBl).trans HB.out
      have hbx2 : (wr.setCell ⟨cb, 0, none⟩ (.bool false)).heap[B]? = _ := (heap_setCell_other wr ⟨cb, 0, none⟩ B _ (by simp only; omega)).trans hbx
      have g4 := cell_of_heap hbx2 4 (.slice C N cap) rfl
      have HM := Lib.hid hm.1
      have HLO := Lib.hid hlo
      clear hg1 hg2 hm hlo hfl hbx hbb hbx2
      have hnew := heap_alloc_new (wr.setCell ⟨cb, 0, none⟩ (.bool false)) (.cells #[.int .i64 ((N : Int) - 1)] 3)
      rw [World.size_setCell] at hnew
      have HNEW := Lib.hid hnew
      clear hnew
      go_wp2
      refine lf3_any f HF.out Rn HRN.out N HN.out C cap W1 _ sb B cb wr.heap.size S HSB.out HB.out HC.out (HM.out.later (Below.one _ _)) HLO.out HNEW.out _ _ _ _ _ _ _ _ _ _ _ _ _ _ _ _ _ _ _ _ _ _ _ _ _ _ _ _ _ _ _ _ _ _ _ _ _ _ _ _ _ _ _ _ _ _ _ _ _ _ _ _ _ _ _ _ _ _ _ _ _ _ _ _ _ _ _ _ _ _ _ _ _ _ _ _ _ _ _ ?_
      intro z6 z7 z8 z10 z12 z13 z33 z34 z35 z36 z37 z38 z39 z40 z41 z42 z43 z44 z45 z46 z47 z48 z49 z50 z51 z52 z53 z54 z55 z56 z57 z58 z59 z60 z61 z62 z63 z64 z65 z66 z67 z68 z69 z70 z71 z72 z73 z74 z75 z76 z77 z78 z79 w3 S' ch' hf3 hps3 hcl3
      have c3 := cell_of_heap hf3.c 0 _ rfl
      obtain ⟨g', hg', HO⟩ : ∃ g', g' < gk ∧ Hid (Outer f Rn W1 sb N g' (.pointer (some ⟨w3.heap.size, 0, none⟩)) (w3.alloc (.cells #[.bool ch'] 4))) := by
        have hre := hf3.rebox
        cases ch' with
        | false => exact ⟨0, by rw [HG.out]; omega, Lib.hid ⟨_, S', false, rfl, hre, hps3.lo, (fun e => by cases e), fun _ => ⟨rfl, by rw [hps3.st rfl]; exact hcl3 rfl⟩⟩⟩
        | true => exact ⟨pot2 N Rn S' + 1, by rw [HG.out]; have := hps3.mv rfl; omega, Lib.hid ⟨_, S', true, rfl, hre, hps3.lo, (fun _ => rfl), fun e => by cases e⟩⟩
      clear hf3 hps3 hcl3
      go_wp2
      go_roundg g'
      case measure => exact hg'
      case rel => exact HO.out
end Go.Proofs.Ytaofdbboalcceaa

/- live.flow. -/
namespace Go.Proofs.Ytaofdbboalcceaa
open Go.RowKit Go.BigFrame

theorem info_map : (Try.prog.info? 84).map (fun i => (i.zero, i.size, i.bytes)) = some (some (.map none), 1, 8) := by kernel_rfl
theorem make_maps (L : Nat) (hL : L ≤ 100000) (W : World) : (Instr.makeSlice 82 (.int .i64 L) (.int .i64 L)).run Try.prog W = .ok (.slice (some ⟨W.heap.size, 0, none⟩) L L) (W.alloc (.cells (madeCells #[.map none] L) 84)) := by
  obtain ⟨i0, hi, hz0, hz1, hz2⟩ := info_parts info_map
  have := run_make (P := Try.prog) W 82 84 i0 (.map none) (by kernel_rfl) hi hz0 .i64 .i64 L L (by omega) (by omega) (by rw [hz2]; omega) (by omega)
  simpa [hz1, Value.cells] using this
/-- a slice of sets -/
structure MapsW (w : World) (sb N : Nat) (S : Sets) : Prop where
  h : Pre g1 1 84 w sb ((List.range N).map fun p => .map (some (sb + 2 + p)))
  r : ∀ p, p < N → SetI w (sb + 2 + p) (S p)
theorem MapsW.later {w w' : World} {sb N : Nat} {S : Sets} (h : MapsW w sb N S) (hb : Below w.heap.size w w') : MapsW w' sb N S := ⟨Pre.later h.h hb, fun p hp => (h.r p hp).below hb (h.r p hp).lt⟩
theorem MapsW.cell {w : World} {sb N : Nat} {S : Sets} (h : MapsW w sb N S) {p : Nat} (hp : p < N) : w.cell? ⟨sb, p, none⟩ = some (.map (some (sb + 2 + p))) := Pre1.cell h.h (by simp [hp])
def LiveM (f : Fn7) (N base : Nat) (e : Ending) (w : World) : Prop := ∃ sb S, e = .returned (.slice (some ⟨sb, 0, none⟩) N N) ∧ base ≤ sb ∧ MapsW w sb N S ∧ ∀ p, p < N → ∀ r, S p r = true ↔ Lv f.code p r
def hdrm (N sb k : Nat) : List Value := (List.range N).map fun j => if j < k then .map (some (sb + 2 + j)) else .map none
theorem hdrm_get {N sb k j : Nat} (hj : j < N) : (hdrm N sb k)[j]? = some (if j < k then .map (some (sb + 2 + j)) else .map none) := by simp [hdrm, hj]
theorem hdrm_zero (N sb : Nat) : hdrm N sb 0 = List.replicate N (.map none) := by
  apply List.ext_getElem?
  intro j
  by_cases hj : j < N
  · rw [hdrm_get hj, if_neg (Nat.not_lt_zero j)]; simp [hj]
  · rw [List.getElem?_eq_none (by simp [hdrm]; omega), List.getElem?_eq_none (by simp; omega)]
theorem hdrm_set {N sb k : Nat} (hk : k < N) : (hdrm N sb k).set k (.map (some (sb + 2 + k))) = hdrm N sb (k + 1) := by
  apply List.ext_getElem?
  intro j
  by_cases hj : j < N
  · rw [List.getElem?_set, hdrm_get hj, hdrm_get hj]
    by_cases h1 : k = j
    · subst h1; rw [if_pos rfl, if_pos (by simp [hdrm, hk]), if_pos (by omega)]
    · rw [if_neg h1]
      by_cases h2 : j < k
      · rw [if_pos h2, if_pos (by omega)]
      · rw [if_neg h2, if_neg (by omega)]
  · rw [List.getElem?_eq_none (by simp [hdrm]; omega), List.getElem?_eq_none (by simp [hdrm]; omega)]
theorem hdrm_all (N sb : Nat) : hdrm N sb N = (List.range N).map fun p => .map (some (sb + 2 + p)) := by
  apply List.ext_getElem?
  intro j
  by_cases hj : j < N
  · rw [hdrm_get hj, if_pos hj]; simp [hj]
  · rw [List.getElem?_eq_none (by simp [hdrm]; omega), List.getElem?_eq_none (by simp; omega)]
structure Lpm (W1 wr : World) (N k : Nat) : Prop where
  h : Pre g1 1 84 wr W1.heap.size (hdrm N W1.heap.size k)
  bx : wr.heap[W1.heap.size + 1]? = some (.cells #[.slice (some ⟨W1.heap.size, 0, none⟩) N N] 82 (0, 0))
  r : ∀ j, j < k → SetI wr (W1.heap.size + 2 + j) (fun _ => false)
  s : wr.heap.size = W1.heap.size + 2 + k
  b : Below W1.heap.size W1 wr
theorem Lpm.start (W1 : World) (N : Nat) : Lpm W1 ((W1.alloc (.cells (madeCells #[.map none] N) 84)).alloc (.cells #[.slice (some ⟨W1.heap.size, 0, none⟩) N N] 82)) N 0 := by
  have h := made_pre (g := g1) (d := 1) (t := 84) W1 #[.map none] N (.map none) rfl (fun k hk => by
    obtain rfl : k = 0 := by omega
    rfl)
  rw [Nat.mul_one] at h
  have hb := Below.one (W1.alloc (.cells (madeCells #[.map none] N) 84)) (.cells #[.slice (some ⟨W1.heap.size, 0, none⟩) N N] 82)
  refine ⟨by rw [hdrm_zero]; exact Pre.later h hb, ?_, fun j hj => by omega, by simp, (Below.one _ _).trans (hb.mono (by simp))⟩
  have h2 := heap_alloc_new (W1.alloc (.cells (madeCells #[.map none] N) 84)) (.cells #[.slice (some ⟨W1.heap.size, 0, none⟩) N N] 82)
  rwa [show (W1.alloc (.cells (madeCells #[.map none] N) 84)).heap.size = W1.heap.size + 1 by simp] at h2
theorem Lpm.next {W1 wr : World} {N k : Nat} (h : Lpm W1 wr N k) (hk : k < N) : Lpm W1 ((wr.alloc (.map #[] 0)).setCell ⟨W1.heap.size, k, none⟩ (.map (some wr.heap.size))) N (k + 1) := by
  have hb := Below.one wr (.map #[] 0)
  have h1 := Pre1.set (Pre.later h.h hb) (j := k) (by simp [hdrm, hk]) (.map (some (W1.heap.size + 2 + k)))
  rw [hdrm_set hk] at h1
  have hs := h.s
  have hm := SetI.made wr
  have ho : ∀ b, b ≠ W1.heap.size → ((wr.alloc (.map #[] 0)).setCell ⟨W1.heap.size, k, none⟩ (.map (some wr.heap.size))).heap[b]? = (wr.alloc (.map #[] 0)).heap[b]? := fun b hb => heap_setCell_other _ ⟨W1.heap.size, k, none⟩ b _ hb
  rw [hs] at hm ho ⊢
  refine ⟨h1, (ho _ (by omega)).trans ((hb.block _ (by omega)).trans h.bx), fun j hj => ?_, by simp [hs]; omega, (h.b.alloc (by omega) _).setCell (Nat.le_refl _) _⟩
  by_cases hjk : j < k
  · exact ((h.r j hjk).below hb (by omega)).of_block (ho _ (by omega))
  · obtain rfl : j = k := by omega
    exact hm.of_block (ho _ (by omega))
theorem Lpm.cell {W1 wr : World} {N k : Nat} (h : Lpm W1 wr N k) (hk : k < N) : wr.cell? ⟨W1.heap.size, k, none⟩ = some (.map none) := by
  have := Pre1.cell h.h (hdrm_get hk)
  rwa [if_neg (Nat.lt_irrefl k)] at this
theorem Lpm.done {W1 wr : World} {N : Nat} (h : Lpm W1 wr N N) : Fl W1 (wr.alloc (.cells #[.bool true] 4)) W1.heap.size N (fun _ _ => false) wr.heap.size true := by
  have hb := Below.one wr (.cells #[.bool true] 4)
  have hs := h.s
  have h1 := Pre.later h.h hb
  rw [hdrm_all] at h1
  exact ⟨h1, (hb.block _ (by omega)).trans h.bx, fun p hp => (h.r p hp).below hb (by omega), heap_alloc_new _ _, by omega, h.b.trans (hb.mono (by omega))⟩
set_option maxRecDepth 1000000 in
set_option maxHeartbeats 16000000 in
theorem flow_live (f : Fn7) (hf : OkF f) (C : Option Addr) (cap : Nat) (w : World) (hC : RdI w C f.code) :
    Calls Try.prog 66 #[funcAgg f.nm f.ps f.R f.Fr C f.code.length cap] w fun e w' => LiveM f f.code.length w.heap.size e w' ∧ Below w.heap.size w w' := by
  obtain ⟨N, hN⟩ : ∃ N, f.code.length = N := ⟨_, rfl⟩
  rw [hN]
  have hN2 : N ≤ 8192 := by rw [← hN]; exact hf.len.2
  have hB := Below.one w (funcObj f.nm f.ps f.R f.Fr C N cap)
  have bx := heap_alloc_new w (funcObj f.nm f.ps f.R f.Fr C N cap)
  have hsz : (w.alloc (funcObj f.nm f.ps f.R f.Fr C N cap)).heap.size = w.heap.size + 1 := by simp
  have hC1 := hC.below hB
  simp only [funcObj, funcAgg] at hB bx hC1 hsz ⊢
  have HF := Lib.hid hf
  have HN := Lib.hid hN
  clear hf hN hC
  obtain ⟨W, hW⟩ : ∃ W, w.alloc (.cells #[.string f.nm, .int .i64 f.ps, .int .i64 f.R, .int .i64 f.Fr, .slice C N cap] 24) = W := ⟨_, rfl⟩
  rw [hW] at hB bx hC1 hsz
  have hmk := make_maps N (by omega) W
  have g4 := cell_of_heap bx 4 (.slice C N cap) rfl
  have HBX := Lib.hid bx
  have HSZ := Lib.hid hsz
  have HC1 := Lib.hid hC1
  have hmm := @run_makeMap Try.prog
  clear bx hsz hC1
  go_enter Try.func66, Try.ntmps66
  go_wp2
  have H0 := Lib.hid (Lpm.start W N)
  clear hW hmk
  go_loopw [20] (fun ix wr => ∃ k : Nat, k ≤ N ∧ ix = .int .i64 k ∧ Lpm W wr N k) (fun ix _ => N - (intOf ix).toNat)
  case atStart => exact ⟨0, by omega, rfl, H0.out⟩
  case round =>
    obtain ⟨k, hk, rfl, hl⟩ := hrel
    clear H0
    by_cases hlt : k < N
    · have c0 := cell_of_heap hl.bx 0 _ rfl
      have c1 := hl.cell hlt
      have cf := Pre.free hl.h k
      have hs := hl.s
      have HL : Hid (Lpm W ((wr.setCell ⟨W.heap.size, k, none⟩ (.map (some wr.heap.size))).alloc (.map #[] 0)) N (k + 1)) := Lib.hid (by rw [← World.setCell_alloc_past _ _ _ _ (Pre.lt hl.h)]; exact hl.next hlt)
      have hls : W.heap.size < wr.heap.size := by omega
      clear hl hs
      go_wp2
      exact ⟨⟨k + 1, by omega, by go_num, HL.out⟩, by simp [intOf]; omega⟩
    · obtain rfl : k = N := by omega
      have HD := Lib.hid hl.done
      clear hl
      go_wp2
      refine lf2_any f HF.out _ rfl k HN.out C cap W _ W.heap.size w.heap.size wr.heap.size rfl HBX.out HC1.out HD.out _ _ _ _ _ _ _ _ _ _ _ _ _ _ _ _ _ _ _ _ _ _ _ _ _ _ _ _ _ _ _ _ _ _ _ _ _ _ _ _ _ _ _ _ _ _ _ _ _ _ _ _ _ _ _ _ _ _ _ _ _ _ _ _ _ _ _ _ _ _ _ _ _ _ _ _ _ _ _ _ ?_
      intro z5 z6 z7 z8 z10 z12 z13 z28 z29 z30 z31 z32 z33 z34 z35 z36 z37 z38 z39 z40 z41 z42 z43 z44 z45 z46 z47 z48 z49 z50 z51 z52 z53 z54 z55 z56 z57 z58 z59 z60 z61 z62 z63 z64 z65 z66 z67 z68 z69 z70 z71 z72 z73 z74 z75 z76 z77 z78 z79 z80 w3 S cb hf3 hS
      have c3 := cell_of_heap hf3.bx 0 _ rfl
      have HR : Hid (LiveM f k w.heap.size (.returned (.slice (some ⟨W.heap.size, 0, none⟩) k k)) w3 ∧ Below w.heap.size w w3) := Lib.hid ⟨⟨W.heap.size, S, rfl, by have := HSZ.out; omega, ⟨hf3.h, hf3.r⟩, hS⟩, hB.trans (hf3.b.mono (by have := HSZ.out; omega))⟩
      clear hf3 hS
      go_wp2
      go_returns
      exact HR.out
end Go.Proofs.Ytaofdbboalcceaa

/- live.sorted. -/
namespace Go.Proofs.Ytaofdbboalcceaa
open Go.RowKit Go.BigFrame

def isort (l : List Int) : List Int := l.mergeSort fun x y => decide (x ≤ y)
theorem isort_len (l : List Int) : (isort l).length = l.length := List.length_mergeSort l
theorem isort_mem (l : List Int) (x : Int) : x ∈ isort l ↔ x ∈ l := (List.mergeSort_perm l _).mem_iff
theorem isort_lt {l : List Int} (h : l.Nodup) : (isort l).Pairwise (· < ·) := by
  have h1 : (isort l).Pairwise (fun x y => decide (x ≤ y) = true) := List.pairwise_mergeSort (by intro a b c h1 h2; simp at h1 h2 ⊢; omega) (by intro a b; simp; omega) l
  have h2 : (isort l).Pairwise (· ≠ ·) := ((List.mergeSort_perm l _).nodup_iff).2 h
  exact (h1.and h2).imp fun ⟨a, b⟩ => by simp at a; omega
theorem sort_own (base : Nat) (W0 w : World) (hb : Below base W0 w) (hw : base ≤ w.heap.size) (V : Value) (l : List Int) (hown : OwnN w V l) (hV : ∀ b, V.ownBlock = some b → base ≤ b) (hl : l.length ≤ 100000) :
    Calls Try.prog 87 #[V] w fun e w' => e = .returned (.tuple #[]) ∧ Below base W0 w' ∧ ∃ A cap, V = .slice A l.length cap ∧ RdN w' A (isort l) := by
  have h0 := hown
  obtain ⟨h1, h2⟩ := hown
  rcases h2 with ⟨rfl, hn⟩ | ⟨g, cap, cur, rfl, hB, hg, hnc, hcm, hsz, htake⟩
  · obtain rfl : l = [] := List.eq_nil_of_length_eq_zero hn
    exact (Try.slices_Sort_int_none none 0 w).mono fun e w' ⟨h1, h2⟩ => by
      subst h2
      exact ⟨h1, hb, none, 0, rfl, fun j n hj => by simp [isort] at hj⟩
  · have hlt := (Array.getElem?_eq_some_iff.1 hg).1
    have hH : Sort.Holds (Value.int .i64) w g 0 l.toArray := fun j hj => by
      have hj' : j < l.length := by simpa using hj
      have := World.ownsRow.cellAt h0 j (by omega)
      refine ⟨?_, free_of_heap hg _⟩
      rw [Nat.zero_add, this, List.getElem?_map, List.getElem?_eq_getElem hj']
      simp [hj']
    refine (Try.slices_Sort_int g 0 cap l w hH hlt (by omega)).mono fun e w' ⟨h1, n, os, h2⟩ => ?_
    subst h2
    have hls : (isort l).toArray.size = l.toArray.size := by simp [isort_len]
    refine ⟨h1, ⟨hb.os, hb.tape, hb.output, ?_, fun k hk => ?_⟩, _, cap, rfl, fun j x hj => ⟨g, 0, rfl, ?_, ?_⟩⟩
    · have := hb.size
      simp [Sort.grow, Sort.putRow, Sort.mapBlock]; omega
    · have := hV g rfl
      have h3 := hb.block k hk
      simp only [Sort.grow, Sort.putRow, Sort.mapBlock]
      rw [Array.getElem?_append_left (by simp; omega), Array.getElem?_modify, if_neg (by omega)]
      exact h3
    · simp [Sort.grow, Sort.putRow, Sort.mapBlock]; omega
    · have hjl := (List.getElem?_eq_some_iff.1 hj).1
      have hc := Sort.cell?_putRow (Value.int .i64) (Sort.ahead w n) g 0 l.toArray (isort l).toArray hH hls j (by simpa using hjl)
      rw [Sort.cell?_grow _ _ _ (by simpa using hlt)]
      rw [show (isort l) = l.mergeSort fun x y => decide (x ≤ y) from rfl] at hc
      rw [hc]
      rw [List.getElem?_eq_getElem hjl] at hj
      injection hj with hj
      rw [← hj]
      simp [isort] at hjl ⊢
      simp [hjl]
def SortT (S : Int → Bool) (e : Ending) (w : World) : Prop := ∃ A l cap, e = .returned (.slice A l.length cap) ∧ RdN w A l ∧ l.Pairwise (· < ·) ∧ ∀ x, x ∈ l ↔ S x = true
set_option maxRecDepth 1000000 in
set_option maxHeartbeats 8000000 in
theorem sorted_any (b : Nat) (S : Int → Bool) (R : Nat) (hR : R ≤ 5000) (w : World) (hS : SetI w b S) (hbd : ∀ x, S x = true → 0 ≤ x ∧ x < (R : Int)) : Calls Try.prog 67 #[.map (some b)] w fun e w' => SortT S e w' ∧ Below w.heap.size w w' := by
  have HS := Lib.hid hS
  have HBD := Lib.hid hbd
  have hbl := hS.lt
  clear hS hbd
  go_enter Try.func67, Try.ntmps67
  go_wp2_with (first
    | (at_range; refine wpList_range_set _ rfl _ 84 rfl umap b S rfl HS.out ?_; intro lst o' hrg hnd hall))
  go_frame
  have H0 : Hid (∃ (lst' acc : List Int), lst.length = lst'.length ∧ RgD (w.alloc o') w.heap.size b S lst' ∧ OwnN (w.alloc o') (.slice none 0 0) acc ∧ (∀ k, (Value.slice none 0 0).ownBlock = some k → w.heap.size < k) ∧ acc.Nodup ∧ (∀ x, x ∈ acc ↔ S x = true ∧ x ∉ lst') ∧ acc.length + lst'.length ≤ R ∧ Below w.heap.size w (w.alloc o')) :=
    Lib.hid ⟨lst, [], rfl, hrg, OwnN.nil _, (fun k hk => by simp [Value.ownBlock] at hk), List.nodup_nil, (fun x => ⟨fun h => by simp at h, fun ⟨h1, h2⟩ => absurd ((hall x).2 h1) h2⟩), by
      have := nodup_le R lst hnd (fun x hx => HBD.out x ((hall x).1 hx))
      simpa using this, Below.one _ _⟩
  clear hrg hnd hall
  go_loopg [3] lst.length (fun g V wr => ∃ (lst' acc : List Int), g = lst'.length ∧ RgD wr w.heap.size b S lst' ∧ OwnN wr V acc ∧ (∀ k, V.ownBlock = some k → w.heap.size < k) ∧ acc.Nodup ∧ (∀ x, x ∈ acc ↔ S x = true ∧ x ∉ lst') ∧ acc.length + lst'.length ≤ R ∧ Below w.heap.size w wr)
  case atStart => exact H0.out
  case round =>
    obtain ⟨lst', acc, hg, hrg, hown, hV, hnd, hmem, hlen, hb⟩ := hrel
    have HG := Lib.hid hg
    have HRG := Lib.hid hrg
    have HOWN := Lib.hid hown
    have HV := Lib.hid hV
    have HND := Lib.hid hnd
    have HM := Lib.hid hmem
    have HB := Lib.hid hb
    have hsz := hb.size
    clear hg hrg hown hV hnd hmem hb H0
    go_wp2_with (first
      | (at_next; refine wpList_next_set _ rfl _ rfl w.heap.size b S lst' rfl HRG.out ?_ ?_))
    · intro hl
      have hso := sort_own w.heap.size w wr HB.out hsz u3 acc HOWN.out (fun k hk => by have := HV.out k hk; omega) (by omega)
      have HSO := Lib.hid hso
      have HL := Lib.hid hl
      clear hso hl
      go_wp2_with (first
        | (refine HSO.out.mono ?_; rintro e w3 ⟨rfl, hb3, A, cap, rfl, hrd⟩; have HRD := Lib.hid hrd; clear hrd))
      go_returns
      exact ⟨⟨A, isort acc, cap, (by rw [isort_len]; rfl), HRD.out, isort_lt HND.out, fun x => ⟨fun h => ((HM.out x).1 ((isort_mem _ _).1 h)).1, fun h => (isort_mem _ _).2 ((HM.out x).2 ⟨h, by rw [HL.out]; simp⟩)⟩⟩, hb3⟩
    · intro s l' w2 hm hs hmem hlt hrg2 hg2 hz2 hen
      have hlr := HRG.out.lt
      have ho2 : OwnN w2 u3 acc := World.ownsRow.kept HOWN.out hg2 (Or.inr fun e => by have := HV.out _ e; omega)
      have hb2 : Below w.heap.size w w2 := Below.grown HB.out hg2 hsz (fun k hk => by injection hk; omega)
      have HO2 := Lib.hid (OwnN.alloc ho2 (.cells #[.int .i64 s] 3))
      have HG2 := Lib.hid (hrg2.below (Below.one w2 (.cells #[.int .i64 s] 3)))
      have HB2 := Lib.hid (hb2.alloc (by omega) (.cells #[.int .i64 s] 3))
      have HX := Lib.hid (show s ∉ acc from fun h => ((HM.out s).1 h).2 hm)
      have HS2 := Lib.hid hs
      have HME := Lib.hid hmem
      have HLT := Lib.hid hlt
      have hsz2 : w.heap.size ≤ w2.heap.size := by omega
      have hal : acc.length ≤ 90000 := by omega
      clear hm hs hmem hlt hrg2 hg2 hz2 ho2 hb2
      go_wp2_with (first
        | (at_builtin; refine append_one rfl (.tmp 11) (.tmp 13) rfl u3 acc rfl HO2.out w2.heap.size s rfl (heap_alloc_new _ _) hal ?_; intro V' w4 ho4 hg4 hb4; have HO4 := Lib.hid ho4; have HG4 := Lib.hid hg4; have HB4 := Lib.hid hb4; clear ho4 hg4 hb4))
      go_roundg l'.length
      case measure => rw [HG.out]; exact HLT.out
      case rel =>
        have hne : ∀ k, u3.ownBlock = some k → w.heap.size < k := HV.out
        have hl2 := HG2.out.lt
        have hk : ∀ x, x < (w2.alloc (.cells #[.int .i64 s] 3)).heap.size → x ≤ w.heap.size → w4.heap[x]? = (w2.alloc (.cells #[.int .i64 s] 3)).heap[x]? := fun x h1 h2 => HG4.out.block x h1 (fun e => by have := hne x e.symm; omega)
        refine ⟨l', acc ++ [s], rfl, HG2.out.of_blocks (hk _ hl2.1 (by omega)) (hk _ hl2.2 (Nat.le_refl _)), HO4.out, fun k hk2 => ?_, ?_, fun x => ?_, ?_, Below.grown HB2.out HG4.out (by simp; omega) (fun k hk2 => by have := hne k hk2; omega)⟩
        · rcases HB4.out with e | e
          · rw [e] at hk2; exact hne k hk2
          · rw [e] at hk2; injection hk2 with hk2; simp at hk2; omega
        · rw [List.nodup_append]
          exact ⟨HND.out, by simp, fun a ha b' hb' e => by
            simp only [List.mem_singleton] at hb'
            subst hb' e
            exact HX.out ha⟩
        · rw [List.mem_append, List.mem_singleton, HM.out, HME.out]
          constructor
          · rintro (⟨h1, h2⟩ | rfl)
            · exact ⟨h1, fun h => h2 h.1⟩
            · exact ⟨HS2.out, fun h => h.2 rfl⟩
          · rintro ⟨h1, h2⟩
            by_cases hxs : x = s
            · exact Or.inr hxs
            · exact Or.inl ⟨h1, fun h => h2 ⟨h, hxs⟩⟩
        · have := HLT.out
          rw [List.length_append]
          simp
          omega
end Go.Proofs.Ytaofdbboalcceaa
