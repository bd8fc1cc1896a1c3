import Derived.Test.YtihbgppcacaekaaDoorRg
import Derived.Test.YtihbgppcacaekaaDoorQw
/- MachBytes. -/
namespace Go.Proofs.YtihbgppcacaekaaDoor
open Go.RowKit Go.BigFrame

def echoT : ByteArray := ⟨#[111, 98, 106, 101, 99, 116, 32, 109, 97, 105, 110, 32, 48, 32, 48, 10, 103, 101, 116, 99, 32, 48, 10, 117, 110, 32, 49, 32, 48, 32, 110, 111, 116, 10, 98, 110, 122, 32, 49, 32, 52, 10, 114, 101, 116, 32, 48, 10, 112, 117, 116, 99, 32, 48, 10, 106, 109, 112, 32, 48, 10]⟩
theorem echo_read : readF echoT = (mainO echoL, 0, 0) := by decide +kernel
theorem re_cells3 {w : World} {b : Nat} {c0 c1 c2 : Value} (h : w.heap[b]? = some (.cells #[c0, c1, c2] 30 (0, 0))) : w.cell? ⟨b, 0, none⟩ = some c0 ∧ w.cell? ⟨b, 1, none⟩ = some c1 ∧ w.cell? ⟨b, 2, none⟩ = some c2 :=
  ⟨cell_of_heap h 0 _ rfl, cell_of_heap h 1 _ rfl, cell_of_heap h 2 _ rfl⟩
theorem ob_cells4' {w : World} {b : Nat} {c0 c1 c2 c3 : Value} (h : w.heap[b]? = some (.cells #[c0, c1, c2, c3] 39 (0, 0))) : w.cell? ⟨b, 0, none⟩ = some c0 ∧ w.cell? ⟨b, 1, none⟩ = some c1 ∧ w.cell? ⟨b, 2, none⟩ = some c2 ∧ w.cell? ⟨b, 3, none⟩ = some c3 :=
  ⟨cell_of_heap h 0 _ rfl, cell_of_heap h 1 _ rfl, cell_of_heap h 2 _ rfl, cell_of_heap h 3 _ rfl⟩
theorem resEq (l : List Int) (N : Nat) (hN : l.length = N) (hb : N ≤ 200) (w : World) (A B : Option Addr) (ca cb : Nat) (hA : RdB w A l) (hB : RdB w B l) :
    Calls Tryd.prog 14 #[.agg #[.int .i64 1, .int .i64 (-1), .slice A N ca], .agg #[.int .i64 1, .int .i64 (-1), .slice B N cb]] w fun e w' => e = .returned (.bool true) ∧ Below w.heap.size w w' := by
  have h := Result7_any ⟨1, -1, l⟩ ⟨1, -1, l⟩ A B ca cb (by show l.length ≤ _; omega) (by show l.length ≤ _; omega) w hA hB
  rw [decide_eq_true rfl] at h
  simp only [reAgg, hN] at h
  exact h
set_option maxRecDepth 1000000 in
set_option maxHeartbeats 8000000 in
theorem machBytes_any (l : List Int) (A : Option Addr) (icap : Nat) (w : World) (hT : Tabs w) (hR : RdB w A l) (hic : l.length ≤ icap) (hby : ∀ a ∈ l, 0 ≤ a ∧ a ≤ 255) :
    Calls Tryd.prog 8 #[.slice A l.length icap] w fun e w' => e = .returned (.bool true) ∧ Below w.heap.size w w' := by
  have HT := Lib.hid hT
  by_cases hbig : 200 < l.length
  · obtain ⟨N, hN⟩ : ∃ N, l.length = N := ⟨_, rfl⟩
    rw [hN] at hbig ⊢
    have q1 : decide ((N : Int) > 200) = true := by simp; omega
    have q2 : decide (200 < (N : Int)) = true := by simp; omega
    clear hT hR hic hby hN
    go_enter Tryd.func8, Tryd.ntmps8
    go_wp2_with (first
      | (go_at_call 12; refine (awake_any _ HT.out).mono ?_; rintro e w7 ⟨rfl, hb7⟩))
    go_returns
    exact ⟨rfl, hb7⟩
  have hru := echo_run l (by omega) hby
  have hrd := Read_any echoT (by decide) w hT
  have hll : (mainO echoL).lines.length ≤ 1000 := by decide
  rw [echo_read] at hrd
  simp only [mainI] at hru
  obtain ⟨o, ho⟩ : ∃ o, mainO echoL = o := ⟨_, rfl⟩
  rw [ho] at hrd hru hll
  obtain ⟨n, hn⟩ : ∃ n, o.lines.length = n := ⟨_, rfl⟩
  simp only [obAgg, hn, echoT] at hrd
  obtain ⟨N, hN⟩ : ∃ N, l.length = N := ⟨_, rfl⟩
  rw [hN] at hbig ⊢
  have q1 : decide ((N : Int) > 200) = false := by simp; omega
  have q2 : decide (200 < (N : Int)) = false := by simp; omega
  have HN := Lib.hid hn
  have HNL := Lib.hid hN
  have HLL := Lib.hid hll
  have HRU := Lib.hid hru
  have HR := Lib.hid hR
  have HIC := Lib.hid hic
  have HBY := Lib.hid hby
  have HBG : Hid (N ≤ 200) := Lib.hid (by omega)
  clear hT ho hn hll hru hR hic hby hbig hN
  go_enter Tryd.func8, Tryd.ntmps8
  go_wp2_with (first
    | (go_at_call 18; refine hrd.mono ?_; rintro e w1 ⟨C, cap, rfl, hR1, hb1⟩;
       have hT1 := HT.out.below hb1;
       have hA := Below.one w1 (obObj o C cap);
       have hA2 := hA.trans ((Below.one (w1.alloc (obObj o C cap)) (obObj o C cap)).mono hA.size);
       have h1 := heap_alloc_new w1 (obObj o C cap);
       have h2 := heap_alloc_new (w1.alloc (obObj o C cap)) (obObj o C cap);
       rw [show (w1.alloc (obObj o C cap)).heap.size = w1.heap.size + 1 by simp] at h2;
       have hI2 := HR.out.below (hb1.trans (hA2.mono hb1.size));
       have hrun := Run_one o C cap (w1.heap.size + 1) 2000 ((w1.alloc (obObj o C cap)).alloc (obObj o C cap)) (hT1.below hA2) h2 (hR1.below hA2) (by have := HLL.out; omega) (by omega) A icap l hI2 HIC.out HBY.out;
       rw [HRU.out, HNL.out] at hrun;
       have HB1 := Lib.hid hb1;
       simp only [obObj, HN.out] at hrun hA2 h1;
       have HA2 := Lib.hid hA2;
       clear h2 hA hA2 hR1 hb1 hT1 hI2;
       obtain ⟨c0, c1, c2, c3⟩ := ob_cells4' h1;
       clear h1)
    | (go_at_call 13; refine hrun.mono ?_; rintro e w2 ⟨⟨A2, ac, rfl, hA2b⟩, hb2⟩; clear c0 c1 c2 c3;
       have HRE : Hid ((⟨1, -1, l⟩ : Rs).outp.length = N) := HNL;
       simp only [HNL.out];
       have hb2' := HA2.out.trans (hb2.mono HA2.out.size);
       have hb3 := hb2'.trans ((Below.one w2 (.cells #[.int .i64 1, .int .i64 (-1), .slice A2 N ac] 30 (0, 0))).mono hb2'.size);
       have HB3 := Lib.hid (HB1.out.trans (hb3.mono HB1.out.size));
       have HOUT := Lib.hid (hA2b.1.below (Below.one w2 (.cells #[.int .i64 1, .int .i64 (-1), .slice A2 N ac] 30 (0, 0))));
       have HIN := Lib.hid (HR.out.below HB3.out);
       obtain ⟨x0, x1, x2⟩ := re_cells3 (heap_alloc_new w2 (.cells #[.int .i64 1, .int .i64 (-1), .slice A2 N ac] 30 (0, 0)));
       have hT3 := HT.out.below HB3.out;
       clear hb2 hb2' hb3 hA2b)
    | (go_at_call 14; refine (resEq l N HNL.out HBG.out _ A2 A ac icap HOUT.out HIN.out).mono ?_; rintro e w6 ⟨rfl, hb6⟩; have HB6 := Lib.hid (HB3.out.trans (hb6.mono HB3.out.size)); have hT6 := HT.out.below HB6.out; clear hb6)
    | (go_at_call 12; refine (awake_any _ hT6).mono ?_; rintro e w7 ⟨rfl, hb7⟩; have HB7 := Lib.hid (HB6.out.trans (hb7.mono HB6.out.size)); clear hb7))
  go_returns
  exact ⟨rfl, HB7.out⟩
end Go.Proofs.YtihbgppcacaekaaDoor
