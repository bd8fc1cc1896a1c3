import Derived.Test.YtihbgppcacaekaaDoorRf
import Derived.Test.YtihbgppcacaekaaDoorQv
import Derived.Test.YtihbgppcacaekaaDoorPc
/- awake. -/
namespace Go.Proofs.YtihbgppcacaekaaDoor
open Go.RowKit Go.BigFrame

theorem rdO_one {w : World} {b : Nat} {o : Ob} {C : Option Addr} {cap : Nat} (h : w.heap[b]? = some (obObj o C cap)) (hR : RdL w C o.lines) : RdO w (some ⟨b, 0, none⟩) [o] := fun k f hk => by
  cases k with
  | succ k => simp at hk
  | zero =>
    simp at hk
    subst hk
    refine ⟨b, 0, C, cap, rfl, (Array.getElem?_eq_some_iff.1 h).1, fun j hj => ?_, hR⟩
    rcases (by omega : j = 0 ∨ j = 1 ∨ j = 2 ∨ j = 3) with rfl | rfl | rfl | rfl <;> exact cell_of_heap h _ _ rfl
/-- a run of one object, no input -/
theorem Run_one (o : Ob) (C : Option Addr) (cap b : Nat) (fuel : Int) (w : World) (hT : Tabs w) (h : w.heap[b]? = some (obObj o C cap)) (hR : RdL w C o.lines) (hl : o.lines.length ≤ 1000000) (hfu : fuel ≤ 70000) (I : Option Addr) (icap : Nat) (inp : List Int) (hI : RdB w I inp) (hic : inp.length ≤ icap) (hby : ∀ a ∈ inp, 0 ≤ a ∧ a ≤ 255) :
    Calls Tryd.prog 13 #[.agg #[.slice (some ⟨b, 0, none⟩) 1 1, .slice none 0 0, .int .i64 1], .slice I inp.length icap, .int .i64 fuel] w fun e w' => RunT (runM ⟨[o], [], 1⟩ inp fuel) e w' ∧ Below w.heap.size w w' :=
  Run_any ⟨[o], [], 1⟩ (some ⟨b, 0, none⟩) none 1 0 I icap inp fuel w hT ⟨rdO_one h hR, fun k g hk => by simp at hk⟩ hI hic hby (by simp) (by simp) (fun x hx => by simp at hx; subst hx; exact hl) (by show (1 : Int) ≤ _; omega) hfu
theorem rdB_nil (w : World) (A : Option Addr) : RdB w A [] := fun j n hn => by simp at hn
def awT : ByteArray := ⟨#[111, 98, 106, 101, 99, 116, 32, 109, 97, 105, 110, 32, 48, 32, 48, 10, 108, 105, 32, 48, 32, 55, 10, 114, 101, 116, 32, 48, 10]⟩
def awL : List Ln := [⟨1, 0, 0, 0, 7, eB⟩, ⟨18, 0, 0, 0, 0, eB⟩]
theorem aw_read : readF awT = (mainO awL, 0, 0) := by decide +kernel
theorem aw_right : rightO (mainO awL) = true := by decide +kernel
theorem aw_run : runM (mainI awL) [] 9 = ⟨1, 7, []⟩ := by
  rw [run_main _ _ _ (right_main _ aw_right (by decide)), show clip 9 = 7 + 1 + 1 by unfold clip; omega]
  generalize memOf [] = M
  generalize byName (mainI awL) = B
  have h1 : Rn.step B (Rn.step B ⟨M, [0, 0, 0, 0, 0, 0, 0, 0], 1, 0, [], [f0 awL 0], false, 0, 0, []⟩) = ⟨M, [7, 0, 0, 0, 0, 0, 0, 0], 1, 7, [], [], true, 1, 7, []⟩ := rfl
  rw [iter_next rfl, iter_next rfl, h1, Rn.iter_over _ rfl]
  rfl
set_option maxRecDepth 1000000 in
set_option maxHeartbeats 4000000 in
theorem awake_any (w : World) (hT : Tabs w) : Calls Tryd.prog 12 #[] w fun e w' => e = .returned (.bool true) ∧ Below w.heap.size w w' := by
  have hrd := Read_any awT (by decide) w hT
  have hru := aw_run
  have hro := aw_right
  have hll : (mainO awL).lines.length ≤ 1000 := by decide
  rw [aw_read] at hrd
  simp only [mainI] at hru
  obtain ⟨o, ho⟩ : ∃ o, mainO awL = o := ⟨_, rfl⟩
  rw [ho] at hrd hru hro hll
  obtain ⟨n, hn⟩ : ∃ n, o.lines.length = n := ⟨_, rfl⟩
  simp only [obAgg, hn, awT] at hrd
  have HN := Lib.hid hn
  have HLL := Lib.hid hll
  have HRU := Lib.hid hru
  have HRO := Lib.hid hro
  have HT := Lib.hid hT
  clear hT ho hn hll hru hro
  go_enter Tryd.func12, Tryd.ntmps12
  go_wp2_with (first
    | (go_at_call 18; refine hrd.mono ?_; rintro e w1 ⟨C, cap, rfl, hR1, hb1⟩;
       have hT1 := HT.out.below hb1;
       have hA := Below.one w1 (obObj o C cap);
       have hA2 := hA.trans ((Below.one (w1.alloc (obObj o C cap)) (obObj o C cap)).mono hA.size);
       have h1 := heap_alloc_new w1 (obObj o C cap);
       have h2 := heap_alloc_new (w1.alloc (obObj o C cap)) (obObj o C cap);
       rw [show (w1.alloc (obObj o C cap)).heap.size = w1.heap.size + 1 by simp] at h2;
       have h3 := alloc_keeps h1 (obObj o C cap);
       have hrun := Run_one o C cap (w1.heap.size + 1) 9 ((w1.alloc (obObj o C cap)).alloc (obObj o C cap)) (hT1.below hA2) h2 (hR1.below hA2) (by have := HLL.out; omega) (by omega) none 0 [] (rdB_nil _ _) (Nat.le_refl _) (fun a ha => by cases ha);
       rw [HRU.out] at hrun;
       have hrun : Calls Tryd.prog 13 #[.agg #[.slice (some ⟨w1.heap.size + 1, 0, none⟩) 1 1, .slice none 0 0, .int .i64 1], .slice none 0 0, .int .i64 9] ((w1.alloc (obObj o C cap)).alloc (obObj o C cap)) fun e w' => RunT ⟨1, 7, []⟩ e w' ∧ Below ((w1.alloc (obObj o C cap)).alloc (obObj o C cap)).heap.size ((w1.alloc (obObj o C cap)).alloc (obObj o C cap)) w' := hrun;
       have HR1 := Lib.hid hR1;
       have HB1 := Lib.hid hb1;
       have HT1 := Lib.hid hT1;
       simp only [obObj, HN.out] at hrun hA2 h3;
       have HA2 := Lib.hid hA2;
       have H3 := Lib.hid h3;
       clear h2 h3 hA hA2 hR1 hb1 hT1;
       have c0 : (w1.alloc (.cells #[.string o.name, .int .i64 o.slots, .int .i64 o.frame, .slice C n cap] 39 (0, 0))).cell? ⟨w1.heap.size, 0, none⟩ = some (.string o.name) := by have := cell_of_heap h1 0 _ rfl; rw [obObj, HN.out] at this; exact this;
       have c1 : (w1.alloc (.cells #[.string o.name, .int .i64 o.slots, .int .i64 o.frame, .slice C n cap] 39 (0, 0))).cell? ⟨w1.heap.size, 1, none⟩ = some (.int .i64 o.slots) := by have := cell_of_heap h1 1 _ rfl; rw [obObj, HN.out] at this; exact this;
       have c2 : (w1.alloc (.cells #[.string o.name, .int .i64 o.slots, .int .i64 o.frame, .slice C n cap] 39 (0, 0))).cell? ⟨w1.heap.size, 2, none⟩ = some (.int .i64 o.frame) := by have := cell_of_heap h1 2 _ rfl; rw [obObj, HN.out] at this; exact this;
       have c3 : (w1.alloc (.cells #[.string o.name, .int .i64 o.slots, .int .i64 o.frame, .slice C n cap] 39 (0, 0))).cell? ⟨w1.heap.size, 3, none⟩ = some (.slice C n cap) := by have := cell_of_heap h1 3 _ rfl; rw [obObj, HN.out] at this; exact this;
       clear h1)
    | (go_at_call 13; refine hrun.mono ?_; rintro e w2 ⟨⟨A, ac, rfl, _⟩, hb2⟩; clear c0 c1 c2 c3;
       have hb2' := HA2.out.trans (hb2.mono HA2.out.size);
       have hb3 := hb2'.trans ((Below.one w2 (.cells #[.int .i64 1, .int .i64 7, .slice A 0 ac] 30 (0, 0))).mono hb2'.size);
       have hw3 := alloc_keeps (keepB hb2 H3.out) (.cells #[.int .i64 1, .int .i64 7, .slice A 0 ac] 30 (0, 0));
       have hlt3 : w1.heap.size < w2.heap.size := (Array.getElem?_eq_some_iff.1 (keepB hb2 H3.out)).1;
       have x0 := cell_of_heap hw3 0 _ rfl;
       have x1 := cell_of_heap hw3 1 _ rfl;
       have x2 := cell_of_heap hw3 2 _ rfl;
       have x3 := cell_of_heap hw3 3 _ rfl;
       have hro := RightObject_any o C cap (w2.alloc (.cells #[.int .i64 1, .int .i64 7, .slice A 0 ac] 30 (0, 0))) (HT1.out.below hb3) (by have := HLL.out; omega) (HR1.out.below hb3);
       rw [HRO.out] at hro;
       simp only [obAgg, HN.out] at hro;
       have HR3 := Lib.hid (heap_alloc_new w2 (.cells #[.int .i64 1, .int .i64 7, .slice A 0 ac] 30 (0, 0)));
       have HB3 := Lib.hid (HB1.out.trans (hb3.mono HB1.out.size));
       clear hw3 hb2 hb2' hb3)
    | (go_at_call 17; refine hro.mono ?_; rintro e w4 ⟨rfl, hb4⟩;
       have hr4 := keepB hb4 HR3.out;
       have z0 := cell_of_heap hr4 0 _ rfl;
       have z1 := cell_of_heap hr4 1 _ rfl;
       have HB4 := Lib.hid (HB3.out.trans (hb4.mono HB3.out.size));
       clear hr4 hb4 x0 x1 x2 x3))
  go_returns
  exact ⟨rfl, HB4.out⟩
end Go.Proofs.YtihbgppcacaekaaDoor
