import Derived.Test.YtihbgppcacaekaaDoorRg
import Derived.Test.YtihbgppcacaekaaDoorQw
/- MachDoes. -/
namespace Go.Proofs.YtihbgppcacaekaaDoor
open Go.RowKit Go.BigFrame

theorem rdL_flat {W : World} {b : Nat} {l : List Ln} (h : W.heap[b]? = some (.cells (l.flatMap Ln.l).toArray 36 (0, 0))) : RdL W (some ⟨b, 0, none⟩) l := fun j i hi => ⟨b, 0, rfl, (Array.getElem?_eq_some_iff.1 h).1, fun k hk => by
  rw [Nat.zero_add]
  simp only [World.cell?, h]
  have := flatL_get l j k hk
  rw [hi] at this
  simpa using this⟩
theorem wr_isWd (n : Int) : isWd (wr n) = true := decide_eq_true (by have := wr_bd n; omega)
theorem re_cells {w : World} {b : Nat} {x : Rs} {A : Option Addr} {ac : Nat} (h : w.heap[b]? = some (reObj x A ac)) : w.cell? ⟨b, 0, none⟩ = some (.int .i64 x.how) ∧ w.cell? ⟨b, 1, none⟩ = some (.int .i64 x.code) ∧ w.cell? ⟨b, 2, none⟩ = some (.slice A x.outp.length ac) :=
  ⟨cell_of_heap h 0 _ rfl, cell_of_heap h 1 _ rfl, cell_of_heap h 2 _ rfl⟩
theorem ob_cells4 {w : World} {b : Nat} {c0 c1 c2 c3 : Value} (h : w.heap[b]? = some (.cells #[c0, c1, c2, c3] 39 (0, 0))) : w.cell? ⟨b, 0, none⟩ = some c0 ∧ w.cell? ⟨b, 1, none⟩ = some c1 ∧ w.cell? ⟨b, 2, none⟩ = some c2 ∧ w.cell? ⟨b, 3, none⟩ = some c3 :=
  ⟨cell_of_heap h 0 _ rfl, cell_of_heap h 1 _ rfl, cell_of_heap h 2 _ rfl, cell_of_heap h 3 _ rfl⟩
/-- results of no output -/
theorem res7 (x : Rs) (hx : x.outp = []) (w : World) (A : Option Addr) (ca : Nat) : Calls Tryd.prog 14 #[.agg #[.int .i64 x.how, .int .i64 x.code, .slice A 0 ca], .agg #[.int .i64 x.how, .int .i64 x.code, .slice none 0 0]] w fun e w' => e = .returned (.bool true) ∧ Below w.heap.size w w' := by
  obtain ⟨how, code, outp⟩ := x
  have hx' : outp = [] := hx
  subst hx'
  have h := Result7_any ⟨how, code, []⟩ ⟨how, code, []⟩ A none ca 0 (Nat.zero_le _) (Nat.zero_le _) w (rdB_nil _ _) (rdB_nil _ _)
  rw [decide_eq_true rfl] at h
  exact h
theorem keepC {w w' : World} {b j : Nat} {v : Value} (hb : Below w.heap.size w w') (h : w.cell? ⟨b, j, none⟩ = some v) : w'.cell? ⟨b, j, none⟩ = some v := (hb.cell (World.block_lt_of_cell? w _ h)).trans h
theorem ro4 {o : Ob} {C : Option Addr} {w : World} {nm : ByteArray} {s f : Int} (hOB : (Obj.cells #[.string nm, .int .i64 s, .int .i64 f, .slice C 4 4] 39 (0, 0)) = obObj o C 4) (_ : o.lines.length = 4) (hL : RdL w C o.lines) (hT : Tabs w) (hR : rightO o = false) :
    Calls Tryd.prog 17 #[.agg #[.string nm, .int .i64 s, .int .i64 f, .slice C 4 4]] w fun e w' => e = .returned (.bool false) ∧ Below w.heap.size w w' := by
  have h := RightObject_any o C 4 w hT (by omega) hL
  rw [hR] at h
  have h1 : (.agg #[.string nm, .int .i64 s, .int .i64 f, .slice C 4 4] : Value) = obAgg o C 4 := congrArg (fun x => match x with | Obj.cells cs _ _ => Value.agg cs | _ => Value.agg #[]) hOB
  rw [h1]
  exact h
set_option maxRecDepth 1000000 in
set_option maxHeartbeats 16000000 in
theorem machDoes_any (op a b : Int) (w : World) (hT : Tabs w) : Calls Tryd.prog 4 #[.int .i64 op, .int .i64 a, .int .i64 b] w fun e w' => e = .returned (.bool true) ∧ Below w.heap.size w w' := by
  have hx1 := wr_isWd a
  have hy1 := wr_isWd b
  obtain ⟨x, hx⟩ : ∃ x, wr a = x := ⟨_, rfl⟩
  obtain ⟨y, hy⟩ : ∃ y, wr b = y := ⟨_, rfl⟩
  have hwa : ∀ w, Calls Tryd.prog 15 #[.int .i64 a] w fun e w' => e = .returned (.int .i64 x) ∧ w = w' := fun w => by rw [← hx]; exact refwrap_any a w
  have hwb : ∀ w, Calls Tryd.prog 15 #[.int .i64 b] w fun e w' => e = .returned (.int .i64 y) ∧ w = w' := fun w => by rw [← hy]; exact refwrap_any b w
  rw [hx] at hx1
  rw [hy] at hy1
  have HT := Lib.hid hT
  have hdo : ∀ w, Calls Tryd.prog 16 #[.int .i64 op, .int .i64 x, .int .i64 y] w fun e w' => e = .returned (.tuple #[.int .i64 (dov op x y).1, .bool (dov op x y).2]) ∧ Below w.heap.size w w' := fun w => refdo_any op x y w
  obtain ⟨v, hv⟩ : ∃ v, (dov op x y).1 = v := ⟨_, rfl⟩
  obtain ⟨is, his⟩ : ∃ is, (dov op x y).2 = is := ⟨_, rfl⟩
  rw [hv, his] at hdo
  have HDO := Lib.hid hdo
  have hrun1 : (1 ≤ op ∧ op ≤ 23) → runM ⟨[mainO (doesL op x y)], [], 1⟩ [] 10 = if is then ⟨1, v, []⟩ else ⟨2, 2, []⟩ := fun h => by rw [← hv, ← his]; exact does_run hx1 hy1 h
  have hrun2 : ¬ (1 ≤ op ∧ op ≤ 23) → runM ⟨[mainO (doesL op x y)], [], 1⟩ [] 10 = ⟨4, 0, []⟩ := fun h => does_not h [] 10
  have hrong : ¬ (1 ≤ op ∧ op ≤ 23) → rightO (mainO (doesL op x y)) = false := fun h => does_wrong h
  obtain ⟨o, hoo⟩ : ∃ o, mainO (doesL op x y) = o := ⟨_, rfl⟩
  have HLO : Hid (o.lines = doesL op x y) := Lib.hid (by rw [← hoo]; rfl)
  have HOB : Hid ((.cells #[.string ⟨#[109, 97, 105, 110]⟩, .int .i64 0, .int .i64 0, .slice (some ⟨w.heap.size, 0, none⟩) 4 4] 39 (0, 0)) = obObj o (some ⟨w.heap.size, 0, none⟩) 4) := Lib.hid (by rw [← hoo]; rfl)
  have HLL : Hid (o.lines.length ≤ 1000000) := Lib.hid (by rw [HLO.out]; unfold doesL; simp)
  have HLN : Hid (o.lines.length = 4) := Lib.hid (by rw [HLO.out]; rfl)
  rw [hoo] at hrun1 hrun2 hrong
  have HR1 := Lib.hid hrun1
  have HR2 := Lib.hid hrun2
  have HRO := Lib.hid hrong
  clear hT hx hy hx1 hy1 hdo hv his hoo hrun1 hrun2 hrong
  by_cases hop : 1 ≤ op ∧ op ≤ 19
  · have q1 : decide (op ≥ 1) = true := by simp; omega
    have q2 : decide (1 ≤ op) = true := by simp; omega
    have q3 : decide (op ≤ 19) = true := by simp; omega
    have q4 : decide (op ≥ 20) = false := by simp; omega
    have q5 : decide (20 ≤ op) = false := by simp; omega
    have h20 : ¬ (20 ≤ op ∧ op ≤ 23) := by omega
    cases is
    · have HRE : Hid (runM ⟨[o], [], 1⟩ [] 10 = ⟨2, 2, []⟩) := Lib.hid (HR1.out (by omega))
      go_enter Tryd.func4, Tryd.ntmps4
      go_upto_region 6 with (first
        | (go_at_call_of 15 a; refine (hwa _).mono ?_; rintro e w' ⟨rfl, rfl⟩)
        | (go_at_call_of 15 b; refine (hwb _).mono ?_; rintro e w' ⟨rfl, rfl⟩))
      have hl : ((w.alloc (.cells #[.int .i64 1, .int .i64 0, .int .i64 0, .int .i64 0, .int .i64 x, .string ⟨#[]⟩, .int .i64 1, .int .i64 7, .int .i64 0, .int .i64 0, .int .i64 y, .string ⟨#[]⟩, .int .i64 3, .int .i64 3, .int .i64 0, .int .i64 7, .int .i64 op, .string ⟨#[]⟩, .int .i64 18, .int .i64 0, .int .i64 3, .int .i64 0, .int .i64 0, .string ⟨#[]⟩] 36 (0, 0))).alloc (.cells #[.string ⟨#[109, 97, 105, 110]⟩, .int .i64 0, .int .i64 0, .slice (some ⟨w.heap.size, 0, none⟩) 4 4] 39 (0, 0))).heap[w.heap.size]? = some (.cells ((doesL op x y).flatMap Ln.l).toArray 36 (0, 0)) := alloc_keeps (by rw [heap_alloc_new]; unfold doesL; rw [if_neg h20]; rfl) _
      have ho : ((w.alloc (.cells #[.int .i64 1, .int .i64 0, .int .i64 0, .int .i64 0, .int .i64 x, .string ⟨#[]⟩, .int .i64 1, .int .i64 7, .int .i64 0, .int .i64 0, .int .i64 y, .string ⟨#[]⟩, .int .i64 3, .int .i64 3, .int .i64 0, .int .i64 7, .int .i64 op, .string ⟨#[]⟩, .int .i64 18, .int .i64 0, .int .i64 3, .int .i64 0, .int .i64 0, .string ⟨#[]⟩] 36 (0, 0))).alloc (.cells #[.string ⟨#[109, 97, 105, 110]⟩, .int .i64 0, .int .i64 0, .slice (some ⟨w.heap.size, 0, none⟩) 4 4] 39 (0, 0))).heap[w.heap.size + 1]? = some (.cells #[.string ⟨#[109, 97, 105, 110]⟩, .int .i64 0, .int .i64 0, .slice (some ⟨w.heap.size, 0, none⟩) 4 4] 39 (0, 0)) := by
        have := heap_alloc_new (w.alloc (.cells #[.int .i64 1, .int .i64 0, .int .i64 0, .int .i64 0, .int .i64 x, .string ⟨#[]⟩, .int .i64 1, .int .i64 7, .int .i64 0, .int .i64 0, .int .i64 y, .string ⟨#[]⟩, .int .i64 3, .int .i64 3, .int .i64 0, .int .i64 7, .int .i64 op, .string ⟨#[]⟩, .int .i64 18, .int .i64 0, .int .i64 3, .int .i64 0, .int .i64 0, .string ⟨#[]⟩] 36 (0, 0))) (.cells #[.string ⟨#[109, 97, 105, 110]⟩, .int .i64 0, .int .i64 0, .slice (some ⟨w.heap.size, 0, none⟩) 4 4] 39 (0, 0))
        rwa [show (w.alloc (.cells #[.int .i64 1, .int .i64 0, .int .i64 0, .int .i64 0, .int .i64 x, .string ⟨#[]⟩, .int .i64 1, .int .i64 7, .int .i64 0, .int .i64 0, .int .i64 y, .string ⟨#[]⟩, .int .i64 3, .int .i64 3, .int .i64 0, .int .i64 7, .int .i64 op, .string ⟨#[]⟩, .int .i64 18, .int .i64 0, .int .i64 3, .int .i64 0, .int .i64 0, .string ⟨#[]⟩] 36 (0, 0))).heap.size = w.heap.size + 1 by simp] at this
      have hb : Below w.heap.size w ((w.alloc (.cells #[.int .i64 1, .int .i64 0, .int .i64 0, .int .i64 0, .int .i64 x, .string ⟨#[]⟩, .int .i64 1, .int .i64 7, .int .i64 0, .int .i64 0, .int .i64 y, .string ⟨#[]⟩, .int .i64 3, .int .i64 3, .int .i64 0, .int .i64 7, .int .i64 op, .string ⟨#[]⟩, .int .i64 18, .int .i64 0, .int .i64 3, .int .i64 0, .int .i64 0, .string ⟨#[]⟩] 36 (0, 0))).alloc (.cells #[.string ⟨#[109, 97, 105, 110]⟩, .int .i64 0, .int .i64 0, .slice (some ⟨w.heap.size, 0, none⟩) 4 4] 39 (0, 0))) := (Below.one w _).alloc (by simp) _
      obtain ⟨W, hW⟩ : ∃ W, (w.alloc (.cells #[.int .i64 1, .int .i64 0, .int .i64 0, .int .i64 0, .int .i64 x, .string ⟨#[]⟩, .int .i64 1, .int .i64 7, .int .i64 0, .int .i64 0, .int .i64 y, .string ⟨#[]⟩, .int .i64 3, .int .i64 3, .int .i64 0, .int .i64 7, .int .i64 op, .string ⟨#[]⟩, .int .i64 18, .int .i64 0, .int .i64 3, .int .i64 0, .int .i64 0, .string ⟨#[]⟩] 36 (0, 0))).alloc (.cells #[.string ⟨#[109, 97, 105, 110]⟩, .int .i64 0, .int .i64 0, .slice (some ⟨w.heap.size, 0, none⟩) 4 4] 39 (0, 0)) = W := ⟨_, rfl⟩
      rw [hW] at hl ho hb ⊢
      have HL3 : Hid (RdL (W.alloc (.cells #[.string ⟨#[109, 97, 105, 110]⟩, .int .i64 0, .int .i64 0, .slice (some ⟨w.heap.size, 0, none⟩) 4 4] 39 (0, 0))) (some ⟨w.heap.size, 0, none⟩) o.lines) := Lib.hid (by have := (rdL_flat hl).below (Below.one W (.cells #[.string ⟨#[109, 97, 105, 110]⟩, .int .i64 0, .int .i64 0, .slice (some ⟨w.heap.size, 0, none⟩) 4 4] 39 (0, 0))); rw [← HLO.out] at this; exact this)
      have HO3 := Lib.hid (alloc_keeps ho (.cells #[.string ⟨#[109, 97, 105, 110]⟩, .int .i64 0, .int .i64 0, .slice (some ⟨w.heap.size, 0, none⟩) 4 4] 39 (0, 0)))
      have HB3 := Lib.hid (hb.trans ((Below.one W (.cells #[.string ⟨#[109, 97, 105, 110]⟩, .int .i64 0, .int .i64 0, .slice (some ⟨w.heap.size, 0, none⟩) 4 4] 39 (0, 0))).mono hb.size))
      have hrun := Run_one o (some ⟨w.heap.size, 0, none⟩) 4 W.heap.size 10 (W.alloc (.cells #[.string ⟨#[109, 97, 105, 110]⟩, .int .i64 0, .int .i64 0, .slice (some ⟨w.heap.size, 0, none⟩) 4 4] 39 (0, 0))) (HT.out.below HB3.out) (by rw [heap_alloc_new]; exact congrArg some HOB.out) HL3.out HLL.out (by omega) none 0 [] (rdB_nil _ _) (Nat.le_refl _) (fun a ha => by cases ha)
      rw [HRE.out] at hrun
      have hrun : Calls Tryd.prog 13 #[.agg #[.slice (some ⟨W.heap.size, 0, none⟩) 1 1, .slice none 0 0, .int .i64 1], .slice none 0 0, .int .i64 10] (W.alloc (.cells #[.string ⟨#[109, 97, 105, 110]⟩, .int .i64 0, .int .i64 0, .slice (some ⟨w.heap.size, 0, none⟩) 4 4] 39 (0, 0))) fun e w' => RunT ⟨2, 2, []⟩ e w' ∧ Below (W.alloc (.cells #[.string ⟨#[109, 97, 105, 110]⟩, .int .i64 0, .int .i64 0, .slice (some ⟨w.heap.size, 0, none⟩) 4 4] 39 (0, 0))).heap.size (W.alloc (.cells #[.string ⟨#[109, 97, 105, 110]⟩, .int .i64 0, .int .i64 0, .slice (some ⟨w.heap.size, 0, none⟩) 4 4] 39 (0, 0))) w' := hrun
      obtain ⟨c0, c1, c2, c3⟩ := ob_cells4 ho
      clear hl ho hb hW hwa hwb
      go_wp2_with (first
        | (go_at_call 13; refine hrun.mono ?_; rintro e w2 ⟨⟨A, ac, rfl, hA⟩, hb2⟩;
           have hb2' := HB3.out.trans (hb2.mono HB3.out.size);
           have HB4 : Hid (Below w.heap.size w (w2.alloc (.cells #[.int .i64 2, .int .i64 2, .slice A 0 ac] 30 (0, 0)))) := Lib.hid (hb2'.trans ((Below.one w2 (.cells #[.int .i64 2, .int .i64 2, .slice A 0 ac] 30 (0, 0))).mono hb2'.size));
           have HO4 : Hid ((w2.alloc (.cells #[.int .i64 2, .int .i64 2, .slice A 0 ac] 30 (0, 0))).heap[w.heap.size + 1]? = some (.cells #[.string ⟨#[109, 97, 105, 110]⟩, .int .i64 0, .int .i64 0, .slice (some ⟨w.heap.size, 0, none⟩) 4 4] 39 (0, 0))) := Lib.hid (alloc_keeps (keepB hb2 HO3.out) (.cells #[.int .i64 2, .int .i64 2, .slice A 0 ac] 30 (0, 0)));
           have HR4 : Hid ((w2.alloc (.cells #[.int .i64 2, .int .i64 2, .slice A 0 ac] 30 (0, 0))).heap[w2.heap.size]? = some (.cells #[.int .i64 2, .int .i64 2, .slice A 0 ac] 30 (0, 0))) := Lib.hid (heap_alloc_new w2 (.cells #[.int .i64 2, .int .i64 2, .slice A 0 ac] 30 (0, 0)));
           have HA4 : Hid (RdB (w2.alloc (.cells #[.int .i64 2, .int .i64 2, .slice A 0 ac] 30 (0, 0))) A []) := Lib.hid (rdB_nil _ _);
           have HL4 : Hid (RdL (w2.alloc (.cells #[.int .i64 2, .int .i64 2, .slice A 0 ac] 30 (0, 0))) (some ⟨w.heap.size, 0, none⟩) o.lines) := Lib.hid (HL3.out.below (hb2.trans ((Below.one w2 (.cells #[.int .i64 2, .int .i64 2, .slice A 0 ac] 30 (0, 0))).mono hb2.size)));
           clear hb2 hb2' hA c0 c1 c2 c3)
        | (go_at_call 16; refine (HDO.out _).mono ?_; rintro e w4 ⟨rfl, hb4⟩;
           have HB5 := Lib.hid (HB4.out.trans (hb4.mono HB4.out.size));
           have ho5 := keepB hb4 HO4.out;
           have hr5 := keepB hb4 HR4.out;
           have HL5 := Lib.hid (HL4.out.below hb4);
           have hT5 := HT.out.below HB5.out;
           obtain ⟨x0, x1, x2⟩ := re_cells (x := ⟨2, 2, []⟩) hr5;
           have x2 : w4.cell? ⟨w2.heap.size, 2, none⟩ = some (.slice A 0 ac) := x2;
           obtain ⟨u0, u1, u2, u3⟩ := ob_cells4 ho5;
           clear ho5 hr5 hb4)
        | (go_at_call 14; refine (res7 ⟨2, 2, []⟩ rfl _ A ac).mono ?_; rintro e w6 ⟨rfl, hb6⟩; have HB6 := Lib.hid (HB5.out.trans (hb6.mono HB5.out.size)); have hT6 := HT.out.below HB6.out; clear hb6)
        | (go_at_call 12; refine (awake_any _ hT6).mono ?_; rintro e w7 ⟨rfl, hb7⟩; have HB7 := Lib.hid (HB6.out.trans (hb7.mono HB6.out.size)); clear hb7))
      go_returns
      exact ⟨rfl, HB7.out⟩
    · have HRE : Hid (runM ⟨[o], [], 1⟩ [] 10 = ⟨1, v, []⟩) := Lib.hid (HR1.out (by omega))
      go_enter Tryd.func4, Tryd.ntmps4
      go_upto_region 6 with (first
        | (go_at_call_of 15 a; refine (hwa _).mono ?_; rintro e w' ⟨rfl, rfl⟩)
        | (go_at_call_of 15 b; refine (hwb _).mono ?_; rintro e w' ⟨rfl, rfl⟩))
      have hl : ((w.alloc (.cells #[.int .i64 1, .int .i64 0, .int .i64 0, .int .i64 0, .int .i64 x, .string ⟨#[]⟩, .int .i64 1, .int .i64 7, .int .i64 0, .int .i64 0, .int .i64 y, .string ⟨#[]⟩, .int .i64 3, .int .i64 3, .int .i64 0, .int .i64 7, .int .i64 op, .string ⟨#[]⟩, .int .i64 18, .int .i64 0, .int .i64 3, .int .i64 0, .int .i64 0, .string ⟨#[]⟩] 36 (0, 0))).alloc (.cells #[.string ⟨#[109, 97, 105, 110]⟩, .int .i64 0, .int .i64 0, .slice (some ⟨w.heap.size, 0, none⟩) 4 4] 39 (0, 0))).heap[w.heap.size]? = some (.cells ((doesL op x y).flatMap Ln.l).toArray 36 (0, 0)) := alloc_keeps (by rw [heap_alloc_new]; unfold doesL; rw [if_neg h20]; rfl) _
      have ho : ((w.alloc (.cells #[.int .i64 1, .int .i64 0, .int .i64 0, .int .i64 0, .int .i64 x, .string ⟨#[]⟩, .int .i64 1, .int .i64 7, .int .i64 0, .int .i64 0, .int .i64 y, .string ⟨#[]⟩, .int .i64 3, .int .i64 3, .int .i64 0, .int .i64 7, .int .i64 op, .string ⟨#[]⟩, .int .i64 18, .int .i64 0, .int .i64 3, .int .i64 0, .int .i64 0, .string ⟨#[]⟩] 36 (0, 0))).alloc (.cells #[.string ⟨#[109, 97, 105, 110]⟩, .int .i64 0, .int .i64 0, .slice (some ⟨w.heap.size, 0, none⟩) 4 4] 39 (0, 0))).heap[w.heap.size + 1]? = some (.cells #[.string ⟨#[109, 97, 105, 110]⟩, .int .i64 0, .int .i64 0, .slice (some ⟨w.heap.size, 0, none⟩) 4 4] 39 (0, 0)) := by
        have := heap_alloc_new (w.alloc (.cells #[.int .i64 1, .int .i64 0, .int .i64 0, .int .i64 0, .int .i64 x, .string ⟨#[]⟩, .int .i64 1, .int .i64 7, .int .i64 0, .int .i64 0, .int .i64 y, .string ⟨#[]⟩, .int .i64 3, .int .i64 3, .int .i64 0, .int .i64 7, .int .i64 op, .string ⟨#[]⟩, .int .i64 18, .int .i64 0, .int .i64 3, .int .i64 0, .int .i64 0, .string ⟨#[]⟩] 36 (0, 0))) (.cells #[.string ⟨#[109, 97, 105, 110]⟩, .int .i64 0, .int .i64 0, .slice (some ⟨w.heap.size, 0, none⟩) 4 4] 39 (0, 0))
        rwa [show (w.alloc (.cells #[.int .i64 1, .int .i64 0, .int .i64 0, .int .i64 0, .int .i64 x, .string ⟨#[]⟩, .int .i64 1, .int .i64 7, .int .i64 0, .int .i64 0, .int .i64 y, .string ⟨#[]⟩, .int .i64 3, .int .i64 3, .int .i64 0, .int .i64 7, .int .i64 op, .string ⟨#[]⟩, .int .i64 18, .int .i64 0, .int .i64 3, .int .i64 0, .int .i64 0, .string ⟨#[]⟩] 36 (0, 0))).heap.size = w.heap.size + 1 by simp] at this
      have hb : Below w.heap.size w ((w.alloc (.cells #[.int .i64 1, .int .i64 0, .int .i64 0, .int .i64 0, .int .i64 x, .string ⟨#[]⟩, .int .i64 1, .int .i64 7, .int .i64 0, .int .i64 0, .int .i64 y, .string ⟨#[]⟩, .int .i64 3, .int .i64 3, .int .i64 0, .int .i64 7, .int .i64 op, .string ⟨#[]⟩, .int .i64 18, .int .i64 0, .int .i64 3, .int .i64 0, .int .i64 0, .string ⟨#[]⟩] 36 (0, 0))).alloc (.cells #[.string ⟨#[109, 97, 105, 110]⟩, .int .i64 0, .int .i64 0, .slice (some ⟨w.heap.size, 0, none⟩) 4 4] 39 (0, 0))) := (Below.one w _).alloc (by simp) _
      obtain ⟨W, hW⟩ : ∃ W, (w.alloc (.cells #[.int .i64 1, .int .i64 0, .int .i64 0, .int .i64 0, .int .i64 x, .string ⟨#[]⟩, .int .i64 1, .int .i64 7, .int .i64 0, .int .i64 0, .int .i64 y, .string ⟨#[]⟩, .int .i64 3, .int .i64 3, .int .i64 0, .int .i64 7, .int .i64 op, .string ⟨#[]⟩, .int .i64 18, .int .i64 0, .int .i64 3, .int .i64 0, .int .i64 0, .string ⟨#[]⟩] 36 (0, 0))).alloc (.cells #[.string ⟨#[109, 97, 105, 110]⟩, .int .i64 0, .int .i64 0, .slice (some ⟨w.heap.size, 0, none⟩) 4 4] 39 (0, 0)) = W := ⟨_, rfl⟩
      rw [hW] at hl ho hb ⊢
      have HL3 : Hid (RdL (W.alloc (.cells #[.string ⟨#[109, 97, 105, 110]⟩, .int .i64 0, .int .i64 0, .slice (some ⟨w.heap.size, 0, none⟩) 4 4] 39 (0, 0))) (some ⟨w.heap.size, 0, none⟩) o.lines) := Lib.hid (by have := (rdL_flat hl).below (Below.one W (.cells #[.string ⟨#[109, 97, 105, 110]⟩, .int .i64 0, .int .i64 0, .slice (some ⟨w.heap.size, 0, none⟩) 4 4] 39 (0, 0))); rw [← HLO.out] at this; exact this)
      have HO3 := Lib.hid (alloc_keeps ho (.cells #[.string ⟨#[109, 97, 105, 110]⟩, .int .i64 0, .int .i64 0, .slice (some ⟨w.heap.size, 0, none⟩) 4 4] 39 (0, 0)))
      have HB3 := Lib.hid (hb.trans ((Below.one W (.cells #[.string ⟨#[109, 97, 105, 110]⟩, .int .i64 0, .int .i64 0, .slice (some ⟨w.heap.size, 0, none⟩) 4 4] 39 (0, 0))).mono hb.size))
      have hrun := Run_one o (some ⟨w.heap.size, 0, none⟩) 4 W.heap.size 10 (W.alloc (.cells #[.string ⟨#[109, 97, 105, 110]⟩, .int .i64 0, .int .i64 0, .slice (some ⟨w.heap.size, 0, none⟩) 4 4] 39 (0, 0))) (HT.out.below HB3.out) (by rw [heap_alloc_new]; exact congrArg some HOB.out) HL3.out HLL.out (by omega) none 0 [] (rdB_nil _ _) (Nat.le_refl _) (fun a ha => by cases ha)
      rw [HRE.out] at hrun
      have hrun : Calls Tryd.prog 13 #[.agg #[.slice (some ⟨W.heap.size, 0, none⟩) 1 1, .slice none 0 0, .int .i64 1], .slice none 0 0, .int .i64 10] (W.alloc (.cells #[.string ⟨#[109, 97, 105, 110]⟩, .int .i64 0, .int .i64 0, .slice (some ⟨w.heap.size, 0, none⟩) 4 4] 39 (0, 0))) fun e w' => RunT ⟨1, v, []⟩ e w' ∧ Below (W.alloc (.cells #[.string ⟨#[109, 97, 105, 110]⟩, .int .i64 0, .int .i64 0, .slice (some ⟨w.heap.size, 0, none⟩) 4 4] 39 (0, 0))).heap.size (W.alloc (.cells #[.string ⟨#[109, 97, 105, 110]⟩, .int .i64 0, .int .i64 0, .slice (some ⟨w.heap.size, 0, none⟩) 4 4] 39 (0, 0))) w' := hrun
      obtain ⟨c0, c1, c2, c3⟩ := ob_cells4 ho
      clear hl ho hb hW hwa hwb
      go_wp2_with (first
        | (go_at_call 13; refine hrun.mono ?_; rintro e w2 ⟨⟨A, ac, rfl, hA⟩, hb2⟩;
           have hb2' := HB3.out.trans (hb2.mono HB3.out.size);
           have HB4 : Hid (Below w.heap.size w (w2.alloc (.cells #[.int .i64 1, .int .i64 v, .slice A 0 ac] 30 (0, 0)))) := Lib.hid (hb2'.trans ((Below.one w2 (.cells #[.int .i64 1, .int .i64 v, .slice A 0 ac] 30 (0, 0))).mono hb2'.size));
           have HO4 : Hid ((w2.alloc (.cells #[.int .i64 1, .int .i64 v, .slice A 0 ac] 30 (0, 0))).heap[w.heap.size + 1]? = some (.cells #[.string ⟨#[109, 97, 105, 110]⟩, .int .i64 0, .int .i64 0, .slice (some ⟨w.heap.size, 0, none⟩) 4 4] 39 (0, 0))) := Lib.hid (alloc_keeps (keepB hb2 HO3.out) (.cells #[.int .i64 1, .int .i64 v, .slice A 0 ac] 30 (0, 0)));
           have HR4 : Hid ((w2.alloc (.cells #[.int .i64 1, .int .i64 v, .slice A 0 ac] 30 (0, 0))).heap[w2.heap.size]? = some (.cells #[.int .i64 1, .int .i64 v, .slice A 0 ac] 30 (0, 0))) := Lib.hid (heap_alloc_new w2 (.cells #[.int .i64 1, .int .i64 v, .slice A 0 ac] 30 (0, 0)));
           have HA4 : Hid (RdB (w2.alloc (.cells #[.int .i64 1, .int .i64 v, .slice A 0 ac] 30 (0, 0))) A []) := Lib.hid (rdB_nil _ _);
           have HL4 : Hid (RdL (w2.alloc (.cells #[.int .i64 1, .int .i64 v, .slice A 0 ac] 30 (0, 0))) (some ⟨w.heap.size, 0, none⟩) o.lines) := Lib.hid (HL3.out.below (hb2.trans ((Below.one w2 (.cells #[.int .i64 1, .int .i64 v, .slice A 0 ac] 30 (0, 0))).mono hb2.size)));
           clear hb2 hb2' hA c0 c1 c2 c3)
        | (go_at_call 16; refine (HDO.out _).mono ?_; rintro e w4 ⟨rfl, hb4⟩;
           have HB5 := Lib.hid (HB4.out.trans (hb4.mono HB4.out.size));
           have ho5 := keepB hb4 HO4.out;
           have hr5 := keepB hb4 HR4.out;
           have HL5 := Lib.hid (HL4.out.below hb4);
           have hT5 := HT.out.below HB5.out;
           obtain ⟨x0, x1, x2⟩ := re_cells (x := ⟨1, v, []⟩) hr5;
           have x2 : w4.cell? ⟨w2.heap.size, 2, none⟩ = some (.slice A 0 ac) := x2;
           obtain ⟨u0, u1, u2, u3⟩ := ob_cells4 ho5;
           clear ho5 hr5 hb4)
        | (go_at_call 14; refine (res7 ⟨1, v, []⟩ rfl _ A ac).mono ?_; rintro e w6 ⟨rfl, hb6⟩; have HB6 := Lib.hid (HB5.out.trans (hb6.mono HB5.out.size)); have hT6 := HT.out.below HB6.out; clear hb6)
        | (go_at_call 12; refine (awake_any _ hT6).mono ?_; rintro e w7 ⟨rfl, hb7⟩; have HB7 := Lib.hid (HB6.out.trans (hb7.mono HB6.out.size)); clear hb7))
      go_returns
      exact ⟨rfl, HB7.out⟩
  · by_cases hop2 : 20 ≤ op ∧ op ≤ 23
    · have q4 : decide (op ≥ 20) = true := by simp; omega
      have q5 : decide (20 ≤ op) = true := by simp; omega
      have q1 : decide (op ≥ 1) = true := by simp; omega
      have q2 : decide (1 ≤ op) = true := by simp; omega
      have q3 : decide (op ≤ 19) = false := by simp; omega
      have q6 : decide (op ≤ 23) = true := by simp; omega
      have q7 : decide (op < 20) = false := by simp; omega
      have q8 : decide (op > 23) = false := by simp; omega
      have q9 : decide (23 < op) = false := by simp; omega
      cases is
      · have HRE : Hid (runM ⟨[o], [], 1⟩ [] 10 = ⟨2, 2, []⟩) := Lib.hid (HR1.out (by omega))
        go_enter Tryd.func4, Tryd.ntmps4
        go_upto_region 6 with (first
          | (go_at_call_of 15 a; refine (hwa _).mono ?_; rintro e w' ⟨rfl, rfl⟩)
          | (go_at_call_of 15 b; refine (hwb _).mono ?_; rintro e w' ⟨rfl, rfl⟩))
        have hl : ((w.alloc (.cells #[.int .i64 1, .int .i64 0, .int .i64 0, .int .i64 0, .int .i64 x, .string ⟨#[]⟩, .int .i64 1, .int .i64 7, .int .i64 0, .int .i64 0, .int .i64 y, .string ⟨#[]⟩, .int .i64 2, .int .i64 3, .int .i64 0, .int .i64 0, .int .i64 op, .string ⟨#[]⟩, .int .i64 18, .int .i64 0, .int .i64 3, .int .i64 0, .int .i64 0, .string ⟨#[]⟩] 36 (0, 0))).alloc (.cells #[.string ⟨#[109, 97, 105, 110]⟩, .int .i64 0, .int .i64 0, .slice (some ⟨w.heap.size, 0, none⟩) 4 4] 39 (0, 0))).heap[w.heap.size]? = some (.cells ((doesL op x y).flatMap Ln.l).toArray 36 (0, 0)) := alloc_keeps (by rw [heap_alloc_new]; unfold doesL; rw [if_pos hop2]; rfl) _
        have ho : ((w.alloc (.cells #[.int .i64 1, .int .i64 0, .int .i64 0, .int .i64 0, .int .i64 x, .string ⟨#[]⟩, .int .i64 1, .int .i64 7, .int .i64 0, .int .i64 0, .int .i64 y, .string ⟨#[]⟩, .int .i64 2, .int .i64 3, .int .i64 0, .int .i64 0, .int .i64 op, .string ⟨#[]⟩, .int .i64 18, .int .i64 0, .int .i64 3, .int .i64 0, .int .i64 0, .string ⟨#[]⟩] 36 (0, 0))).alloc (.cells #[.string ⟨#[109, 97, 105, 110]⟩, .int .i64 0, .int .i64 0, .slice (some ⟨w.heap.size, 0, none⟩) 4 4] 39 (0, 0))).heap[w.heap.size + 1]? = some (.cells #[.string ⟨#[109, 97, 105, 110]⟩, .int .i64 0, .int .i64 0, .slice (some ⟨w.heap.size, 0, none⟩) 4 4] 39 (0, 0)) := by
          have := heap_alloc_new (w.alloc (.cells #[.int .i64 1, .int .i64 0, .int .i64 0, .int .i64 0, .int .i64 x, .string ⟨#[]⟩, .int .i64 1, .int .i64 7, .int .i64 0, .int .i64 0, .int .i64 y, .string ⟨#[]⟩, .int .i64 2, .int .i64 3, .int .i64 0, .int .i64 0, .int .i64 op, .string ⟨#[]⟩, .int .i64 18, .int .i64 0, .int .i64 3, .int .i64 0, .int .i64 0, .string ⟨#[]⟩] 36 (0, 0))) (.cells #[.string ⟨#[109, 97, 105, 110]⟩, .int .i64 0, .int .i64 0, .slice (some ⟨w.heap.size, 0, none⟩) 4 4] 39 (0, 0))
          rwa [show (w.alloc (.cells #[.int .i64 1, .int .i64 0, .int .i64 0, .int .i64 0, .int .i64 x, .string ⟨#[]⟩, .int .i64 1, .int .i64 7, .int .i64 0, .int .i64 0, .int .i64 y, .string ⟨#[]⟩, .int .i64 2, .int .i64 3, .int .i64 0, .int .i64 0, .int .i64 op, .string ⟨#[]⟩, .int .i64 18, .int .i64 0, .int .i64 3, .int .i64 0, .int .i64 0, .string ⟨#[]⟩] 36 (0, 0))).heap.size = w.heap.size + 1 by simp] at this
        have hb : Below w.heap.size w ((w.alloc (.cells #[.int .i64 1, .int .i64 0, .int .i64 0, .int .i64 0, .int .i64 x, .string ⟨#[]⟩, .int .i64 1, .int .i64 7, .int .i64 0, .int .i64 0, .int .i64 y, .string ⟨#[]⟩, .int .i64 2, .int .i64 3, .int .i64 0, .int .i64 0, .int .i64 op, .string ⟨#[]⟩, .int .i64 18, .int .i64 0, .int .i64 3, .int .i64 0, .int .i64 0, .string ⟨#[]⟩] 36 (0, 0))).alloc (.cells #[.string ⟨#[109, 97, 105, 110]⟩, .int .i64 0, .int .i64 0, .slice (some ⟨w.heap.size, 0, none⟩) 4 4] 39 (0, 0))) := (Below.one w _).alloc (by simp) _
        obtain ⟨W, hW⟩ : ∃ W, (w.alloc (.cells #[.int .i64 1, .int .i64 0, .int .i64 0, .int .i64 0, .int .i64 x, .string ⟨#[]⟩, .int .i64 1, .int .i64 7, .int .i64 0, .int .i64 0, .int .i64 y, .string ⟨#[]⟩, .int .i64 2, .int .i64 3, .int .i64 0, .int .i64 0, .int .i64 op, .string ⟨#[]⟩, .int .i64 18, .int .i64 0, .int .i64 3, .int .i64 0, .int .i64 0, .string ⟨#[]⟩] 36 (0, 0))).alloc (.cells #[.string ⟨#[109, 97, 105, 110]⟩, .int .i64 0, .int .i64 0, .slice (some ⟨w.heap.size, 0, none⟩) 4 4] 39 (0, 0)) = W := ⟨_, rfl⟩
        rw [hW] at hl ho hb ⊢
        have HL3 : Hid (RdL (W.alloc (.cells #[.string ⟨#[109, 97, 105, 110]⟩, .int .i64 0, .int .i64 0, .slice (some ⟨w.heap.size, 0, none⟩) 4 4] 39 (0, 0))) (some ⟨w.heap.size, 0, none⟩) o.lines) := Lib.hid (by have := (rdL_flat hl).below (Below.one W (.cells #[.string ⟨#[109, 97, 105, 110]⟩, .int .i64 0, .int .i64 0, .slice (some ⟨w.heap.size, 0, none⟩) 4 4] 39 (0, 0))); rw [← HLO.out] at this; exact this)
        have HO3 := Lib.hid (alloc_keeps ho (.cells #[.string ⟨#[109, 97, 105, 110]⟩, .int .i64 0, .int .i64 0, .slice (some ⟨w.heap.size, 0, none⟩) 4 4] 39 (0, 0)))
        have HB3 := Lib.hid (hb.trans ((Below.one W (.cells #[.string ⟨#[109, 97, 105, 110]⟩, .int .i64 0, .int .i64 0, .slice (some ⟨w.heap.size, 0, none⟩) 4 4] 39 (0, 0))).mono hb.size))
        have hrun := Run_one o (some ⟨w.heap.size, 0, none⟩) 4 W.heap.size 10 (W.alloc (.cells #[.string ⟨#[109, 97, 105, 110]⟩, .int .i64 0, .int .i64 0, .slice (some ⟨w.heap.size, 0, none⟩) 4 4] 39 (0, 0))) (HT.out.below HB3.out) (by rw [heap_alloc_new]; exact congrArg some HOB.out) HL3.out HLL.out (by omega) none 0 [] (rdB_nil _ _) (Nat.le_refl _) (fun a ha => by cases ha)
        rw [HRE.out] at hrun
        have hrun : Calls Tryd.prog 13 #[.agg #[.slice (some ⟨W.heap.size, 0, none⟩) 1 1, .slice none 0 0, .int .i64 1], .slice none 0 0, .int .i64 10] (W.alloc (.cells #[.string ⟨#[109, 97, 105, 110]⟩, .int .i64 0, .int .i64 0, .slice (some ⟨w.heap.size, 0, none⟩) 4 4] 39 (0, 0))) fun e w' => RunT ⟨2, 2, []⟩ e w' ∧ Below (W.alloc (.cells #[.string ⟨#[109, 97, 105, 110]⟩, .int .i64 0, .int .i64 0, .slice (some ⟨w.heap.size, 0, none⟩) 4 4] 39 (0, 0))).heap.size (W.alloc (.cells #[.string ⟨#[109, 97, 105, 110]⟩, .int .i64 0, .int .i64 0, .slice (some ⟨w.heap.size, 0, none⟩) 4 4] 39 (0, 0))) w' := hrun
        obtain ⟨c0, c1, c2, c3⟩ := ob_cells4 ho
        clear hl ho hb hW hwa hwb
        go_wp2_with (first
          | (go_at_call 13; refine hrun.mono ?_; rintro e w2 ⟨⟨A, ac, rfl, hA⟩, hb2⟩;
             have hb2' := HB3.out.trans (hb2.mono HB3.out.size);
             have HB4 : Hid (Below w.heap.size w (w2.alloc (.cells #[.int .i64 2, .int .i64 2, .slice A 0 ac] 30 (0, 0)))) := Lib.hid (hb2'.trans ((Below.one w2 (.cells #[.int .i64 2, .int .i64 2, .slice A 0 ac] 30 (0, 0))).mono hb2'.size));
             have HO4 : Hid ((w2.alloc (.cells #[.int .i64 2, .int .i64 2, .slice A 0 ac] 30 (0, 0))).heap[w.heap.size + 1]? = some (.cells #[.string ⟨#[109, 97, 105, 110]⟩, .int .i64 0, .int .i64 0, .slice (some ⟨w.heap.size, 0, none⟩) 4 4] 39 (0, 0))) := Lib.hid (alloc_keeps (keepB hb2 HO3.out) (.cells #[.int .i64 2, .int .i64 2, .slice A 0 ac] 30 (0, 0)));
             have HR4 : Hid ((w2.alloc (.cells #[.int .i64 2, .int .i64 2, .slice A 0 ac] 30 (0, 0))).heap[w2.heap.size]? = some (.cells #[.int .i64 2, .int .i64 2, .slice A 0 ac] 30 (0, 0))) := Lib.hid (heap_alloc_new w2 (.cells #[.int .i64 2, .int .i64 2, .slice A 0 ac] 30 (0, 0)));
             have HA4 : Hid (RdB (w2.alloc (.cells #[.int .i64 2, .int .i64 2, .slice A 0 ac] 30 (0, 0))) A []) := Lib.hid (rdB_nil _ _);
             have HL4 : Hid (RdL (w2.alloc (.cells #[.int .i64 2, .int .i64 2, .slice A 0 ac] 30 (0, 0))) (some ⟨w.heap.size, 0, none⟩) o.lines) := Lib.hid (HL3.out.below (hb2.trans ((Below.one w2 (.cells #[.int .i64 2, .int .i64 2, .slice A 0 ac] 30 (0, 0))).mono hb2.size)));
             clear hb2 hb2' hA c0 c1 c2 c3)
          | (go_at_call 16; refine (HDO.out _).mono ?_; rintro e w4 ⟨rfl, hb4⟩;
             have HB5 := Lib.hid (HB4.out.trans (hb4.mono HB4.out.size));
             have ho5 := keepB hb4 HO4.out;
             have hr5 := keepB hb4 HR4.out;
             have HL5 := Lib.hid (HL4.out.below hb4);
             have hT5 := HT.out.below HB5.out;
             obtain ⟨x0, x1, x2⟩ := re_cells (x := ⟨2, 2, []⟩) hr5;
             have x2 : w4.cell? ⟨w2.heap.size, 2, none⟩ = some (.slice A 0 ac) := x2;
             obtain ⟨u0, u1, u2, u3⟩ := ob_cells4 ho5;
             clear ho5 hr5 hb4)
          | (go_at_call 14; refine (res7 ⟨2, 2, []⟩ rfl _ A ac).mono ?_; rintro e w6 ⟨rfl, hb6⟩; have HB6 := Lib.hid (HB5.out.trans (hb6.mono HB5.out.size)); have hT6 := HT.out.below HB6.out; clear hb6)
          | (go_at_call 12; refine (awake_any _ hT6).mono ?_; rintro e w7 ⟨rfl, hb7⟩; have HB7 := Lib.hid (HB6.out.trans (hb7.mono HB6.out.size)); clear hb7))
        go_returns
        exact ⟨rfl, HB7.out⟩
      · have HRE : Hid (runM ⟨[o], [], 1⟩ [] 10 = ⟨1, v, []⟩) := Lib.hid (HR1.out (by omega))
        go_enter Tryd.func4, Tryd.ntmps4
        go_upto_region 6 with (first
          | (go_at_call_of 15 a; refine (hwa _).mono ?_; rintro e w' ⟨rfl, rfl⟩)
          | (go_at_call_of 15 b; refine (hwb _).mono ?_; rintro e w' ⟨rfl, rfl⟩))
        have hl : ((w.alloc (.cells #[.int .i64 1, .int .i64 0, .int .i64 0, .int .i64 0, .int .i64 x, .string ⟨#[]⟩, .int .i64 1, .int .i64 7, .int .i64 0, .int .i64 0, .int .i64 y, .string ⟨#[]⟩, .int .i64 2, .int .i64 3, .int .i64 0, .int .i64 0, .int .i64 op, .string ⟨#[]⟩, .int .i64 18, .int .i64 0, .int .i64 3, .int .i64 0, .int .i64 0, .string ⟨#[]⟩] 36 (0, 0))).alloc (.cells #[.string ⟨#[109, 97, 105, 110]⟩, .int .i64 0, .int .i64 0, .slice (some ⟨w.heap.size, 0, none⟩) 4 4] 39 (0, 0))).heap[w.heap.size]? = some (.cells ((doesL op x y).flatMap Ln.l).toArray 36 (0, 0)) := alloc_keeps (by rw [heap_alloc_new]; unfold doesL; rw [if_pos hop2]; rfl) _
        have ho : ((w.alloc (.cells #[.int .i64 1, .int .i64 0, .int .i64 0, .int .i64 0, .int .i64 x, .string ⟨#[]⟩, .int .i64 1, .int .i64 7, .int .i64 0, .int .i64 0, .int .i64 y, .string ⟨#[]⟩, .int .i64 2, .int .i64 3, .int .i64 0, .int .i64 0, .int .i64 op, .string ⟨#[]⟩, .int .i64 18, .int .i64 0, .int .i64 3, .int .i64 0, .int .i64 0, .string ⟨#[]⟩] 36 (0, 0))).alloc (.cells #[.string ⟨#[109, 97, 105, 110]⟩, .int .i64 0, .int .i64 0, .slice (some ⟨w.heap.size, 0, none⟩) 4 4] 39 (0, 0))).heap[w.heap.size + 1]? = some (.cells #[.string ⟨#[109, 97, 105, 110]⟩, .int .i64 0, .int .i64 0, .slice (some ⟨w.heap.size, 0, none⟩) 4 4] 39 (0, 0)) := by
          have := heap_alloc_new (w.alloc (.cells #[.int .i64 1, .int .i64 0, .int .i64 0, .int .i64 0, .int .i64 x, .string ⟨#[]⟩, .int .i64 1, .int .i64 7, .int .i64 0, .int .i64 0, .int .i64 y, .string ⟨#[]⟩, .int .i64 2, .int .i64 3, .int .i64 0, .int .i64 0, .int .i64 op, .string ⟨#[]⟩, .int .i64 18, .int .i64 0, .int .i64 3, .int .i64 0, .int .i64 0, .string ⟨#[]⟩] 36 (0, 0))) (.cells #[.string ⟨#[109, 97, 105, 110]⟩, .int .i64 0, .int .i64 0, .slice (some ⟨w.heap.size, 0, none⟩) 4 4] 39 (0, 0))
          rwa [show (w.alloc (.cells #[.int .i64 1, .int .i64 0, .int .i64 0, .int .i64 0, .int .i64 x, .string ⟨#[]⟩, .int .i64 1, .int .i64 7, .int .i64 0, .int .i64 0, .int .i64 y, .string ⟨#[]⟩, .int .i64 2, .int .i64 3, .int .i64 0, .int .i64 0, .int .i64 op, .string ⟨#[]⟩, .int .i64 18, .int .i64 0, .int .i64 3, .int .i64 0, .int .i64 0, .string ⟨#[]⟩] 36 (0, 0))).heap.size = w.heap.size + 1 by simp] at this
        have hb : Below w.heap.size w ((w.alloc (.cells #[.int .i64 1, .int .i64 0, .int .i64 0, .int .i64 0, .int .i64 x, .string ⟨#[]⟩, .int .i64 1, .int .i64 7, .int .i64 0, .int .i64 0, .int .i64 y, .string ⟨#[]⟩, .int .i64 2, .int .i64 3, .int .i64 0, .int .i64 0, .int .i64 op, .string ⟨#[]⟩, .int .i64 18, .int .i64 0, .int .i64 3, .int .i64 0, .int .i64 0, .string ⟨#[]⟩] 36 (0, 0))).alloc (.cells #[.string ⟨#[109, 97, 105, 110]⟩, .int .i64 0, .int .i64 0, .slice (some ⟨w.heap.size, 0, none⟩) 4 4] 39 (0, 0))) := (Below.one w _).alloc (by simp) _
        obtain ⟨W, hW⟩ : ∃ W, (w.alloc (.cells #[.int .i64 1, .int .i64 0, .int .i64 0, .int .i64 0, .int .i64 x, .string ⟨#[]⟩, .int .i64 1, .int .i64 7, .int .i64 0, .int .i64 0, .int .i64 y, .string ⟨#[]⟩, .int .i64 2, .int .i64 3, .int .i64 0, .int .i64 0, .int .i64 op, .string ⟨#[]⟩, .int .i64 18, .int .i64 0, .int .i64 3, .int .i64 0, .int .i64 0, .string ⟨#[]⟩] 36 (0, 0))).alloc (.cells #[.string ⟨#[109, 97, 105, 110]⟩, .int .i64 0, .int .i64 0, .slice (some ⟨w.heap.size, 0, none⟩) 4 4] 39 (0, 0)) = W := ⟨_, rfl⟩
        rw [hW] at hl ho hb ⊢
        have HL3 : Hid (RdL (W.alloc (.cells #[.string ⟨#[109, 97, 105, 110]⟩, .int .i64 0, .int .i64 0, .slice (some ⟨w.heap.size, 0, none⟩) 4 4] 39 (0, 0))) (some ⟨w.heap.size, 0, none⟩) o.lines) := Lib.hid (by have := (rdL_flat hl).below (Below.one W (.cells #[.string ⟨#[109, 97, 105, 110]⟩, .int .i64 0, .int .i64 0, .slice (some ⟨w.heap.size, 0, none⟩) 4 4] 39 (0, 0))); rw [← HLO.out] at this; exact this)
        have HO3 := Lib.hid (alloc_keeps ho (.cells #[.string ⟨#[109, 97, 105, 110]⟩, .int .i64 0, .int .i64 0, .slice (some ⟨w.heap.size, 0, none⟩) 4 4] 39 (0, 0)))
        have HB3 := Lib.hid (hb.trans ((Below.one W (.cells #[.string ⟨#[109, 97, 105, 110]⟩, .int .i64 0, .int .i64 0, .slice (some ⟨w.heap.size, 0, none⟩) 4 4] 39 (0, 0))).mono hb.size))
        have hrun := Run_one o (some ⟨w.heap.size, 0, none⟩) 4 W.heap.size 10 (W.alloc (.cells #[.string ⟨#[109, 97, 105, 110]⟩, .int .i64 0, .int .i64 0, .slice (some ⟨w.heap.size, 0, none⟩) 4 4] 39 (0, 0))) (HT.out.below HB3.out) (by rw [heap_alloc_new]; exact congrArg some HOB.out) HL3.out HLL.out (by omega) none 0 [] (rdB_nil _ _) (Nat.le_refl _) (fun a ha => by cases ha)
        rw [HRE.out] at hrun
        have hrun : Calls Tryd.prog 13 #[.agg #[.slice (some ⟨W.heap.size, 0, none⟩) 1 1, .slice none 0 0, .int .i64 1], .slice none 0 0, .int .i64 10] (W.alloc (.cells #[.string ⟨#[109, 97, 105, 110]⟩, .int .i64 0, .int .i64 0, .slice (some ⟨w.heap.size, 0, none⟩) 4 4] 39 (0, 0))) fun e w' => RunT ⟨1, v, []⟩ e w' ∧ Below (W.alloc (.cells #[.string ⟨#[109, 97, 105, 110]⟩, .int .i64 0, .int .i64 0, .slice (some ⟨w.heap.size, 0, none⟩) 4 4] 39 (0, 0))).heap.size (W.alloc (.cells #[.string ⟨#[109, 97, 105, 110]⟩, .int .i64 0, .int .i64 0, .slice (some ⟨w.heap.size, 0, none⟩) 4 4] 39 (0, 0))) w' := hrun
        obtain ⟨c0, c1, c2, c3⟩ := ob_cells4 ho
        clear hl ho hb hW hwa hwb
        go_wp2_with (first
          | (go_at_call 13; refine hrun.mono ?_; rintro e w2 ⟨⟨A, ac, rfl, hA⟩, hb2⟩;
             have hb2' := HB3.out.trans (hb2.mono HB3.out.size);
             have HB4 : Hid (Below w.heap.size w (w2.alloc (.cells #[.int .i64 1, .int .i64 v, .slice A 0 ac] 30 (0, 0)))) := Lib.hid (hb2'.trans ((Below.one w2 (.cells #[.int .i64 1, .int .i64 v, .slice A 0 ac] 30 (0, 0))).mono hb2'.size));
             have HO4 : Hid ((w2.alloc (.cells #[.int .i64 1, .int .i64 v, .slice A 0 ac] 30 (0, 0))).heap[w.heap.size + 1]? = some (.cells #[.string ⟨#[109, 97, 105, 110]⟩, .int .i64 0, .int .i64 0, .slice (some ⟨w.heap.size, 0, none⟩) 4 4] 39 (0, 0))) := Lib.hid (alloc_keeps (keepB hb2 HO3.out) (.cells #[.int .i64 1, .int .i64 v, .slice A 0 ac] 30 (0, 0)));
             have HR4 : Hid ((w2.alloc (.cells #[.int .i64 1, .int .i64 v, .slice A 0 ac] 30 (0, 0))).heap[w2.heap.size]? = some (.cells #[.int .i64 1, .int .i64 v, .slice A 0 ac] 30 (0, 0))) := Lib.hid (heap_alloc_new w2 (.cells #[.int .i64 1, .int .i64 v, .slice A 0 ac] 30 (0, 0)));
             have HA4 : Hid (RdB (w2.alloc (.cells #[.int .i64 1, .int .i64 v, .slice A 0 ac] 30 (0, 0))) A []) := Lib.hid (rdB_nil _ _);
             have HL4 : Hid (RdL (w2.alloc (.cells #[.int .i64 1, .int .i64 v, .slice A 0 ac] 30 (0, 0))) (some ⟨w.heap.size, 0, none⟩) o.lines) := Lib.hid (HL3.out.below (hb2.trans ((Below.one w2 (.cells #[.int .i64 1, .int .i64 v, .slice A 0 ac] 30 (0, 0))).mono hb2.size)));
             clear hb2 hb2' hA c0 c1 c2 c3)
          | (go_at_call 16; refine (HDO.out _).mono ?_; rintro e w4 ⟨rfl, hb4⟩;
             have HB5 := Lib.hid (HB4.out.trans (hb4.mono HB4.out.size));
             have ho5 := keepB hb4 HO4.out;
             have hr5 := keepB hb4 HR4.out;
             have HL5 := Lib.hid (HL4.out.below hb4);
             have hT5 := HT.out.below HB5.out;
             obtain ⟨x0, x1, x2⟩ := re_cells (x := ⟨1, v, []⟩) hr5;
             have x2 : w4.cell? ⟨w2.heap.size, 2, none⟩ = some (.slice A 0 ac) := x2;
             obtain ⟨u0, u1, u2, u3⟩ := ob_cells4 ho5;
             clear ho5 hr5 hb4)
          | (go_at_call 14; refine (res7 ⟨1, v, []⟩ rfl _ A ac).mono ?_; rintro e w6 ⟨rfl, hb6⟩; have HB6 := Lib.hid (HB5.out.trans (hb6.mono HB5.out.size)); have hT6 := HT.out.below HB6.out; clear hb6)
          | (go_at_call 12; refine (awake_any _ hT6).mono ?_; rintro e w7 ⟨rfl, hb7⟩; have HB7 := Lib.hid (HB6.out.trans (hb7.mono HB6.out.size)); clear hb7))
        go_returns
        exact ⟨rfl, HB7.out⟩
    · have HRE : Hid (runM ⟨[o], [], 1⟩ [] 10 = ⟨4, 0, []⟩) := Lib.hid (HR2.out (by omega))
      have HRF : Hid (rightO o = false) := Lib.hid (HRO.out (by omega))
      have hcase : (op < 1 ∧ decide (op ≥ 1) = false ∧ decide (1 ≤ op) = false ∧ decide (op ≥ 20) = false ∧ decide (20 ≤ op) = false ∧ decide (op < 20) = true ∧ decide (op ≤ 23) = true) ∨ (23 < op ∧ decide (op ≥ 1) = true ∧ decide (1 ≤ op) = true ∧ decide (op ≤ 19) = false ∧ decide (op ≥ 20) = true ∧ decide (20 ≤ op) = true ∧ decide (op ≤ 23) = false ∧ decide (op < 20) = false ∧ decide (op > 23) = true ∧ decide (23 < op) = true) := by
        simp only [decide_eq_true_eq, decide_eq_false_iff_not, gt_iff_lt, ge_iff_le]
        omega
      clear HDO
      have HDO : Hid (∀ w, Calls Tryd.prog 16 #[.int .i64 op, .int .i64 x, .int .i64 y] w fun e w' => e = .returned (.tuple #[.int .i64 (dov op x y).1, .bool (dov op x y).2]) ∧ Below w.heap.size w w') := Lib.hid (fun w => refdo_any op x y w)
      rcases hcase with ⟨hc, q1, q2, q3, q4, q5, q6⟩ | ⟨hc, q1, q2, q3, q4, q5, q6, q7, q8, q9⟩
      · clear hc
        go_enter Tryd.func4, Tryd.ntmps4
        go_upto_region 6 with (first
          | (go_at_call_of 15 a; refine (hwa _).mono ?_; rintro e w' ⟨rfl, rfl⟩)
          | (go_at_call_of 15 b; refine (hwb _).mono ?_; rintro e w' ⟨rfl, rfl⟩))
        have hl : ((w.alloc (.cells #[.int .i64 1, .int .i64 0, .int .i64 0, .int .i64 0, .int .i64 x, .string ⟨#[]⟩, .int .i64 1, .int .i64 7, .int .i64 0, .int .i64 0, .int .i64 y, .string ⟨#[]⟩, .int .i64 3, .int .i64 3, .int .i64 0, .int .i64 7, .int .i64 op, .string ⟨#[]⟩, .int .i64 18, .int .i64 0, .int .i64 3, .int .i64 0, .int .i64 0, .string ⟨#[]⟩] 36 (0, 0))).alloc (.cells #[.string ⟨#[109, 97, 105, 110]⟩, .int .i64 0, .int .i64 0, .slice (some ⟨w.heap.size, 0, none⟩) 4 4] 39 (0, 0))).heap[w.heap.size]? = some (.cells ((doesL op x y).flatMap Ln.l).toArray 36 (0, 0)) := alloc_keeps (by rw [heap_alloc_new]; unfold doesL; rw [if_neg hop2]; rfl) _
        have ho : ((w.alloc (.cells #[.int .i64 1, .int .i64 0, .int .i64 0, .int .i64 0, .int .i64 x, .string ⟨#[]⟩, .int .i64 1, .int .i64 7, .int .i64 0, .int .i64 0, .int .i64 y, .string ⟨#[]⟩, .int .i64 3, .int .i64 3, .int .i64 0, .int .i64 7, .int .i64 op, .string ⟨#[]⟩, .int .i64 18, .int .i64 0, .int .i64 3, .int .i64 0, .int .i64 0, .string ⟨#[]⟩] 36 (0, 0))).alloc (.cells #[.string ⟨#[109, 97, 105, 110]⟩, .int .i64 0, .int .i64 0, .slice (some ⟨w.heap.size, 0, none⟩) 4 4] 39 (0, 0))).heap[w.heap.size + 1]? = some (.cells #[.string ⟨#[109, 97, 105, 110]⟩, .int .i64 0, .int .i64 0, .slice (some ⟨w.heap.size, 0, none⟩) 4 4] 39 (0, 0)) := by
          have := heap_alloc_new (w.alloc (.cells #[.int .i64 1, .int .i64 0, .int .i64 0, .int .i64 0, .int .i64 x, .string ⟨#[]⟩, .int .i64 1, .int .i64 7, .int .i64 0, .int .i64 0, .int .i64 y, .string ⟨#[]⟩, .int .i64 3, .int .i64 3, .int .i64 0, .int .i64 7, .int .i64 op, .string ⟨#[]⟩, .int .i64 18, .int .i64 0, .int .i64 3, .int .i64 0, .int .i64 0, .string ⟨#[]⟩] 36 (0, 0))) (.cells #[.string ⟨#[109, 97, 105, 110]⟩, .int .i64 0, .int .i64 0, .slice (some ⟨w.heap.size, 0, none⟩) 4 4] 39 (0, 0))
          rwa [show (w.alloc (.cells #[.int .i64 1, .int .i64 0, .int .i64 0, .int .i64 0, .int .i64 x, .string ⟨#[]⟩, .int .i64 1, .int .i64 7, .int .i64 0, .int .i64 0, .int .i64 y, .string ⟨#[]⟩, .int .i64 3, .int .i64 3, .int .i64 0, .int .i64 7, .int .i64 op, .string ⟨#[]⟩, .int .i64 18, .int .i64 0, .int .i64 3, .int .i64 0, .int .i64 0, .string ⟨#[]⟩] 36 (0, 0))).heap.size = w.heap.size + 1 by simp] at this
        have hb : Below w.heap.size w ((w.alloc (.cells #[.int .i64 1, .int .i64 0, .int .i64 0, .int .i64 0, .int .i64 x, .string ⟨#[]⟩, .int .i64 1, .int .i64 7, .int .i64 0, .int .i64 0, .int .i64 y, .string ⟨#[]⟩, .int .i64 3, .int .i64 3, .int .i64 0, .int .i64 7, .int .i64 op, .string ⟨#[]⟩, .int .i64 18, .int .i64 0, .int .i64 3, .int .i64 0, .int .i64 0, .string ⟨#[]⟩] 36 (0, 0))).alloc (.cells #[.string ⟨#[109, 97, 105, 110]⟩, .int .i64 0, .int .i64 0, .slice (some ⟨w.heap.size, 0, none⟩) 4 4] 39 (0, 0))) := (Below.one w _).alloc (by simp) _
        obtain ⟨W, hW⟩ : ∃ W, (w.alloc (.cells #[.int .i64 1, .int .i64 0, .int .i64 0, .int .i64 0, .int .i64 x, .string ⟨#[]⟩, .int .i64 1, .int .i64 7, .int .i64 0, .int .i64 0, .int .i64 y, .string ⟨#[]⟩, .int .i64 3, .int .i64 3, .int .i64 0, .int .i64 7, .int .i64 op, .string ⟨#[]⟩, .int .i64 18, .int .i64 0, .int .i64 3, .int .i64 0, .int .i64 0, .string ⟨#[]⟩] 36 (0, 0))).alloc (.cells #[.string ⟨#[109, 97, 105, 110]⟩, .int .i64 0, .int .i64 0, .slice (some ⟨w.heap.size, 0, none⟩) 4 4] 39 (0, 0)) = W := ⟨_, rfl⟩
        rw [hW] at hl ho hb ⊢
        have HL3 : Hid (RdL (W.alloc (.cells #[.string ⟨#[109, 97, 105, 110]⟩, .int .i64 0, .int .i64 0, .slice (some ⟨w.heap.size, 0, none⟩) 4 4] 39 (0, 0))) (some ⟨w.heap.size, 0, none⟩) o.lines) := Lib.hid (by have := (rdL_flat hl).below (Below.one W (.cells #[.string ⟨#[109, 97, 105, 110]⟩, .int .i64 0, .int .i64 0, .slice (some ⟨w.heap.size, 0, none⟩) 4 4] 39 (0, 0))); rw [← HLO.out] at this; exact this)
        have HO3 := Lib.hid (alloc_keeps ho (.cells #[.string ⟨#[109, 97, 105, 110]⟩, .int .i64 0, .int .i64 0, .slice (some ⟨w.heap.size, 0, none⟩) 4 4] 39 (0, 0)))
        have HB3 := Lib.hid (hb.trans ((Below.one W (.cells #[.string ⟨#[109, 97, 105, 110]⟩, .int .i64 0, .int .i64 0, .slice (some ⟨w.heap.size, 0, none⟩) 4 4] 39 (0, 0))).mono hb.size))
        have hrun := Run_one o (some ⟨w.heap.size, 0, none⟩) 4 W.heap.size 10 (W.alloc (.cells #[.string ⟨#[109, 97, 105, 110]⟩, .int .i64 0, .int .i64 0, .slice (some ⟨w.heap.size, 0, none⟩) 4 4] 39 (0, 0))) (HT.out.below HB3.out) (by rw [heap_alloc_new]; exact congrArg some HOB.out) HL3.out HLL.out (by omega) none 0 [] (rdB_nil _ _) (Nat.le_refl _) (fun a ha => by cases ha)
        rw [HRE.out] at hrun
        have hrun : Calls Tryd.prog 13 #[.agg #[.slice (some ⟨W.heap.size, 0, none⟩) 1 1, .slice none 0 0, .int .i64 1], .slice none 0 0, .int .i64 10] (W.alloc (.cells #[.string ⟨#[109, 97, 105, 110]⟩, .int .i64 0, .int .i64 0, .slice (some ⟨w.heap.size, 0, none⟩) 4 4] 39 (0, 0))) fun e w' => RunT ⟨4, 0, []⟩ e w' ∧ Below (W.alloc (.cells #[.string ⟨#[109, 97, 105, 110]⟩, .int .i64 0, .int .i64 0, .slice (some ⟨w.heap.size, 0, none⟩) 4 4] 39 (0, 0))).heap.size (W.alloc (.cells #[.string ⟨#[109, 97, 105, 110]⟩, .int .i64 0, .int .i64 0, .slice (some ⟨w.heap.size, 0, none⟩) 4 4] 39 (0, 0))) w' := hrun
        obtain ⟨c0, c1, c2, c3⟩ := ob_cells4 ho
        clear hl ho hb hW hwa hwb
        go_wp2_with (first
          | (go_at_call 13; refine hrun.mono ?_; rintro e w2 ⟨⟨A, ac, rfl, hA⟩, hb2⟩;
             have hb2' := HB3.out.trans (hb2.mono HB3.out.size);
             have HB4 : Hid (Below w.heap.size w (w2.alloc (.cells #[.int .i64 4, .int .i64 0, .slice A 0 ac] 30 (0, 0)))) := Lib.hid (hb2'.trans ((Below.one w2 (.cells #[.int .i64 4, .int .i64 0, .slice A 0 ac] 30 (0, 0))).mono hb2'.size));
             have HO4 : Hid ((w2.alloc (.cells #[.int .i64 4, .int .i64 0, .slice A 0 ac] 30 (0, 0))).heap[w.heap.size + 1]? = some (.cells #[.string ⟨#[109, 97, 105, 110]⟩, .int .i64 0, .int .i64 0, .slice (some ⟨w.heap.size, 0, none⟩) 4 4] 39 (0, 0))) := Lib.hid (alloc_keeps (keepB hb2 HO3.out) (.cells #[.int .i64 4, .int .i64 0, .slice A 0 ac] 30 (0, 0)));
             have HR4 : Hid ((w2.alloc (.cells #[.int .i64 4, .int .i64 0, .slice A 0 ac] 30 (0, 0))).heap[w2.heap.size]? = some (.cells #[.int .i64 4, .int .i64 0, .slice A 0 ac] 30 (0, 0))) := Lib.hid (heap_alloc_new w2 (.cells #[.int .i64 4, .int .i64 0, .slice A 0 ac] 30 (0, 0)));
             have HA4 : Hid (RdB (w2.alloc (.cells #[.int .i64 4, .int .i64 0, .slice A 0 ac] 30 (0, 0))) A []) := Lib.hid (rdB_nil _ _);
             have HL4 : Hid (RdL (w2.alloc (.cells #[.int .i64 4, .int .i64 0, .slice A 0 ac] 30 (0, 0))) (some ⟨w.heap.size, 0, none⟩) o.lines) := Lib.hid (HL3.out.below (hb2.trans ((Below.one w2 (.cells #[.int .i64 4, .int .i64 0, .slice A 0 ac] 30 (0, 0))).mono hb2.size)));
             clear hb2 hb2' hA c0 c1 c2 c3)
          | (go_at_call 16; refine (HDO.out _).mono ?_; rintro e w4 ⟨rfl, hb4⟩;
             have HB5 := Lib.hid (HB4.out.trans (hb4.mono HB4.out.size));
             have ho5 := keepB hb4 HO4.out;
             have hr5 := keepB hb4 HR4.out;
             have HL5 := Lib.hid (HL4.out.below hb4);
             have hT5 := HT.out.below HB5.out;
             obtain ⟨x0, x1, x2⟩ := re_cells (x := ⟨4, 0, []⟩) hr5;
             have x2 : w4.cell? ⟨w2.heap.size, 2, none⟩ = some (.slice A 0 ac) := x2;
             obtain ⟨u0, u1, u2, u3⟩ := ob_cells4 ho5;
             clear ho5 hr5 hb4)
          | (go_at_call 17; refine (ro4 HOB.out HLN.out HL5.out hT5 HRF.out).mono ?_; rintro e w5 ⟨rfl, hb5⟩; have HB5' := Lib.hid (HB5.out.trans (hb5.mono HB5.out.size)); have x0 := keepC hb5 x0; have x1 := keepC hb5 x1; have x2 := keepC hb5 x2; clear hb5 u0 u1 u2 u3)
          | (go_at_call 14; refine (res7 ⟨4, 0, []⟩ rfl _ A ac).mono ?_; rintro e w6 ⟨rfl, hb6⟩; have HB6 := Lib.hid (HB5'.out.trans (hb6.mono HB5'.out.size)); have hT6 := HT.out.below HB6.out; clear hb6)
          | (go_at_call 12; refine (awake_any _ hT6).mono ?_; rintro e w7 ⟨rfl, hb7⟩; have HB7 := Lib.hid (HB6.out.trans (hb7.mono HB6.out.size)); clear hb7))
        go_returns
        exact ⟨rfl, HB7.out⟩
      · clear hc
        go_enter Tryd.func4, Tryd.ntmps4
        go_upto_region 6 with (first
          | (go_at_call_of 15 a; refine (hwa _).mono ?_; rintro e w' ⟨rfl, rfl⟩)
          | (go_at_call_of 15 b; refine (hwb _).mono ?_; rintro e w' ⟨rfl, rfl⟩))
        have hl : ((w.alloc (.cells #[.int .i64 1, .int .i64 0, .int .i64 0, .int .i64 0, .int .i64 x, .string ⟨#[]⟩, .int .i64 1, .int .i64 7, .int .i64 0, .int .i64 0, .int .i64 y, .string ⟨#[]⟩, .int .i64 3, .int .i64 3, .int .i64 0, .int .i64 7, .int .i64 op, .string ⟨#[]⟩, .int .i64 18, .int .i64 0, .int .i64 3, .int .i64 0, .int .i64 0, .string ⟨#[]⟩] 36 (0, 0))).alloc (.cells #[.string ⟨#[109, 97, 105, 110]⟩, .int .i64 0, .int .i64 0, .slice (some ⟨w.heap.size, 0, none⟩) 4 4] 39 (0, 0))).heap[w.heap.size]? = some (.cells ((doesL op x y).flatMap Ln.l).toArray 36 (0, 0)) := alloc_keeps (by rw [heap_alloc_new]; unfold doesL; rw [if_neg hop2]; rfl) _
        have ho : ((w.alloc (.cells #[.int .i64 1, .int .i64 0, .int .i64 0, .int .i64 0, .int .i64 x, .string ⟨#[]⟩, .int .i64 1, .int .i64 7, .int .i64 0, .int .i64 0, .int .i64 y, .string ⟨#[]⟩, .int .i64 3, .int .i64 3, .int .i64 0, .int .i64 7, .int .i64 op, .string ⟨#[]⟩, .int .i64 18, .int .i64 0, .int .i64 3, .int .i64 0, .int .i64 0, .string ⟨#[]⟩] 36 (0, 0))).alloc (.cells #[.string ⟨#[109, 97, 105, 110]⟩, .int .i64 0, .int .i64 0, .slice (some ⟨w.heap.size, 0, none⟩) 4 4] 39 (0, 0))).heap[w.heap.size + 1]? = some (.cells #[.string ⟨#[109, 97, 105, 110]⟩, .int .i64 0, .int .i64 0, .slice (some ⟨w.heap.size, 0, none⟩) 4 4] 39 (0, 0)) := by
          have := heap_alloc_new (w.alloc (.cells #[.int .i64 1, .int .i64 0, .int .i64 0, .int .i64 0, .int .i64 x, .string ⟨#[]⟩, .int .i64 1, .int .i64 7, .int .i64 0, .int .i64 0, .int .i64 y, .string ⟨#[]⟩, .int .i64 3, .int .i64 3, .int .i64 0, .int .i64 7, .int .i64 op, .string ⟨#[]⟩, .int .i64 18, .int .i64 0, .int .i64 3, .int .i64 0, .int .i64 0, .string ⟨#[]⟩] 36 (0, 0))) (.cells #[.string ⟨#[109, 97, 105, 110]⟩, .int .i64 0, .int .i64 0, .slice (some ⟨w.heap.size, 0, none⟩) 4 4] 39 (0, 0))
          rwa [show (w.alloc (.cells #[.int .i64 1, .int .i64 0, .int .i64 0, .int .i64 0, .int .i64 x, .string ⟨#[]⟩, .int .i64 1, .int .i64 7, .int .i64 0, .int .i64 0, .int .i64 y, .string ⟨#[]⟩, .int .i64 3, .int .i64 3, .int .i64 0, .int .i64 7, .int .i64 op, .string ⟨#[]⟩, .int .i64 18, .int .i64 0, .int .i64 3, .int .i64 0, .int .i64 0, .string ⟨#[]⟩] 36 (0, 0))).heap.size = w.heap.size + 1 by simp] at this
        have hb : Below w.heap.size w ((w.alloc (.cells #[.int .i64 1, .int .i64 0, .int .i64 0, .int .i64 0, .int .i64 x, .string ⟨#[]⟩, .int .i64 1, .int .i64 7, .int .i64 0, .int .i64 0, .int .i64 y, .string ⟨#[]⟩, .int .i64 3, .int .i64 3, .int .i64 0, .int .i64 7, .int .i64 op, .string ⟨#[]⟩, .int .i64 18, .int .i64 0, .int .i64 3, .int .i64 0, .int .i64 0, .string ⟨#[]⟩] 36 (0, 0))).alloc (.cells #[.string ⟨#[109, 97, 105, 110]⟩, .int .i64 0, .int .i64 0, .slice (some ⟨w.heap.size, 0, none⟩) 4 4] 39 (0, 0))) := (Below.one w _).alloc (by simp) _
        obtain ⟨W, hW⟩ : ∃ W, (w.alloc (.cells #[.int .i64 1, .int .i64 0, .int .i64 0, .int .i64 0, .int .i64 x, .string ⟨#[]⟩, .int .i64 1, .int .i64 7, .int .i64 0, .int .i64 0, .int .i64 y, .string ⟨#[]⟩, .int .i64 3, .int .i64 3, .int .i64 0, .int .i64 7, .int .i64 op, .string ⟨#[]⟩, .int .i64 18, .int .i64 0, .int .i64 3, .int .i64 0, .int .i64 0, .string ⟨#[]⟩] 36 (0, 0))).alloc (.cells #[.string ⟨#[109, 97, 105, 110]⟩, .int .i64 0, .int .i64 0, .slice (some ⟨w.heap.size, 0, none⟩) 4 4] 39 (0, 0)) = W := ⟨_, rfl⟩
        rw [hW] at hl ho hb ⊢
        have HL3 : Hid (RdL (W.alloc (.cells #[.string ⟨#[109, 97, 105, 110]⟩, .int .i64 0, .int .i64 0, .slice (some ⟨w.heap.size, 0, none⟩) 4 4] 39 (0, 0))) (some ⟨w.heap.size, 0, none⟩) o.lines) := Lib.hid (by have := (rdL_flat hl).below (Below.one W (.cells #[.string ⟨#[109, 97, 105, 110]⟩, .int .i64 0, .int .i64 0, .slice (some ⟨w.heap.size, 0, none⟩) 4 4] 39 (0, 0))); rw [← HLO.out] at this; exact this)
        have HO3 := Lib.hid (alloc_keeps ho (.cells #[.string ⟨#[109, 97, 105, 110]⟩, .int .i64 0, .int .i64 0, .slice (some ⟨w.heap.size, 0, none⟩) 4 4] 39 (0, 0)))
        have HB3 := Lib.hid (hb.trans ((Below.one W (.cells #[.string ⟨#[109, 97, 105, 110]⟩, .int .i64 0, .int .i64 0, .slice (some ⟨w.heap.size, 0, none⟩) 4 4] 39 (0, 0))).mono hb.size))
        have hrun := Run_one o (some ⟨w.heap.size, 0, none⟩) 4 W.heap.size 10 (W.alloc (.cells #[.string ⟨#[109, 97, 105, 110]⟩, .int .i64 0, .int .i64 0, .slice (some ⟨w.heap.size, 0, none⟩) 4 4] 39 (0, 0))) (HT.out.below HB3.out) (by rw [heap_alloc_new]; exact congrArg some HOB.out) HL3.out HLL.out (by omega) none 0 [] (rdB_nil _ _) (Nat.le_refl _) (fun a ha => by cases ha)
        rw [HRE.out] at hrun
        have hrun : Calls Tryd.prog 13 #[.agg #[.slice (some ⟨W.heap.size, 0, none⟩) 1 1, .slice none 0 0, .int .i64 1], .slice none 0 0, .int .i64 10] (W.alloc (.cells #[.string ⟨#[109, 97, 105, 110]⟩, .int .i64 0, .int .i64 0, .slice (some ⟨w.heap.size, 0, none⟩) 4 4] 39 (0, 0))) fun e w' => RunT ⟨4, 0, []⟩ e w' ∧ Below (W.alloc (.cells #[.string ⟨#[109, 97, 105, 110]⟩, .int .i64 0, .int .i64 0, .slice (some ⟨w.heap.size, 0, none⟩) 4 4] 39 (0, 0))).heap.size (W.alloc (.cells #[.string ⟨#[109, 97, 105, 110]⟩, .int .i64 0, .int .i64 0, .slice (some ⟨w.heap.size, 0, none⟩) 4 4] 39 (0, 0))) w' := hrun
        obtain ⟨c0, c1, c2, c3⟩ := ob_cells4 ho
        clear hl ho hb hW hwa hwb
        go_wp2_with (first
          | (go_at_call 13; refine hrun.mono ?_; rintro e w2 ⟨⟨A, ac, rfl, hA⟩, hb2⟩;
             have hb2' := HB3.out.trans (hb2.mono HB3.out.size);
             have HB4 : Hid (Below w.heap.size w (w2.alloc (.cells #[.int .i64 4, .int .i64 0, .slice A 0 ac] 30 (0, 0)))) := Lib.hid (hb2'.trans ((Below.one w2 (.cells #[.int .i64 4, .int .i64 0, .slice A 0 ac] 30 (0, 0))).mono hb2'.size));
             have HO4 : Hid ((w2.alloc (.cells #[.int .i64 4, .int .i64 0, .slice A 0 ac] 30 (0, 0))).heap[w.heap.size + 1]? = some (.cells #[.string ⟨#[109, 97, 105, 110]⟩, .int .i64 0, .int .i64 0, .slice (some ⟨w.heap.size, 0, none⟩) 4 4] 39 (0, 0))) := Lib.hid (alloc_keeps (keepB hb2 HO3.out) (.cells #[.int .i64 4, .int .i64 0, .slice A 0 ac] 30 (0, 0)));
             have HR4 : Hid ((w2.alloc (.cells #[.int .i64 4, .int .i64 0, .slice A 0 ac] 30 (0, 0))).heap[w2.heap.size]? = some (.cells #[.int .i64 4, .int .i64 0, .slice A 0 ac] 30 (0, 0))) := Lib.hid (heap_alloc_new w2 (.cells #[.int .i64 4, .int .i64 0, .slice A 0 ac] 30 (0, 0)));
             have HA4 : Hid (RdB (w2.alloc (.cells #[.int .i64 4, .int .i64 0, .slice A 0 ac] 30 (0, 0))) A []) := Lib.hid (rdB_nil _ _);
             have HL4 : Hid (RdL (w2.alloc (.cells #[.int .i64 4, .int .i64 0, .slice A 0 ac] 30 (0, 0))) (some ⟨w.heap.size, 0, none⟩) o.lines) := Lib.hid (HL3.out.below (hb2.trans ((Below.one w2 (.cells #[.int .i64 4, .int .i64 0, .slice A 0 ac] 30 (0, 0))).mono hb2.size)));
             clear hb2 hb2' hA c0 c1 c2 c3)
          | (go_at_call 16; refine (HDO.out _).mono ?_; rintro e w4 ⟨rfl, hb4⟩;
             have HB5 := Lib.hid (HB4.out.trans (hb4.mono HB4.out.size));
             have ho5 := keepB hb4 HO4.out;
             have hr5 := keepB hb4 HR4.out;
             have HL5 := Lib.hid (HL4.out.below hb4);
             have hT5 := HT.out.below HB5.out;
             obtain ⟨x0, x1, x2⟩ := re_cells (x := ⟨4, 0, []⟩) hr5;
             have x2 : w4.cell? ⟨w2.heap.size, 2, none⟩ = some (.slice A 0 ac) := x2;
             obtain ⟨u0, u1, u2, u3⟩ := ob_cells4 ho5;
             clear ho5 hr5 hb4)
          | (go_at_call 17; refine (ro4 HOB.out HLN.out HL5.out hT5 HRF.out).mono ?_; rintro e w5 ⟨rfl, hb5⟩; have HB5' := Lib.hid (HB5.out.trans (hb5.mono HB5.out.size)); have x0 := keepC hb5 x0; have x1 := keepC hb5 x1; have x2 := keepC hb5 x2; clear hb5 u0 u1 u2 u3)
          | (go_at_call 14; refine (res7 ⟨4, 0, []⟩ rfl _ A ac).mono ?_; rintro e w6 ⟨rfl, hb6⟩; have HB6 := Lib.hid (HB5'.out.trans (hb6.mono HB5'.out.size)); have hT6 := HT.out.below HB6.out; clear hb6)
          | (go_at_call 12; refine (awake_any _ hT6).mono ?_; rintro e w7 ⟨rfl, hb7⟩; have HB7 := Lib.hid (HB6.out.trans (hb7.mono HB6.out.size)); clear hb7))
        go_returns
        exact ⟨rfl, HB7.out⟩
end Go.Proofs.YtihbgppcacaekaaDoor
