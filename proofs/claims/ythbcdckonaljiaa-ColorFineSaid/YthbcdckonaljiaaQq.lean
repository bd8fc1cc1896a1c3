import Derived.Test.YthbcdckonaljiaaQd
import Derived.Test.YthbcdckonaljiaaQu
import Derived.Laws.Cover2
import Derived.Laws.Cover3
import Derived.Laws.FloatArith
import Derived.Laws.ComplexArith
namespace Go.Proofs.Ythbcdckonaljiaa
open Go.RowKit Go.BigFrame

set_option maxRecDepth 1000000 in
set_option maxHeartbeats 4000000 in
theorem Light_any (x y a b : Nat) (hx : FV x a) (hy : FV y b) (ha : a ≤ 10000000) (hb : b ≤ 10000000) (w : World) :
    Calls Try.prog 37 #[.complex .f64 x y] w fun e w' => e = .returned (.int .i64 ((a : Int) + 8 * b)) ∧ w' = w := by
  have e1 := fv_int hx (by omega)
  have e2 := fv_int hy (by omega)
  have c1 : ∀ W, (convert 83 3 (.float .f64 x)).run Try.prog W = .ok (.int .i64 (a : Int)) W := fun W => run_convert_float_int W 83 3 .f64 .i64 x a (by kernel_rfl) (by kernel_rfl) e1
  have c2 : ∀ W, (convert 83 3 (.float .f64 y)).run Try.prog W = .ok (.int .i64 (b : Int)) W := fun W => run_convert_float_int W 83 3 .f64 .i64 y b (by kernel_rfl) (by kernel_rfl) e2
  have ha' : (a : Int) ≤ 10000000 := by omega
  have hb' : (b : Int) ≤ 10000000 := by omega
  clear hx hy ha hb
  go_enter Try.func37, Try.ntmps37
  go_wp2
  go_returns
  exact ⟨rfl, rfl⟩
def gX (p : Nat × Nat) : List Value := [.complex .f64 (fW p.1) (fW p.2)]
abbrev PX (W : World) (b : Nat) (l : List (Nat × Nat)) : Prop := Pre gX 1 69 W b l
theorem PX.get {W : World} {b : Nat} {l : List (Nat × Nat)} (h : PX W b l) {j : Nat} {p : Nat × Nat} (hj : l[j]? = some p) : W.cell? ⟨b, j, none⟩ = some (.complex .f64 (fW p.1) (fW p.2)) := by
  have := Pre.cell h hj (k := 0) (by omega) (v := .complex .f64 (fW p.1) (fW p.2)) rfl
  simpa using this
theorem PX.set {W : World} {b : Nat} {l : List (Nat × Nat)} (h : PX W b l) {j : Nat} (hj : j < l.length) (p : Nat × Nat) : PX (W.setCell ⟨b, j, none⟩ (.complex .f64 (fW p.1) (fW p.2))) b (l.set j p) := by
  have := Pre.store h (j := j) (x := l[j]) (y := p) (List.getElem?_eq_getElem hj) (k := 0) (by omega) (v := .complex .f64 (fW p.1) (fW p.2)) (by simp [gX]) (by simp [gX]) (fun k' hk' => by
    cases k' with
    | zero => exact absurd rfl hk'
    | succ k' => simp [gX])
  simpa using this
def lightL (wts : List (Nat × Nat)) (x : Int) : Int := ((wts.getD x.toNat (0, 0)).1 : Int) + 8 * ((wts.getD x.toNat (0, 0)).2 : Int)
def cmpL (wts : List (Nat × Nat)) (x y : Int) : Int := lightL wts y - lightL wts x
def SmW (wts : List (Nat × Nat)) : Prop := ∀ p ∈ wts, p.1 ≤ 1000 ∧ p.2 ≤ 4000000
theorem PX.only {w W : World} {b ob : Nat} {l : List (Nat × Nat)} (h : PX w b l) (ho : OnlyC w W ob) (hne : b ≠ ob) : PX W b l := Pre.of_heap h (ho.blk b (Pre.lt h) hne)
set_option maxRecDepth 1000000 in
set_option maxHeartbeats 4000000 in
theorem cmpL_any (wts : List (Nat × Nat)) (hs : SmW wts) (wb xb R ob : Nat) (cap : Nat) (hl : wts.length = R) (w : World) (hx : PX w xb wts) (hwl : wb < w.heap.size) (hw : w.cell? ⟨wb, 0, none⟩ = some (.slice (some ⟨xb, 0, none⟩) R cap)) (hwb : wb ≠ ob) (hxb : xb ≠ ob) :
    CmpT w ob wb (fun x => 0 ≤ x ∧ x < (R : Int)) (cmpL wts) := by
  intro x y W hdx hdy hO
  obtain ⟨i, rfl⟩ : ∃ i : Nat, x = i := ⟨x.toNat, by omega⟩
  obtain ⟨j, rfl⟩ : ∃ j : Nat, y = j := ⟨y.toNat, by omega⟩
  have hi : i < R := by omega
  have hj : j < R := by omega
  have hX := hx.only hO hxb
  obtain ⟨p, hp⟩ : ∃ p, wts[i]? = some p := ⟨_, List.getElem?_eq_getElem (by omega)⟩
  obtain ⟨q, hq⟩ : ∃ q, wts[j]? = some q := ⟨_, List.getElem?_eq_getElem (by omega)⟩
  have hsp := hs p (List.mem_of_getElem? hp)
  have hsq := hs q (List.mem_of_getElem? hq)
  have hc : cmpL wts (i : Int) (j : Int) = ((q.1 : Int) + 8 * q.2) - ((p.1 : Int) + 8 * p.2) := by
    unfold cmpL lightL
    rw [Int.toNat_natCast, Int.toNat_natCast, List.getD_eq_getElem?_getD, List.getD_eq_getElem?_getD, hp, hq]
    rfl
  rw [hc]
  have d0 : W.cell? ⟨wb, 0, none⟩ = some (.slice (some ⟨xb, 0, none⟩) R cap) := by
    unfold World.cell? at hw ⊢
    rw [hO.blk wb hwl hwb]
    exact hw
  have d1 := hX.get hp
  have d2 := hX.get hq
  have HP : Hid (∀ W', Calls Try.prog 37 #[.complex .f64 (fW p.1) (fW p.2)] W' fun e w' => e = .returned (.int .i64 ((p.1 : Int) + 8 * p.2)) ∧ Below W'.heap.size W' w') := Lib.hid fun W' =>
    (Light_any _ _ p.1 p.2 (fW_fv _ (by omega)) (fW_fv _ (by omega)) (by omega) (by omega) W').mono (by rintro e w' ⟨rfl, rfl⟩; exact ⟨rfl, Below.refl _ _⟩)
  have HQ : Hid (∀ W', Calls Try.prog 37 #[.complex .f64 (fW q.1) (fW q.2)] W' fun e w' => e = .returned (.int .i64 ((q.1 : Int) + 8 * q.2)) ∧ Below W'.heap.size W' w') := Lib.hid fun W' =>
    (Light_any _ _ q.1 q.2 (fW_fv _ (by omega)) (fW_fv _ (by omega)) (by omega) (by omega) W').mono (by rintro e w' ⟨rfl, rfl⟩; exact ⟨rfl, Below.refl _ _⟩)
  have hpb : (0 : Int) ≤ (p.1 : Int) + 8 * p.2 ∧ (p.1 : Int) + 8 * p.2 ≤ 100000000 := by omega
  have hqb : (0 : Int) ≤ (q.1 : Int) + 8 * q.2 ∧ (q.1 : Int) + 8 * q.2 ≤ 100000000 := by omega
  generalize (p.1 : Int) + 8 * p.2 = P at *
  generalize (q.1 : Int) + 8 * q.2 = Q at *
  generalize fW p.1 = p1 at *
  generalize fW p.2 = p2 at *
  generalize fW q.1 = q1 at *
  generalize fW q.2 = q2 at *
  have p0 := hpb.1
  have p3 := hpb.2
  have q0 := hqb.1
  have q3 := hqb.2
  have hii : (i : Int) < R := by omega
  have hji : (j : Int) < R := by omega
  clear hpb hqb hsp hsq hc hX hO hx hw hs hl hp hq hdx hdy
  go_enter Try.func40, Try.ntmps40
  go_upto_region 1 with fail
  have t0 := fun s : Later W => Later.cell d0 s
  have t1 := fun s : Later W => Later.cell d1 s
  have t2 := fun s : Later W => Later.cell d2 s
  refine wp_region_later (by kernel_rfl) (by kernel_rfl) ?_
  iterate 5 (go_big_quiet_step ((go_at_call 37; exact Calls.later (HQ.out _))))
  repeat (go_big_quiet_step ((go_at_call 37; exact Calls.later (HP.out _))))
  refine wpQuiet_nil ?_
  rintro w4 ⟨s', rfl⟩
  have HB4 := Lib.hid s'.h
  go_wp2
  go_returns
  exact ⟨rfl, HB4.out⟩
end Go.Proofs.Ythbcdckonaljiaa
