import Derived.Test.YtihbgppcacaekaaDoorTe
import Derived.Test.YtihbgppcacaekaaDoorPe
import Derived.Test.YtihbgppcacaekaaDoorRg
/- MachOrder. -/
namespace Go.Proofs.YtihbgppcacaekaaDoor
open Go.RowKit Go.BigFrame

theorem sIm : (Tryd.prog.info? 25).map (·.size) = some 3 := by kernel_rfl
theorem uIm : Tryd.prog.underlying 25 = some (.struct (Tryd.prog.fieldsOf 25)) := by kernel_rfl
def gx (g : Gb) : Gb := { g with name := g.name ++ ⟨#[120]⟩ }
section
variable {P : Program} {ρ : Operand → Value} {o : Oper} {w : World}
theorem runT_pick (c x y : Operand) (ho : o.op = .pick c x y) (b : Bool) (hc : ρ c = .bool b) : (execOp ρ o).run P w = .ok (.value (if b then ρ x else ρ y)) w := by
  unfold execOp
  simp only [ho, hc, asBool, Sem.run_bind, Sem.run_pure, Result.andThen_ok]
theorem runT_eqb (x y : Operand) (ho : o.op = .binOp .eql 4 x y 4) (b : Bool) (hx : ρ x = .bool b) (hy : ρ y = .bool b) : (execOp ρ o).run Tryd.prog w = .ok (.value (.bool true)) w := by
  unfold execOp
  simp only [ho, hx, hy]
  cases b <;> kernel_rfl
end
/-- what the last region has told -/
def OrG (iU iV inp f : Value) (r : Rs) (rm : Bool) : Nat → Value → World → Prop
  | 0, v, _ => v = iU
  | 1, v, _ => v = .bool rm
  | 2, v, _ => v = iV
  | 3, v, _ => v = .bool rm
  | 4, v, _ => v = .bool true
  | 5, v, _ => v = .bool true
  | 6, v, _ => v = iU
  | 7, v, _ => v = inp
  | 8, v, _ => v = f
  | 9, v, w => ∃ A cap, v = reAgg r A cap ∧ RdBc w A r.outp cap
  | 10, v, _ => v = iV
  | 11, v, _ => v = inp
  | 12, v, _ => v = f
  | 13, v, w => ∃ A cap, v = reAgg r A cap ∧ RdBc w A r.outp cap
  | _, v, _ => v = .bool true
theorem OrG.grow {iU iV inp f : Value} {r : Rs} {rm : Bool} : ∀ i v w w', Below w.heap.size w w' → OrG iU iV inp f r rm i v w → OrG iU iV inp f r rm i v w'
  | 0, _, _, _, _, h => h
  | 1, _, _, _, _, h => h
  | 2, _, _, _, _, h => h
  | 3, _, _, _, _, h => h
  | 4, _, _, _, _, h => h
  | 5, _, _, _, _, h => h
  | 6, _, _, _, _, h => h
  | 7, _, _, _, _, h => h
  | 8, _, _, _, _, h => h
  | 9, _, _, _, hb, ⟨A, cap, e, hr⟩ => ⟨A, cap, e, hr.below hb⟩
  | 10, _, _, _, _, h => h
  | 11, _, _, _, _, h => h
  | 12, _, _, _, _, h => h
  | 13, _, _, _, hb, ⟨A, cap, e, hr⟩ => ⟨A, cap, e, hr.below hb⟩
  | _ + 14, _, _, _, _, h => h
set_option maxRecDepth 1000000 in
set_option maxHeartbeats 16000000 in
theorem machOrder_any (u : Im) (F G : Option Addr) (cF cG : Nat) (by_ : Nat) (hby_ : by_ ≤ 255) (I : Option Addr) (icap : Nat) (inp : List Int) (fuel : Int) (w : World) (hT : Tabs w) (h : RdU w F G u) (hI : RdB w I inp) (hic : inp.length ≤ icap) (hby : ∀ a ∈ inp, 0 ≤ a ∧ a ≤ 255) (htop : u.top ≤ 9223372036854775807) (hlc : u.objs.length ≤ cF) :
    Calls Tryd.prog 7 #[imAgg u F G cF cG, .int .u8 by_, .slice I inp.length icap, .int .i64 fuel] w fun e w' => e = .returned (.bool true) ∧ Below w.heap.size w w' := by
  have HT := Lib.hid hT
  have HLC := Lib.hid hlc
  clear hlc
  obtain ⟨N, hN⟩ : ∃ N, u.objs.length = N := ⟨_, rfl⟩
  obtain ⟨M, hM⟩ : ∃ M, u.globs.length = M := ⟨_, rfl⟩
  obtain ⟨n, hn⟩ : ∃ n, inp.length = n := ⟨_, rfl⟩
  have hb0 := Below.one w (imObj u F G cF cG)
  have hx := heap_alloc_new w (imObj u F G cF cG)
  have hfew := Few_any u F G cF cG (w.alloc (imObj u F G cF cG)) (h.below hb0)
  have hU := h.below hb0
  have hI0 := hI.below hb0
  obtain ⟨W, hW⟩ : ∃ W, w.alloc (imObj u F G cF cG) = W := ⟨_, rfl⟩
  rw [hW] at hb0 hx hfew hU hI0
  simp only [imObj, imAgg, hN, hM] at hx hW hfew ⊢
  rw [hn]
  have HB0 := Lib.hid hb0
  have HX := Lib.hid hx
  have HU := Lib.hid hU
  have HI := Lib.hid hI0
  have HN := Lib.hid hN
  have HM := Lib.hid hM
  have HNL := Lib.hid hn
  have HIC := Lib.hid hic
  have HBY := Lib.hid hby
  have HTOP := Lib.hid htop
  have hlt : w.heap.size < W.heap.size := (Array.getElem?_eq_some_iff.1 hx).1
  have g0 := cell_of_heap hx 0 _ rfl
  have g1 := cell_of_heap hx 1 _ rfl
  have g2 := cell_of_heap hx 2 _ rfl
  clear hT hb0 hx hU hI0 h hI hic hby htop hN hM hn
  go_enter Tryd.func7, Tryd.ntmps7
  go_wp2_with fail
  refine hfew.mono ?_
  rintro e w1 ⟨⟨ok, rfl, hok⟩, hb1⟩
  have HB6 := Lib.hid (HB0.out.trans (hb1.mono HB0.out.size))
  have HX1 := Lib.hid (keepB hb1 HX.out)
  have HU1 := Lib.hid (HU.out.below hb1)
  have HI1 := Lib.hid (HI.out.below hb1)
  have hT6 := HT.out.below HB6.out
  have hlt1 : w.heap.size < w1.heap.size := Nat.lt_of_lt_of_le hlt hb1.size
  have HOK := Lib.hid hok
  clear hfew g0 g1 g2 hok hb1 hW
  cases ok
  case false =>
    go_wp2_with fail
    refine (awake_any _ hT6).mono ?_
    rintro e w7 ⟨rfl, hb7⟩
    go_wp2
    go_returns
    exact ⟨rfl, HB6.out.trans (hb7.mono HB6.out.size)⟩
  have HFEW : Hid (FewM u) := Lib.hid (HOK.out.1 rfl)
  by_cases hbig : 200 < n
  · have q1 : decide ((n : Int) > 200) = true := by simp; omega
    have q2 : decide (200 < (n : Int)) = true := by simp; omega
    go_wp2_with fail
    refine (awake_any _ hT6).mono ?_
    rintro e w7 ⟨rfl, hb7⟩
    go_wp2
    go_returns
    exact ⟨rfl, HB6.out.trans (hb7.mono HB6.out.size)⟩
  have q1 : decide ((n : Int) > 200) = false := by simp; omega
  have q2 : decide (200 < (n : Int)) = false := by simp; omega
  by_cases hfu : 5000 < fuel
  · have q3 : decide (fuel > 5000) = true := by simp; omega
    have q4 : decide (5000 < fuel) = true := by simp; omega
    go_wp2_with fail
    refine (awake_any _ hT6).mono ?_
    rintro e w7 ⟨rfl, hb7⟩
    go_wp2
    go_returns
    exact ⟨rfl, HB6.out.trans (hb7.mono HB6.out.size)⟩
  have q3 : decide (fuel > 5000) = false := by simp; omega
  have q4 : decide (5000 < fuel) = false := by simp; omega
  have HFU : Hid (fuel ≤ 5000) := Lib.hid (by omega)
  have HN6 : Hid (N ≤ 6) := Lib.hid (by have := HFEW.out.1; rw [HN.out] at this; exact this)
  have HM10 : Hid (M ≤ 10) := Lib.hid (by have := HFEW.out.2.1; rw [HM.out] at this; exact this)
  have hx := HX1.out
  have g0 := cell_of_heap hx 0 _ rfl
  have g1 := cell_of_heap hx 1 _ rfl
  have g2 := cell_of_heap hx 2 _ rfl
  have hi1 := alloc_keeps hx (.cells #[.slice F N cF, .slice none 0 0, .int .i64 u.top] 25 (0, 0))
  have gz0 := cell_of_heap hi1 0 _ rfl
  have gz1 := cell_of_heap hi1 1 _ rfl
  have gz2 := cell_of_heap hi1 2 _ rfl
  have hn6 := HN6.out
  have hm10 := HM10.out
  clear hbig hfu hx
  go_upto_region 6 with fail
  have HA : Hid (GvS w1 (w1.alloc (.cells #[.slice F N cF, .slice none 0 0, .int .i64 u.top] 25 (0, 0))) F N cF u.top [] (.slice none 0 0) w1.heap.size) := Lib.hid ⟨Below.one w1 _, heap_alloc_new w1 _, OwnG.nil _ _, Nat.le_refl _, by simp⟩
  clear hi1 gz0 gz1 gz2 g0 g1 g2 q1 q2 q3 q4
  go_loopw [31] (fun ix wq => ∃ (k : Nat) (V : Value), k ≤ M ∧ ix = .int .i64 k ∧ GvS w1 wq F N cF u.top ((u.globs.take k).map gx) V w1.heap.size) (fun ix _ => M - (intOf ix).toNat)
  case atStart => exact ⟨0, .slice none 0 0, Nat.zero_le _, rfl, HA.out⟩
  case round =>
    obtain ⟨k, V, hk, rfl, hS⟩ := hrel
    have hlk : ((u.globs.take k).map gx).length = k := by rw [List.length_map, List.length_take, HM.out]; omega
    obtain ⟨A, cap, hV, hRd⟩ := hS.own.read
    simp only [hlk] at hV
    subst hV
    have HS := Lib.hid hS
    have HRD := Lib.hid hRd
    have HLK := Lib.hid hlk
    have HB7 := Lib.hid (HB6.out.trans (hS.b.mono HB6.out.size))
    clear hRd hlk
    by_cases hlt2 : k < M
    · obtain ⟨g, hg⟩ : ∃ g, u.globs[k]? = some g := ⟨_, List.getElem?_eq_getElem (by rw [HM.out]; exact hlt2)⟩
      obtain ⟨b, ofs, rfl, hbl, hcs⟩ := (HU1.out.gs.below hS.b) k g hg
      obtain ⟨x0, x1, x2, x3⟩ := gl_cells hcs
      have hnb := Below.one wr (.cells #[.string g.name, .int .i64 g.at_, .int .i64 g.size, .int .i64 g.init] 52 (0, 0))
      have z0 := cell_of_heap (heap_alloc_new wr (.cells #[.string g.name, .int .i64 g.at_, .int .i64 g.size, .int .i64 g.init] 52 (0, 0))) 0 _ rfl
      have z1 := cell_of_heap (heap_alloc_new wr (.cells #[.string g.name, .int .i64 g.at_, .int .i64 g.size, .int .i64 g.init] 52 (0, 0))) 1 _ rfl
      have z2 := cell_of_heap (heap_alloc_new wr (.cells #[.string g.name, .int .i64 g.at_, .int .i64 g.size, .int .i64 g.init] 52 (0, 0))) 2 _ rfl
      have z3 := cell_of_heap (heap_alloc_new wr (.cells #[.string g.name, .int .i64 g.at_, .int .i64 g.size, .int .i64 g.init] 52 (0, 0))) 3 _ rfl
      have HB8 := Lib.hid (HB7.out.trans (hnb.mono HB7.out.size))
      have hT8 := HT.out.below HB8.out
      have HGG := Lib.hid hg
      clear hcs hS hnb hg
      by_cases h50 : 50 < g.name.size
      · have q1 : decide ((g.name.size : Int) > 50) = true := by simp; omega
        have q2 : decide (50 < (g.name.size : Int)) = true := by simp; omega
        go_wp2_with fail
        refine (awake_any _ hT8).mono ?_
        rintro e w7 ⟨rfl, hb7⟩
        go_wp2
        go_returns
        exact ⟨rfl, HB8.out.trans (hb7.mono HB8.out.size)⟩
      have q1 : decide ((g.name.size : Int) > 50) = false := by simp; omega
      have q2 : decide (50 < (g.name.size : Int)) = false := by simp; omega
      have t1 : ¬ 9223372036854775807 < g.name.size + 1 := by omega
      have hs10 := HS.out.later (Below.one wr (gbObj (gx g)))
      have hs11 := hs10.later (Below.one (wr.alloc (gbObj (gx g))) (gbObj (gx g)))
      have HS11 : Hid (GvS w1 ((wr.alloc (.cells #[.string (g.name ++ ⟨#[120]⟩), .int .i64 g.at_, .int .i64 g.size, .int .i64 g.init] 52 (0, 0))).alloc (.cells #[.string (g.name ++ ⟨#[120]⟩), .int .i64 g.at_, .int .i64 g.size, .int .i64 g.init] 52 (0, 0))) F N cF u.top ((u.globs.take k).map gx) (.slice A k cap) w1.heap.size) := Lib.hid hs11
      have y1 : (wr.alloc (.cells #[.string (g.name ++ ⟨#[120]⟩), .int .i64 g.at_, .int .i64 g.size, .int .i64 g.init] 52 (0, 0))).cell? ⟨w1.heap.size, 1, none⟩ = some (.slice A k cap) := cell_of_heap hs10.box 1 _ rfl
      have HG11 : Hid (((wr.alloc (.cells #[.string (g.name ++ ⟨#[120]⟩), .int .i64 g.at_, .int .i64 g.size, .int .i64 g.init] 52 (0, 0))).alloc (.cells #[.string (g.name ++ ⟨#[120]⟩), .int .i64 g.at_, .int .i64 g.size, .int .i64 g.init] 52 (0, 0))).heap[wr.heap.size + 1]? = some (gbObj (gx g))) := Lib.hid (by have := heap_alloc_new (wr.alloc (.cells #[.string (g.name ++ ⟨#[120]⟩), .int .i64 g.at_, .int .i64 g.size, .int .i64 g.init] 52 (0, 0))) (.cells #[.string (g.name ++ ⟨#[120]⟩), .int .i64 g.at_, .int .i64 g.size, .int .i64 g.init] 52 (0, 0)); rw [show (wr.alloc (.cells #[.string (g.name ++ ⟨#[120]⟩), .int .i64 g.at_, .int .i64 g.size, .int .i64 g.init] 52 (0, 0))).heap.size = wr.heap.size + 1 by simp] at this; exact this)
      have c0 := cell_of_heap (heap_alloc_new wr (.cells #[.string (g.name ++ ⟨#[120]⟩), .int .i64 g.at_, .int .i64 g.size, .int .i64 g.init] 52 (0, 0))) 0 _ rfl
      have c1 := cell_of_heap (heap_alloc_new wr (.cells #[.string (g.name ++ ⟨#[120]⟩), .int .i64 g.at_, .int .i64 g.size, .int .i64 g.init] 52 (0, 0))) 1 _ rfl
      have c2 := cell_of_heap (heap_alloc_new wr (.cells #[.string (g.name ++ ⟨#[120]⟩), .int .i64 g.at_, .int .i64 g.size, .int .i64 g.init] 52 (0, 0))) 2 _ rfl
      have c3 := cell_of_heap (heap_alloc_new wr (.cells #[.string (g.name ++ ⟨#[120]⟩), .int .i64 g.at_, .int .i64 g.size, .int .i64 g.init] 52 (0, 0))) 3 _ rfl
      have hlk6 : k ≤ 10 := by omega
      clear hs10 hs11 h50
      go_wp2_with (first
        | (show wpList Tryd.prog _ _ (⟨some 48, _, _, _, _, _⟩ :: _) _ _; refine wpList_append_gb rfl (.tmp 45) (.tmp 47) rfl w1.heap.size (.slice A k cap) ((u.globs.take k).map gx) rfl HS11.out.own (wr.heap.size + 1) (gx g) rfl HG11.out (by rw [HLK.out]; omega) HS11.out.b.size ?_; intro V' w12 ho12 hg12;
           have HS12 := Lib.hid (HS11.out.push (gx g) hg12 ho12);
           have hx12 := (hg12.block _ HS11.out.hi (own_ne HS11.out.own HS11.out.box (by decide)).symm).trans HS11.out.box;
           obtain ⟨A12, c12, hv12, _⟩ := OwnG.read ho12;
           subst hv12;
           have v12 := cell_of_heap hx12 1 _ rfl;
           have f12 := free_of_heap hx12 1;
           clear hx12 ho12 hg12))
      have htk : (u.globs.take k).map gx ++ [gx g] = (u.globs.take (k + 1)).map gx := by
        rw [List.take_add_one, HGG.out, List.map_append]
        rfl
      exact ⟨⟨k + 1, _, by omega, by go_num, by have := HS12.out; simp only [htk] at this; rw [show ((u.globs.take (k + 1)).map gx).length = min k u.globs.length + 1 by rw [← htk]; simp] at this; exact this⟩, by simp [intOf]; omega⟩
    · obtain rfl : k = M := by omega
      have htk : (u.globs.take k).map gx = u.globs.map gx := by rw [List.take_of_length_le (by rw [HM.out]; exact Nat.le_refl _)]
      rw [htk] at HS HRD
      have hix := (hS.b.block _ hlt1).trans HX1.out
      have g0 := cell_of_heap hix 0 _ rfl
      have HIX := Lib.hid hix
      clear htk hix hlt2 hk HLK hS HA
      go_upto_region 14 with fail
      obtain ⟨kk, hkk⟩ : ∃ kk : Nat, by_ % (N + 1) = kk := ⟨_, rfl⟩
      have hkN : kk ≤ N := by have := Nat.mod_lt by_ (show 0 < N + 1 by omega); omega
      have hkc : ((by_ : Int) % ((N : Int) + 1)) = (kk : Int) := by rw [← hkk]; push_cast; rfl
      rw [hkc]
      obtain ⟨L, hLm, hLX⟩ := rdX_of HU1.out.fs
      have hLl : L.length = N := by rw [← HN.out, ← hLm, List.length_map]
      obtain ⟨V1, V2, hs1, hs2, ha1, ha2⟩ := obj_parts hLX hLl hkN (by rw [← HN.out]; exact HLC.out) HN6.out
      have HS1 := Lib.hid hs1
      have HS2 := Lib.hid hs2
      have HP1 := Lib.hid ha1
      have HP2 := Lib.hid ha2
      have HLM := Lib.hid hLm
      have HLX := Lib.hid hLX
      have HLL := Lib.hid hLl
      have hlr : w.heap.size < wr.heap.size := (Array.getElem?_eq_some_iff.1 HIX.out).1
      clear hkk hkc hs1 hs2 ha1 ha2 hLm hLX hLl g0
      refine wp_region_noPanic ?_
      obtain ⟨vals, hvals⟩ : ∃ vals : List Value, vals = [undef, .pointer (some ⟨w.heap.size, 0, none⟩), .slice F N cF, .int .i64 kk, V1, undef, .pointer (some ⟨w.heap.size, 0, none⟩), .slice F N cF, .int .i64 kk, V2, undef] := ⟨_, rfl⟩
      have HV := Lib.hid hvals
      clear hvals
      refine wp_region_grown 11 (RtJ wr (L.drop kk) (L.take kk) vals) (by kernel_rfl) (by kernel_rfl) ?_ ?_ ?_
      · exact ⟨(Below.refl _ _).drew, (fun i v h => by cases h), fun _ => rfl, fun _ => rfl, (fun v h => by cases h), (fun v h => by cases h), (fun v h => by cases h)⟩
      · intro i op σ wq hi ho hI hsi hdep
        have hz : ∀ (j : Nat) v', ([undef, .pointer (some ⟨w.heap.size, 0, none⟩), .slice F N cF, .int .i64 kk, V1, undef, .pointer (some ⟨w.heap.size, 0, none⟩), .slice F N cF, .int .i64 kk, V2, undef] : List Value)[j]? = some v' → vals[j]? = some v' := fun j v' h => by rw [HV.out]; exact h
        have c0 := cell_of_heap ((hI.b.block _ hlr).trans HIX.out) 0 _ rfl
        have hbq : Below w1.heap.size w1 wq := HS.out.b.trans (hI.b.mono HS.out.b.size)
        rcases (by omega : i = 0 ∨ i = 1 ∨ i = 2 ∨ i = 3 ∨ i = 4 ∨ i = 5 ∨ i = 6 ∨ i = 7 ∨ i = 8 ∨ i = 9 ∨ i = 10) with rfl | rfl | rfl | rfl | rfl | rfl | rfl | rfl | rfl | rfl | rfl
        all_goals (simp only [List.getElem?_cons_zero, List.getElem?_cons_succ] at ho; obtain rfl := Option.some.inj ho)
        · exact Or.inl ⟨_, _, bslT _ 0 #[] rfl #[] (by simp) (bsl_0 wq), hI.op0 hsi⟩
        · exact Or.inl ⟨_, _, fldT _ 0 (.tmp 4) rfl _ (by rw [evalT_old (by kernel_rfl)]; rfl) (fm_0 wq w.heap.size), hI.quiet 1 _ (by omega) (hz 1 _ rfl)⟩
        · have e1 := hI.told (j := 1) (by omega) (hz 1 _ rfl) (hdep ⟨1, .data⟩ (by simp) rfl)
          exact Or.inl ⟨_, _, ldT _ (.tmp 59) rfl _ _ (evalT_told 1 (by kernel_rfl) e1) c0 (naO _), hI.quiet 2 _ (by omega) (hz 2 _ rfl)⟩
        · exact Or.inl ⟨_, _, (runT_move (.tmp 12) rfl).trans (by rw [evalT_old (by kernel_rfl)]; rfl), hI.quiet 3 _ (by omega) (hz 3 _ rfl)⟩
        · have e2 := hI.told (j := 2) (by omega) (hz 2 _ rfl) (hdep ⟨2, .data⟩ (by simp) rfl)
          have e3 := hI.told (j := 3) (by omega) (hz 3 _ rfl) (hdep ⟨3, .data⟩ (by simp) rfl)
          exact Or.inl ⟨_, _, HS1.out _ _ wq (.tmp 60) (.tmp 61) rfl (evalT_told 2 (by kernel_rfl) e2) (evalT_told 3 (by kernel_rfl) e3), hI.quiet 4 _ (by omega) (hz 4 _ rfl)⟩
        · obtain ⟨v0, e0⟩ := some_of (hdep ⟨0, .data⟩ (by simp) rfl)
          have e4 := hI.told (j := 4) (by omega) (hz 4 _ rfl) (hdep ⟨4, .data⟩ (by simp) rfl)
          obtain ⟨V', w', hr, ho, hg⟩ := HP1.out wq wr.heap.size v0 [] hbq (hI.g0 v0 e0 hsi) (by simp) hI.b.size
          exact Or.inl ⟨_, _, appT _ (.tmp 58) (.tmp 62) rfl _ _ (evalT_told 0 (by kernel_rfl) e0) (evalT_told 4 (by kernel_rfl) e4) hr, hI.op5 hsi e0 ho hg⟩
        · exact Or.inl ⟨_, _, fldT _ 0 (.tmp 4) rfl _ (by rw [evalT_old (by kernel_rfl)]; rfl) (fm_0 wq w.heap.size), hI.quiet 6 _ (by omega) (hz 6 _ rfl)⟩
        · have e6 := hI.told (j := 6) (by omega) (hz 6 _ rfl) (hdep ⟨6, .data⟩ (by simp) rfl)
          exact Or.inl ⟨_, _, ldT _ (.tmp 64) rfl _ _ (evalT_told 6 (by kernel_rfl) e6) c0 (naO _), hI.quiet 7 _ (by omega) (hz 7 _ rfl)⟩
        · exact Or.inl ⟨_, _, (runT_move (.tmp 12) rfl).trans (by rw [evalT_old (by kernel_rfl)]; rfl), hI.quiet 8 _ (by omega) (hz 8 _ rfl)⟩
        · have e7 := hI.told (j := 7) (by omega) (hz 7 _ rfl) (hdep ⟨7, .data⟩ (by simp) rfl)
          have e8 := hI.told (j := 8) (by omega) (hz 8 _ rfl) (hdep ⟨8, .data⟩ (by simp) rfl)
          exact Or.inl ⟨_, _, HS2.out _ _ wq (.tmp 65) (.tmp 66) rfl (evalT_told 7 (by kernel_rfl) e7) (evalT_told 8 (by kernel_rfl) e8), hI.quiet 9 _ (by omega) (hz 9 _ rfl)⟩
        · obtain ⟨v5, e5⟩ := some_of (hdep ⟨5, .data⟩ (by simp) rfl)
          have e9 := hI.told (j := 9) (by omega) (hz 9 _ rfl) (hdep ⟨9, .data⟩ (by simp) rfl)
          obtain ⟨V', w', hr, ho, hg⟩ := HP2.out wq wr.heap.size v5 (L.drop kk) hbq (hI.g5 v5 e5 hsi) (by rw [List.length_drop, HLL.out]; omega) hI.b.size
          exact Or.inl ⟨_, _, appT _ (.tmp 63) (.tmp 67) rfl _ _ (evalT_told 5 (by kernel_rfl) e5) (evalT_told 9 (by kernel_rfl) e9) hr, hI.opA hsi e5 ho hg⟩
      · intro σ wq hI hsome
        obtain ⟨v0, e0⟩ := some_of (hsome 0 (by omega))
        obtain ⟨v1, e1⟩ := some_of (hsome 1 (by omega))
        obtain ⟨v2, e2⟩ := some_of (hsome 2 (by omega))
        obtain ⟨v3, e3⟩ := some_of (hsome 3 (by omega))
        obtain ⟨v4, e4⟩ := some_of (hsome 4 (by omega))
        obtain ⟨v5, e5⟩ := some_of (hsome 5 (by omega))
        obtain ⟨v6, e6⟩ := some_of (hsome 6 (by omega))
        obtain ⟨v7, e7⟩ := some_of (hsome 7 (by omega))
        obtain ⟨v8, e8⟩ := some_of (hsome 8 (by omega))
        obtain ⟨v9, e9⟩ := some_of (hsome 9 (by omega))
        obtain ⟨v10, e10⟩ := some_of (hsome 10 (by omega))
        have hown := hI.gA v10 e10
        have HBQ : Hid (Below w1.heap.size w1 wq) := Lib.hid (HS.out.b.trans (hI.b.mono HS.out.b.size))
        have hlines : ∀ W', Below w1.heap.size w1 W' → ∀ x ∈ L.drop kk ++ L.take kk, RdL W' x.2.1 x.1.lines := fun W' hb x hx => by
          have hm : x ∈ L := by
            rcases List.mem_append.1 hx with hx | hx
            · exact List.mem_of_mem_drop hx
            · exact List.mem_of_mem_take hx
          exact rdX_lines HLX.out x hm hb
        obtain ⟨A2, cap2, hv10, _⟩ := hown.read (hlines wq HBQ.out)
        have hlen : (L.drop kk ++ L.take kk).length = N := by rw [List.length_append, List.length_drop, List.length_take, HLL.out]; omega
        rw [hlen] at hv10
        subst hv10
        have hgv := HS.out.later hI.b
        have HGV := Lib.hid hgv
        have t0 := cell_of_heap hgv.box 0 _ rfl
        have f0 := free_of_heap hgv.box 0
        have HOWN := Lib.hid hown
        have HLN := Lib.hid hlines
        have HIXq := Lib.hid ((hI.b.block _ hlr).trans HIX.out)
        simp only [List.take_succ_cons, List.take_zero, List.drop_succ_cons, List.drop_zero, putsT, e0, e1, e2, e3, e4, e5, e6, e7, e8, e9, e10, Option.getD_some]
        clear hI hsome e0 e1 e2 e3 e4 e5 e6 e7 e8 e9 e10 hown hlines hgv hlen
        go_frame
        go_wp2_with fail
        refine NoPanic.normal ?_
        generalize hwf : wq.setCell ⟨w1.heap.size, 0, none⟩ (.slice A2 N cap2) = wf
        have hbox2 : wf.heap[w1.heap.size]? = some (.cells #[.slice A2 N cap2, .slice A k cap, .int .i64 u.top] 25 (0, 0)) := by rw [← hwf]; exact heap_setCell (j := 0) HGV.out.box _
        have hbf : Below w1.heap.size w1 wf := by rw [← hwf]; exact HBQ.out.setCell (p := ⟨w1.heap.size, 0, none⟩) (Nat.le_refl _) _
        have hown2 : OwnO wf wr.heap.size (.slice A2 N cap2) (L.drop kk ++ L.take kk) := by
          rw [← hwf]
          exact ownsRow_keep HOWN.out fun g _ _ cur hcu => heap_setCell_other wq ⟨w1.heap.size, 0, none⟩ g _ (ty_ne hcu HGV.out.box (by decide))
        have hown3 : OwnG wf w1.heap.size (.slice A k cap) (u.globs.map gx) := by
          rw [← hwf]
          exact ownsRow_keep HGV.out.own fun g _ _ cur hcu => heap_setCell_other wq ⟨w1.heap.size, 0, none⟩ g _ (ty_ne hcu HGV.out.box (by decide))
        obtain ⟨A', cap', hAe, hrx⟩ := hown2.read (HLN.out wf hbf)
        have hA' : A2 = A' := by injection hAe
        subst hA'
        obtain ⟨G', capG, hGe, hrg⟩ := hown3.read
        have hG' : A = G' := by injection hGe
        subst hG'
        have hro := hrx.rdO
        have hobj : (L.drop kk ++ L.take kk).map (·.1) = u.objs.drop kk ++ u.objs.take kk := by rw [List.map_append, List.map_drop, List.map_take, HLM.out]
        rw [hobj] at hro
        obtain ⟨v, hv⟩ : ∃ v : Im, v = ⟨u.objs.drop kk ++ u.objs.take kk, u.globs.map gx, u.top⟩ := ⟨_, rfl⟩
        have hal : Alike u v := by
          rw [hv]
          refine ⟨?_, by simp [gx, List.map_map, Function.comp_def], rfl⟩
          show u.objs.Perm (u.objs.drop kk ++ u.objs.take kk)
          conv => lhs; rw [← List.take_append_drop kk u.objs]
          exact List.perm_append_comm
        have hvo : v.objs.length = N := by rw [← hal.perm.length_eq, HN.out]
        have hvg : v.globs.length = k := by rw [hv]; show (u.globs.map gx).length = k; rw [List.length_map, HM.out]
        have hvt : v.top = u.top := by rw [hv]
        have hRU : RdU wf A2 A v := by rw [hv]; exact ⟨hro, hrg⟩
        have hvl : ∀ o ∈ v.objs, o.lines.length ≤ 1000000 := fun o ho => by
          have := (HFEW.out.2.2 o (hal.perm.mem_iff.2 ho)).2.1
          omega
        have HRUN := Lib.hid (hal.run inp fuel)
        have HRIG := Lib.hid hal.right
        have HVO := Lib.hid hvo
        have HVG := Lib.hid hvg
        have HVT := Lib.hid hvt
        have HRU := Lib.hid hRU
        have HVL := Lib.hid hvl
        have HBF := Lib.hid hbf
        have HBX := Lib.hid hbox2
        have hltf : w1.heap.size < wf.heap.size := (Array.getElem?_eq_some_iff.1 hbox2).1
        have HIXf := Lib.hid ((hbf.block _ hlt1).trans HX1.out)
        clear hwf hbox2 hbf hown2 hown3 hAe hrx hGe hrg hro hobj hv hal hvo hvg hvt hRU hvl t0 f0
        go_upto_region 15 with fail
        have HTF : Hid (Tabs wf) := Lib.hid (hT6.below HBF.out)
        have HQU : Hid (∀ W', Below wf.heap.size wf W' → Calls Tryd.prog 20 #[(.agg #[.slice F N cF, .slice G k cG, .int .i64 u.top])] W' fun e w' => e = .returned (.bool (rightM u)) ∧ Below W'.heap.size W' w') := Lib.hid (fun W' hb => by
          have hb1 := HBF.out.trans (hb.mono HBF.out.size)
          have := Right_any u F G cF cG W' (HTF.out.below hb) (HU1.out.below hb1) (by have := HFEW.out.1; omega) (by have := HFEW.out.2.1; omega) (fun o ho => by have := (HFEW.out.2.2 o ho).2.1; omega) HTOP.out
          simp only [imAgg, HN.out, HM.out] at this
          exact this)
        have HQV : Hid (∀ W', Below wf.heap.size wf W' → Calls Tryd.prog 20 #[(.agg #[.slice A2 N cap2, .slice A k cap, .int .i64 u.top])] W' fun e w' => e = .returned (.bool (rightM u)) ∧ Below W'.heap.size W' w') := Lib.hid (fun W' hb => by
          have := Right_any v A2 A cap2 cap W' (HTF.out.below hb) (HRU.out.below hb) (by rw [HVO.out]; omega) (by rw [HVG.out]; omega) HVL.out (by rw [HVT.out]; exact HTOP.out)
          simp only [imAgg, HVO.out, HVG.out, HVT.out] at this
          rw [← HRIG.out] at this
          exact this)
        have HSU : Hid (∀ W', Below wf.heap.size wf W' → Calls Tryd.prog 13 #[(.agg #[.slice F N cF, .slice G k cG, .int .i64 u.top]), .slice I n icap, .int .i64 fuel] W' fun e w' => RunT (runM u inp fuel) e w' ∧ Below W'.heap.size W' w') := Lib.hid (fun W' hb => by
          have hb1 := HBF.out.trans (hb.mono HBF.out.size)
          have := Run_any u F G cF cG I icap inp fuel W' (HTF.out.below hb) (HU1.out.below hb1) (HI1.out.below hb1) HIC.out HBY.out (by have := HFEW.out.1; omega) (by have := HFEW.out.2.1; omega) (fun o ho => by have := (HFEW.out.2.2 o ho).2.1; omega) HTOP.out (by have := HFU.out; omega)
          simp only [imAgg, HN.out, HM.out, HNL.out] at this
          exact this)
        have HSV : Hid (∀ W', Below wf.heap.size wf W' → Calls Tryd.prog 13 #[(.agg #[.slice A2 N cap2, .slice A k cap, .int .i64 u.top]), .slice I n icap, .int .i64 fuel] W' fun e w' => RunT (runM u inp fuel) e w' ∧ Below W'.heap.size W' w') := Lib.hid (fun W' hb => by
          have hb1 := HBF.out.trans (hb.mono HBF.out.size)
          have := Run_any v A2 A cap2 cap I icap inp fuel W' (HTF.out.below hb) (HRU.out.below hb) (HI1.out.below hb1) HIC.out HBY.out (by rw [HVO.out]; omega) (by rw [HVG.out]; omega) HVL.out (by rw [HVT.out]; exact HTOP.out) (by have := HFU.out; omega)
          simp only [imAgg, HVO.out, HVG.out, HVT.out, HNL.out] at this
          rw [← HRUN.out] at this
          exact this)
        have HLR : Hid ((runM u inp fuel).outp.length ≤ 5000) := Lib.hid (run_len u inp (n := 5000) (by have := HFU.out; omega))
        obtain ⟨r, hr0⟩ : ∃ r, runM u inp fuel = r := ⟨_, rfl⟩
        rw [hr0] at HSU HSV HLR
        obtain ⟨rm, hrm⟩ : ∃ b, rightM u = b := ⟨_, rfl⟩
        rw [hrm] at HQU HQV
        have hlA : w.heap.size < wf.heap.size := (Array.getElem?_eq_some_iff.1 HIXf.out).1
        clear hr0 hrm
        refine wp_region_noPanic ?_
        refine wp_region_grown3 19 (IG wf.drew (OrG (.agg #[.slice F N cF, .slice G k cG, .int .i64 u.top]) (.agg #[.slice A2 N cap2, .slice A k cap, .int .i64 u.top]) (.slice I n icap) (.int .i64 fuel) r rm)) (by kernel_rfl) (by kernel_rfl) ?_ ?_ ?_
        · exact ⟨Below.refl _ _, fun i v h => by cases h⟩
        · intro i op s wq hi ho hI hsi hdep
          have hb : Below wf.heap.size wf wq := ((Below.refl _ wf).drew).trans hI.b
          have c0 := (hb.block _ hlA).trans HIXf.out
          have d0 := (hb.block _ hltf).trans HBX.out
          have hr := Below.refl wq.heap.size wq
          rcases (by omega : i = 0 ∨ i = 1 ∨ i = 2 ∨ i = 3 ∨ i = 4 ∨ i = 5 ∨ i = 6 ∨ i = 7 ∨ i = 8 ∨ i = 9 ∨ i = 10 ∨ i = 11 ∨ i = 12 ∨ i = 13 ∨ i = 14 ∨ i = 15 ∨ i = 16 ∨ i = 17 ∨ i = 18) with rfl | rfl | rfl | rfl | rfl | rfl | rfl | rfl | rfl | rfl | rfl | rfl | rfl | rfl | rfl | rfl | rfl | rfl | rfl
          all_goals (simp only [List.getElem?_cons_zero, List.getElem?_cons_succ] at ho; obtain rfl := Option.some.inj ho)
          · exact ⟨want_none rfl, Or.inl (Or.inl ⟨_, _, runT_load 25 (.tmp 4) rfl _ (by rw [evalT_old (by kernel_rfl)]; rfl) _ _ _ _ c0 uIm rfl sIm, hI.step OrG.grow hr 0 _ rfl⟩)⟩
          · obtain ⟨v0, e0⟩ := some_of (hdep ⟨0, .data⟩ (by simp) rfl)
            obtain rfl := hI.g 0 _ e0
            refine ⟨want_none rfl, Or.inl (Or.inr ⟨20, #[(.agg #[.slice F N cF, .slice G k cG, .int .i64 u.top])], runT_call 20 _ _ rfl rfl _ ?_ Tryd.func20 (by kernel_rfl) rfl, ?_⟩)⟩
            · simp only [List.map_toArray, List.map_cons, List.map_nil]
              rw [evalT_told 0 (by kernel_rfl) e0]
            · exact (HQU.out wq hb).mono fun e w' ⟨he, hb'⟩ => ⟨_, he, hI.step OrG.grow hb' 1 _ rfl⟩
          · exact ⟨want_none rfl, Or.inl (Or.inl ⟨_, _, runT_load 25 (.tmp 9) rfl _ (by rw [evalT_old (by kernel_rfl)]; rfl) _ _ _ _ d0 uIm rfl sIm, hI.step OrG.grow hr 2 _ rfl⟩)⟩
          · obtain ⟨v2, e2⟩ := some_of (hdep ⟨2, .data⟩ (by simp) rfl)
            obtain rfl := hI.g 2 _ e2
            refine ⟨want_none rfl, Or.inl (Or.inr ⟨20, #[(.agg #[.slice A2 N cap2, .slice A k cap, .int .i64 u.top])], runT_call 20 _ _ rfl rfl _ ?_ Tryd.func20 (by kernel_rfl) rfl, ?_⟩)⟩
            · simp only [List.map_toArray, List.map_cons, List.map_nil]
              rw [evalT_told 2 (by kernel_rfl) e2]
            · exact (HQV.out wq hb).mono fun e w' ⟨he, hb'⟩ => ⟨_, he, hI.step OrG.grow hb' 3 _ rfl⟩
          · obtain ⟨v1, e1⟩ := some_of (hdep ⟨1, .data⟩ (by simp) rfl)
            obtain rfl := hI.g 1 _ e1
            obtain ⟨v3, e3⟩ := some_of (hdep ⟨3, .data⟩ (by simp) rfl)
            obtain rfl := hI.g 3 _ e3
            exact ⟨want_none rfl, Or.inl (Or.inl ⟨_, _, runT_eqb (.tmp 71) (.tmp 73) rfl _ (evalT_told 1 (by kernel_rfl) e1) (evalT_told 3 (by kernel_rfl) e3), hI.step OrG.grow hr 4 _ rfl⟩)⟩
          · obtain ⟨v4, e4⟩ := some_of (hdep ⟨4, .data⟩ (by simp) rfl)
            obtain rfl := hI.g 4 _ e4
            exact ⟨want_none rfl, Or.inl (Or.inl ⟨_, _, (runT_move (.tmp 74) rfl).trans (by rw [evalT_told 4 (by kernel_rfl) e4]), hI.step OrG.grow hr 5 _ rfl⟩)⟩
          · obtain ⟨v5, e5⟩ := some_of (hdep ⟨5, .guard⟩ (by simp) rfl)
            obtain rfl := hI.g 5 _ e5
            exact ⟨want_some (g := 5) (d := 75) (b := true) rfl rfl rfl (by kernel_rfl) (of_decide_eq_true (by kernel_rfl)) e5, Or.inl (Or.inl ⟨_, _, runT_load 25 (.tmp 4) rfl _ (by rw [evalT_old (by kernel_rfl)]; rfl) _ _ _ _ c0 uIm rfl sIm, hI.step OrG.grow hr 6 _ rfl⟩)⟩
          · obtain ⟨v5, e5⟩ := some_of (hdep ⟨5, .guard⟩ (by simp) rfl)
            obtain rfl := hI.g 5 _ e5
            exact ⟨want_some (g := 5) (d := 75) (b := true) rfl rfl rfl (by kernel_rfl) (of_decide_eq_true (by kernel_rfl)) e5, Or.inl (Or.inl ⟨_, _, (runT_move (.tmp 2) rfl).trans (by rw [evalT_old (by kernel_rfl)]; rfl), hI.step OrG.grow hr 7 _ rfl⟩)⟩
          · obtain ⟨v5, e5⟩ := some_of (hdep ⟨5, .guard⟩ (by simp) rfl)
            obtain rfl := hI.g 5 _ e5
            exact ⟨want_some (g := 5) (d := 75) (b := true) rfl rfl rfl (by kernel_rfl) (of_decide_eq_true (by kernel_rfl)) e5, Or.inl (Or.inl ⟨_, _, (runT_move (.tmp 3) rfl).trans (by rw [evalT_old (by kernel_rfl)]; rfl), hI.step OrG.grow hr 8 _ rfl⟩)⟩
          · obtain ⟨v5, e5⟩ := some_of (hdep ⟨5, .guard⟩ (by simp) rfl)
            obtain rfl := hI.g 5 _ e5
            obtain ⟨v6, e6⟩ := some_of (hdep ⟨6, .data⟩ (by simp) rfl)
            obtain rfl := hI.g 6 _ e6
            obtain ⟨v7, e7⟩ := some_of (hdep ⟨7, .data⟩ (by simp) rfl)
            obtain rfl := hI.g 7 _ e7
            obtain ⟨v8, e8⟩ := some_of (hdep ⟨8, .data⟩ (by simp) rfl)
            obtain rfl := hI.g 8 _ e8
            refine ⟨want_some (g := 5) (d := 75) (b := true) rfl rfl rfl (by kernel_rfl) (of_decide_eq_true (by kernel_rfl)) e5, Or.inl (Or.inr ⟨13, #[(.agg #[.slice F N cF, .slice G k cG, .int .i64 u.top]), .slice I n icap, .int .i64 fuel], runT_call 13 _ _ rfl rfl _ ?_ Tryd.func13 (by kernel_rfl) rfl, ?_⟩)⟩
            · simp only [List.map_toArray, List.map_cons, List.map_nil]
              rw [evalT_told 6 (by kernel_rfl) e6, evalT_told 7 (by kernel_rfl) e7, evalT_told 8 (by kernel_rfl) e8]
            · exact (HSU.out wq hb).mono fun e w' ⟨⟨A, cap, he, hr'⟩, hb'⟩ => ⟨_, he, hI.step OrG.grow hb' 9 _ ⟨A, cap, rfl, hr'⟩⟩
          · obtain ⟨v5, e5⟩ := some_of (hdep ⟨5, .guard⟩ (by simp) rfl)
            obtain rfl := hI.g 5 _ e5
            exact ⟨want_some (g := 5) (d := 75) (b := true) rfl rfl rfl (by kernel_rfl) (of_decide_eq_true (by kernel_rfl)) e5, Or.inl (Or.inl ⟨_, _, runT_load 25 (.tmp 9) rfl _ (by rw [evalT_old (by kernel_rfl)]; rfl) _ _ _ _ d0 uIm rfl sIm, hI.step OrG.grow hr 10 _ rfl⟩)⟩
          · obtain ⟨v5, e5⟩ := some_of (hdep ⟨5, .guard⟩ (by simp) rfl)
            obtain rfl := hI.g 5 _ e5
            exact ⟨want_some (g := 5) (d := 75) (b := true) rfl rfl rfl (by kernel_rfl) (of_decide_eq_true (by kernel_rfl)) e5, Or.inl (Or.inl ⟨_, _, (runT_move (.tmp 2) rfl).trans (by rw [evalT_old (by kernel_rfl)]; rfl), hI.step OrG.grow hr 11 _ rfl⟩)⟩
          · obtain ⟨v5, e5⟩ := some_of (hdep ⟨5, .guard⟩ (by simp) rfl)
            obtain rfl := hI.g 5 _ e5
            exact ⟨want_some (g := 5) (d := 75) (b := true) rfl rfl rfl (by kernel_rfl) (of_decide_eq_true (by kernel_rfl)) e5, Or.inl (Or.inl ⟨_, _, (runT_move (.tmp 3) rfl).trans (by rw [evalT_old (by kernel_rfl)]; rfl), hI.step OrG.grow hr 12 _ rfl⟩)⟩
          · obtain ⟨v5, e5⟩ := some_of (hdep ⟨5, .guard⟩ (by simp) rfl)
            obtain rfl := hI.g 5 _ e5
            obtain ⟨v10, e10⟩ := some_of (hdep ⟨10, .data⟩ (by simp) rfl)
            obtain rfl := hI.g 10 _ e10
            obtain ⟨v11, e11⟩ := some_of (hdep ⟨11, .data⟩ (by simp) rfl)
            obtain rfl := hI.g 11 _ e11
            obtain ⟨v12, e12⟩ := some_of (hdep ⟨12, .data⟩ (by simp) rfl)
            obtain rfl := hI.g 12 _ e12
            refine ⟨want_some (g := 5) (d := 75) (b := true) rfl rfl rfl (by kernel_rfl) (of_decide_eq_true (by kernel_rfl)) e5, Or.inl (Or.inr ⟨13, #[(.agg #[.slice A2 N cap2, .slice A k cap, .int .i64 u.top]), .slice I n icap, .int .i64 fuel], runT_call 13 _ _ rfl rfl _ ?_ Tryd.func13 (by kernel_rfl) rfl, ?_⟩)⟩
            · simp only [List.map_toArray, List.map_cons, List.map_nil]
              rw [evalT_told 10 (by kernel_rfl) e10, evalT_told 11 (by kernel_rfl) e11, evalT_told 12 (by kernel_rfl) e12]
            · exact (HSV.out wq hb).mono fun e w' ⟨⟨A, cap, he, hr'⟩, hb'⟩ => ⟨_, he, hI.step OrG.grow hb' 13 _ ⟨A, cap, rfl, hr'⟩⟩
          · obtain ⟨v5, e5⟩ := some_of (hdep ⟨5, .guard⟩ (by simp) rfl)
            obtain rfl := hI.g 5 _ e5
            obtain ⟨v9, e9⟩ := some_of (hdep ⟨9, .data⟩ (by simp) rfl)
            obtain ⟨v13, e13⟩ := some_of (hdep ⟨13, .data⟩ (by simp) rfl)
            obtain ⟨B1, c1, rfl, hB1⟩ := hI.g 9 _ e9
            obtain ⟨B2, c2, rfl, hB2⟩ := hI.g 13 _ e13
            refine ⟨want_some (g := 5) (d := 75) (b := true) rfl rfl rfl (by kernel_rfl) (of_decide_eq_true (by kernel_rfl)) e5, Or.inl (Or.inr ⟨14, #[reAgg r B1 c1, reAgg r B2 c2], runT_call 14 _ _ rfl rfl _ ?_ Tryd.func14 (by kernel_rfl) rfl, ?_⟩)⟩
            · simp only [List.map_toArray, List.map_cons, List.map_nil]
              rw [evalT_told 9 (by kernel_rfl) e9, evalT_told 13 (by kernel_rfl) e13]
            · have hres := Result7_any r r B1 B2 c1 c2 (by have := HLR.out; omega) (by have := HLR.out; omega) wq hB1.1 hB2.1
              rw [decide_eq_true rfl] at hres
              exact hres.mono fun e w' ⟨he, hb'⟩ => ⟨_, he, hI.step OrG.grow hb' 14 _ rfl⟩
          · obtain ⟨v5, e5⟩ := some_of (hdep ⟨5, .data⟩ (by simp) rfl)
            obtain rfl := hI.g 5 _ e5
            obtain ⟨v14, e14⟩ := some_of (hdep ⟨14, .data⟩ (by simp) rfl)
            obtain rfl := hI.g 14 _ e14
            exact ⟨want_none rfl, Or.inl (Or.inl ⟨_, _, (runT_pick (.tmp 75) (.tmp 84) _ rfl true (evalT_told 5 (by kernel_rfl) e5)).trans (by rw [if_pos rfl, evalT_told 14 (by kernel_rfl) e14]), hI.step OrG.grow hr 15 _ rfl⟩)⟩
          · obtain ⟨v15, e15⟩ := some_of (hdep ⟨15, .data⟩ (by simp) rfl)
            obtain rfl := hI.g 15 _ e15
            exact ⟨want_none rfl, Or.inl (Or.inl ⟨_, _, (runT_move (.tmp 85) rfl).trans (by rw [evalT_told 15 (by kernel_rfl) e15]), hI.step OrG.grow hr 16 _ rfl⟩)⟩
          · obtain ⟨v16, e16⟩ := some_of (hdep ⟨16, .guard⟩ (by simp) rfl)
            obtain rfl := hI.g 16 _ e16
            refine ⟨want_some (g := 16) (d := 86) (b := true) rfl rfl rfl (by kernel_rfl) (of_decide_eq_true (by kernel_rfl)) e16, Or.inl (Or.inr ⟨12, #[], runT_call 12 _ _ rfl rfl _ (by simp) Tryd.func12 (by kernel_rfl) rfl, ?_⟩)⟩
            exact (awake_any wq (HTF.out.below hb)).mono fun e w' ⟨he, hb'⟩ => ⟨_, he, hI.step OrG.grow hb' 17 _ rfl⟩
          · obtain ⟨v16, e16⟩ := some_of (hdep ⟨16, .data⟩ (by simp) rfl)
            obtain rfl := hI.g 16 _ e16
            obtain ⟨v17, e17⟩ := some_of (hdep ⟨17, .data⟩ (by simp) rfl)
            obtain rfl := hI.g 17 _ e17
            exact ⟨want_none rfl, Or.inl (Or.inl ⟨_, _, (runT_pick (.tmp 86) (.tmp 87) _ rfl true (evalT_told 16 (by kernel_rfl) e16)).trans (by rw [if_pos rfl, evalT_told 17 (by kernel_rfl) e17]), hI.step OrG.grow hr 18 _ rfl⟩)⟩
        · intro s wq hI hsome
          obtain ⟨v0, e0⟩ := some_of (hsome 0 (by omega))
          obtain ⟨v1, e1⟩ := some_of (hsome 1 (by omega))
          obtain ⟨v2, e2⟩ := some_of (hsome 2 (by omega))
          obtain ⟨v3, e3⟩ := some_of (hsome 3 (by omega))
          obtain ⟨v4, e4⟩ := some_of (hsome 4 (by omega))
          obtain ⟨v5, e5⟩ := some_of (hsome 5 (by omega))
          obtain ⟨v6, e6⟩ := some_of (hsome 6 (by omega))
          obtain ⟨v7, e7⟩ := some_of (hsome 7 (by omega))
          obtain ⟨v8, e8⟩ := some_of (hsome 8 (by omega))
          obtain ⟨v9, e9⟩ := some_of (hsome 9 (by omega))
          obtain ⟨v10, e10⟩ := some_of (hsome 10 (by omega))
          obtain ⟨v11, e11⟩ := some_of (hsome 11 (by omega))
          obtain ⟨v12, e12⟩ := some_of (hsome 12 (by omega))
          obtain ⟨v13, e13⟩ := some_of (hsome 13 (by omega))
          obtain ⟨v14, e14⟩ := some_of (hsome 14 (by omega))
          obtain ⟨v15, e15⟩ := some_of (hsome 15 (by omega))
          obtain ⟨v16, e16⟩ := some_of (hsome 16 (by omega))
          obtain ⟨v17, e17⟩ := some_of (hsome 17 (by omega))
          obtain ⟨v18, e18⟩ := some_of (hsome 18 (by omega))
          obtain rfl := hI.g 18 _ e18
          have HBQ2 : Hid (Below w.heap.size w wq) := Lib.hid (HB6.out.trans ((HBF.out.trans ((((Below.refl _ wf).drew).trans hI.b).mono HBF.out.size)).mono HB6.out.size))
          simp only [List.take_succ_cons, List.take_zero, List.drop_succ_cons, List.drop_zero, putsT, e0, e1, e2, e3, e4, e5, e6, e7, e8, e9, e10, e11, e12, e13, e14, e15, e16, e17, e18, Option.getD_some]
          clear hI hsome e0 e1 e2 e3 e4 e5 e6 e7 e8 e9 e10 e11 e12 e13 e14 e15 e16 e17 e18 HQU HQV HSU HSV
          go_frame
          go_wp2_with fail
          refine NoPanic.normal ?_
          go_wp2_with fail
          go_returns
          exact ⟨rfl, HBQ2.out⟩
end Go.Proofs.YtihbgppcacaekaaDoor
