import Derived.Test.YtaofdbboalcceaaGe
import Derived.Deep.CutRange
/- flow.Ahead: the walk. -/
namespace Go.Proofs.Ytaofdbboalcceaa
open Go.RowKit Go.BigFrame

/-- what Ahead tells -/
def AheadT (f : Fn7) (e : Ending) (w : World) : Prop := ∃ ob M, e = .returned (.slice (some ⟨ob, 0, none⟩) f.code.length f.code.length) ∧ Ans f M ∧ RdM w ob f.R.toNat M ∧ ob < w.heap.size
theorem copy_ran {P : Program} {ops : Array Oper} {rest : List Oper} {o : Oper} {a : Act} {w w' : World} {Q : Exit → Act → World → Prop} {t u : TypeId} {vs vx V : Value} (hgd : o.guard = none) (s x : Operand)
    (ho : o.op = .call { callee := .builtin .copy, args := #[s, x], argTypes := #[t, u] }) (hs : a.eval s = vs) (hx : a.eval x = vx) (hr : (Builtin.copy_ #[t, u] o.type #[vs, vx]).run P w = .ok V w')
    (h : wpList P ops Q rest (a.put o.dst V) w') : wpList P ops Q (o :: rest) a w := by
  refine wpList_plain hgd fun K' hK' => ?_
  unfold Oper.wp execOp
  simp only [ho, resolve, invoke, builtin, Sem.run_bind, Sem.run_pure, Result.andThen_ok, List.map_toArray, List.map_cons, List.map_nil, hs, hx, hr]
  exact hK' _ _ h
set_option maxRecDepth 1000000 in
set_option maxHeartbeats 8000000 in
theorem ahead_yes (f : Fn7) (hf : OkF f) (hsz : f.code.length * (f.R.toNat + 1) ≤ 65536) (C : Option Addr) (cap : Nat) (w : World) (hC : RdI w C f.code)
    (hRF : ∀ W : World, RdI W C f.code → Calls Try.prog 47 #[funcAgg f.nm f.ps f.R f.Fr C f.code.length cap] W fun e w' => Tru (OkF f) e ∧ Below W.heap.size W w') :
    Calls Try.prog 22 #[funcAgg f.nm f.ps f.R f.Fr C f.code.length cap] w fun e w' => AheadT f e w' ∧ Below w.heap.size w w' := by
  have hB0 := Below.one w (funcObj f.nm f.ps f.R f.Fr C f.code.length cap)
  have bx := heap_alloc_new w (funcObj f.nm f.ps f.R f.Fr C f.code.length cap)
  have hr0 := hRF _ (hC.below hB0)
  have hR0 : 0 ≤ f.R := by have := hf.ps; have := hf.R; omega
  have hR4 : f.R.toNat ≤ 4096 := by have := hf.R; omega
  have hL1 := hf.len
  obtain ⟨Rn, hRn⟩ : ∃ Rn : Nat, f.R = Rn := ⟨f.R.toNat, by omega⟩
  have hps := hf.ps
  obtain ⟨L, hL⟩ : ∃ L, f.code.length = L := ⟨_, rfl⟩
  have hRt : f.R.toNat = Rn := by omega
  rw [hL, hRt] at hsz
  rw [hRt] at hR4
  rw [hL] at hL1
  simp only [funcObj, funcAgg, hL, hRn] at hB0 bx hr0 ⊢
  have HL := Lib.hid hL
  have HF := Lib.hid hf
  clear hf
  have HRN := Lib.hid hRn
  have HRT := Lib.hid hRt
  clear hL hRn hRt hR0
  have hm0 : (L : Int) * ((Rn : Int) + 1) ≤ 65536 := by
    have h : ((L * (Rn + 1) : Nat) : Int) ≤ 65536 := Int.ofNat_le.2 hsz
    rwa [Int.natCast_mul, Int.natCast_add, Int.natCast_one] at h
  have hm1 : 0 ≤ (L : Int) * ((Rn : Int) + 1) := Int.mul_nonneg (by omega) (by omega)
  have hm2 : decide ((L : Int) * ((Rn : Int) + 1) > 65536) = false := by simp; omega
  have hm3 : decide (65536 < (L : Int) * ((Rn : Int) + 1)) = false := by simp; omega
  have hmk1 := fun W => make_rows L (by omega) W
  have hmk2 := fun W => make_vals Rn (by omega) W
  have hmk3 := fun W => make_bools L (by omega) W
  obtain ⟨W0, hW0⟩ : ∃ W0, w.alloc (.cells #[.string f.nm, .int .i64 f.ps, .int .i64 Rn, .int .i64 f.Fr, .slice C L cap] 24) = W0 := ⟨_, rfl⟩
  rw [hW0] at hB0 bx hr0
  obtain ⟨y0, y1, y2, y3, y4⟩ : W0.cell? ⟨w.heap.size, 0, none⟩ = some (.string f.nm) ∧ W0.cell? ⟨w.heap.size, 1, none⟩ = some (.int .i64 f.ps) ∧ W0.cell? ⟨w.heap.size, 2, none⟩ = some (.int .i64 Rn) ∧ W0.cell? ⟨w.heap.size, 3, none⟩ = some (.int .i64 f.Fr) ∧ W0.cell? ⟨w.heap.size, 4, none⟩ = some (.slice C L cap) :=
    ⟨cell_of_heap bx 0 _ rfl, cell_of_heap bx 1 _ rfl, cell_of_heap bx 2 _ rfl, cell_of_heap bx 3 _ rfl, cell_of_heap bx 4 _ rfl⟩
  have hlt0 := (Array.getElem?_eq_some_iff.1 bx).1
  go_enter Try.func22, Try.ntmps22
  go_wp2_with (first
    | (go_at_call 47; refine hr0.mono ?_; rintro e w1 ⟨⟨b, rfl, hb⟩, hb1⟩; obtain rfl := hb.2 HF.out; clear hb; have x1 := (hb1.cell (p := ⟨w.heap.size, 1, none⟩) hlt0).trans y1; have x2 := (hb1.cell (p := ⟨w.heap.size, 2, none⟩) hlt0).trans y2; have x4 := (hb1.cell (p := ⟨w.heap.size, 4, none⟩) hlt0).trans y4))
  clear hr0 y0 y1 y2 y3 y4 bx hRF
  have hB1 := hB0.trans (hb1.mono hB0.size)
  have hC1 := hC.below hB1
  have hlt1 := Nat.lt_of_lt_of_le hlt0 hb1.size
  clear hB0 hb1 hlt0 hC hW0
  have HS := Lp1.start (W1 := w1) (L := L) (R := Rn)
  generalize hob : w1.heap.size = ob at *
  have HOB := Lib.hid hob
  clear hob
  go_loopw [39] (fun ix wr => ∃ k : Nat, k ≤ L ∧ ix = .int .i64 k ∧ Lp1 w1 wr ob L Rn k) (fun ix _ => L - (intOf ix).toNat)
  case atStart => exact ⟨0, by omega, rfl, HS⟩
  case round =>
    obtain ⟨k, hk, rfl, hr⟩ := hrel
    clear HS
    have z2 := (hr.b.cell (p := ⟨w.heap.size, 2, none⟩) hlt1).trans x2
    by_cases hlt : k < L
    · have c0 := hr.cell hlt
      have c1 := Pre.free hr.h k
      have c2 := Pre.lt hr.h
      have HN := Lib.hid (hr.next hlt)
      go_wp2
      exact ⟨⟨k + 1, by omega, by go_num, HN.out⟩, by simp [intOf]; omega⟩
    · obtain rfl : L = k := by omega
      clear hk hlt z2
      obtain ⟨w2, hw2⟩ : ∃ w2, w2 = wr := ⟨_, rfl⟩
      subst hw2
      have z2 := (hr.b.cell (p := ⟨w.heap.size, 2, none⟩) hlt1).trans x2
      have z1 := (hr.b.cell (p := ⟨w.heap.size, 1, none⟩) hlt1).trans x1
      have z4 := (hr.b.cell (p := ⟨w.heap.size, 4, none⟩) hlt1).trans x4
      have hlt2 : w.heap.size < w2.heap.size := by have := hr.s; omega
      have hb3 := Below.one w2 (.cells (madeCells #[.bool false] L) 4)
      have hcm := made_pre (g := gB) (d := 1) (t := 4) w2 #[.bool false] L false rfl (fun k hk => by
        obtain rfl : k = 0 := by omega
        rfl)
      rw [Nat.mul_one, hr.s] at hcm
      have hs3 : (w2.alloc (.cells (madeCells #[.bool false] L) 4)).heap.size = ob + 2 + L := by simp [hr.s]; omega
      have hob2 : ob < w2.heap.size := by have := hr.s; omega
      obtain ⟨W3, hW3⟩ : ∃ W3, w2.alloc (.cells (madeCells #[.bool false] L) 4) = W3 := ⟨_, rfl⟩
      rw [hW3] at hb3 hcm hs3
      have y2 := (hb3.cell (p := ⟨w.heap.size, 2, none⟩) hlt2).trans z2
      have y1 := (hb3.cell (p := ⟨w.heap.size, 1, none⟩) hlt2).trans z1
      have y4 := (hb3.cell (p := ⟨w.heap.size, 4, none⟩) hlt2).trans z4
      have hlt3 := Nat.lt_of_lt_of_le hlt2 hb3.size
      have HS3 := Lib.hid hs3
      have HR := Lib.hid hr
      have HCM := Lib.hid hcm
      have HB3 := Lib.hid hb3
      have HX4 := Lib.hid x4
      clear hr hcm hb3 hs3 x1 x2 x4
      have HP := Lp2.start (W3 := W3) (R := Rn) (ps := f.ps)
      go_wp2
      clear hW3 z1 z2 z4
      rw [show w2.heap.size = ob + 1 + L from HR.out.s]
      generalize hfo : W3.heap.size = fo at *
      have HFO := Lib.hid hfo
      clear hfo
      go_loopw [58] (fun ix wr => ∃ k : Nat, k ≤ Rn ∧ ix = .int .i64 k ∧ Lp2 W3 wr fo Rn f.ps k) (fun ix _ => Rn - (intOf ix).toNat)
      case atStart => exact ⟨0, by omega, rfl, HP⟩
      case round =>
        obtain ⟨k, hk, rfl, hr⟩ := hrel
        clear HP
        have z1 := (hr.b.cell (p := ⟨w.heap.size, 1, none⟩) hlt3).trans y1
        by_cases hlt : k < Rn
        · have hc := PreV.cells hr.h (fst_get hlt)
          rw [if_neg (Nat.lt_irrefl k)] at hc
          obtain ⟨c0, c1⟩ := hc
          simp only at c0 c1
          have c2 := Pre.free hr.h (k * 2)
          have c3 := Pre.free hr.h (k * 2 + 1)
          have c4 := Pre.lt hr.h
          by_cases hp : (k : Int) < f.ps
          · have HN := Lib.hid (hr.next1 hlt hp)
            have q1 : decide ((k : Int) < f.ps) = true := by simpa using hp
            clear hp
            go_wp2
            exact ⟨⟨k + 1, by omega, by go_num, HN.out⟩, by simp [intOf]; omega⟩
          · have HN := Lib.hid (hr.next0 hlt hp)
            have q1 : decide ((k : Int) < f.ps) = false := by simpa using hp
            clear hp
            go_wp2
            exact ⟨⟨k + 1, by omega, by go_num, HN.out⟩, by simp [intOf]; omega⟩
        · obtain rfl : Rn = k := by omega
          clear hk hlt
          obtain ⟨w4, hw4⟩ : ∃ w4, w4 = wr := ⟨_, rfl⟩
          subst hw4
          have hfo2 : fo = ob + 2 + L := by have h1 := HFO.out; have h2 := HS3.out; omega
          have hM0 := Mem.start HR.out HCM.out HB3.out hfo2 hr
          have hL0 : 0 < L := by omega
          have hd0 := hM0.head hL0
          rw [Nat.add_zero] at hd0
          have hrow0 := hM0.r 0 (List.replicate Rn nv) (by simp [hL0])
          rw [Nat.add_zero] at hrow0
          obtain ⟨w5, hcp, hr5, ho5, hs5, hb5⟩ := copy_vals (R := Rn) hrow0 hr.h (by simp) (by simp [fst]) 3
          have hM5 := Mem.setR hM0 hL0 (u := fst Rn f.ps Rn) (by rw [Nat.add_zero]; exact hr5) (by rw [Nat.add_zero]; exact ho5) hs5 (by rw [Nat.add_zero]; exact hb5)
          have hc5 := PreB.cell hM5.c (j := 0) (v := false) (by simp [hL0])
          have hf5 := Pre.free hM5.c 0
          have hM6 := Mem.setC hM5 (n := 0) (by simp [hL0]) true
          have hl5 := hM5.c.lt
          have HM6 := Lib.hid hM6
          clear hM6 hM5 hM0 hr5 hrow0 hs5 hb5 ho5 hr z1 y1 y2 y4
          go_wp2_with (first
            | (refine copy_ran (o := ⟨some 78, _, _, _, _, _⟩) rfl (.tmp 76) (.tmp 77) rfl rfl rfl hcp ?_))
          have HT := Third.start HF.out HL.out HRT.out rfl hsz rfl HM6.out
          rw [World.size_setCell] at HT
          have HE : Hid (∀ (M' : List (List Vl)) (w' : World), Ans f M' → RdM w' ob Rn M' → Below ob w1 w' → ob < w'.heap.size → AheadT f (.returned (.slice (some ⟨ob, 0, none⟩) L L)) w' ∧ Below w.heap.size w w') := Lib.hid fun M' w' hA hR hb hlt =>
            ⟨⟨ob, M', by rw [HL.out], hA, by rw [HRT.out]; exact hR, hlt⟩, hB1.trans (hb.mono (by omega))⟩
          refine loop3_any f HF.out L Rn ob w.heap.size HL.out HRT.out HRN.out hR4 (by omega) w1 _ HOB.out C cap hlt1 HX4.out hC1 (1 + 2 * pot (M0 f) (C0 f)) _ (M0 f) (C0 f) [0] HT _ _ _ _ _ _ _ _ _ _ _ _ _ _ _ _ _ _ _ _ _ _ _ _ _ _ _ _ _ _ _ _ _ _ _ _ _ _ _ _ _ _ _ _ _ _ _ _ _ _ _ _ _ _ _ _ _ _ _ _ _ _ _ _ _ _ _ _ _ _ _ _ _ _ _ _ _ _ _ _ _ _ _ _ _ _ _ _ _ _ _ _ _ _ _ _ _ _ _ _ _ _ _ _ _ _ _ _ _ _ _ _ _ _ _ _ _ _ _ _ _ _ _ _ _ _ _ _ _ _ _ _ _ _ _ _ _ _ _ _ _ _ _ _ _ _ _ _ _ _ _ _ _ _ _ _ _ _ _ _ _ _ _ _ _ _ _ _ _ _ _ _ _ _ ?_
          clear HT hC1
          intro V' y9 y10 y11 y12 y13 y14 y16 y17 y18 y19 y82 y83 y84 y85 y86 y87 y88 y89 y90 y91 y92 y93 y94 y95 y96 y97 y98 y99 y100 y101 y102 y103 y104 y105 y106 y107 y108 y109 y110 y111 y112 y113 y114 y115 y116 y117 y118 y119 y120 y121 y122 y123 y124 y125 y126 y127 y128 y129 y130 y131 y132 y133 y134 y135 y136 y137 y138 y139 y140 y141 y142 y143 y144 y145 y146 y147 y148 y149 y150 y151 y152 y153 y154 y155 y156 y157 y158 y159 y160 y161 y162 y163 y164 y165 y166 y167 y168 y169 y170 y171 y172 y173 y174 y175 M' w' hA hR hb hlt
          have HP := Lib.hid (HE.out M' w' hA hR hb hlt)
          clear hA hR hb hlt
          go_wp2
          go_returns
          exact HP.out
end Go.Proofs.Ytaofdbboalcceaa
