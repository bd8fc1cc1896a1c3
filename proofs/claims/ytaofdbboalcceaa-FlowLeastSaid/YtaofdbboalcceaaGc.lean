import Derived.Test.YtaofdbboalcceaaFy
import Derived.Deep.CutRange
import Derived.StillTailTactics
import Derived.RegionTactic
import Derived.BigRegion
import Derived.ChangeAlike
import Derived.Outline
/- flow.Ahead: the innermost loop, by itself. -/
namespace Go.Proofs.Ytaofdbboalcceaa
open Go.RowKit Go.BigFrame

/-- the outermost loops of a code, whole, in order -/
def loopsOf : Code → List Code
  | .loop c => [.loop c]
  | .seq a b => loopsOf a ++ loopsOf b
  | .block _ c => loopsOf c
  | .scope c => loopsOf c
  | .cond _ a b => loopsOf a ++ loopsOf b
  | _ => []
def inLoop : Code → Code
  | .loop c => c
  | c => c
noncomputable def loop3 : Code := ((((Try.f22.body).map loopsOf).getD [])[2]?).getD .skip
noncomputable def loop4 : Code := ((loopsOf (inLoop loop3))[0]?).getD .skip
noncomputable def loop5 : Code := ((loopsOf (inLoop loop4))[0]?).getD .skip
/-- a row, of which the first r are joined -/
def part (old u : List Vl) (r : Nat) : List Vl := (jrow old u).take r ++ old.drop r
theorem part_zero (old u : List Vl) : part old u 0 = old := by simp [part]
theorem part_all {old u : List Vl} {R : Nat} (h1 : old.length = R) (h2 : u.length = R) : part old u R = jrow old u := by
  unfold part
  rw [List.take_of_length_le (by rw [jrow_len h1 h2]; omega), List.drop_eq_nil_of_le (by omega), List.append_nil]
theorem part_at {old u : List Vl} {R r j : Nat} (h1 : old.length = R) (h2 : u.length = R) (hr : r ≤ R) : (part old u r)[j]? = if j < r then (jrow old u)[j]? else old[j]? := by
  unfold part
  have hl := jrow_len h1 h2
  by_cases hj : j < r
  · rw [if_pos hj, List.getElem?_append_left (by rw [List.length_take]; omega), List.getElem?_take, if_pos hj]
  · rw [if_neg hj, List.getElem?_append_right (by rw [List.length_take]; omega), List.getElem?_drop]
    congr 1
    rw [List.length_take]
    omega
theorem jrow_get {old u : List Vl} {R r : Nat} (h1 : old.length = R) (h2 : u.length = R) (hr : r < R) : (jrow old u)[r]? = some (join (at_ old r) (at_ u r)) := by
  have h := jrow_at h1 h2 r
  rw [← h, at_in (by rw [jrow_len h1 h2]; exact hr)]
  simp
theorem old_get {old : List Vl} {R r : Nat} (h1 : old.length = R) (hr : r < R) : old[r]? = some (at_ old r) := by rw [at_in (by omega)]; simp
theorem part_get {old u : List Vl} {R r : Nat} (h1 : old.length = R) (h2 : u.length = R) (hr : r < R) : (part old u r)[r]? = some (at_ old r) := by
  rw [part_at h1 h2 (by omega), if_neg (Nat.lt_irrefl r), old_get h1 hr]
theorem part_set {old u : List Vl} {R r : Nat} (h1 : old.length = R) (h2 : u.length = R) (hr : r < R) : (part old u r).set r (join (at_ old r) (at_ u r)) = part old u (r + 1) := by
  apply List.ext_getElem?
  intro j
  have hlr := (List.getElem?_eq_some_iff.1 (part_get h1 h2 hr)).1
  rw [List.getElem?_set, part_at h1 h2 (by omega), part_at h1 h2 (by omega)]
  by_cases hj : r = j
  · subst hj
    rw [if_pos rfl, if_pos hlr, if_pos (Nat.lt_succ_self r), jrow_get h1 h2 hr]
  · rw [if_neg hj]
    by_cases h3 : j < r
    · rw [if_pos h3, if_pos (by omega)]
    · rw [if_neg h3, if_neg (by omega)]
theorem part_ne {old u : List Vl} {R r : Nat} (h1 : old.length = R) (h2 : u.length = R) (hr : r < R) : decide (part old u (r + 1) ≠ old) = (decide (part old u r ≠ old) || !decide (join (at_ old r) (at_ u r) = at_ old r)) := by
  rw [← part_set h1 h2 hr]
  have hg := part_get h1 h2 hr
  have ho := old_get h1 hr
  have hlr := (List.getElem?_eq_some_iff.1 hg).1
  rw [Bool.eq_iff_iff]
  simp only [ne_eq, decide_not, Bool.not_eq_true', decide_eq_false_iff_not, Bool.or_eq_true]
  constructor
  · intro h
    by_cases e : part old u r = old
    · right
      intro e2
      apply h
      rw [e2, e]
      apply List.ext_getElem?
      intro j
      rw [List.getElem?_set]
      by_cases hj : r = j
      · subst hj; rw [if_pos rfl, if_pos (by omega), ho]
      · rw [if_neg hj]
    · exact Or.inl e
  · intro h e
    have e2 : join (at_ old r) (at_ u r) = at_ old r := by
      have := congrArg (fun l => l[r]?) e
      simp only [List.getElem?_set_self hlr] at this
      rw [ho] at this
      injection this
    rcases h with h | h
    · apply h
      apply List.ext_getElem?
      intro j
      by_cases hj : r = j
      · subst hj; rw [hg, ho]
      · have := congrArg (fun l => l[j]?) e
        simp only [List.getElem?_set_ne hj] at this
        exact this
    · exact h e2
/-- all that was there stays, but for one block -/
structure But (q : Nat) (W W' : World) : Prop where
  below : Below q W W'
  same : ∀ b, b < W.heap.size → b ≠ q → W'.heap[b]? = W.heap[b]?
theorem But.refl (q : Nat) (W : World) : But q W W := ⟨Below.refl _ _, fun _ _ _ => rfl⟩
theorem But.later {q : Nat} {W W1 W2 : World} (h : But q W W1) (hq : q ≤ W1.heap.size) (hb : Below W1.heap.size W1 W2) : But q W W2 :=
  ⟨h.below.trans (hb.mono hq), fun b h1 h2 => (hb.block b (Nat.lt_of_lt_of_le h1 h.below.size)).trans (h.same b h1 h2)⟩
theorem But.set {q : Nat} {W W1 : World} (h : But q W W1) (j : Nat) (v : Value) : But q W (W1.setCell ⟨q, j, none⟩ v) :=
  ⟨h.below.setCell (p := ⟨q, j, none⟩) (Nat.le_refl _) _, fun b h1 h2 => (heap_setCell_other _ _ _ _ h2).trans (h.same b h1 h2)⟩
theorem But.drewN {q : Nat} {W W1 : World} (h : But q W W1) (n : Nat) : But q W (W1.drewN n) := ⟨h.below.trans ⟨rfl, rfl, rfl, Nat.le_refl _, fun _ _ => rfl⟩, h.same⟩
theorem But.cell {q : Nat} {W W1 : World} (h : But q W W1) {a : Addr} {v : Value} (hv : W.cell? a = some v) (hne : a.block ≠ q) : W1.cell? a = some v :=
  (World.cell?_of_block (h.same _ (World.block_lt_of_cell? W a hv) hne)).trans hv
abbrev put2 (W : World) (q : Nat) (y : Vl) : World := (W.setCell ⟨q, 0, none⟩ (.int .i64 y.k)).setCell ⟨q, 1, none⟩ (.int .i64 y.n)
theorem heap_put2 {W : World} {q : Nat} {x y : Vl} (h : W.heap[q]? = some x.obj) : (put2 W q y).heap[q]? = some y.obj := by
  unfold put2
  rw [heap_setCell (heap_setCell h (j := 0) (.int .i64 y.k)) (j := 1) (.int .i64 y.n)]
  rfl
theorem below_put2 {W0 W : World} {B q : Nat} {y : Vl} (h : Below B W0 W) (hq : B ≤ q) : Below B W0 (put2 W q y) := (h.setCell (p := ⟨q, 0, none⟩) hq _).setCell (p := ⟨q, 1, none⟩) hq _
theorem zero_kept2 {W w6 : World} (hb : Below (W.alloc nv.obj).drew.heap.size (W.alloc nv.obj).drew w6) : Below W.heap.size W w6 ∧ w6.heap[W.heap.size]? = some nv.obj ∧ w6.cell? ⟨W.heap.size, 0, none⟩ = some (.int .i64 0) ∧ w6.cell? ⟨W.heap.size, 1, none⟩ = some (.int .i64 0) ∧ ∀ j, w6.frozen? ⟨W.heap.size, j, none⟩ = false := by
  have hz : w6.heap[W.heap.size]? = some nv.obj := (hb.block W.heap.size (by show W.heap.size < (W.alloc nv.obj).heap.size; simp)).trans (heap_alloc_new W nv.obj)
  exact ⟨((Below.one W nv.obj).drew).trans (hb.mono (by show W.heap.size ≤ (W.alloc nv.obj).heap.size; simp)), hz, cell_of_heap hz 0 _ rfl, cell_of_heap hz 1 _ rfl, fun j => free_of_heap hz j⟩
/-- behind 'j := Join(out[n][r], v[r])' -/
def Cut38 (W Wx : World) (y : Vl) (a : Value) : Prop := ∃ jb, a = .pointer (some ⟨jb, 0, none⟩) ∧ Below W.heap.size W Wx ∧ Wx.heap[jb]? = some y.obj ∧ W.heap.size ≤ jb
set_option maxRecDepth 1000000 in
set_option maxHeartbeats 8000000 in
theorem loop5_any (L Rn ob nb nc n : Nat) (hn : n < L) (hRn : Rn ≤ 4096) (old u : List Vl) (h1 : old.length = Rn) (h2 : u.length = Rn) (ch0 : Bool) (w5 : World) (hd : w5.cell? ⟨ob, n, none⟩ = some (.slice (some ⟨ob + 1 + n, 0, none⟩) Rn Rn)) (hrow : PreV w5 (ob + 1 + n) old) (hu : PreV w5 nb u) (hne : nb ≠ ob + 1 + n)
    (x0 x1 x2 x4 x5 x6 x7 x8 x9 x10 x12 x13 x14 x15 x18 x19 x20 x21 x22 x23 x24 x25 x26 x27 x28 x29 x30 x31 x32 x33 x34 x35 x36 x37 x38 x39 x40 x41 x42 x43 x44 x45 x46 x47 x48 x49 x50 x51 x52 x53 x54 x55 x56 x57 x58 x59 x60 x61 x62 x63 x64 x65 x66 x67 x68 x69 x70 x71 x72 x73 x74 x75 x76 x77 x78 x79 x80 x81 x82 x83 x84 x85 x86 x87 x88 x89 x90 x91 x92 x93 x94 x95 x96 x97 x98 x99 x100 x101 x102 x103 x104 x105 x106 x107 x108 x109 x110 x111 x112 x113 x114 x115 x116 x117 x118 x119 x120 x121 x122 x123 x124 x125 x126 x127 x128 x129 x130 x131 x132 x133 x136 x137 x138 x139 x140 x141 x142 x143 x144 x145 x146 x147 x148 x149 x150 x151 x152 x153 x154 x155 x156 x157 x158 x159 x160 x161 x162 x163 x164 x165 x166 x167 x168 x169 x170 x171 x172 x173 x174 x175 x176 : Value) (Q : Exit → Act → World → Prop)
    (hexit : ∀ (y18 y19 y136 y137 y138 y139 y140 y141 y142 y143 y144 y145 y146 y147 y148 y149 y150 y151 y152 y153 y154 y155 y156 y157 y158 y159 y160 y161 y162 y163 y164 y165 y166 y167 y168 y169 : Value) (w' : World), But (ob + 1 + n) w5 w' → PreV w' (ob + 1 + n) (jrow old u) → Q (.exit 8) ⟨(x0 :: x1 :: x2 :: .slice (some ⟨ob, 0, none⟩) L L :: x4 :: x5 :: x6 :: x7 :: x8 :: x9 :: x10 :: .slice (some ⟨nb, 0, none⟩) Rn nc :: x12 :: x13 :: x14 :: x15 :: .int .i64 (n : Int) :: .bool (ch0 || decide (jrow old u ≠ old)) :: y18 :: y19 :: x20 :: x21 :: x22 :: x23 :: x24 :: x25 :: x26 :: x27 :: x28 :: x29 :: x30 :: x31 :: x32 :: x33 :: x34 :: x35 :: x36 :: x37 :: x38 :: x39 :: x40 :: x41 :: x42 :: x43 :: x44 :: x45 :: x46 :: x47 :: x48 :: x49 :: x50 :: x51 :: x52 :: x53 :: x54 :: x55 :: x56 :: x57 :: x58 :: x59 :: x60 :: x61 :: x62 :: x63 :: x64 :: x65 :: x66 :: x67 :: x68 :: x69 :: x70 :: x71 :: x72 :: x73 :: x74 :: x75 :: x76 :: x77 :: x78 :: x79 :: x80 :: x81 :: x82 :: x83 :: x84 :: x85 :: x86 :: x87 :: x88 :: x89 :: x90 :: x91 :: x92 :: x93 :: x94 :: x95 :: x96 :: x97 :: x98 :: x99 :: x100 :: x101 :: x102 :: x103 :: x104 :: x105 :: x106 :: x107 :: x108 :: x109 :: x110 :: x111 :: x112 :: x113 :: x114 :: x115 :: x116 :: x117 :: x118 :: x119 :: x120 :: x121 :: x122 :: x123 :: x124 :: x125 :: x126 :: x127 :: x128 :: x129 :: x130 :: x131 :: x132 :: x133 :: .int .i64 (Rn : Int) :: .int .i64 (Rn : Int) :: y136 :: y137 :: y138 :: y139 :: y140 :: y141 :: y142 :: y143 :: y144 :: y145 :: y146 :: y147 :: y148 :: y149 :: y150 :: y151 :: y152 :: y153 :: y154 :: y155 :: y156 :: y157 :: y158 :: y159 :: y160 :: y161 :: y162 :: y163 :: y164 :: y165 :: y166 :: y167 :: y168 :: y169 :: x170 :: x171 :: x172 :: x173 :: x174 :: x175 :: x176 :: []).toArray, []⟩ w') :
    Code.wp Try.prog loop5 Q ⟨(x0 :: x1 :: x2 :: .slice (some ⟨ob, 0, none⟩) L L :: x4 :: x5 :: x6 :: x7 :: x8 :: x9 :: x10 :: .slice (some ⟨nb, 0, none⟩) Rn nc :: x12 :: x13 :: x14 :: x15 :: .int .i64 (n : Int) :: .bool ch0 :: x18 :: x19 :: x20 :: x21 :: x22 :: x23 :: x24 :: x25 :: x26 :: x27 :: x28 :: x29 :: x30 :: x31 :: x32 :: x33 :: x34 :: x35 :: x36 :: x37 :: x38 :: x39 :: x40 :: x41 :: x42 :: x43 :: x44 :: x45 :: x46 :: x47 :: x48 :: x49 :: x50 :: x51 :: x52 :: x53 :: x54 :: x55 :: x56 :: x57 :: x58 :: x59 :: x60 :: x61 :: x62 :: x63 :: x64 :: x65 :: x66 :: x67 :: x68 :: x69 :: x70 :: x71 :: x72 :: x73 :: x74 :: x75 :: x76 :: x77 :: x78 :: x79 :: x80 :: x81 :: x82 :: x83 :: x84 :: x85 :: x86 :: x87 :: x88 :: x89 :: x90 :: x91 :: x92 :: x93 :: x94 :: x95 :: x96 :: x97 :: x98 :: x99 :: x100 :: x101 :: x102 :: x103 :: x104 :: x105 :: x106 :: x107 :: x108 :: x109 :: x110 :: x111 :: x112 :: x113 :: x114 :: x115 :: x116 :: x117 :: x118 :: x119 :: x120 :: x121 :: x122 :: x123 :: x124 :: x125 :: x126 :: x127 :: x128 :: x129 :: x130 :: x131 :: x132 :: x133 :: .int .i64 (Rn : Int) :: .int .i64 0 :: x136 :: x137 :: x138 :: x139 :: x140 :: x141 :: x142 :: x143 :: x144 :: x145 :: x146 :: x147 :: x148 :: x149 :: x150 :: x151 :: x152 :: x153 :: x154 :: x155 :: x156 :: x157 :: x158 :: x159 :: x160 :: x161 :: x162 :: x163 :: x164 :: x165 :: x166 :: x167 :: x168 :: x169 :: x170 :: x171 :: x172 :: x173 :: x174 :: x175 :: x176 :: []).toArray, []⟩ w5 := by
  conv => arg 2; whnf
  have H1 := Lib.hid h1
  have H2 := Lib.hid h2
  clear h1 h2
  have hq0 : ob + 1 + n ≤ w5.heap.size := Nat.le_of_lt (Pre.lt hrow)
  go_loopg [17, 135] Rn (fun g C ix wr => ∃ (r : Nat), g = Rn - r ∧ r ≤ Rn ∧ ix = .int .i64 r ∧ C = .bool (ch0 || decide (part old u r ≠ old)) ∧ But (ob + 1 + n) w5 wr ∧ PreV wr (ob + 1 + n) (part old u r))
  case atStart => exact ⟨0, rfl, by omega, rfl, by rw [part_zero]; simp, But.refl _ _, by rw [part_zero]; exact hrow⟩
  case round =>
    obtain ⟨r, hg, hr, rfl, rfl, hB, hP⟩ := hrel
    have HG := Lib.hid hg
    clear hg
    by_cases hlt : r < Rn
    · have hc := PreV.cells hP (part_get H1.out H2.out hlt)
      have hv := PreV.cells (Pre.of_heap hu (hB.same nb hu.lt hne)) (old_get H2.out hlt)
      obtain ⟨c0, c1⟩ := hc
      obtain ⟨v0, v1⟩ := hv
      have hd1 := hB.cell hd (by simp only; omega)
      have hfr := Pre.free hP
      have hqw := Pre.lt hP
      have hobw := World.block_lt_of_cell? wr ⟨ob, n, none⟩ hd1
      have hnbw := World.block_lt_of_cell? wr ⟨nb, _, none⟩ v0
      have HPN := Lib.hid (part_ne H1.out H2.out hlt)
      have HPS := Lib.hid (part_set H1.out H2.out hlt)
      have HPG := Lib.hid (part_get H1.out H2.out hlt)
      have HP := Lib.hid hP
      have HB := Lib.hid hB
      have hjo := fun W => join_any (at_ old r) (at_ u r) W
      generalize at_ old r = x at *
      generalize at_ u r = z at *
      generalize hj : join x z = y at *
      clear hj
      have hne' := fun W => neq_val y x W
      obtain ⟨bb, hbb⟩ : ∃ bb, bb = decide (y = x) := ⟨_, rfl⟩
      simp only [← hbb] at hne'
      have HBB := Lib.hid hbb
      clear hbb
      obtain ⟨xk, xn⟩ := x
      obtain ⟨yk, yn⟩ := y
      obtain ⟨zk, zn⟩ := z
      simp only [Vl.agg] at c0 c1 v0 v1 hjo hne'
      clear hP hB
      generalize decide (part old u r ≠ old) = bp at *
      obtain ⟨bc, hbc⟩ : ∃ bc, bc = (ch0 || bp) := ⟨_, rfl⟩
      rw [← hbc]
      have HBC := Lib.hid hbc
      clear hbc
      go_wp2
      go_cut [19] from 136 to 169 (fun sj wx => Cut38 wr wx ⟨yk, yn⟩ sj)
      case first =>
        go_region_held3 (fun w' => ∀ (q o : Nat), q < wr.heap.size → w'.cell? ⟨q, o, none⟩ = wr.cell? ⟨q, o, none⟩)
          (first
          | with_reducible exact fun q o h => (below_put2 (y := ⟨yk, yn⟩) (by assumption : Below wr.heap.size wr _) (Nat.le_refl _)).cell (p := ⟨q, o, none⟩) h
          | with_reducible exact fun q o h => rfl
          | with_reducible exact fun q o h => (by assumption : Below wr.heap.size wr _).cell (p := ⟨q, o, none⟩) h
          | with_reducible exact fun q o h => (Below.alloc (by assumption : Below wr.heap.size wr _) (Below.size (by assumption : Below wr.heap.size wr _)) _).cell (p := ⟨q, o, none⟩) h
          | with_reducible exact fun q o h => (Below.one wr _).cell (p := ⟨q, o, none⟩) h
          | exact fun q o h => rfl
          | exact fun q o h => (Below.one wr _).cell (p := ⟨q, o, none⟩) h)
          ((first
          | (go_at_call 20; refine (hjo wr.drew).mono ?_; rintro e w6 ⟨rfl, hb6⟩; have hb7 : Below wr.heap.size wr w6 := ((Below.refl wr.heap.size wr).drew).trans hb6)
          | (go_at_call 20; refine (hjo (wr.alloc nv.obj).drew).mono ?_; rintro e w6 ⟨rfl, hb6⟩; obtain ⟨hb7, hbz, z0, z1, zf⟩ := zero_kept2 hb6)))
        all_goals (go_wp2_with fail; go_meet)
        · exact ⟨_, rfl, hb7.alloc hb7.size _, heap_alloc_new _ _, hb7.size⟩
        · exact ⟨_, rfl, below_put2 (y := ⟨yk, yn⟩) hb7 (Nat.le_refl _), heap_put2 (y := ⟨yk, yn⟩) hbz, Nat.le_refl _⟩
      case rest =>
        obtain ⟨jb, rfl, hbw, hjb, hjl⟩ := hcut
        obtain ⟨wq, hwq⟩ : ∃ wq, wq = wc := ⟨_, rfl⟩
        subst hwq
        have j0 := cell_of_heap hjb 0 (.int .i64 yk) rfl
        have j1 := cell_of_heap hjb 1 (.int .i64 yn) rfl
        have d1 := cell_below hbw hd1
        have k0 := cell_below hbw c0
        have k1 := cell_below hbw c1
        have hBw := HB.out.later (Nat.le_of_lt hqw) hbw
        have hPw := Pre.later HP.out hbw
        have hfw := Pre.free hPw
        have hqw' := Pre.lt hPw
        have HBW := Lib.hid hBw
        have HPW := Lib.hid hPw
        clear c0 c1 v0 v1 hd1 hfr hBw hPw hjo
        cases bc
        all_goals
          go_wp2_with fail
          go_quiet (fail)
          go_wp2_with fail
          go_region
          go_wp2
          go_roundg (Rn - (r + 1))
          case measure => have := HG.out; omega
          case rel =>
            refine ⟨r + 1, rfl, by omega, by go_num, ?_, ?_, ?_⟩
            · have h1 := HPN.out
              have h2 := HBC.out
              have h3 := HBB.out
              rw [h1, ← h3, ← Bool.or_assoc, ← h2]
              simp
            · exact ((HBW.out.drewN (nq + 1)).set _ _).set _ _
            · rw [← HPS.out]
              exact PreV.set (Pre.of_heap HPW.out rfl) HPG.out ⟨yk, yn⟩
    · obtain rfl : Rn = r := by omega
      have hPP := hP
      rw [part_all H1.out H2.out] at hPP
      rw [part_all H1.out H2.out]
      have HE := fun y18 y19 y136 y137 y138 y139 y140 y141 y142 y143 y144 y145 y146 y147 y148 y149 y150 y151 y152 y153 y154 y155 y156 y157 y158 y159 y160 y161 y162 y163 y164 y165 y166 y167 y168 y169 => Lib.hid (hexit y18 y19 y136 y137 y138 y139 y140 y141 y142 y143 y144 y145 y146 y147 y148 y149 y150 y151 y152 y153 y154 y155 y156 y157 y158 y159 y160 y161 y162 y163 y164 y165 y166 y167 y168 y169 wr hB hPP)
      clear hexit hP hPP hB hlt hr
      go_wp2
      exact (HE _ _ _ _ _ _ _ _ _ _ _ _ _ _ _ _ _ _ _ _ _ _ _ _ _ _ _ _ _ _ _ _ _ _ _ _).out
end Go.Proofs.Ytaofdbboalcceaa

/- flow.Ahead: the loop over what comes next, by itself. -/
namespace Go.Proofs.Ytaofdbboalcceaa
open Go.RowKit Go.BigFrame

theorem Mem.but {W1 W W' : World} {ob L R : Nat} {M : List (List Vl)} {Cm : List Bool} (h : Mem W1 W ob L R M Cm) {n : Nat} (hn : n < L) {u : List Vl} (hu : PreV W' (ob + 1 + n) u) (hB : But (ob + 1 + n) W W') : Mem W1 W' ob L R (M.set n u) Cm := by
  have hs := h.s
  refine ⟨h.b.trans (hB.below.mono (by omega)), h.h.of_heap (hB.same _ (by omega) (by omega)), fun p v' hv => ?_, h.c.of_heap (hB.same _ (by omega) (by omega)), Nat.le_trans hs hB.below.size, by simpa using h.l⟩
  by_cases hp : n = p
  · subst hp
    rw [List.getElem?_set_self (by rw [h.l]; exact hn)] at hv
    injection hv with hv
    subst hv
    exact hu
  · rw [List.getElem?_set_ne hp] at hv
    have hpl := (List.getElem?_eq_some_iff.1 hv).1
    have hl := h.l
    exact Pre.of_heap (h.r p v' hv) (hB.same _ (by omega) (by omega))
theorem RdN.keep {W W' : World} {A : Option Addr} {l : List Int} (h : RdN W A l) (hs : ∀ b o, A = some ⟨b, o, none⟩ → b < W.heap.size → W'.heap[b]? = W.heap[b]?) : RdN W' A l := fun j n hj => by
  obtain ⟨b, o, e1, e2, e3⟩ := h j n hj
  have hb := hs b o e1 e2
  exact ⟨b, o, e1, by
    have : W'.heap[b]?.isSome = true := by rw [hb]; simp [e2]
    by_cases hlt : b < W'.heap.size
    · exact hlt
    · simp [hlt] at this, (World.cell?_of_block hb).trans e3⟩
theorem Que.but {W W' : World} {base q : Nat} {V : Value} {T : List Nat} (h : Que W base V T) (hq : q < base) (hB : But q W W') : Que W' base V T := by
  obtain ⟨b, o, cap, cs, e1, e2, e3, e4, e5, e6, e7⟩ := h
  exact ⟨b, o, cap, cs, e1, e2, e3, e4, (hB.same b (Array.getElem?_eq_some_iff.1 e5).1 (by omega)).trans e5, e6, e7⟩
theorem Que.apart {W : World} {base nb : Nat} {V : Value} {T : List Nat} {v : List Vl} (h : Que W base V T) (hp : PreV W nb v) : V.ownBlock ≠ some nb := by
  obtain ⟨b, o, cap, cs, rfl, e2, e3, e4, e5, e6, e7⟩ := h
  intro e
  simp only [Value.ownBlock, Option.some.injEq] at e
  subst e
  obtain ⟨cs', h3, _⟩ := hp
  rw [e5] at h3
  injection h3 with h3
  injection h3 with _ h4
  exact absurd h4 (by decide)
/-- where it goes on is in the function -/
theorem next_in {f : Fn7} (hf : OkF f) {p : Nat} {i : Ins} (hi : f.code[p]? = some i) (u : List Vl) : ∀ n ∈ nextV i p u, 0 ≤ n ∧ n < (f.code.length : Int) := by
  intro n hn
  have hok := hf.ok i (List.mem_of_getElem? hi)
  have hpl := (List.getElem?_eq_some_iff.1 hi).1
  unfold nextV at hn
  by_cases h12 : i.kind = 12
  · rw [if_pos h12] at hn
    have h1 := hok.to_ (Or.inr h12)
    have h2 := hok.els h12
    split at hn
    · split at hn <;> (simp at hn; subst hn; assumption)
    · simp at hn; rcases hn with rfl | rfl <;> assumption
  · rw [if_neg h12] at hn
    unfold Ins.next at hn
    by_cases h11 : i.kind = 11
    · rw [if_pos h11] at hn; simp at hn; subst hn; exact hok.to_ (Or.inl h11)
    · rw [if_neg h11, if_neg h12] at hn
      by_cases h13 : i.kind = 13
      · rw [if_pos h13] at hn; simp at hn
      · rw [if_neg h13] at hn
        simp at hn
        subst hn
        have hk := hok.kind
        have hlast := hf.last
        by_cases hp : p = f.code.length - 1
        · have := hlast i (by rw [← hp]; exact hi)
          omega
        · omega
/-- what the loop over what comes next keeps -/
structure Four (f : Fn7) (W1 wr : World) (ob L Rn nb p : Nat) (i : Ins) (v : List Vl) (nl : List Int) (NA : Option Addr) (G : Nat) (V : Value) (M : List (List Vl)) (Cm : List Bool) (T : List Nat) (m : Nat) : Prop where
  mid : Mid f p i v (nl.take m) M Cm T
  mem : Mem W1 wr ob L Rn M Cm
  que : Que wr (ob + 2 + L) V T
  meas : T.length + 2 * pot M Cm ≤ G
  rd : RdN wr NA nl
  far : ∀ b o, NA = some ⟨b, o, none⟩ → ob + 2 + L ≤ b ∧ V.ownBlock ≠ some b
  urow : PreV wr nb (upd i v)
theorem take_snoc {nl : List Int} {m : Nat} {n : Int} (h : nl[m]? = some n) : nl.take (m + 1) = nl.take m ++ [n] := by
  rw [List.take_add_one, h]
  rfl
/-- the row is joined; nothing was to do behind it -/
theorem Four.step0 {f : Fn7} {W1 wr w' : World} {ob L Rn nb p : Nat} {i : Ins} {v : List Vl} {nl : List Int} {NA : Option Addr} {G : Nat} {V : Value} {M : List (List Vl)} {Cm : List Bool} {T : List Nat} {m n : Nat}
    (h : Four f W1 wr ob L Rn nb p i v nl NA G V M Cm T m) (hL : f.code.length = L) (hn : n < L) (hm : nl[m]? = some (n : Int)) (hin : (n : Int) ∈ nextV i p (upd i v)) (hnb : ob + 2 + L ≤ nb)
    (hch : (!cm Cm n || decide (jrow (row M n) (upd i v) ≠ row M n)) = false) (hB : But (ob + 1 + n) (wr.setCell ⟨ob + 1 + L, n, none⟩ (.bool true)) w') (hr : PreV w' (ob + 1 + n) (jrow (row M n) (upd i v))) :
    Four f W1 w' ob L Rn nb p i v nl NA G V (M.set n (jrow (row M n) (upd i v))) (Cm.set n true) T (m + 1) := by
  have hst := h.mid.step (by rw [hL]; exact hn) hin false hch.symm
  simp only [Bool.false_eq_true, if_false] at hst
  have hCl : n < Cm.length := by rw [h.mid.way.clen, hL]; exact hn
  have hs := h.mem.s
  have hkeep : ∀ b, ob + 2 + L ≤ b → b < wr.heap.size → w'.heap[b]? = wr.heap[b]? := fun b h1 h2 => (hB.same b (by simpa using h2) (by omega)).trans (heap_setCell_other _ _ _ _ (by simp only; omega))
  exact ⟨by rw [take_snoc hm]; exact hst.1, Mem.but (h.mem.setC hCl true) hn hr hB, (h.que.other (by simp only; omega) _).but (by omega) hB, Nat.le_trans hst.2 h.meas, h.rd.keep fun b o e hb => hkeep b (h.far b o e).1 hb, h.far, Pre.of_heap h.urow (hkeep nb hnb h.urow.lt)⟩
/-- the row is joined; it is to do again -/
theorem Four.step1 {f : Fn7} {W1 wr w' w2 : World} {ob L Rn nb p : Nat} {i : Ins} {v : List Vl} {nl : List Int} {NA : Option Addr} {G : Nat} {V V' : Value} {M : List (List Vl)} {Cm : List Bool} {T : List Nat} {m n : Nat} {o : Obj}
    (h : Four f W1 wr ob L Rn nb p i v nl NA G V M Cm T m) (hL : f.code.length = L) (hn : n < L) (hm : nl[m]? = some (n : Int)) (hin : (n : Int) ∈ nextV i p (upd i v)) (hnb : ob + 2 + L ≤ nb)
    (hch : (!cm Cm n || decide (jrow (row M n) (upd i v) ≠ row M n)) = true) (hB : But (ob + 1 + n) (wr.setCell ⟨ob + 1 + L, n, none⟩ (.bool true)) w') (hr : PreV w' (ob + 1 + n) (jrow (row M n) (upd i v)))
    (hq : Que w2 (ob + 2 + L) V' (T ++ [n])) (hb : Below (ob + 2 + L) (w'.alloc o) w2) (hsame : ∀ q, q < (w'.alloc o).heap.size → V.ownBlock ≠ some q → w2.heap[q]? = (w'.alloc o).heap[q]?) (hown : V'.ownBlock = V.ownBlock ∨ V'.ownBlock = some (w'.alloc o).heap.size) :
    Four f W1 w2 ob L Rn nb p i v nl NA G V' (M.set n (jrow (row M n) (upd i v))) (Cm.set n true) (T ++ [n]) (m + 1) := by
  have hst := h.mid.step (by rw [hL]; exact hn) hin true hch.symm
  simp only [if_true] at hst
  have hCl : n < Cm.length := by rw [h.mid.way.clen, hL]; exact hn
  have hs := h.mem.s
  have hsz : wr.heap.size ≤ w'.heap.size := by have := hB.below.size; simpa using this
  have hkeep : ∀ b, ob + 2 + L ≤ b → b < wr.heap.size → V.ownBlock ≠ some b → w2.heap[b]? = wr.heap[b]? := fun b h1 h2 h3 =>
    (hsame b (by simp; omega) h3).trans (((Below.one w' o).block b (by omega)).trans ((hB.same b (by simpa using h2) (by omega)).trans (heap_setCell_other _ _ _ _ (by simp only; omega))))
  have hbb : Below (ob + 2 + L) w' w2 := ((Below.one w' o).mono (by omega)).trans hb
  refine ⟨by rw [take_snoc hm]; exact hst.1, (Mem.but (h.mem.setC hCl true) hn hr hB).past hbb, hq, Nat.le_trans hst.2 h.meas, h.rd.keep fun b o e hb => hkeep b (h.far b o e).1 hb (h.far b o e).2, fun b o' e => ⟨(h.far b o' e).1, ?_⟩, Pre.of_heap h.urow (hkeep nb hnb h.urow.lt (h.que.apart h.urow))⟩
  rcases hown with e1 | e1
  · rw [e1]; exact (h.far b o' e).2
  · rw [e1]
    intro e2
    injection e2 with e2
    have hlt : m < nl.length := (List.getElem?_eq_some_iff.1 hm).1
    obtain ⟨b2, o2, e3, e4, _⟩ := h.rd m (n : Int) hm
    rw [e] at e3
    injection e3 with e3
    injection e3 with e5 e6
    simp at e2
    omega
set_option maxRecDepth 1000000 in
set_option maxHeartbeats 8000000 in
theorem loop4_any (f : Fn7) (hf : OkF f) (L Rn ob nb nc ncap : Nat) (hL : f.code.length = L) (hRt : f.R.toNat = Rn) (hR4 : Rn ≤ 4096) (W1 w4 : World) (p : Nat) (i : Ins) (v : List Vl) (nl : List Int) (NA : Option Addr) (G : Nat) (V : Value) (M : List (List Vl)) (Cm : List Bool) (T : List Nat)
    (hnl : nl = nextV i p (upd i v)) (hG : G ≤ 300000) (hnb : ob + 2 + L ≤ nb) (h4 : Four f W1 w4 ob L Rn nb p i v nl NA G V M Cm T 0)
    (x0 x1 x2 x4 x6 x7 x9 x10 x12 x13 x14 x15 x16 x17 x18 x19 x20 x21 x22 x23 x24 x25 x26 x27 x28 x29 x30 x31 x32 x33 x34 x35 x36 x37 x38 x39 x40 x41 x42 x43 x44 x45 x46 x47 x48 x49 x50 x51 x52 x53 x54 x55 x56 x57 x58 x59 x60 x61 x62 x63 x64 x65 x66 x67 x68 x69 x70 x71 x72 x73 x74 x75 x76 x77 x78 x79 x80 x81 x82 x83 x84 x85 x86 x87 x88 x89 x90 x91 x92 x93 x94 x95 x96 x97 x98 x99 x100 x101 x102 x103 x104 x105 x106 x107 x108 x109 x110 x111 x112 x113 x114 x115 x116 x117 x118 x122 x123 x124 x125 x126 x127 x128 x129 x130 x131 x132 x133 x134 x135 x136 x137 x138 x139 x140 x141 x142 x143 x144 x145 x146 x147 x148 x149 x150 x151 x152 x153 x154 x155 x156 x157 x158 x159 x160 x161 x162 x163 x164 x165 x166 x167 x168 x169 x170 x171 x172 x173 x174 x175 x176 : Value) (Q : Exit → Act → World → Prop)
    (hexit : ∀ (V' y16 y17 y18 y19 y122 y123 y124 y125 y126 y127 y128 y129 y130 y131 y132 y133 y134 y135 y136 y137 y138 y139 y140 y141 y142 y143 y144 y145 y146 y147 y148 y149 y150 y151 y152 y153 y154 y155 y156 y157 y158 y159 y160 y161 y162 y163 y164 y165 y166 y167 y168 y169 y170 y171 y172 y173 y174 y175 : Value) (M' : List (List Vl)) (Cm' : List Bool) (T' : List Nat) (w' : World), Four f W1 w' ob L Rn nb p i v nl NA G V' M' Cm' T' nl.length → Q (.exit 6) ⟨(x0 :: x1 :: x2 :: .slice (some ⟨ob, 0, none⟩) L L :: x4 :: .slice (some ⟨ob + 1 + L, 0, none⟩) L L :: x6 :: x7 :: V' :: x9 :: x10 :: .slice (some ⟨nb, 0, none⟩) Rn nc :: x12 :: x13 :: x14 :: x15 :: y16 :: y17 :: y18 :: y19 :: x20 :: x21 :: x22 :: x23 :: x24 :: x25 :: x26 :: x27 :: x28 :: x29 :: x30 :: x31 :: x32 :: x33 :: x34 :: x35 :: x36 :: x37 :: x38 :: x39 :: x40 :: x41 :: x42 :: x43 :: x44 :: x45 :: x46 :: x47 :: x48 :: x49 :: x50 :: x51 :: x52 :: x53 :: x54 :: x55 :: x56 :: x57 :: x58 :: x59 :: x60 :: x61 :: x62 :: x63 :: x64 :: x65 :: x66 :: x67 :: x68 :: x69 :: x70 :: x71 :: x72 :: x73 :: x74 :: x75 :: x76 :: x77 :: x78 :: x79 :: x80 :: x81 :: x82 :: x83 :: x84 :: x85 :: x86 :: x87 :: x88 :: x89 :: x90 :: x91 :: x92 :: x93 :: x94 :: x95 :: x96 :: x97 :: x98 :: x99 :: x100 :: x101 :: x102 :: x103 :: x104 :: x105 :: x106 :: x107 :: x108 :: x109 :: x110 :: x111 :: x112 :: x113 :: x114 :: x115 :: x116 :: x117 :: x118 :: .slice NA nl.length ncap :: .int .i64 (nl.length : Int) :: .int .i64 (nl.length : Int) :: y122 :: y123 :: y124 :: y125 :: y126 :: y127 :: y128 :: y129 :: y130 :: y131 :: y132 :: y133 :: y134 :: y135 :: y136 :: y137 :: y138 :: y139 :: y140 :: y141 :: y142 :: y143 :: y144 :: y145 :: y146 :: y147 :: y148 :: y149 :: y150 :: y151 :: y152 :: y153 :: y154 :: y155 :: y156 :: y157 :: y158 :: y159 :: y160 :: y161 :: y162 :: y163 :: y164 :: y165 :: y166 :: y167 :: y168 :: y169 :: y170 :: y171 :: y172 :: y173 :: y174 :: y175 :: x176 :: []).toArray, []⟩ w') :
    Code.wp Try.prog loop4 Q ⟨(x0 :: x1 :: x2 :: .slice (some ⟨ob, 0, none⟩) L L :: x4 :: .slice (some ⟨ob + 1 + L, 0, none⟩) L L :: x6 :: x7 :: V :: x9 :: x10 :: .slice (some ⟨nb, 0, none⟩) Rn nc :: x12 :: x13 :: x14 :: x15 :: x16 :: x17 :: x18 :: x19 :: x20 :: x21 :: x22 :: x23 :: x24 :: x25 :: x26 :: x27 :: x28 :: x29 :: x30 :: x31 :: x32 :: x33 :: x34 :: x35 :: x36 :: x37 :: x38 :: x39 :: x40 :: x41 :: x42 :: x43 :: x44 :: x45 :: x46 :: x47 :: x48 :: x49 :: x50 :: x51 :: x52 :: x53 :: x54 :: x55 :: x56 :: x57 :: x58 :: x59 :: x60 :: x61 :: x62 :: x63 :: x64 :: x65 :: x66 :: x67 :: x68 :: x69 :: x70 :: x71 :: x72 :: x73 :: x74 :: x75 :: x76 :: x77 :: x78 :: x79 :: x80 :: x81 :: x82 :: x83 :: x84 :: x85 :: x86 :: x87 :: x88 :: x89 :: x90 :: x91 :: x92 :: x93 :: x94 :: x95 :: x96 :: x97 :: x98 :: x99 :: x100 :: x101 :: x102 :: x103 :: x104 :: x105 :: x106 :: x107 :: x108 :: x109 :: x110 :: x111 :: x112 :: x113 :: x114 :: x115 :: x116 :: x117 :: x118 :: .slice NA nl.length ncap :: .int .i64 (nl.length : Int) :: .int .i64 0 :: x122 :: x123 :: x124 :: x125 :: x126 :: x127 :: x128 :: x129 :: x130 :: x131 :: x132 :: x133 :: x134 :: x135 :: x136 :: x137 :: x138 :: x139 :: x140 :: x141 :: x142 :: x143 :: x144 :: x145 :: x146 :: x147 :: x148 :: x149 :: x150 :: x151 :: x152 :: x153 :: x154 :: x155 :: x156 :: x157 :: x158 :: x159 :: x160 :: x161 :: x162 :: x163 :: x164 :: x165 :: x166 :: x167 :: x168 :: x169 :: x170 :: x171 :: x172 :: x173 :: x174 :: x175 :: x176 :: []).toArray, []⟩ w4 := by
  conv => arg 2; whnf
  have HL := Lib.hid hL
  have HRT := Lib.hid hRt
  have HNL := Lib.hid hnl
  have HF := Lib.hid hf
  have hnl2 : nl.length ≤ 2 := by
    rw [hnl]; unfold nextV Ins.next
    repeat' split
    all_goals simp
  clear hL hRt hnl hf
  obtain ⟨NL, hNL⟩ : ∃ NL, nl.length = NL := ⟨_, rfl⟩
  rw [hNL] at hexit hnl2 ⊢
  have HN2 := Lib.hid hNL
  clear hNL
  go_loopg [8, 121] NL (fun g V ix wr => ∃ (m : Nat) (M : List (List Vl)) (Cm : List Bool) (T : List Nat), g = NL - m ∧ m ≤ NL ∧ ix = .int .i64 m ∧ Four f W1 wr ob L Rn nb p i v nl NA G V M Cm T m)
  case atStart => exact ⟨0, M, Cm, T, rfl, by omega, rfl, h4⟩
  case round =>
    clear h4
    obtain ⟨m, M, Cm, T, hg, hm, rfl, h4⟩ := hrel
    have HG := Lib.hid hg
    clear hg
    by_cases hlt : m < NL
    · have hnm : nl[m]? = some (nl[m]'(by rw [HN2.out]; exact hlt)) := by simp
      generalize nl[m]'(by rw [HN2.out]; exact hlt) = ni at hnm
      have hmem : ni ∈ nextV i p (upd i v) := by rw [← HNL.out]; exact List.mem_of_getElem? hnm
      have hin := next_in HF.out h4.mid.ip (upd i v) ni hmem
      rw [HL.out] at hin
      obtain ⟨n, rfl⟩ : ∃ n : Nat, ni = n := ⟨ni.toNat, by omega⟩
      have hn : n < L := by omega
      obtain ⟨b, o, rfl, hbl, hcn⟩ := h4.rd m (n : Int) hnm
      have hCl : n < Cm.length := by have := h4.mid.way.clen; rw [HL.out] at this; omega
      have hcm : Cm[n]? = some (cm Cm n) := by simp [cm, List.getD, hCl]
      have hc0 := PreB.cell h4.mem.c hcm
      have hcf := Pre.free h4.mem.c n
      have hcl := h4.mem.c.lt
      have hM5 := h4.mem.setC hCl true
      have hrow : M[n]? = some (row M n) := row_in (by rw [h4.mem.l]; exact hn)
      have hr5 := hM5.r n _ hrow
      have hd5 := hM5.head hn
      have hrl : (row M n).length = Rn := by have := (h4.mid.way.shp.at_ (p := n) (by rw [HL.out]; exact hn)).1; rw [HRT.out] at this; exact this
      have hul : (upd i v).length = Rn := by rw [upd_len, h4.mid.vrw.1, HRT.out]
      have hu5 : PreV (wr.setCell ⟨ob + 1 + L, n, none⟩ (.bool true)) nb (upd i v) := Pre.other h4.urow (by simp only; omega) _
      have hne : nb ≠ ob + 1 + n := by omega
      have hs4 := h4.mem.s
      have H4 := Lib.hid h4
      have HNM := Lib.hid hnm
      have HIN := Lib.hid hmem
      have HRL := Lib.hid hrl
      have HUL := Lib.hid hul
      have HR5 := Lib.hid hr5
      have HD5 := Lib.hid hd5
      have HU5 := Lib.hid hu5
      clear hnm hmem hrl hul hr5 hd5 hu5 h4 hM5 hrow hcm hin
      generalize hcc : cm Cm n = c at *
      have HCC := Lib.hid hcc
      clear hcc
      go_wp2
      refine loop5_any L Rn ob nb nc n hn hR4 (row M n) (upd i v) HRL.out HUL.out (!c) _ HD5.out HR5.out HU5.out hne _ _ _ _ _ _ _ _ _ _ _ _ _ _ _ _ _ _ _ _ _ _ _ _ _ _ _ _ _ _ _ _ _ _ _ _ _ _ _ _ _ _ _ _ _ _ _ _ _ _ _ _ _ _ _ _ _ _ _ _ _ _ _ _ _ _ _ _ _ _ _ _ _ _ _ _ _ _ _ _ _ _ _ _ _ _ _ _ _ _ _ _ _ _ _ _ _ _ _ _ _ _ _ _ _ _ _ _ _ _ _ _ _ _ _ _ _ _ _ _ _ _ _ _ _ _ _ _ _ _ _ _ _ _ _ _ _ _ _ _ _ _ _ _ _ _ _ _ _ _ _ _ _ _ _ _ _ _ _ _ _ _ _ _ _ _ _ _ _ _ _ _ ?_
      intro z18 z19 z136 z137 z138 z139 z140 z141 z142 z143 z144 z145 z146 z147 z148 z149 z150 z151 z152 z153 z154 z155 z156 z157 z158 z159 z160 z161 z162 z163 z164 z165 z166 z167 z168 z169 w' hB hP
      obtain ⟨bb, hbb⟩ : ∃ bb, bb = (!c || decide (jrow (row M n) (upd i v) ≠ row M n)) := ⟨_, rfl⟩
      rw [← hbb]
      have hbb2 := hbb
      rw [← HCC.out] at hbb2
      cases bb
      · have HN := Lib.hid (H4.out.step0 HL.out hn HNM.out HIN.out hnb hbb2.symm hB hP)
        clear hbb hbb2 hB hP
        go_wp2
        go_roundg (NL - (m + 1))
        case measure => have := HG.out; omega
        case rel => exact ⟨m + 1, _, _, _, rfl, by omega, by go_num, HN.out⟩
      · have hq' := (H4.out.que.other (a := ⟨ob + 1 + L, n, none⟩) (by simp only; omega) (.bool true)).but (q := ob + 1 + n) (by omega) hB
        have hszw : ob + 2 + L ≤ w'.heap.size := Nat.le_trans hs4 (by have := hB.below.size; simpa using this)
        obtain ⟨V', w2, hrun, hq2, hb2, hsame, hown⟩ := run_append_que (w'.alloc (.cells #[.int .i64 (n : Int)] 3)) (ob + 2 + L) (by simp; omega) _ _ (hq'.later (Below.one _ _)) 42 w'.heap.size n (heap_alloc_new w' _) (by have := H4.out.meas; omega)
        have HN := Lib.hid (H4.out.step1 HL.out hn HNM.out HIN.out hnb hbb2.symm hB hP hq2 hb2 hsame hown)
        clear hbb hbb2 hB hP hq' hq2 hb2 hsame hown
        go_wp2_with (first
          | (at_builtin; go_must (refine append_ran rfl (.tmp 171) (.tmp 173) rfl rfl rfl hrun ?_)))
        go_roundg (NL - (m + 1))
        case measure => have := HG.out; omega
        case rel => exact ⟨m + 1, _, _, _, rfl, by omega, by go_num, HN.out⟩
    · obtain rfl : NL = m := by omega
      have HE := fun y16 y17 y18 y19 y122 y123 y124 y125 y126 y127 y128 y129 y130 y131 y132 y133 y134 y135 y136 y137 y138 y139 y140 y141 y142 y143 y144 y145 y146 y147 y148 y149 y150 y151 y152 y153 y154 y155 y156 y157 y158 y159 y160 y161 y162 y163 y164 y165 y166 y167 y168 y169 y170 y171 y172 y173 y174 y175 => Lib.hid (hexit _ y16 y17 y18 y19 y122 y123 y124 y125 y126 y127 y128 y129 y130 y131 y132 y133 y134 y135 y136 y137 y138 y139 y140 y141 y142 y143 y144 y145 y146 y147 y148 y149 y150 y151 y152 y153 y154 y155 y156 y157 y158 y159 y160 y161 y162 y163 y164 y165 y166 y167 y168 y169 y170 y171 y172 y173 y174 y175 M Cm T wr h4)
      clear hexit h4 hlt hm
      go_wp2
      exact (HE _ _ _ _ _ _ _ _ _ _ _ _ _ _ _ _ _ _ _ _ _ _ _ _ _ _ _ _ _ _ _ _ _ _ _ _ _ _ _ _ _ _ _ _ _ _ _ _ _ _ _ _ _ _ _ _ _ _).out
end Go.Proofs.Ytaofdbboalcceaa
