import Derived.Test.YthbcdckonaljiaaDx
import Derived.Test.YthbcdckonaljiaaQw
namespace Go.Proofs.Ythbcdckonaljiaa
open Go.RowKit Go.BigFrame

theorem append_queue {ops : Array Oper} {rest : List Oper} {o : Oper} {a : Act} {w : World} {Q : Exit → Act → World → Prop} (hgd : o.guard = none) (s x : Operand)
    (ho : o.op = .call { callee := .builtin .append, args := #[s, x], argTypes := #[45, 45] }) (V : Value) (k : List Int) (hs : a.eval s = V) (hown : OwnQ w V k)
    (A : Option Addr) (l : List Int) (cap : Nat) (hx : a.eval x = .slice A l.length cap) (hR : RdN w A l) (hl : 0 < l.length) (hl2 : l.length ≤ 90000) (hn : k.length + l.length ≤ 90000000)
    (h : ∀ V' w', OwnQ w' V' (k ++ l) → w.grownBy w' V.ownBlock → (V'.ownBlock = V.ownBlock ∨ V'.ownBlock = some w.heap.size) → wpList Try.prog ops Q rest (a.put o.dst V') w') :
    wpList Try.prog ops Q (o::rest) a w := by
  obtain ⟨V', w', hr, h1, h2, h3⟩ := run_append_q w o.type V k hown A l cap hR hl hl2 hn
  exact append_ran hgd s x ho hs hx hr (h V' w' h1 h2 h3)
theorem wpList_insert_map {P : Program} {k : TypeId} {κ : Type} [DecidableEq κ] {kv : κ → Value} (K : KeyV P k kv) (w : World) {ops : Array Oper} {rest : List Oper} {o : Oper} {a : Act} {Q : Exit → Act → World → Prop} (hg : o.guard = none) (m x v : Operand) (t : TypeId) (hop : o.op = Op.insert t m x v) {e : TypeId} (ht : P.underlying t = some (.map k e)) (b : Nat) (g : κ → Option Value) (hm : a.eval m = .map (some b)) (h : MapK kv w b g) (s : κ) (u : Value) (hx : a.eval x = kv s) (hv : a.eval v = u)
    (hK : ∀ w', MapK kv w' b (updK g s (some u)) → w.grownBy w' (some b) → w'.heap.size = w.heap.size → wpList P ops Q rest (a.put o.dst undef) w') : wpList P ops Q (o::rest) a w := by
  refine wpList_plain hg fun K' hK' => ?_
  obtain ⟨w', hrun, r1, r2, r3⟩ := h.update K ht s u
  unfold Oper.wp
  simp [execOp, hop, hm, hx, hv, hrun, Result.andThen]
  exact hK' _ _ (hK w' r1 r2 r3)
def cntV (cnt : Nat → Nat) (x : Int) : Option Value := if 0 ≤ x ∧ 0 < cnt x.toNat then some (.int .i64 (cnt x.toNat : Int)) else none
theorem cntV_at (cnt : Nat → Nat) (n : Nat) : (cntV cnt (n : Int)).getD (.int .i64 0) = .int .i64 (cnt n : Int) := by
  unfold cntV
  rw [Int.toNat_natCast]
  by_cases h : 0 < cnt n
  · rw [if_pos ⟨by omega, h⟩]; rfl
  · rw [if_neg (fun g => h g.2)]
    have : cnt n = 0 := by omega
    rw [this]; rfl
theorem cntV_bump (cnt : Nat → Nat) (n : Nat) : updK (cntV cnt) (n : Int) (some (.int .i64 ((cnt n : Int) + 1))) = cntV (bump cnt n) := by
  funext x
  unfold updK cntV bump
  by_cases e : x = (n : Int)
  · subst e
    rw [if_pos rfl, Int.toNat_natCast, if_pos rfl, if_pos ⟨by omega, by omega⟩]
    congr 2
  · rw [if_neg e]
    by_cases h0 : 0 ≤ x
    · rw [if_neg (show ¬ x.toNat = n by omega)]
    · rw [if_neg (fun g => h0 g.1), if_neg (fun g => h0 g.1)]
theorem cntV_one (h : Nat) : updK (fun _ : Int => (none : Option Value)) (h : Int) (some (.int .i64 1)) = cntV (oneAt h) := by
  funext x
  unfold updK cntV oneAt
  by_cases e : x = (h : Int)
  · subst e
    rw [if_pos rfl, Int.toNat_natCast, if_pos rfl, if_pos ⟨by omega, by omega⟩]
    rfl
  · rw [if_neg e]
    by_cases h0 : 0 ≤ x
    · rw [if_neg (show ¬ x.toNat = h by omega), if_neg (by omega)]
    · rw [if_neg (fun g => h0 g.1)]
def Stay (e0 S1 S2 b : Nat) : Prop := b < e0 ∨ (S1 ≤ b ∧ b < S2)
abbrev asI (l : List Nat) : List Int := l.map fun n : Nat => (n : Int)
structure LpM (we w0 wr : World) (e0 S1 S2 mb : Nat) (V V9 : Value) (T Vs : List Nat) (cnt : Nat → Nat) : Prop where
  q : OwnQ wr V (asI T)
  o : OwnN wr V9 (asI Vs)
  m : MapK kI wr mb (cntV cnt)
  qb : ∀ b, V.ownBlock = some b → ¬ Stay e0 S1 S2 b ∧ b ≠ mb
  ob : ∀ b, V9.ownBlock = some b → ¬ Stay e0 S1 S2 b ∧ b ≠ mb ∧ V.ownBlock ≠ some b
  mb : ¬ Stay e0 S1 S2 mb
  bel : Below e0 we wr
  st : ∀ b, Stay e0 S1 S2 b → wr.heap[b]? = w0.heap[b]?
  sz : S2 ≤ wr.heap.size ∧ e0 ≤ S1 ∧ S1 ≤ S2
theorem Stay.not {e0 S1 S2 b : Nat} (h : ¬ Stay e0 S1 S2 b) : e0 ≤ b := by
  unfold Stay at h
  omega
theorem OwnN.lt3 {w : World} {V : Value} {l : List Int} (h : OwnN w V l) : ∀ b, V.ownBlock = some b → b < w.heap.size := fun b hb => (World.ownsRow.lt h b hb).2
theorem LpM.pop {we w0 wr : World} {e0 S1 S2 mb g o c : Nat} {V9 : Value} {t : Nat} {T Vs : List Nat} {cnt : Nat → Nat} {n : Nat} (h : LpM we w0 wr e0 S1 S2 mb (.slice (some ⟨g, o, none⟩) n c) V9 (t::T) Vs cnt) {A : Option Addr} {m c' : Nat} (hq : OwnQ wr (.slice A m c') (asI T)) (hA : A = some ⟨g, o, none⟩ ∨ A = some ⟨g, o + 1, none⟩) : LpM we w0 wr e0 S1 S2 mb (.slice A m c') V9 T Vs cnt := by
  have e : (Value.slice A m c').ownBlock = some g := by rcases hA with rfl | rfl <;> rfl
  exact ⟨hq, h.o, h.m, fun b hb => h.qb b (by rw [e] at hb; exact hb), fun b hb => ⟨(h.ob b hb).1, (h.ob b hb).2.1, by rw [e]; exact (h.ob b hb).2.2⟩, h.mb, h.bel, h.st, h.sz⟩
theorem LpM.count {we w0 wr w' : World} {e0 S1 S2 mb : Nat} {V V9 : Value} {T Vs : List Nat} {cnt : Nat → Nat} {n : Nat} (h : LpM we w0 wr e0 S1 S2 mb V V9 T Vs cnt) (hm : MapK kI w' mb (cntV (bump cnt n))) (hg : wr.grownBy w' (some mb)) : LpM we w0 w' e0 S1 S2 mb V V9 T Vs (bump cnt n) := by
  have hml := h.m.lt
  refine ⟨h.q.keepS fun b hb => hg.block b (h.q.lt b hb) (fun e => (h.qb b hb).2 (by injection e)), h.o.keepS fun b hb => hg.block b (h.o.lt3 b hb) (fun e => (h.ob b hb).2.1 (by injection e)), hm, h.qb, h.ob, h.mb, Below.grown h.bel hg (by have := h.sz; omega) (fun k hk => by injection hk with hk; have := Stay.not h.mb; omega), fun b hb => ?_, by have := h.sz; have := hg.size; omega⟩
  have hbl : b < wr.heap.size := by have := h.sz; have := Stay.not h.mb; unfold Stay at hb; omega
  exact (hg.block b hbl (fun e => h.mb (by injection e with e; subst e; exact hb))).trans (h.st b hb)
theorem LpM.out {we w0 wr w' : World} {e0 S1 S2 mb : Nat} {V V9 V' : Value} {T Vs : List Nat} {cnt : Nat → Nat} {n : Nat} {o : Obj} (h : LpM we w0 wr e0 S1 S2 mb V V9 T Vs cnt) (ho : OwnN w' V' (asI Vs ++ [(n : Int)])) (hg : (wr.alloc o).grownBy w' V9.ownBlock) (hv : V'.ownBlock = V9.ownBlock ∨ V'.ownBlock = some (wr.alloc o).heap.size) : LpM we w0 w' e0 S1 S2 mb V V' T (Vs ++ [n]) cnt := by
  have hv' : V'.ownBlock = V9.ownBlock ∨ V'.ownBlock = some (wr.heap.size + 1) := by simpa using hv
  obtain ⟨s1, s2, s3⟩ := h.sz
  have hml := h.m.lt
  have hkeep : ∀ b, b < wr.heap.size → V9.ownBlock ≠ some b → w'.heap[b]? = wr.heap[b]? := fun b hb hne => (hg.block b (by simp; omega) (fun e => hne e.symm)).trans (heap_alloc_old wr o hb)
  have hgs := hg.size
  simp only [World.size_alloc] at hgs
  refine ⟨h.q.keepS fun b hb => hkeep b (h.q.lt b hb) (fun e => (h.ob b e).2.2 hb), by unfold asI; rw [List.map_append]; exact ho, h.m.of_block (hkeep mb hml (fun e => (h.ob mb e).2.1 rfl)), h.qb, fun b hb => ?_, h.mb, Below.grown (h.bel.alloc (by omega) o) hg (by simp; omega) (fun k hk => Stay.not (h.ob k hk).1), fun b hb => ?_, by omega⟩
  · rcases hv' with e | e
    · rw [e] at hb; exact h.ob b hb
    · rw [e] at hb; injection hb with hb; subst hb
      refine ⟨fun hs => by unfold Stay at hs; omega, by omega, fun e2 => by have := h.q.lt _ e2; omega⟩
  · have hbl : b < wr.heap.size := by unfold Stay at hb; omega
    exact (hkeep b hbl (fun e => (h.ob b e).1 hb)).trans (h.st b hb)
theorem LpM.more {we w0 wr w' : World} {e0 S1 S2 mb : Nat} {V V9 V' : Value} {T Vs L : List Nat} {cnt : Nat → Nat} (h : LpM we w0 wr e0 S1 S2 mb V V9 T Vs cnt) (ho : OwnQ w' V' (asI T ++ asI L)) (hg : wr.grownBy w' V.ownBlock) (hv : V'.ownBlock = V.ownBlock ∨ V'.ownBlock = some wr.heap.size) : LpM we w0 w' e0 S1 S2 mb V' V9 (T ++ L) Vs cnt := by
  obtain ⟨s1, s2, s3⟩ := h.sz
  have hml := h.m.lt
  have hgs := hg.size
  refine ⟨by unfold asI; rw [List.map_append]; exact ho, h.o.keepS fun b hb => hg.block b (h.o.lt3 b hb) (fun e => (h.ob b hb).2.2 e.symm), h.m.of_block (hg.block mb hml (fun e => (h.qb mb e.symm).2 rfl)), fun b hb => ?_, fun b hb => ⟨(h.ob b hb).1, (h.ob b hb).2.1, ?_⟩, h.mb, Below.grown h.bel hg (by omega) (fun k hk => Stay.not (h.qb k hk).1), fun b hb => ?_, by omega⟩
  · rcases hv with e | e
    · rw [e] at hb; exact h.qb b hb
    · rw [e] at hb; injection hb with hb; subst hb
      exact ⟨fun hs => by unfold Stay at hs; omega, by omega⟩
  · rcases hv with e | e
    · rw [e]; exact (h.ob b hb).2.2
    · rw [e]; intro e2; injection e2 with e2; have := h.o.lt3 b hb; omega
  · have hbl : b < wr.heap.size := by unfold Stay at hb; omega
    exact (hg.block b hbl (fun e => (h.qb b e.symm).1 hb)).trans (h.st b hb)
theorem RdN.keepS2 {w0 wr : World} {A : Option Addr} {l : List Int} {P : Nat → Prop} (h : RdN w0 A l) (hk : ∀ b, P b → wr.heap[b]? = w0.heap[b]?) (hA : ∀ b o, A = some ⟨b, o, none⟩ → b < w0.heap.size → P b) : RdN wr A l := fun j n hn => by
  obtain ⟨b, o, e1, e2, e3⟩ := h j n hn
  have hb := hk b (hA b o e1 e2)
  refine ⟨b, o, e1, ?_, (World.cell?_of_block (a := ⟨b, o + j, none⟩) hb).trans e3⟩
  have h1 : w0.heap[b]? = some w0.heap[b] := Array.getElem?_eq_getElem e2
  rw [← hb] at h1
  exact (Array.getElem?_eq_some_iff.1 h1).1
theorem InL.pre {E : Nat → Nat → Prop} {h n : Nat} (hh : R0 E h) (hl : InL E h n) (hne : n ≠ h) : ∃ p, E p n := by
  have hd := hl.dom hh
  cases hd.1 with
  | zero => exact absurd hd.at0.symm hne
  | step _ he => exact ⟨_, he⟩
open Go.RowKit Go.BigFrame

noncomputable def lp1 : Code := ((((Try.f57.body).map loopsOf).getD [])[0]?).getD .skip
def meas (N v : Nat) : Nat := (N + 1) * (N - v)
theorem meas_step {N v : Nat} (h : v < N) : meas N (v + 1) + (N + 1) = meas N v := by
  unfold meas
  obtain ⟨d, hd⟩ : ∃ d, N - v = d + 1 := ⟨N - v - 1, by omega⟩
  rw [hd, show N - (v + 1) = d by omega, Nat.mul_succ]
theorem meas_le {N : Nat} (v : Nat) (hN : N ≤ 8192) : meas N v ≤ 67117056 := by
  unfold meas
  exact Nat.le_trans (Nat.mul_le_mul (by omega : N + 1 ≤ 8193) (by omega : N - v ≤ 8192)) (by decide)
def CutQ (w wr : World) (g o : Nat) (T : List Nat) (s : Value) (wx : World) : Prop := ∃ A m c, s = .slice A m c ∧ (A = some ⟨g, o, none⟩ ∨ A = some ⟨g, o + 1, none⟩) ∧ OwnQ w (.slice A m c) (asI T) ∧ wr = wx
set_option maxRecDepth 1000000 in
set_option maxHeartbeats 16000000 in
theorem lp1_any {E : Nat → Nat → Prop} (we w0 : World) (e0 S1 S2 mb rb bb N h : Nat) (hN : N ≤ 8192) (V0 V90 : Value) (T0 : List Nat) (hT0 : T0.length ≤ N) (hM : LpM we w0 w0 e0 S1 S2 mb V0 V90 T0 [h] (oneAt h)) (hs : Srch E N h [h] T0 (oneAt h))
    (hR : Pre gB 1 4 w0 rb (bl N fun p => tb (R0 E p))) (hrb : Stay e0 S1 S2 rb) (hrows : RowsR w0 bb N fun n => upL N fun q => E q n) (hbb : Stay e0 S1 S2 bb) (hrf : ∀ j, j < N → ∀ A n c, w0.cell? ⟨bb, j, none⟩ = some (.slice A n c) → ∀ b o, A = some ⟨b, o, none⟩ → b < w0.heap.size → Stay e0 S1 S2 b)
    (hh : R0 E h) (hE : ∀ p q, E p q → p < N) (x0 x1 x2 x3 x4 x10 x11 x12 x13 x14 x15 x16 x17 x18 x19 x20 x21 x22 x23 x24 x25 x26 x27 x28 x29 x30 x31 x32 x33 x34 x35 x36 x37 x38 x39 x40 x41 x42 x43 x44 x45 x46 x47 x48 x49 x50 x51 x52 x53 x54 x55 x56 x57 x58 x59 x60 x61 x62 x63 x64 x65 x66 x67 x68 x69 x70 x71 x72 x73 x74 x75 x76 x77 x78 : Value) (Q : Exit → Act → World → Prop)
    (hexit : ∀ (y6 y9 y10 y44 y45 y46 y47 y48 y49 y50 y51 y52 y53 y54 y55 y56 y57 y58 y59 y60 y61 y62 y63 y64 y65 y66 y67 y68 y69 y70 y71 y72 y73 y74 y75 : Value) (w' : World) (Vs : List Nat) (cnt : Nat → Nat), LpM we w0 w' e0 S1 S2 mb y6 y9 [] Vs cnt → Srch E N h Vs [] cnt → Q (.exit 0) ⟨(x0::x1::x2::x3::x4::.slice (some ⟨rb, 0, none⟩) N N::y6::.map (some mb)::.slice (some ⟨bb, 0, none⟩) N N::y9::y10::x11::x12::x13::x14::x15::x16::x17::x18::x19::x20::x21::x22::x23::x24::x25::x26::x27::x28::x29::x30::x31::x32::x33::x34::x35::x36::x37::x38::x39::x40::x41::x42::x43::y44::y45::y46::y47::y48::y49::y50::y51::y52::y53::y54::y55::y56::y57::y58::y59::y60::y61::y62::y63::y64::y65::y66::y67::y68::y69::y70::y71::y72::y73::y74::y75::x76::x77::x78::[]).toArray, []⟩ w') :
    Code.wp Try.prog lp1 Q ⟨(x0::x1::x2::x3::x4::.slice (some ⟨rb, 0, none⟩) N N::V0::.map (some mb)::.slice (some ⟨bb, 0, none⟩) N N::V90::x10::x11::x12::x13::x14::x15::x16::x17::x18::x19::x20::x21::x22::x23::x24::x25::x26::x27::x28::x29::x30::x31::x32::x33::x34::x35::x36::x37::x38::x39::x40::x41::x42::x43::x44::x45::x46::x47::x48::x49::x50::x51::x52::x53::x54::x55::x56::x57::x58::x59::x60::x61::x62::x63::x64::x65::x66::x67::x68::x69::x70::x71::x72::x73::x74::x75::x76::x77::x78::[]).toArray, []⟩ w0 := by
  conv => arg 2; whnf
  have HE := Lib.hid hexit
  have HR := Lib.hid hR
  have HRB := Lib.hid hrb
  have HROWS := Lib.hid hrows
  have HBB := Lib.hid hbb
  have HRF := Lib.hid hrf
  have HH := Lib.hid hh
  have HEE := Lib.hid hE
  have H0 := Lib.hid (show LpM we w0 w0 e0 S1 S2 mb V0 V90 T0 [h] (oneAt h) ∧ Srch E N h [h] T0 (oneAt h) from ⟨hM, hs⟩)
  have hg0 : ∀ x, oneAt h x + (T0.length + meas N 1) ≤ 67200000 := fun x => by
    have h1 := meas_le 1 hN
    unfold oneAt
    split <;> omega
  have HG0 := Lib.hid hg0
  clear hexit hR hrb hrows hbb hrf hh hE hM hs hT0 hg0
  go_loopg [6, 9] (T0.length + meas N 1) (fun gk V V9 wr => ∃ (T Vs : List Nat) (cnt : Nat → Nat), gk = T.length + meas N Vs.length ∧ LpM we w0 wr e0 S1 S2 mb V V9 T Vs cnt ∧ Srch E N h Vs T cnt ∧ ∀ x, cnt x + gk ≤ 67200000)
  case atStart => exact ⟨T0, [h], oneAt h, rfl, H0.out.1, H0.out.2, HG0.out⟩
  case round =>
    obtain ⟨T, Vs, cnt, hgk, hm, hs, hc⟩ := hrel
    clear H0 HG0
    have HM := Lib.hid hm
    have HS := Lib.hid hs
    have HC := Lib.hid hc
    have HGK := Lib.hid hgk
    cases T with
    | nil =>
      obtain ⟨A, c, hV, _⟩ := hm.q
      simp only [asI, List.map_nil, List.length_nil] at hV
      subst hV
      have HX := fun (y10 y44 y45 y46 y47 y48 y49 y50 y51 y52 y53 y54 y55 y56 y57 y58 y59 y60 y61 y62 y63 y64 y65 y66 y67 y68 y69 y70 y71 y72 y73 y74 y75 : Value) => Lib.hid (HE.out (.slice A 0 c) u9 y10 y44 y45 y46 y47 y48 y49 y50 y51 y52 y53 y54 y55 y56 y57 y58 y59 y60 y61 y62 y63 y64 y65 y66 y67 y68 y69 y70 y71 y72 y73 y74 y75 wr Vs cnt hm hs)
      clear hm hs hc hgk HE
      go_wp2
      exact (HX _ _ _ _ _ _ _ _ _ _ _ _ _ _ _ _ _ _ _ _ _ _ _ _ _ _ _ _ _ _ _ _ _).out
    | cons n T =>
      obtain ⟨g, o, c, hV, hcl, hgl, hcell, hq⟩ := OwnQ.head (show OwnQ wr u6 ((n : Int)::asI T) from hm.q)
      obtain ⟨t, ht⟩ : ∃ t, T.length = t := ⟨_, rfl⟩
      have hal : (asI T).length = t := by unfold asI; rw [List.length_map, ht]
      rw [hal] at hV hcl hq
      subst hV
      have hnN := (hs.td n (by simp)).1
      have htb : t ≤ 67200000 := by have h1 := hc n; rw [hgk] at h1; simp only [List.length_cons, ht] at h1; omega
      have hcnt : cnt n ≤ 67200000 := by have := hc n; omega
      have HQ := Lib.hid hq
      have HT := Lib.hid ht
      have hni : (n : Int) < N := by omega
      have hc1 : (1 : Int) ≤ (t : Int) + 1 := by omega
      have hc2 : (t : Int) + 1 ≤ c := by omega
      clear hm hs hc hgk hq hal ht
      go_upto_region 12 with fail
      go_cut [6] from 50 to 51 (fun s wx => CutQ wr wr g o T s wx)
      case first =>
        by_cases hc0 : c = 1
        · subst hc0
          obtain rfl : t = 0 := by omega
          have h1 := HQ.out
          rw [if_pos rfl] at h1
          have HQ2 : Hid (CutQ wr wr g o T (.slice (some ⟨g, o, none⟩) 0 0) wr) := Lib.hid ⟨_, _, _, rfl, Or.inl rfl, h1, rfl⟩
          clear h1
          go_wp2
          go_meet
          exact HQ2.out
        · have h1 := HQ.out
          rw [if_neg hc0] at h1
          have HQ2 : Hid (CutQ wr wr g o T (.slice (some ⟨g, o + 1, none⟩) t (c - 1)) wr) := Lib.hid ⟨_, _, _, rfl, Or.inr rfl, h1, rfl⟩
          clear h1
          go_wp2
          go_meet
          exact HQ2.out
      case rest =>
        obtain ⟨A, m, c', rfl, hA, hq, rfl⟩ := hcut
        have HM2 := Lib.hid (HM.out.pop hq hA)
        obtain ⟨A7, c7, hcr, hrw⟩ := HROWS.out n hnN
        obtain ⟨L, hLe, hLm⟩ := upN_is N fun q => E q n
        simp only at hcr hrw
        rw [hLe] at hcr hrw
        obtain ⟨Ln, hLn⟩ : ∃ Ln, L.length = Ln := ⟨_, rfl⟩
        have hLnN : Ln ≤ N := by
          have h1 := congrArg List.length hLe
          rw [List.length_map, hLn] at h1
          have := upL_len N fun q => E q n
          omega
        rw [List.length_map, hLn] at hcr
        have HCR := Lib.hid hcr
        have HRW := Lib.hid hrw
        have HLM := Lib.hid hLm
        have HLN := Lib.hid hLn
        have hcb : (cnt n : Int) ≤ 67200000 := by omega
        have HHQ := Lib.hid hA
        clear hq hA hcr hrw hLm hLn hLe
        have hbn : bump cnt n n = cnt n + 1 := by unfold bump; rw [if_pos rfl]
        go_upto_region 14 with (first
          | (show wpList Try.prog _ _ (⟨some 54, _, _, _, _, _⟩::_) _ _; refine wpList_lookup_map kvInt _ rfl (.tmp 52) (.tmp 53) 100 false rfl under_mii (zero_int _) mb _ rfl HM2.out.m (n : Int) rfl ?_; rw [if_neg (by simp), cntV_at])
          | (show wpList Try.prog _ _ (⟨none, .mapUpdate _ _ _ _, _, _, _, _⟩::_) _ _; refine wpList_update_map kvInt _ rfl (.tmp 52) (.tmp 53) (.tmp 55) 100 rfl under_mii mb _ rfl HM2.out.m (n : Int) (.int .i64 ((cnt n : Int) + 1)) rfl rfl ?_; intro w3 hm3 hg3 hz3; rw [cntV_bump] at hm3; have HM3 := Lib.hid (HM2.out.count hm3 hg3); clear hm3 hg3 hz3))
        have hR3 := HR.out.of_heap (HM3.out.st rb HRB.out)
        have hcr := PreB.cell hR3 (bl_get (m := fun p => tb (R0 E p)) hnN)
        have HSK : Hid ((0 < cnt n ∨ ¬ R0 E n) → ∃ (T' Vs' : List Nat) (cnt' : Nat → Nat), T.length + meas N Vs.length = T'.length + meas N Vs'.length ∧ LpM we w0 w3 e0 S1 S2 mb (.slice A m c') u9 T' Vs' cnt' ∧ Srch E N h Vs' T' cnt' ∧ ∀ x, cnt' x + (T.length + meas N Vs.length) ≤ 67200000) := Lib.hid fun hn => ⟨T, Vs, bump cnt n, rfl, HM3.out, HS.out.skip hn, fun x => by
          have h1 := HC.out x
          have h2 := HC.out n
          rw [HGK.out] at h1 h2
          simp only [List.length_cons] at h1 h2
          unfold bump
          split <;> omega⟩
        clear hR3
        by_cases hcn : cnt n = 0
        · by_cases hr : R0 E n
          · rw [tb_true.2 hr] at hcr
            have hb1 : ((bump cnt n n : Nat) : Int) = 1 := by rw [hbn, hcn]; rfl
            have HS2 := Lib.hid (HS.out.visit hcn hr (fun p => HLM.out p) HEE.out)
            have hvn := HS2.out.len
            have hVN : Vs.length < N := by rw [List.length_append] at hvn; simp at hvn; omega
            have HVN := Lib.hid hVN
            have hl0 : 0 < L.length := by
              obtain ⟨e, he⟩ := InL.pre HH.out (HS2.out.vi n (by simp)) (fun e => by
                have h1 := (HS.out.cn h).1 (List.mem_of_getElem? HS.out.vh)
                rw [← e] at h1
                omega)
              exact List.length_pos_of_mem ((HLM.out e).2 ⟨HEE.out e n he, he⟩)
            have HL0 := Lib.hid hl0
            clear hvn hVN hl0 hr hcn
            go_wp2_with (first
              | (show wpList Try.prog _ _ (⟨some 58, _, _, _, _, _⟩::_) _ _; refine wpList_lookup_map kvInt _ rfl (.tmp 56) (.tmp 57) 100 false rfl under_mii (zero_int _) mb _ rfl HM3.out.m (n : Int) rfl ?_; rw [if_neg (by simp), cntV_at, hb1])
              | (show wpList Try.prog _ _ (⟨some 69, _, _, _, _, _⟩::_) _ _; at_builtin; refine append_one rfl (.tmp 66) (.tmp 68) rfl u9 (asI Vs) rfl (HM3.out.o.alloc _) w3.heap.size n rfl (heap_alloc_new _ _) (by unfold asI; rw [List.length_map]; have := HVN.out; omega) ?_; intro V4 w4 ho4 hg4 hb4; have HM4 := Lib.hid (HM3.out.out ho4 hg4 hb4); clear ho4 hg4 hb4; have hcr4 := (World.cell?_of_block (a := ⟨bb, n, none⟩) (HM4.out.st bb HBB.out)).trans HCR.out; have HRW4 : Hid (RdN w4 A7 (asI L)) := Lib.hid (HRW.out.keepS2 HM4.out.st (fun b o e hb => HRF.out n hnN A7 Ln c7 HCR.out b o e hb)))
              | (show wpList Try.prog _ _ (⟨some 75, _, _, _, _, _⟩::_) _ _; at_builtin; refine append_queue rfl (.tmp 70) (.tmp 74) rfl (.slice A m c') (asI T) rfl HM4.out.q A7 (asI L) c7 (by unfold asI; rw [List.length_map, HLN.out]; rfl) HRW4.out (by unfold asI; rw [List.length_map]; exact HL0.out) (by unfold asI; rw [List.length_map, HLN.out]; omega) (by unfold asI; rw [List.length_map, List.length_map, HLN.out, HT.out]; omega) ?_; intro V5 w5 ho5 hg5 hb5; have HM5 := Lib.hid (HM4.out.more ho5 hg5 hb5); clear ho5 hg5 hb5))
            go_roundg ((T ++ L).length + meas N (Vs ++ [n]).length)
            case measure =>
              have h1 := meas_step HVN.out
              rw [HGK.out, List.length_append, List.length_append, HLN.out]
              simp only [List.length_cons, List.length_nil, Nat.zero_add]
              omega
            case rel =>
              refine ⟨T ++ L, Vs ++ [n], bump cnt n, rfl, HM5.out, HS2.out, fun x => ?_⟩
              have h1 := meas_step HVN.out
              have h2 := HC.out x
              have h3 := HC.out n
              rw [HGK.out] at h2 h3
              rw [List.length_append, List.length_append, HLN.out]
              simp only [List.length_cons, List.length_nil, Nat.zero_add] at h2 h3 ⊢
              unfold bump
              split <;> omega
          · rw [tb_false.2 hr] at hcr
            have hb1 : ((bump cnt n n : Nat) : Int) = 1 := by rw [hbn, hcn]; rfl
            have HK := Lib.hid (HSK.out (Or.inr hr))
            clear hr hcn
            go_wp2_with (first
              | (show wpList Try.prog _ _ (⟨some 58, _, _, _, _, _⟩::_) _ _; refine wpList_lookup_map kvInt _ rfl (.tmp 56) (.tmp 57) 100 false rfl under_mii (zero_int _) mb _ rfl HM3.out.m (n : Int) rfl ?_; rw [if_neg (by simp), cntV_at, hb1]))
            go_roundg (T.length + meas N Vs.length)
            case measure => rw [HGK.out, List.length_cons]; omega
            case rel => exact HK.out
        · have hb1 : ¬ (((bump cnt n n : Nat) : Int) = 1) := by rw [hbn]; omega
          have HK := Lib.hid (HSK.out (Or.inl (by omega)))
          obtain ⟨bv, hbv⟩ : ∃ bv, ((bump cnt n n : Nat) : Int) = bv := ⟨_, rfl⟩
          rw [hbv] at hb1
          clear hcn
          go_wp2_with (first
            | (show wpList Try.prog _ _ (⟨some 58, _, _, _, _, _⟩::_) _ _; refine wpList_lookup_map kvInt _ rfl (.tmp 56) (.tmp 57) 100 false rfl under_mii (zero_int _) mb _ rfl HM3.out.m (n : Int) rfl ?_; rw [if_neg (by simp), cntV_at, hbv]))
          go_roundg (T.length + meas N Vs.length)
          case measure => rw [HGK.out, List.length_cons]; omega
          case rel => exact HK.out
open Go.RowKit Go.BigFrame

theorem upL_nil {N : Nat} {P : Nat → Prop} (h : ∀ n, n < N → ¬ P n) : upL N P = [] := List.eq_nil_iff_forall_not_mem.2 fun x hx => by
  obtain ⟨n, _, h1, h2⟩ := upL_mem.1 hx
  exact h n h1 h2
noncomputable def lpL (f : Fn7) (h : Int) : List Int := upL f.code.length fun n => 0 ≤ h ∧ IsHd (Eg f.code) h.toNat ∧ InL (Eg f.code) h.toNat n
theorem lpL_no {f : Fn7} {h : Int} (hn : ¬ (0 ≤ h ∧ IsHd (Eg f.code) h.toNat)) : lpL f h = [] := upL_nil fun _ _ g => hn ⟨g.1, g.2.1⟩
theorem gLoop_no (f : Fn7) (hf : ¬ OkF f) (h : Int) (C : Option Addr) (cap : Nat) (w : World) (hC : RdI w C f.code) :
    Calls Try.prog 57 #[funcAgg f.nm f.ps f.R f.Fr C f.code.length cap, .int .i64 h] w fun e w' => e = .returned (.slice none 0 0) ∧ Below w.heap.size w w' := by
  have hB := Below.one w (funcObj f.nm f.ps f.R f.Fr C f.code.length cap)
  have hR := Lib.hid (gReached_no f hf C cap _ (hC.below hB))
  simp only [funcObj, funcAgg] at hB hR ⊢
  clear hf hC
  go_enter Try.func57, Try.ntmps57
  by_cases h1 : h < 0
  · go_wp2_with (first
      | (refine hR.out.mono ?_; rintro e w3 ⟨rfl, hb3⟩))
    go_returns
    exact ⟨rfl, hB.trans (hb3.mono hB.size)⟩
  · have h2 : 0 ≤ h := by omega
    go_wp2_with (first
      | (refine hR.out.mono ?_; rintro e w3 ⟨rfl, hb3⟩))
    go_returns
    exact ⟨rfl, hB.trans (hb3.mono hB.size)⟩
theorem isort_in (l : List Int) (x : Int) : x ∈ isort l ↔ x ∈ l := (List.mergeSort_perm l _).mem_iff
theorem isort_up {l : List Int} (h : l.Nodup) : (isort l).Pairwise (· < ·) := by
  have h1 : (isort l).Pairwise (fun x y => decide (x ≤ y) = true) := List.pairwise_mergeSort (by intro a b c h1 h2; simp at h1 h2 ⊢; omega) (by intro a b; simp; omega) l
  have h2 : (isort l).Pairwise (· ≠ ·) := ((List.mergeSort_perm l _).nodup_iff).2 h
  exact (h1.and h2).imp fun ⟨a, b⟩ => by simp at a; omega
theorem dFn : Try.prog.underlying 26 = some (.struct (Try.prog.fieldsOf 26)) := by kernel_rfl
theorem dsFn : (Try.prog.info? 26).map (·.size) = some 5 := by kernel_rfl
structure IG (W : World) (G : Nat → Value → World → Prop) (s : Nat → Option Value) (w : World) : Prop where
  b : Below W.heap.size W w
  g : ∀ i v, s i = some v → G i v w
theorem IG.step {W : World} {G : Nat → Value → World → Prop} (hG : ∀ i v w w', Below w.heap.size w w' → G i v w → G i v w') {s : Nat → Option Value} {w w' : World} (h : IG W G s w) (hb : Below w.heap.size w w') (i : Nat) (v : Value) (hg : G i v w') : IG W G (updT s i v) w' where
  b := h.b.trans (hb.mono h.b.size)
  g := fun j u hj => by
    by_cases hji : j = i
    · subst hji
      simp only [updT, if_true, Option.some.injEq] at hj
      rw [← hj]; exact hg
    · simp only [updT, hji, if_false] at hj
      exact hG _ _ _ _ hb (h.g j u hj)
theorem some_of {v : Option Value} (h : v.isSome = true) : ∃ u, v = some u := Option.isSome_iff_exists.1 h
def LpG (f : Fn7) (N h : Nat) (W : World) (FA RV : Value) : Nat → Value → World → Prop
  | 0, v, _ => v = FA
  | 1, v, _ => v = .int .i64 (h : Int)
  | 2, v, _ => v = FA
  | 3, v, w => ∃ ob up O, v = .slice (some ⟨ob, 0, none⟩) N N ∧ Pre gN 1 3 w ob (abL N up) ∧ UpT (Eg f.code) (fun n => List.idxOf n O) up
  | 4, v, _ => v = RV
  | 5, v, w => OwnN w v (upL N (Bk (Eg f.code) h)) ∧ ∀ b, v.ownBlock = some b → W.heap.size ≤ b
  | _, _, _ => True
theorem LpG.grow {f : Fn7} {N h : Nat} {W : World} {FA RV : Value} : ∀ i v w w', Below w.heap.size w w' → LpG f N h W FA RV i v w → LpG f N h W FA RV i v w'
  | 0, _, _, _, _, h => h
  | 1, _, _, _, _, h => h
  | 2, _, _, _, _, h => h
  | 3, _, _, _, hb, ⟨ob, up, O, h1, h2, h3⟩ => ⟨ob, up, O, h1, Pre.later h2 hb, h3⟩
  | 4, _, _, _, _, h => h
  | 5, _, _, _, hb, ⟨h1, h2⟩ => ⟨h1.later hb, h2⟩
  | _ + 6, _, _, _, _, _ => trivial
def LpE (f : Fn7) (N h : Nat) (W : World) (s : Value) (wx : World) : Prop := OwnN wx s (upL N (Bk (Eg f.code) h)) ∧ (∀ b, s.ownBlock = some b → W.heap.size ≤ b) ∧ Below W.heap.size W wx
set_option maxRecDepth 1000000 in
set_option maxHeartbeats 16000000 in
theorem gLoop_fr (f : Fn7) (hf : OkF f) (h : Int) (C : Option Addr) (cap : Nat) (w : World) (hC : RdI w C f.code) :
    Calls Try.prog 57 #[funcAgg f.nm f.ps f.R f.Fr C f.code.length cap, .int .i64 h] w fun e w' => SlF w.heap.size (lpL f h) e w' ∧ Below w.heap.size w w' := by
  have hB := Below.one w (funcObj f.nm f.ps f.R f.Fr C f.code.length cap)
  have bx := heap_alloc_new w (funcObj f.nm f.ps f.R f.Fr C f.code.length cap)
  have hC1 := hC.below hB
  have hR := gReached_yes f hf C cap _ hC1
  have hA := fun W h => gAbove_yes f hf C cap W h
  have hBf := fun W h => Before_yes f hf C cap W h
  have hEn := fun h A2 c2 rb O up (hU : UpT (Eg f.code) (fun n => List.idxOf n O) up) W h1 h2 h3 => ends_any f hf h C cap A2 c2 rb hU W h1 h2 h3
  have hlt : ∀ p, R0 (Eg f.code) p → p < f.code.length := fun p h => h.ltN hf
  have hEl : ∀ p q, Eg f.code p q → p < f.code.length := fun p q h => h.lt1
  have hno : ¬ (0 ≤ h ∧ IsHd (Eg f.code) h.toNat) → SlF w.heap.size (lpL f h) (.returned (.slice none 0 0)) w := fun g => by rw [lpL_no g]; exact ⟨none, 0, rfl, fun j n hj => (by simp at hj), fun b o e => by cases e⟩
  obtain ⟨N, hN⟩ : ∃ N, f.code.length = N := ⟨_, rfl⟩
  have hN2 : N ≤ 8192 := by rw [← hN]; exact hf.len.2
  rw [hN] at hR hA hB bx hC1 hlt hBf hEn hEl ⊢
  simp only [funcObj, funcAgg] at hR hA hB bx hC1 hBf hEn ⊢
  have HNO : Hid (¬ (0 ≤ h ∧ IsHd (Eg f.code) h.toNat) → ∀ w' : World, SlF w.heap.size (lpL f h) (.returned (.slice none 0 0)) w') := Lib.hid fun g w' => by rw [lpL_no g]; exact ⟨none, 0, rfl, fun j n hj => (by simp at hj), fun b o e => by cases e⟩
  have HR := Lib.hid hR
  have HA := Lib.hid hA
  have HBF := Lib.hid hBf
  have HEN := Lib.hid hEn
  have HC1 := Lib.hid hC1
  have HLT := Lib.hid hlt
  have HEL := Lib.hid hEl
  have HF := Lib.hid hf
  have HN := Lib.hid hN
  obtain ⟨W, hW⟩ : ∃ W, w.alloc (.cells #[.string f.nm, .int .i64 f.ps, .int .i64 f.R, .int .i64 f.Fr, .slice C N cap] 26) = W := ⟨_, rfl⟩
  rw [hW] at bx HC1 HR hB
  have HB := Lib.hid hB
  have HBX := Lib.hid bx
  have hBl := (Array.getElem?_eq_some_iff.1 bx).1
  have g0 := cell_of_heap bx 0 _ rfl
  have g1 := cell_of_heap bx 1 _ rfl
  have g2 := cell_of_heap bx 2 _ rfl
  have g3 := cell_of_heap bx 3 _ rfl
  have g4 := cell_of_heap bx 4 _ rfl
  clear hf hN hC hR hA hC1 bx hB hlt hno hBf hEn hEl
  go_enter Try.func57, Try.ntmps57
  go_wp2_with fail
  refine HR.out.mono ?_
  rintro e w3 ⟨⟨rb, rfl, hrb, hrp⟩, hb3⟩
  have hx3 := (hb3.block _ hBl).trans HBX.out
  have HX3 := Lib.hid hx3
  have hl3 := (Array.getElem?_eq_some_iff.1 hx3).1
  have HB3 := Lib.hid (HB.out.trans (hb3.mono HB.out.size))
  have HC3 := Lib.hid (HC1.out.below hb3)
  have hrl := Pre.lt hrp
  have HRP := Lib.hid hrp
  have HW3 := Lib.hid (Nat.le_trans HB.out.size hb3.size)
  clear hb3 hrp hrb g0 g1 g2 g3 g4 hW hx3
  by_cases a0 : h < 0
  · have hr := HNO.out (fun g => by omega) w3
    go_wp2
    go_returns
    exact ⟨hr, HB3.out⟩
  · have a0' : 0 ≤ h := by omega
    by_cases a1 : (N : Int) ≤ h
    · have hr := HNO.out (fun g => by have := HLT.out _ g.2.1; omega) w3
      go_wp2
      go_returns
      exact ⟨hr, HB3.out⟩
    · have a1' : h < (N : Int) := by omega
      obtain ⟨p, rfl⟩ : ∃ p : Nat, h = (p : Int) := ⟨h.toNat, by omega⟩
      have hpN : p < N := by omega
      have hcp := PreB.cell HRP.out (bl_get (m := fun p => tb (R0 (Eg f.code) p)) hpN)
      by_cases hpr : R0 (Eg f.code) p
      · rw [tb_true.2 hpr] at hcp
        have HPR := Lib.hid hpr
        clear hpr
        go_upto_region 4 with fail
        clear hcp
        go_cut [6] from 28 to 33 (fun s wx => LpE f N p w3 s wx)
        case first =>
          refine wp_region_grown 6 (IG w3 (LpG f N p w3 (.agg #[.string f.nm, .int .i64 f.ps, .int .i64 f.R, .int .i64 f.Fr, .slice C N cap]) (.slice (some ⟨rb, 0, none⟩) N N))) (by kernel_rfl) (by kernel_rfl) ?_ ?_ ?_
          · exact ⟨(Below.refl _ _).drew, fun i v h => by cases h⟩
          · intro i o s wr hi ho hI hsi hdep
            have hb := hI.b
            have c0 := (hb.block _ hl3).trans HX3.out
            have hr := Below.refl wr.heap.size wr
            rcases (by omega : i = 0 ∨ i = 1 ∨ i = 2 ∨ i = 3 ∨ i = 4 ∨ i = 5) with rfl | rfl | rfl | rfl | rfl | rfl
            all_goals (simp only [List.getElem?_cons_zero, List.getElem?_cons_succ] at ho; obtain rfl := Option.some.inj ho)
            · exact Or.inl ⟨_, _, runT_load 26 (.tmp 2) rfl _ rfl _ _ _ _ c0 dFn rfl dsFn, hI.step LpG.grow hr 0 _ rfl⟩
            · exact Or.inl ⟨_, _, runT_move (.tmp 1) rfl, hI.step LpG.grow hr 1 _ rfl⟩
            · exact Or.inl ⟨_, _, runT_load 26 (.tmp 2) rfl _ rfl _ _ _ _ c0 dFn rfl dsFn, hI.step LpG.grow hr 2 _ rfl⟩
            · obtain ⟨v2, e2⟩ := some_of (hdep ⟨2, .data⟩ (by simp) rfl)
              obtain rfl := hI.g 2 _ e2
              refine Or.inr ⟨80, #[.agg #[.string f.nm, .int .i64 f.ps, .int .i64 f.R, .int .i64 f.Fr, .slice C N cap]], runT_call 80 _ _ rfl rfl _ ?_ Try.func80 (by kernel_rfl) rfl, ?_⟩
              · simp only [List.map_toArray, List.map_cons, List.map_nil]
                rw [evalT_told 2 (by kernel_rfl) e2]
              · exact (HA.out wr (HC3.out.below hb)).mono fun e w' ⟨⟨ob, up, O, he, _, hp, _, hU⟩, hb'⟩ => ⟨_, he, hI.step LpG.grow hb' 3 _ ⟨ob, up, O, rfl, hp, hU⟩⟩
            · exact Or.inl ⟨_, _, runT_move (.tmp 5) rfl, hI.step LpG.grow hr 4 _ rfl⟩
            · obtain ⟨v0, e0⟩ := some_of (hdep ⟨0, .data⟩ (by simp) rfl)
              obtain ⟨v1, e1⟩ := some_of (hdep ⟨1, .data⟩ (by simp) rfl)
              obtain ⟨v3, e3⟩ := some_of (hdep ⟨3, .data⟩ (by simp) rfl)
              obtain ⟨v4, e4⟩ := some_of (hdep ⟨4, .data⟩ (by simp) rfl)
              obtain rfl := hI.g 0 _ e0
              obtain rfl := hI.g 1 _ e1
              obtain ⟨ob, up, O, rfl, hp, hU⟩ := hI.g 3 _ e3
              obtain rfl := hI.g 4 _ e4
              refine Or.inr ⟨82, #[.agg #[.string f.nm, .int .i64 f.ps, .int .i64 f.R, .int .i64 f.Fr, .slice C N cap], .int .i64 (p : Int), .slice (some ⟨ob, 0, none⟩) N N, .slice (some ⟨rb, 0, none⟩) N N], runT_call 82 _ _ rfl rfl _ ?_ Try.func82 (by kernel_rfl) rfl, ?_⟩
              · simp only [List.map_toArray, List.map_cons, List.map_nil]
                rw [evalT_told 0 (by kernel_rfl) e0, evalT_told 1 (by kernel_rfl) e1, evalT_told 3 (by kernel_rfl) e3, evalT_told 4 (by kernel_rfl) e4]
              · exact (HEN.out p (some ⟨ob, 0, none⟩) N rb O up hU wr (HC3.out.below hb) (PreN.rd hp) (Pre.later HRP.out hb)).mono fun e w' ⟨⟨V, he, ho, hv⟩, hb'⟩ => ⟨_, he, hI.step LpG.grow hb' 5 _ ⟨ho, fun b hb2 => Nat.le_trans hb.size (hv b hb2)⟩⟩
          · intro s wr hI hsome
            obtain ⟨v0, e0⟩ := some_of (hsome 0 (by omega))
            obtain ⟨v1, e1⟩ := some_of (hsome 1 (by omega))
            obtain ⟨v2, e2⟩ := some_of (hsome 2 (by omega))
            obtain ⟨v3, e3⟩ := some_of (hsome 3 (by omega))
            obtain ⟨v4, e4⟩ := some_of (hsome 4 (by omega))
            obtain ⟨v5, e5⟩ := some_of (hsome 5 (by omega))
            obtain ⟨h5, h6⟩ := hI.g 5 _ e5
            have HQ : Hid (LpE f N p w3 v5 wr) := Lib.hid ⟨h5, h6, hI.b⟩
            clear h5 h6 hI hsome
            simp only [List.take_succ_cons, List.take_zero, List.drop_succ_cons, List.drop_zero, putsT, e0, e1, e2, e3, e4, e5, Option.getD_some]
            go_frame
            go_wp2
            go_meet
            exact HQ.out
        case rest =>
          obtain ⟨ho, hv, hbc⟩ := hcut
          obtain ⟨A6, c6, rfl, hvl, _⟩ := ho.form
          have HLI : Hid (∀ x, x ∈ upL N (Bk (Eg f.code) p) ↔ ∃ n : Nat, x = n ∧ n < N ∧ Bk (Eg f.code) p n) := Lib.hid fun x => upL_mem
          obtain ⟨L, hL⟩ : ∃ L, upL N (Bk (Eg f.code) p) = L := ⟨_, rfl⟩
          rw [hL] at ho hv HLI ⊢
          obtain ⟨m, hm⟩ : ∃ m, L.length = m := ⟨_, rfl⟩
          rw [hm] at ho hv ⊢
          have HM := Lib.hid hm
          have hxc := (hbc.block _ hl3).trans HX3.out
          have h0 := cell_of_heap hxc 0 _ rfl
          have h1 := cell_of_heap hxc 1 _ rfl
          have h2 := cell_of_heap hxc 2 _ rfl
          have h3 := cell_of_heap hxc 3 _ rfl
          have h4 := cell_of_heap hxc 4 _ rfl
          have hlc := (Array.getElem?_eq_some_iff.1 hxc).1
          have HXC := Lib.hid hxc
          have HO := Lib.hid ho
          have HV := Lib.hid hv
          have HBC := Lib.hid hbc
          have HLL := Lib.hid hL
          clear ho hv hbc hL hvl hm hxc
          by_cases hm0 : m = 0
          · have hrr := HNO.out (fun g => by
              obtain ⟨e, he⟩ := g.2.2
              rw [Int.toNat_natCast] at he
              have := (HLI.out (e : Int)).2 ⟨e, rfl, HLT.out e he.1, he⟩
              rw [List.eq_nil_of_length_eq_zero (HM.out.trans hm0)] at this
              cases this) wc
            subst hm0
            go_wp2
            go_returns
            exact ⟨hrr, HB3.out.trans (HBC.out.mono HW3.out)⟩
          · have hmi : ¬ ((m : Int) = 0) := by omega
            have hmm := @run_makeMap Try.prog
            go_upto_region 10 with (first
              | (show wpList Try.prog _ _ (⟨none, .insert _ _ _ _, _, _, _, _⟩::_) _ _; refine wpList_insert_map kvInt _ rfl (.tmp 37) (.tmp 38) (.const (.int .i64 1)) 100 rfl under_mii wc.heap.size _ rfl (MapK.made wc) (p : Int) (.int .i64 1) rfl rfl ?_; intro w5 hm5 hg5 hz5; rw [cntV_one] at hm5; have hb5 : Below wc.heap.size wc w5 := Below.grown (Below.one wc _) hg5 (by simp) (fun k hk => by injection hk with hk; omega); have hx5 := (hb5.block _ hlc).trans HXC.out; have h0 := cell_of_heap hx5 0 _ rfl; have h1 := cell_of_heap hx5 1 _ rfl; have h2 := cell_of_heap hx5 2 _ rfl; have h3 := cell_of_heap hx5 3 _ rfl; have h4 := cell_of_heap hx5 4 _ rfl; have hl5 := (Array.getElem?_eq_some_iff.1 hx5).1; have HM5 := Lib.hid hm5; have HB5 := Lib.hid hb5; have HZ5 := Lib.hid hz5; clear hx5 hm5 hb5 hg5 hz5)
              | (go_at_call 83; refine (HBF.out _ ((HC3.out.below HBC.out).below HB5.out)).mono ?_; rintro e w6 ⟨⟨bb, rfl, hbb, hbl, hrr, hrf⟩, hb6⟩; have HB6 := Lib.hid hb6; have HRR := Lib.hid hrr; have HRF := Lib.hid hrf; have HBB := Lib.hid (show w5.heap.size ≤ bb ∧ bb < w6.heap.size from ⟨hbb, hbl⟩); clear hb6 hrr hrf hbb hbl))
            have hz5 : w5.heap.size = wc.heap.size + 1 := by rw [HZ5.out]; simp
            have hs3c := HBC.out.size
            have hs56 := HB6.out.size
            obtain ⟨T0, hT0⟩ : ∃ T0 : List Nat, L = asI T0 ∧ ∀ q, q ∈ T0 ↔ (q < N ∧ Bk (Eg f.code) p q) := by
              obtain ⟨T0, h1, h2⟩ := upN_is N (Bk (Eg f.code) p)
              exact ⟨T0, by rw [← HLL.out, h1], h2⟩
            obtain ⟨hTe, hTm⟩ := hT0
            have hTl : T0.length ≤ N := by
              have h1 := upL_len N (Bk (Eg f.code) p)
              rw [HLL.out, hTe] at h1
              unfold asI at h1
              rwa [List.length_map] at h1
            have hb3c6 : Below wc.heap.size wc w6 := HB5.out.trans (HB6.out.mono (by omega))
            have hb36 : Below w3.heap.size w3 w6 := HBC.out.trans (hb3c6.mono hs3c)
            have hown6 : OwnN w6 (.slice A6 m c6) (asI T0) := by rw [← hTe]; exact HO.out.later hb3c6
            have hlp : LpM w3 (w6.alloc (.cells #[.int .i64 (p : Int)] 3)) (w6.alloc (.cells #[.int .i64 (p : Int)] 3)) w3.heap.size w5.heap.size w6.heap.size wc.heap.size (.slice A6 m c6) (.slice (some ⟨w6.heap.size, 0, none⟩) 1 1) T0 [p] (oneAt p) := by
              have hvl : ∀ b, (Value.slice A6 m c6).ownBlock = some b → w3.heap.size ≤ b ∧ b < wc.heap.size := fun b e => ⟨HV.out b e, HO.out.lt3 b e⟩
              refine ⟨OwnQ.of (hown6.alloc _), OwnN.one w6 (p : Int), (HM5.out.below HB6.out HM5.out.lt).below (Below.one w6 _) (Nat.lt_of_lt_of_le HM5.out.lt hs56), fun b e => ?_, fun b e => ?_, fun hs => ?_, hb36.alloc (by omega) _, fun b _ => rfl, by simp only [World.size_alloc]; omega⟩
              · have := hvl b e
                refine ⟨fun hs => by unfold Stay at hs; omega, by omega⟩
              · simp only [Value.ownBlock, Option.some.injEq] at e
                subst e
                refine ⟨fun hs => by unfold Stay at hs; omega, by omega, fun e2 => by have := hvl _ e2; omega⟩
              · unfold Stay at hs; omega
            have hsr : Srch (Eg f.code) N p [p] T0 (oneAt p) := Srch.start HPR.out hpN (fun t => (hTm t).trans ⟨fun g => g.2, fun g => ⟨HLT.out t g.1, g⟩⟩) (fun t ht => ((hTm t).1 ht).1)
            have hrows6 : RowsR (w6.alloc (.cells #[.int .i64 (p : Int)] 3)) bb N fun n => upL N fun q => Eg f.code q n := HRR.out.below (Below.one w6 _)
            have hrf6 : ∀ j, j < N → ∀ A n c, (w6.alloc (.cells #[.int .i64 (p : Int)] 3)).cell? ⟨bb, j, none⟩ = some (.slice A n c) → ∀ b o, A = some ⟨b, o, none⟩ → b < (w6.alloc (.cells #[.int .i64 (p : Int)] 3)).heap.size → Stay w3.heap.size w5.heap.size w6.heap.size b := fun j hj A n c hc b o e _ => by
              have h1 := HRF.out j hj A n c (((Below.one w6 (.cells #[.int .i64 (p : Int)] 3)).cell (p := ⟨bb, j, none⟩) HBB.out.2).symm.trans hc) b o e
              exact Or.inr h1
            have HLP := Lib.hid hlp
            have HSR := Lib.hid hsr
            have HRW6 := Lib.hid hrows6
            have HRF6 := Lib.hid hrf6
            have hRP : Hid (Pre gB 1 4 (w6.alloc (.cells #[.int .i64 (p : Int)] 3)) rb (bl N fun p => tb (R0 (Eg f.code) p))) := Lib.hid ((HRP.out.later hb36).later (Below.one w6 _))
            have HTL := Lib.hid hTl
            have HHD : Hid (IsHd (Eg f.code) p) := Lib.hid (by
              have hl : 0 < T0.length := by
                have h1 := HM.out
                rw [hTe] at h1
                unfold asI at h1
                rw [List.length_map] at h1
                omega
              obtain ⟨q, hq⟩ := List.exists_mem_of_length_pos hl
              exact ⟨HPR.out, q, ((hTm q).1 hq).2⟩)
            clear hlp hsr hrows6 hrf6 hb3c6 hb36 hown6 hTe hTm hTl h0 h1 h2 h3 h4
            go_wp2
            refine lp1_any w3 (w6.alloc (.cells #[.int .i64 (p : Int)] 3)) w3.heap.size w5.heap.size w6.heap.size wc.heap.size rb bb N p hN2 _ _ T0 HTL.out HLP.out HSR.out hRP.out (Or.inl hrl) HRW6.out (Or.inr HBB.out) HRF6.out HPR.out HEL.out _ _ _ _ _ _ _ _ _ _ _ _ _ _ _ _ _ _ _ _ _ _ _ _ _ _ _ _ _ _ _ _ _ _ _ _ _ _ _ _ _ _ _ _ _ _ _ _ _ _ _ _ _ _ _ _ _ _ _ _ _ _ _ _ _ _ _ _ _ _ _ _ _ _ _ ?_
            intro z6 z9 z10 z44 z45 z46 z47 z48 z49 z50 z51 z52 z53 z54 z55 z56 z57 z58 z59 z60 z61 z62 z63 z64 z65 z66 z67 z68 z69 z70 z71 z72 z73 z74 z75 w9 Vs cnt hlp9 hs9
            have hVN := hs9.len
            have hal : (asI Vs).length = Vs.length := by unfold asI; rw [List.length_map]
            have HSO := Lib.hid (sort_own w3.heap.size w3 w9 hlp9.bel (by have := hlp9.sz; omega) z9 (asI Vs) hlp9.o (fun b e => Stay.not (hlp9.ob b e).1) (by omega))
            have HEQ : Hid (isort (asI Vs) = lpL f (p : Int)) := Lib.hid (upL_uniq (isort_up (by
              unfold asI
              rw [List.Nodup, List.pairwise_map]
              exact List.Pairwise.imp (fun h e => h (by omega)) hs9.nd)) fun x => by
              rw [isort_in]
              unfold asI
              rw [List.mem_map]
              constructor
              · rintro ⟨n, hn, rfl⟩
                refine ⟨n, rfl, by rw [HN.out]; exact hs9.lt n hn, by omega, by rw [Int.toNat_natCast]; exact HHD.out, by rw [Int.toNat_natCast]; exact (hs9.done n).1 hn⟩
              · rintro ⟨n, rfl, _, _, _, hn⟩
                rw [Int.toNat_natCast] at hn
                exact ⟨n, (hs9.done n).2 hn, rfl⟩)
            have HFR := Lib.hid (fun b (e : z9.ownBlock = some b) => Stay.not (hlp9.ob b e).1)
            clear hlp9 hs9 hVN
            go_wp2_with (first
              | (refine HSO.out.mono ?_; rintro e w10 ⟨rfl, hb10, A10, c10, hV10, hrd10⟩; subst hV10))
            go_returns
            refine ⟨⟨A10, c10, ?_, ?_, fun b o e => Nat.le_trans HB3.out.size (HFR.out b (by rw [e]; rfl))⟩, HB3.out.trans (hb10.mono HW3.out)⟩
            · rw [← HEQ.out, isort_len, hal]; rfl
            · rw [← HEQ.out]; exact hrd10
      · rw [tb_false.2 hpr] at hcp
        have hr := HNO.out (fun g => hpr (by have := g.2.1; simpa using this)) w3
        clear hpr
        go_wp2
        go_returns
        exact ⟨hr, HB3.out⟩
theorem gLoop_yes (f : Fn7) (hf : OkF f) (h : Int) (C : Option Addr) (cap : Nat) (w : World) (hC : RdI w C f.code) :
    Calls Try.prog 57 #[funcAgg f.nm f.ps f.R f.Fr C f.code.length cap, .int .i64 h] w fun e w' => SlN (lpL f h) e w' ∧ Below w.heap.size w w' :=
  (gLoop_fr f hf h C cap w hC).mono fun _ _ ⟨⟨A, c, h1, h2, _⟩, hb⟩ => ⟨⟨A, c, h1, h2⟩, hb⟩
end Go.Proofs.Ythbcdckonaljiaa
