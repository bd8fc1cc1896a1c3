import Derived.Test.YtihbgppcacaekaaDoorRe
import Derived.Test.YtihbgppcacaekaaDoorRd
import Derived.Test.YtihbgppcacaekaaDoorQx
import Derived.Test.YtihbgppcacaekaaDoorTa
/- slices.Equal of lines; Same. -/
namespace Go.Proofs.YtihbgppcacaekaaDoor
open Go.RowKit Go.BigFrame

theorem lines_eq_at {l m : List Ln} {n : Nat} (hl : l.length = n) (hm : m.length = n) (h : ∀ (j : Nat) x y, j < n → l[j]? = some x → m[j]? = some y → x = y) : l = m := by
  apply List.ext_getElem?
  intro j
  by_cases hj : j < n
  · have h1 := List.getElem?_eq_getElem (l := l) (i := j) (by omega)
    have h2 := List.getElem?_eq_getElem (l := m) (i := j) (by omega)
    rw [h1, h2, h j _ _ hj h1 h2]
  · rw [List.getElem?_eq_none (by omega), List.getElem?_eq_none (by omega)]
set_option maxRecDepth 1000000 in
set_option maxHeartbeats 8000000 in
theorem Equal_any (l m : List Ln) (A B : Option Addr) (ca cb : Nat) (w : World) (hA : RdL w A l) (hB : RdL w B m) (hl : l.length ≤ 9223372036854775807) (hm : m.length ≤ 9223372036854775807) :
    Calls Tryd.prog 41 #[.slice A l.length ca, .slice B m.length cb] w fun e w' => e = .returned (.bool (decide (l = m))) ∧ Below w.heap.size w w' := by
  obtain ⟨N, hN⟩ : ∃ N, l.length = N := ⟨_, rfl⟩
  obtain ⟨M, hM⟩ : ∃ M, m.length = M := ⟨_, rfl⟩
  rw [hN] at hl ⊢
  rw [hM] at hm ⊢
  have HA := Lib.hid hA
  have HB := Lib.hid hB
  have HN := Lib.hid hN
  have HM := Lib.hid hM
  clear hA hB hN hM
  by_cases hne : N = M
  case neg =>
    have q1 : ((N : Int) != M) = true := by simp; omega
    have q2 : ((N : Int) == M) = false := by simp; omega
    have HNO : Hid (decide (l = m) = false) := Lib.hid (decide_eq_false (fun e => hne (by rw [← HN.out, ← HM.out, e])))
    go_enter Tryd.func41, Tryd.ntmps41
    go_wp2
    go_returns
    exact ⟨by rw [HNO.out] <;> rfl, Below.refl _ _⟩
  case pos =>
    subst hne
    have q2 : ((N : Int) == N) = true := by simp
    go_enter Tryd.func41, Tryd.ntmps41
    go_wp2
    clear q2
    go_loopw [13] (fun ix wr => ∃ k : Nat, k ≤ N ∧ ix = .int .i64 k ∧ Below w.heap.size w wr ∧ ∀ (j : Nat) x y, j < k → l[j]? = some x → m[j]? = some y → x = y) (fun ix _ => N - (intOf ix).toNat)
    case atStart => exact ⟨0, by omega, rfl, Below.refl _ _, fun j x y hj => by omega⟩
    case round =>
      obtain ⟨k, hk, rfl, hb, hS⟩ := hrel
      have HS := Lib.hid hS
      have HBB := Lib.hid hb
      clear hS
      by_cases hlt : k < N
      · obtain ⟨x, hx⟩ : ∃ x, l[k]? = some x := ⟨_, List.getElem?_eq_getElem (by rw [HN.out]; exact hlt)⟩
        obtain ⟨y, hy⟩ : ∃ y, m[k]? = some y := ⟨_, List.getElem?_eq_getElem (by rw [HM.out]; exact hlt)⟩
        obtain ⟨a, oa, rfl, hal, hca⟩ := (HA.out.below hb) k x hx
        obtain ⟨b, ob, rfl, hbl, hcb⟩ := (HB.out.below hb) k y hy
        obtain ⟨x0, x1, x2, x3, x4, x5⟩ := RdL.load hca
        obtain ⟨y0, y1, y2, y3, y4, y5⟩ := RdL.load hcb
        have HX := Lib.hid hx
        have HY := Lib.hid hy
        have hnq := fun W => neq_ln x y W
        obtain ⟨c, hc⟩ : ∃ c, decide (x = y) = c := ⟨_, rfl⟩
        simp only [Ln.agg, hc] at hnq
        have HC := Lib.hid hc
        clear hca hcb hx hy hb hc
        go_upto_region 6 with fail
        cases c
        · have HNO : Hid (decide (l = m) = false) := Lib.hid (decide_eq_false (fun e => by
            have h1 := HX.out
            rw [e, HY.out] at h1
            injection h1 with h1
            have := of_decide_eq_false HC.out
            exact this h1.symm))
          simp only [Bool.not_false] at hnq
          go_still_tail 8, (by kernel_rfl)
          go_wp2
          go_returns
          exact ⟨by rw [HNO.out] <;> rfl, HBB.out.drew⟩
        · simp only [Bool.not_true] at hnq
          go_still_tail 8, (by kernel_rfl)
          go_wp2
          exact ⟨⟨k + 1, by omega, by go_num, HBB.out.drew, fun j x' y' hj hx' hy' => by
            by_cases hjk : j = k
            · subst hjk
              have h1 := HX.out.symm.trans hx'
              have h2 := HY.out.symm.trans hy'
              injection h1 with h1
              injection h2 with h2
              rw [← h1, ← h2]
              exact of_decide_eq_true HC.out
            · exact HS.out j x' y' (by omega) hx' hy'⟩, by simp [intOf]; omega⟩
      · obtain rfl : k = N := by omega
        have HYES : Hid (decide (l = m) = true) := Lib.hid (decide_eq_true (lines_eq_at HN.out HM.out HS.out))
        go_wp2
        go_returns
        exact ⟨by rw [HYES.out] <;> rfl, HBB.out⟩
end Go.Proofs.YtihbgppcacaekaaDoor
/- Same. -/
namespace Go.Proofs.YtihbgppcacaekaaDoor
open Go.RowKit Go.BigFrame

set_option maxRecDepth 1000000 in
set_option maxHeartbeats 8000000 in
theorem Same_eq (o : Ob) (A B : Option Addr) (ca cb : Nat) (w : World) (hA : RdL w A o.lines) (hB : RdL w B o.lines) (hl : o.lines.length ≤ 9223372036854775807) :
    Calls Tryd.prog 22 #[obAgg o A ca, obAgg o B cb] w fun e w' => e = .returned (.bool true) ∧ Below w.heap.size w w' := by
  have hb0 := Below.one w (obObj o A ca)
  have hb1 := hb0.trans ((Below.one (w.alloc (obObj o A ca)) (obObj o B cb)).mono hb0.size)
  have h0 := alloc_keeps (heap_alloc_new w (obObj o A ca)) (obObj o B cb)
  have h1 := heap_alloc_new (w.alloc (obObj o A ca)) (obObj o B cb)
  rw [show (w.alloc (obObj o A ca)).heap.size = w.heap.size + 1 by simp] at h1
  have heq := Equal_any o.lines o.lines A B ca cb ((w.alloc (obObj o A ca)).alloc (obObj o B cb)) (hA.below hb1) (hB.below hb1) hl hl
  rw [decide_eq_true rfl] at heq
  obtain ⟨W, hW⟩ : ∃ W, (w.alloc (obObj o A ca)).alloc (obObj o B cb) = W := ⟨_, rfl⟩
  rw [hW] at hb1 h0 h1 heq
  obtain ⟨n, hn⟩ : ∃ n, o.lines.length = n := ⟨_, rfl⟩
  simp only [obObj, obAgg, hn] at h0 h1 hW heq ⊢
  have q1 : (o.name.toList == o.name.toList) = true := by simp
  have x0 := cell_of_heap h0 0 _ rfl
  have x1 := cell_of_heap h0 1 _ rfl
  have x2 := cell_of_heap h0 2 _ rfl
  have x3 := cell_of_heap h0 3 _ rfl
  have y0 := cell_of_heap h1 0 _ rfl
  have y1 := cell_of_heap h1 1 _ rfl
  have y2 := cell_of_heap h1 2 _ rfl
  have y3 := cell_of_heap h1 3 _ rfl
  have HB := Lib.hid hb1
  clear hA hB hl hb0 hb1 h0 h1 hn
  go_enter Tryd.func22, Tryd.ntmps22
  go_wp2_with fail
  refine heq.mono ?_
  rintro e w1 ⟨rfl, hb2⟩
  go_wp2
  go_returns
  exact ⟨rfl, HB.out.trans (hb2.mono HB.out.size)⟩
end Go.Proofs.YtihbgppcacaekaaDoor
/- Print. -/
namespace Go.Proofs.YtihbgppcacaekaaDoor
open Go.RowKit Go.BigFrame

section
variable {ρ : Operand → Value} {o : Oper} {w : World}
theorem sadT {a b c : ByteArray} (h : a ++ b = c) (p r : Operand) (ho : o.op = .binOp .add 9 p r 9) (hp : ρ p = .string a) (hr : ρ r = .string b) (hz : ¬ 9223372036854775807 < a.size + b.size) : (execOp ρ o).run Tryd.prog w = .ok (.value (.string c)) w := by
  subst h
  unfold execOp
  simp only [ho, hp, hr]
  simp [go_sem, hz]
theorem runT_callv (f : FuncId) (x : Operand) (xs : Array Operand) (ats : Array TypeId) (ho : o.op = .call { callee := .value x, args := xs, argTypes := ats }) (hf : ρ x = .func (.func f) #[] #[]) (args : Array Value) (ha : xs.map ρ = args)
    {fn : Func} {c : Code} (hfn : Tryd.prog.funcs[f]? = some fn) (hname : (fn.name == "runtime.NumGoroutine") = false) (hb : fn.body = some c) : (execOp ρ o).run Tryd.prog w = .ok (.enter f args) w := by
  have h1 : fn.name ≠ "runtime.NumGoroutine" := by simpa using hname
  subst ha
  unfold execOp
  simp [ho, resolve, Deferred.ofValue, invoke, hf, callFunc, hfn, h1, hb]
theorem fp_o0 (w : World) (b : Nat) : (Instr.fieldAt 39 (.pointer (some ⟨b, 0, none⟩)) 0).run Tryd.prog w = .ok (.pointer (some ⟨b, 0, none⟩)) w := by kernel_rfl
theorem fp_o1 (w : World) (b : Nat) : (Instr.fieldAt 39 (.pointer (some ⟨b, 0, none⟩)) 1).run Tryd.prog w = .ok (.pointer (some ⟨b, 1, none⟩)) w := by kernel_rfl
theorem fp_o2 (w : World) (b : Nat) : (Instr.fieldAt 39 (.pointer (some ⟨b, 0, none⟩)) 2).run Tryd.prog w = .ok (.pointer (some ⟨b, 2, none⟩)) w := by kernel_rfl
end
/-- values that are known -/
def KV (vals : List Value) (i : Nat) (v : Value) (_ : World) : Prop := vals[i]? = some v
theorem KV.grow {vals : List Value} : ∀ i v w w', Below w.heap.size w w' → KV vals i v w → KV vals i v w' := fun _ _ _ _ _ h => h
theorem val_of {vals k : List Value} {i : Nat} {u v : Value} {w : World} (e : vals = k) (h : KV vals i u w) (hk : k[i]? = some v) : v = u := by
  subst e
  unfold KV at h
  rw [hk] at h
  injection h
theorem bytes_app {a b : ByteArray} {x y : List UInt8} (ha : a.data.toList = x) (hb : b.data.toList = y) : (a ++ b).data.toList = x ++ y := by
  subst ha hb
  simp [ByteArray.data_append]
theorem bytes_len (a : ByteArray) : a.size = a.data.toList.length := by rw [Array.length_toList]; rfl
/-- behind m parts of a line -/
structure PrI (w6 wx : World) (l : Ln) (P : List UInt8) (PB S0 : ByteArray) (bl it g m : Nat) (S : ByteArray) : Prop where
  n : g + m = P.length
  i : wx.heap[it]? = some (.stringIter PB m)
  b : Below w6.heap.size w6 wx
  s : S.data.toList = S0.data.toList ++ (P.take m).flatMap (fun p => 32 :: partL l p)
set_option maxRecDepth 1000000 in
set_option maxHeartbeats 16000000 in
theorem Print_any (o : Ob) (C : Option Addr) (cap : Nat) (w : World) (hT : Tabs w) (hlen : o.lines.length ≤ 9223372036854775807) (hR : RdL w C o.lines) (hsz : rightO o = true → (printL o).length ≤ 1000000) :
    Calls Tryd.prog 21 #[obAgg o C cap] w fun e w' => e = .returned (.string (if rightO o then bA (printL o) else ⟨#[]⟩)) ∧ Below w.heap.size w w' := by
  have hB0 := Below.one w (obObj o C cap)
  have hx := heap_alloc_new w (obObj o C cap)
  have hro := RightObject_any o C cap (w.alloc (obObj o C cap)) (hT.below hB0) hlen (hR.below hB0)
  have hR0 := hR.below hB0
  obtain ⟨W, hW⟩ : ∃ W, w.alloc (obObj o C cap) = W := ⟨_, rfl⟩
  rw [hW] at hB0 hx hro hR0
  obtain ⟨N, hN⟩ : ∃ N, o.lines.length = N := ⟨_, rfl⟩
  simp only [obObj, obAgg, hN] at hx hW hro ⊢
  have HT := Lib.hid hT
  have HB0 := Lib.hid hB0
  have HX := Lib.hid hx
  have HR0 := Lib.hid hR0
  have HN := Lib.hid hN
  have HSZ := Lib.hid hsz
  have hlt : w.heap.size < W.heap.size := (Array.getElem?_eq_some_iff.1 hx).1
  have y0 := cell_of_heap hx 0 _ rfl
  have y1 := cell_of_heap hx 1 _ rfl
  have y2 := cell_of_heap hx 2 _ rfl
  have y3 := cell_of_heap hx 3 _ rfl
  rw [hN] at hlen
  clear hT hB0 hx hR0 hN hsz hR
  obtain ⟨rr, hrr⟩ : ∃ rr, rightO o = rr := ⟨_, rfl⟩
  rw [hrr] at hro ⊢
  have HRR := Lib.hid hrr
  clear hrr
  cases rr
  case false =>
    go_enter Tryd.func21, Tryd.ntmps21
    go_wp2_with fail
    refine hro.mono ?_
    rintro e w1 ⟨rfl, hb1⟩
    have HB1 := Lib.hid (HB0.out.trans (hb1.mono HB0.out.size))
    clear hb1 y0 y1 y2 y3 hW
    go_wp2
    go_returns
    exact ⟨rfl, HB1.out⟩
  obtain ⟨hh, hl⟩ := rightO_prt HRR.out
  have HH := Lib.hid hh
  have HL := Lib.hid hl
  have HTOT : Hid ((headL o ++ 10 :: o.lines.flatMap (fun l => lineL l ++ [10])).length ≤ 1000000) := Lib.hid (HSZ.out HRR.out)
  obtain ⟨_, hs1, hf1, _⟩ := head_parts hh
  have hi1 := fun W (hW : Tabs W) => (Tryd.strconv_Itoa o.slots (by omega) (by omega) W hW.pow).mono fun e w' (hh : e = _ ∧ _) => (⟨hh.1, hh.2.elim fun k h => h.elim fun os q => q ▸ below_grow2 W k os⟩ : e = .returned (.string ⟨(Lib.itoa o.slots).toArray⟩) ∧ Below W.heap.size W w')
  have hi2 := fun W (hW : Tabs W) => (Tryd.strconv_Itoa o.frame (by omega) (by omega) W hW.pow).mono fun e w' (hh : e = _ ∧ _) => (⟨hh.1, hh.2.elim fun k h => h.elim fun os q => q ▸ below_grow2 W k os⟩ : e = .returned (.string ⟨(Lib.itoa o.frame).toArray⟩) ∧ Below W.heap.size W w')
  obtain ⟨I1, hI1⟩ : ∃ s, (⟨(Lib.itoa o.slots).toArray⟩ : ByteArray) = s := ⟨_, rfl⟩
  obtain ⟨I2, hI2⟩ : ∃ s, (⟨(Lib.itoa o.frame).toArray⟩ : ByteArray) = s := ⟨_, rfl⟩
  rw [hI1] at hi1
  rw [hI2] at hi2
  have HI1 := Lib.hid hi1
  have HI2 := Lib.hid hi2
  have b1 : I1.data.toList = Lib.itoa o.slots := by rw [← hI1]
  have b2 : I2.data.toList = Lib.itoa o.frame := by rw [← hI2]
  clear hi1 hi2 hI1 hI2 hs1 hf1 hh hl
  obtain ⟨S1, h1⟩ : ∃ s, (⟨#[111, 98, 106, 101, 99, 116, 32]⟩ : ByteArray) ++ o.name = s := ⟨_, rfl⟩
  obtain ⟨S2, h2⟩ : ∃ s, S1 ++ (⟨#[32]⟩ : ByteArray) = s := ⟨_, rfl⟩
  obtain ⟨S3, h3⟩ : ∃ s, S2 ++ I1 = s := ⟨_, rfl⟩
  obtain ⟨S4, h4⟩ : ∃ s, S3 ++ (⟨#[32]⟩ : ByteArray) = s := ⟨_, rfl⟩
  obtain ⟨S5, h5⟩ : ∃ s, S4 ++ I2 = s := ⟨_, rfl⟩
  obtain ⟨S6, h6⟩ : ∃ s, S5 ++ (⟨#[10]⟩ : ByteArray) = s := ⟨_, rfl⟩
  have d1 : S1.data.toList = objectB.data.toList ++ 32 :: o.name.data.toList := by rw [← h1, bytes_app (x := objectB.data.toList ++ [32]) rfl rfl]; simp
  have d2 : S2.data.toList = objectB.data.toList ++ 32 :: (o.name.data.toList ++ [32]) := by rw [← h2, bytes_app d1 (y := [32]) rfl]; simp
  have d3 : S3.data.toList = objectB.data.toList ++ 32 :: (o.name.data.toList ++ 32 :: Lib.itoa o.slots) := by rw [← h3, bytes_app d2 b1]; simp
  have d4 : S4.data.toList = objectB.data.toList ++ 32 :: (o.name.data.toList ++ 32 :: (Lib.itoa o.slots ++ [32])) := by rw [← h4, bytes_app d3 (y := [32]) rfl]; simp
  have d5 : S5.data.toList = headL o := by rw [← h5, bytes_app d4 b2]; simp [headL]
  have d6 : S6.data.toList = headL o ++ [10] := by rw [← h6, bytes_app d5 (y := [10]) rfl]
  have ht := HTOT.out
  rw [List.length_append] at ht
  have hhl : (headL o).length = 6 + (1 + (o.name.data.toList.length + (1 + ((Lib.itoa o.slots).length + (1 + (Lib.itoa o.frame).length))))) := by
    have ob6 : objectB.data.toList.length = 6 := rfl
    simp only [headL, List.length_append, List.length_cons, ob6]
    omega
  have e1 := congrArg List.length d1
  have e2 := congrArg List.length d2
  have e3 := congrArg List.length d3
  have e4 := congrArg List.length d4
  have e5 := congrArg List.length d5
  have ob6 : objectB.data.toList.length = 6 := rfl
  simp only [List.length_append, List.length_cons, List.length_nil, ob6] at e1 e2 e3 e4 e5
  rw [← bytes_len] at e1 e2 e3 e4 e5
  rw [hhl] at e5 ht
  have z7 : (⟨#[111, 98, 106, 101, 99, 116, 32]⟩ : ByteArray).size = 7 := rfl
  have z1 : (⟨#[32]⟩ : ByteArray).size = 1 := rfl
  have z0 : (⟨#[10]⟩ : ByteArray).size = 1 := rfl
  have bb1 := congrArg List.length b1
  have bb2 := congrArg List.length b2
  rw [← bytes_len] at bb1 bb2
  have hnl : o.name.size = o.name.data.toList.length := bytes_len _
  have hz1 : ¬ 9223372036854775807 < (⟨#[111, 98, 106, 101, 99, 116, 32]⟩ : ByteArray).size + o.name.size := by rw [z7, hnl]; omega
  have hz2 : ¬ 9223372036854775807 < S1.size + (⟨#[32]⟩ : ByteArray).size := by rw [z1, e1]; omega
  have hz3 : ¬ 9223372036854775807 < S2.size + I1.size := by rw [e2, bb1]; omega
  have hz4 : ¬ 9223372036854775807 < S3.size + (⟨#[32]⟩ : ByteArray).size := by rw [z1, e3]; omega
  have hz5 : ¬ 9223372036854775807 < S4.size + I2.size := by rw [e4, bb2]; omega
  have hz6 : ¬ 9223372036854775807 < S5.size + (⟨#[10]⟩ : ByteArray).size := by rw [z0, e5]; omega
  have h1 := Lib.hid h1
  have h2 := Lib.hid h2
  have h3 := Lib.hid h3
  have h4 := Lib.hid h4
  have h5 := Lib.hid h5
  have h6 := Lib.hid h6
  have D6 := Lib.hid d6
  clear d1 d2 d3 d4 d5 d6 e1 e2 e3 e4 e5 ob6 ht hhl z7 z1 z0 bb1 bb2 hnl b1 b2
  go_enter Tryd.func21, Tryd.ntmps21
  go_wp2_with fail
  refine hro.mono ?_
  rintro e w1 ⟨rfl, hb1⟩
  have HB1 := Lib.hid (HB0.out.trans (hb1.mono HB0.out.size))
  have HX1 := Lib.hid (keepB hb1 HX.out)
  have HR1 := Lib.hid (HR0.out.below hb1)
  have hlt1 : w.heap.size < w1.heap.size := Nat.lt_of_lt_of_le hlt hb1.size
  have HT1 := Lib.hid (HT.out.below HB1.out)
  clear hb1 y0 y1 y2 y3 hW hro
  go_upto_region 4 with fail
  refine wp_region_noPanic ?_
  obtain ⟨vals, hvals⟩ : ∃ vals : List Value, vals = [.pointer (some ⟨w.heap.size, 0, none⟩), .string o.name, .string S1, .string S2, .func (.func 19) #[] #[], .pointer (some ⟨w.heap.size, 1, none⟩), .int .i64 o.slots, .string I1, .string S3, .string S4, .func (.func 19) #[] #[], .pointer (some ⟨w.heap.size, 2, none⟩), .int .i64 o.frame, .string I2, .string S5, .string S6] := ⟨_, rfl⟩
  have HV := Lib.hid hvals
  clear hvals
  refine wp_region_grown 16 (IG w1 (KV vals)) (by kernel_rfl) (by kernel_rfl) ?_ ?_ ?_
  · exact ⟨(Below.refl _ _).drew, fun i v h => by cases h⟩
  · intro i op s wr hi ho hI hsi hdep
    have hb := hI.b
    have hT1 := HT1.out.below hb
    have hTr := hT1
    have hxr := (hb.block _ hlt1).trans HX1.out
    have c0 := cell_of_heap hxr 0 _ rfl
    have c1 := cell_of_heap hxr 1 _ rfl
    have c2 := cell_of_heap hxr 2 _ rfl
    have hr := Below.refl wr.heap.size wr
    have hz : ∀ (j : Nat) v', ([.pointer (some ⟨w.heap.size, 0, none⟩), .string o.name, .string S1, .string S2, .func (.func 19) #[] #[], .pointer (some ⟨w.heap.size, 1, none⟩), .int .i64 o.slots, .string I1, .string S3, .string S4, .func (.func 19) #[] #[], .pointer (some ⟨w.heap.size, 2, none⟩), .int .i64 o.frame, .string I2, .string S5, .string S6] : List Value)[j]? = some v' → KV vals j v' wr := fun j v' h => by unfold KV; rw [HV.out]; exact h
    have hzz : ∀ (j : Nat) v' (W' : World), ([.pointer (some ⟨w.heap.size, 0, none⟩), .string o.name, .string S1, .string S2, .func (.func 19) #[] #[], .pointer (some ⟨w.heap.size, 1, none⟩), .int .i64 o.slots, .string I1, .string S3, .string S4, .func (.func 19) #[] #[], .pointer (some ⟨w.heap.size, 2, none⟩), .int .i64 o.frame, .string I2, .string S5, .string S6] : List Value)[j]? = some v' → KV vals j v' W' := fun j v' W' h => by unfold KV; rw [HV.out]; exact h
    rcases (by omega : i = 0 ∨ i = 1 ∨ i = 2 ∨ i = 3 ∨ i = 4 ∨ i = 5 ∨ i = 6 ∨ i = 7 ∨ i = 8 ∨ i = 9 ∨ i = 10 ∨ i = 11 ∨ i = 12 ∨ i = 13 ∨ i = 14 ∨ i = 15) with rfl | rfl | rfl | rfl | rfl | rfl | rfl | rfl | rfl | rfl | rfl | rfl | rfl | rfl | rfl | rfl
    all_goals (simp only [List.getElem?_cons_zero, List.getElem?_cons_succ] at ho; obtain rfl := Option.some.inj ho)
    · exact Or.inl ⟨_, _, fldT _ 0 (.tmp 1) rfl _ (by rw [evalT_old (by kernel_rfl)]; rfl) (fp_o0 wr w.heap.size), hI.step KV.grow hr 0 _ (hz 0 _ rfl)⟩
    · obtain ⟨v0, e0⟩ := some_of (hdep ⟨0, .data⟩ (by simp) rfl)
      obtain rfl := val_of HV.out (hI.g 0 _ e0) rfl
      exact Or.inl ⟨_, _, ldT _ (.tmp 14) rfl _ _ (evalT_told 0 (by kernel_rfl) e0) c0 (naS _), hI.step KV.grow hr 1 _ (hz 1 _ rfl)⟩
    · obtain ⟨v1, e1⟩ := some_of (hdep ⟨1, .data⟩ (by simp) rfl)
      obtain rfl := val_of HV.out (hI.g 1 _ e1) rfl
      exact Or.inl ⟨_, _, sadT h1.out (.const (.string ⟨#[111, 98, 106, 101, 99, 116, 32]⟩)) (.tmp 15) rfl rfl (evalT_told 1 (by kernel_rfl) e1) hz1, hI.step KV.grow hr 2 _ (hz 2 _ rfl)⟩
    · obtain ⟨v2, e2⟩ := some_of (hdep ⟨2, .data⟩ (by simp) rfl)
      obtain rfl := val_of HV.out (hI.g 2 _ e2) rfl
      exact Or.inl ⟨_, _, sadT h2.out (.tmp 16) (.const (.string ⟨#[32]⟩)) rfl (evalT_told 2 (by kernel_rfl) e2) rfl hz2, hI.step KV.grow hr 3 _ (hz 3 _ rfl)⟩
    · exact Or.inl ⟨_, _, (runT_move (.tmp 3) rfl).trans (by rw [evalT_old (by kernel_rfl)]; rfl), hI.step KV.grow hr 4 _ (hz 4 _ rfl)⟩
    · exact Or.inl ⟨_, _, fldT _ 1 (.tmp 1) rfl _ (by rw [evalT_old (by kernel_rfl)]; rfl) (fp_o1 wr w.heap.size), hI.step KV.grow hr 5 _ (hz 5 _ rfl)⟩
    · obtain ⟨v5, e5⟩ := some_of (hdep ⟨5, .data⟩ (by simp) rfl)
      obtain rfl := val_of HV.out (hI.g 5 _ e5) rfl
      exact Or.inl ⟨_, _, ldT _ (.tmp 19) rfl _ _ (evalT_told 5 (by kernel_rfl) e5) c1 (na3 _), hI.step KV.grow hr 6 _ (hz 6 _ rfl)⟩
    · obtain ⟨v4, e4⟩ := some_of (hdep ⟨4, .data⟩ (by simp) rfl)
      obtain rfl := val_of HV.out (hI.g 4 _ e4) rfl
      obtain ⟨v6, e6⟩ := some_of (hdep ⟨6, .data⟩ (by simp) rfl)
      obtain rfl := val_of HV.out (hI.g 6 _ e6) rfl
      refine Or.inr ⟨19, #[.int .i64 o.slots], runT_callv 19 (.tmp 18) #[.tmp 20] _ rfl (evalT_told 4 (by kernel_rfl) e4) _ ?_ Tryd.func19 (by kernel_rfl) rfl, (HI1.out wr hTr).mono ?_⟩
      · simp only [List.map_toArray, List.map_cons, List.map_nil]
        rw [evalT_told 6 (by kernel_rfl) e6]
      · rintro e w'' ⟨rfl, hb''⟩
        exact ⟨_, rfl, hI.step KV.grow hb'' 7 _ (hzz 7 _ _ rfl)⟩
    · obtain ⟨v3, e3⟩ := some_of (hdep ⟨3, .data⟩ (by simp) rfl)
      obtain rfl := val_of HV.out (hI.g 3 _ e3) rfl
      obtain ⟨v7, e7⟩ := some_of (hdep ⟨7, .data⟩ (by simp) rfl)
      obtain rfl := val_of HV.out (hI.g 7 _ e7) rfl
      exact Or.inl ⟨_, _, sadT h3.out (.tmp 17) (.tmp 21) rfl (evalT_told 3 (by kernel_rfl) e3) (evalT_told 7 (by kernel_rfl) e7) hz3, hI.step KV.grow hr 8 _ (hz 8 _ rfl)⟩
    · obtain ⟨v8, e8⟩ := some_of (hdep ⟨8, .data⟩ (by simp) rfl)
      obtain rfl := val_of HV.out (hI.g 8 _ e8) rfl
      exact Or.inl ⟨_, _, sadT h4.out (.tmp 22) (.const (.string ⟨#[32]⟩)) rfl (evalT_told 8 (by kernel_rfl) e8) rfl hz4, hI.step KV.grow hr 9 _ (hz 9 _ rfl)⟩
    · exact Or.inl ⟨_, _, (runT_move (.tmp 3) rfl).trans (by rw [evalT_old (by kernel_rfl)]; rfl), hI.step KV.grow hr 10 _ (hz 10 _ rfl)⟩
    · exact Or.inl ⟨_, _, fldT _ 2 (.tmp 1) rfl _ (by rw [evalT_old (by kernel_rfl)]; rfl) (fp_o2 wr w.heap.size), hI.step KV.grow hr 11 _ (hz 11 _ rfl)⟩
    · obtain ⟨v11, e11⟩ := some_of (hdep ⟨11, .data⟩ (by simp) rfl)
      obtain rfl := val_of HV.out (hI.g 11 _ e11) rfl
      exact Or.inl ⟨_, _, ldT _ (.tmp 25) rfl _ _ (evalT_told 11 (by kernel_rfl) e11) c2 (na3 _), hI.step KV.grow hr 12 _ (hz 12 _ rfl)⟩
    · obtain ⟨v10, e10⟩ := some_of (hdep ⟨10, .data⟩ (by simp) rfl)
      obtain rfl := val_of HV.out (hI.g 10 _ e10) rfl
      obtain ⟨v12, e12⟩ := some_of (hdep ⟨12, .data⟩ (by simp) rfl)
      obtain rfl := val_of HV.out (hI.g 12 _ e12) rfl
      refine Or.inr ⟨19, #[.int .i64 o.frame], runT_callv 19 (.tmp 24) #[.tmp 26] _ rfl (evalT_told 10 (by kernel_rfl) e10) _ ?_ Tryd.func19 (by kernel_rfl) rfl, (HI2.out wr hTr).mono ?_⟩
      · simp only [List.map_toArray, List.map_cons, List.map_nil]
        rw [evalT_told 12 (by kernel_rfl) e12]
      · rintro e w'' ⟨rfl, hb''⟩
        exact ⟨_, rfl, hI.step KV.grow hb'' 13 _ (hzz 13 _ _ rfl)⟩
    · obtain ⟨v9, e9⟩ := some_of (hdep ⟨9, .data⟩ (by simp) rfl)
      obtain rfl := val_of HV.out (hI.g 9 _ e9) rfl
      obtain ⟨v13, e13⟩ := some_of (hdep ⟨13, .data⟩ (by simp) rfl)
      obtain rfl := val_of HV.out (hI.g 13 _ e13) rfl
      exact Or.inl ⟨_, _, sadT h5.out (.tmp 23) (.tmp 27) rfl (evalT_told 9 (by kernel_rfl) e9) (evalT_told 13 (by kernel_rfl) e13) hz5, hI.step KV.grow hr 14 _ (hz 14 _ rfl)⟩
    · obtain ⟨v14, e14⟩ := some_of (hdep ⟨14, .data⟩ (by simp) rfl)
      obtain rfl := val_of HV.out (hI.g 14 _ e14) rfl
      exact Or.inl ⟨_, _, sadT h6.out (.tmp 28) (.const (.string ⟨#[10]⟩)) rfl (evalT_told 14 (by kernel_rfl) e14) rfl hz6, hI.step KV.grow hr 15 _ (hz 15 _ rfl)⟩
  · intro s wr hI hsome
    obtain ⟨v0, e0⟩ := some_of (hsome 0 (by omega))
    obtain rfl := val_of HV.out (hI.g 0 _ e0) rfl
    obtain ⟨v1, e1⟩ := some_of (hsome 1 (by omega))
    obtain rfl := val_of HV.out (hI.g 1 _ e1) rfl
    obtain ⟨v2, e2⟩ := some_of (hsome 2 (by omega))
    obtain rfl := val_of HV.out (hI.g 2 _ e2) rfl
    obtain ⟨v3, e3⟩ := some_of (hsome 3 (by omega))
    obtain rfl := val_of HV.out (hI.g 3 _ e3) rfl
    obtain ⟨v4, e4⟩ := some_of (hsome 4 (by omega))
    obtain rfl := val_of HV.out (hI.g 4 _ e4) rfl
    obtain ⟨v5, e5⟩ := some_of (hsome 5 (by omega))
    obtain rfl := val_of HV.out (hI.g 5 _ e5) rfl
    obtain ⟨v6, e6⟩ := some_of (hsome 6 (by omega))
    obtain rfl := val_of HV.out (hI.g 6 _ e6) rfl
    obtain ⟨v7, e7⟩ := some_of (hsome 7 (by omega))
    obtain rfl := val_of HV.out (hI.g 7 _ e7) rfl
    obtain ⟨v8, e8⟩ := some_of (hsome 8 (by omega))
    obtain rfl := val_of HV.out (hI.g 8 _ e8) rfl
    obtain ⟨v9, e9⟩ := some_of (hsome 9 (by omega))
    obtain rfl := val_of HV.out (hI.g 9 _ e9) rfl
    obtain ⟨v10, e10⟩ := some_of (hsome 10 (by omega))
    obtain rfl := val_of HV.out (hI.g 10 _ e10) rfl
    obtain ⟨v11, e11⟩ := some_of (hsome 11 (by omega))
    obtain rfl := val_of HV.out (hI.g 11 _ e11) rfl
    obtain ⟨v12, e12⟩ := some_of (hsome 12 (by omega))
    obtain rfl := val_of HV.out (hI.g 12 _ e12) rfl
    obtain ⟨v13, e13⟩ := some_of (hsome 13 (by omega))
    obtain rfl := val_of HV.out (hI.g 13 _ e13) rfl
    obtain ⟨v14, e14⟩ := some_of (hsome 14 (by omega))
    obtain rfl := val_of HV.out (hI.g 14 _ e14) rfl
    obtain ⟨v15, e15⟩ := some_of (hsome 15 (by omega))
    obtain rfl := val_of HV.out (hI.g 15 _ e15) rfl
    have HBW : Hid (Below w1.heap.size w1 wr) := Lib.hid hI.b
    simp only [List.take_succ_cons, List.take_zero, List.drop_succ_cons, List.drop_zero, putsT, e0, e1, e2, e3, e4, e5, e6, e7, e8, e9, e10, e11, e12, e13, e14, e15, Option.getD_some]
    clear hI hsome e0 e1 e2 e3 e4 e5 e6 e7 e8 e9 e10 e11 e12 e13 e14 e15 hz1 hz2 hz3 hz4 hz5 hz6
    go_frame
    go_wp2_with fail
    refine NoPanic.normal ?_
    have hxr := (HBW.out.block _ hlt1).trans HX1.out
    have y3 := cell_of_heap hxr 3 _ rfl
    clear hxr
    go_wp2
    clear y3
    go_loopw [4, 33] (fun v4 ix wq => ∃ (k : Nat) (S : ByteArray), k ≤ N ∧ v4 = .string S ∧ ix = .int .i64 k ∧ S.data.toList = headL o ++ 10 :: (o.lines.take k).flatMap (fun l => lineL l ++ [10]) ∧ Below w1.heap.size w1 wq) (fun _ ix _ => N - (intOf ix).toNat)
    case atStart => exact ⟨0, S6, by omega, rfl, rfl, by rw [D6.out]; simp, HBW.out⟩
    case round =>
      obtain ⟨k, S, hk, rfl, rfl, hS, hb⟩ := hrel
      have HS := Lib.hid hS
      have HBB := Lib.hid hb
      by_cases hlt2 : k < N
      · obtain ⟨l, hl⟩ : ∃ l, o.lines[k]? = some l := ⟨_, List.getElem?_eq_getElem (by rw [HN.out]; exact hlt2)⟩
        obtain ⟨b, ofs, rfl, hbl, hcs⟩ := (HR1.out.below hb) k l hl
        obtain ⟨x0, x1, x2, x3, x4, x5⟩ := RdL.load hcs
        have hrl := HL.out l (List.mem_of_getElem? hl)
        have HBD := Lib.hid (line_bd hrl HH.out)
        have hnb := Below.one wr l.obj
        have hbx := heap_alloc_new wr l.obj
        have hbz := hb.trans (hnb.mono hb.size)
        have hT2 := HT1.out.below hbz
        have hsh := shape_any l.op (wr.alloc l.obj) hT2
        obtain ⟨NM, hNM⟩ : ∃ NM, (shp l.op).1 = NM := ⟨_, rfl⟩
        obtain ⟨P, hP⟩ : ∃ P, (shp l.op).2 = P := ⟨_, rfl⟩
        have hlet := shp_letters l.op
        have htl := take_len (f := fun l => lineL l ++ [10]) hl
        have hts := take_snoc (f := fun l => lineL l ++ [10]) hl
        have hll : lineL l = NM ++ P.flatMap (fun p => 32 :: partL l p) := by unfold lineL; rw [hNM, hP]
        have hP4 : P.length ≤ 4 := by rw [← hP]; exact shp_len _
        rw [hNM, hP] at hsh
        rw [hP] at hlet HBD
        obtain ⟨L, hL⟩ : ∃ L, P.length = L := ⟨_, rfl⟩
        obtain ⟨NB, hNB⟩ : ∃ NB, (⟨NM.toArray⟩ : ByteArray) = NB := ⟨_, rfl⟩
        obtain ⟨PB, hPB⟩ : ∃ PB, (⟨P.toArray⟩ : ByteArray) = PB := ⟨_, rfl⟩
        have hNBd : NB.data.toList = NM := by rw [← hNB]
        have hpz : PB.size = L := by rw [← hPB, ← hL]; show P.toArray.size = _; simp
        rw [hNB, hPB] at hsh
        have hSl : S.size = S.data.toList.length := bytes_len _
        have hNl : NB.size = NM.length := by rw [bytes_len, hNBd]
        have hT := HTOT.out
        -- how much is written
        have hmax : S.size + NM.length + (P.flatMap (fun p => 32 :: partL l p)).length + 1 ≤ 1000000 := by
          rw [hSl, hS]
          rw [hll] at htl
          simp only [List.length_append, List.length_cons, List.length_nil] at htl hT ⊢
          omega
        have zA : ¬ 9223372036854775807 < S.size + NB.size := by rw [hNl]; omega
        have HMAX := Lib.hid hmax
        have HTS := Lib.hid hts
        have HLL := Lib.hid hll
        have HNB := Lib.hid hNBd
        have HNL := Lib.hid hNl
        have HPB := Lib.hid hPB
        have HPZ := Lib.hid hpz
        have HL4 := Lib.hid hL
        have HLET := Lib.hid hlet
        have HBX := Lib.hid hbx
        have HBZ := Lib.hid hbz
        simp only [Ln.obj] at hsh
        clear hcs hl hrl hnb hbx hbz hT2 hNM hP hlet htl hts hll hL hNB hPB hNBd hpz hSl hNl hT hmax hb hS hP4
        go_wp2_with (first
          | (go_at_call 38; refine hsh.mono ?_; rintro e w6 ⟨rfl, hb6⟩))
        have HB6 := Lib.hid (HBZ.out.trans (hb6.mono HBZ.out.size))
        have HBX6 := Lib.hid (keepB hb6 HBX.out)
        have hlb : wr.heap.size < w6.heap.size := (Array.getElem?_eq_some_iff.1 HBX6.out).1
        have hit0 : (w6.iter PB 0).heap[w6.heap.size]? = some (.stringIter PB 0) := by simpa using World.iter_heap w6 PB 0
        have hbw0 : Below w6.heap.size w6 (w6.iter PB 0) := (Below.refl _ w6).alloc (Nat.le_refl _) _
        obtain ⟨S0, hS0⟩ : ∃ S0, S ++ NB = S0 := ⟨_, rfl⟩
        have hS0d : S0.data.toList = S.data.toList ++ NM := by rw [← hS0]; exact bytes_app rfl HNB.out
        have HS0 := Lib.hid hS0d
        have HI0 : Hid (PrI w6 (w6.iter PB 0) l P PB S0 wr.heap.size w6.heap.size L 0 S0) := Lib.hid ⟨by rw [Nat.add_zero]; exact HL4.out.symm, hit0, hbw0, by simp⟩
        clear hit0 hbw0 hsh hb6 zA x0 x1 x2 x3 x4 x5 hbl
        rw [hS0]
        have hne : wr.heap.size ≠ w6.heap.size := Nat.ne_of_lt hlb
        obtain ⟨bl, hbe⟩ : ∃ bl, wr.heap.size = bl := ⟨_, rfl⟩
        rw [hbe] at HBX6 hlb HI0 hne
        rw [hbe]
        clear hS0 hS0d hbe
        go_loopg [4] L (fun gf v4 wx => ∃ m S', v4 = .string S' ∧ PrI w6 wx l P PB S0 bl w6.heap.size gf m S')
        case atStart => exact ⟨0, S0, rfl, HI0.out⟩
        case round =>
          obtain ⟨m, S', rfl, hI⟩ := hrel
          have hm0 := hI.n
          rw [HL4.out] at hm0
          have hbx := keepB hI.b HBX6.out
          have HI := Lib.hid hI
          have hSz : S'.size = S0.data.toList.length + ((P.take m).flatMap (fun p => 32 :: partL l p)).length := by rw [bytes_len, hI.s, List.length_append]
          have hS0z : S0.data.toList.length = S.size + NM.length := by rw [HS0.out, List.length_append, bytes_len]
          by_cases hlt3 : m < L
          · obtain ⟨g', rfl⟩ : ∃ g', gk = g' + 1 := ⟨gk - 1, by omega⟩
            obtain ⟨p, hp⟩ : ∃ p, P[m]? = some p := ⟨_, List.getElem?_eq_getElem (by rw [HL4.out]; exact hlt3)⟩
            have hl6 := HLET.out p (List.mem_of_getElem? hp)
            have hbd := HBD.out p (List.mem_of_getElem? hp)
            have hp128 : p.toNat < 128 := by rcases hl6 with rfl | rfl | rfl | rfl | rfl | rfl <;> decide
            obtain ⟨hps, hde⟩ := decode_part P m p hp hp128
            rw [HPB.out] at hps hde
            have hnx : ∀ ty, (Instr.next (.pointer (some ⟨w6.heap.size, 0, none⟩)) true ty).run Tryd.prog wr = _ := fun ty => Lib.run_next_any_at wr _ PB m ty hI.i hps
            simp only [hde] at hnx
            have hit2 := Lib.iterAt_heap wr _ PB m (m + 1) hI.i
            have hbx2 := (Lib.iterAt_other wr w6.heap.size bl PB (m + 1) hne).trans hbx
            have hbw2 := Lib.below_iterAt hI.b (k := w6.heap.size) (Nat.le_refl _) PB (m + 1)
            obtain ⟨Wn, hWn⟩ : ∃ Wn, wr.iterAt w6.heap.size PB (m + 1) = Wn := ⟨_, rfl⟩
            rw [hWn] at hit2 hbx2 hbw2
            simp only [hWn] at hnx
            have htl := take_len (f := fun p => 32 :: partL l p) hp
            have HTS2 := Lib.hid (take_snoc (f := fun p => 32 :: partL l p) hp)
            have hT := HMAX.out
            have hpz : S'.size + 1 + (partL l p).length + 1 ≤ 1000000 := by
              simp only [List.length_cons] at htl
              omega
            have HT2 := Lib.hid (HT1.out.below ((HB6.out.trans (hbw2.mono HB6.out.size))))
            have HIT2 := Lib.hid hit2
            have HBX2 := Lib.hid hbx2
            have HBW2 := Lib.hid hbw2
            have HPP := Lib.hid hpz
            obtain ⟨y0, y1, y2, y3, y4, y5⟩ := Ln.cells hbx2
            clear hde hps hp128 hWn hit2 hbx2 hbw2 htl hT hp hbx hI hSz hS0z hpz
            by_cases h116 : p = 116
            · subst h116
              have hpl : (partL l 116).length = l.text.size := by rw [bytes_len]; rfl
              have hpz := HPP.out
              rw [hpl] at hpz
              have t1 : ¬ 9223372036854775807 < 1 + l.text.size := by omega
              have t2 : ¬ 9223372036854775807 < S'.size + (1 + l.text.size) := by omega
              clear hpl hpz hl6 hbd
              go_wp2_with fail
              go_roundg g'
              case measure => omega
              case rel => exact ⟨m + 1, _, rfl, by have := HL4.out; omega, HIT2.out, HBW2.out, by rw [bytes_app HI.out.s (bytes_app (x := [32]) rfl rfl), HTS2.out, List.append_assoc]; rfl⟩
            by_cases h111 : p = 111
            · subst h111
              have hnm := name_any l.n Wn HT2.out
              have HBN := Lib.hid (hbd.1 rfl)
              clear hl6 hbd h116
              go_wp2_with (first
                | (go_at_call 39; refine hnm.mono ?_; rintro e w7 ⟨⟨nb, rfl, hni⟩, hb7⟩;
                   have hnd := part_name HBN.out hni;
                   have HND := Lib.hid hnd;
                   have hpl : (partL l 111).length = nb.size := by rw [bytes_len, hnd];
                   have hpz := HPP.out;
                   rw [hpl] at hpz;
                   have t1 : ¬ 9223372036854775807 < 1 + nb.size := by omega;
                   have t2 : ¬ 9223372036854775807 < S'.size + (1 + nb.size) := by omega;
                   have HIT7 := Lib.hid (keepB hb7 HIT2.out);
                   have HB7 := Lib.hid (HBW2.out.trans (hb7.mono HBW2.out.size));
                   clear hnd hpl hpz hni hb7 y0 y1 y2 y3 y4 y5))
              go_roundg g'
              case measure => omega
              case rel => exact ⟨m + 1, _, rfl, by have := HL4.out; omega, HIT7.out, HB7.out, by rw [bytes_app HI.out.s (bytes_app (x := [32]) rfl HND.out), HTS2.out, List.append_assoc]; rfl⟩
            have hp4 : p = 114 ∨ p = 97 ∨ p = 98 ∨ p = 110 := by
              rcases hl6 with h | h | h | h | h | h
              · exact Or.inl h
              · exact Or.inr (Or.inl h)
              · exact Or.inr (Or.inr (Or.inl h))
              · exact Or.inr (Or.inr (Or.inr h))
              · exact absurd h h111
              · exact absurd h h116
            have hgc := get_cell HBX2.out hp4
            have hpr := part_reg (l := l) h111 h116
            have hbd2 := hbd.2 h111 h116
            obtain ⟨pi, hpi⟩ : ∃ pi : Int, (p.toNat : Int) = pi := ⟨_, rfl⟩
            have n116 : (pi == 116) = false := by
              rw [← hpi]; simp
              intro e
              exact h116 (UInt8.toNat.inj (by show p.toNat = 116; omega))
            have n111 : (pi == 111) = false := by
              rw [← hpi]; simp
              intro e
              exact h111 (UInt8.toNat.inj (by show p.toNat = 111; omega))
            obtain ⟨of, hof⟩ : ∃ of, offR pi = of := ⟨_, rfl⟩
            have hfl : Calls Tryd.prog 40 #[.pointer (some ⟨bl, 0, none⟩), .int .i32 pi] Wn fun e w'' => e = .returned (.pointer (some ⟨bl, of, none⟩)) ∧ Wn = w'' := by rw [← hof]; exact field_any _ pi Wn
            obtain ⟨v, hv⟩ : ∃ v, l.get p = v := ⟨_, rfl⟩
            have hit := (Tryd.strconv_Itoa v (by omega) (by omega) Wn HT2.out.pow).mono fun e w' (hh : e = _ ∧ _) => (⟨hh.1, hh.2.elim fun k h => h.elim fun os q => q ▸ below_grow2 Wn k os⟩ : e = .returned (.string ⟨(Lib.itoa v).toArray⟩) ∧ Below Wn.heap.size Wn w')
            rw [hv] at hpr hgc
            rw [show ((p.toNat : Nat) : Int) = pi from hpi, hof] at hgc
            obtain ⟨nb, hnb⟩ : ∃ nb, (⟨(Lib.itoa v).toArray⟩ : ByteArray) = nb := ⟨_, rfl⟩
            rw [hnb] at hit
            have hnd : nb.data.toList = partL l p := by rw [← hnb, hpr]
            have HND := Lib.hid hnd
            have hpl : (partL l p).length = nb.size := by rw [bytes_len, hnd]
            have hpz := HPP.out
            rw [hpl] at hpz
            have t1 : ¬ 9223372036854775807 < 1 + nb.size := by omega
            have t2 : ¬ 9223372036854775807 < S'.size + (1 + nb.size) := by omega
            rw [hpi] at hnx
            clear hl6 hbd hbd2 h116 h111 hp4 hpr hof hv hnb hnd hpl hpz hpi y0 y1 y2 y3 y4 y5
            go_wp2_with (first
              | (go_at_call 40; refine hfl.mono ?_; rintro e w'' ⟨rfl, rfl⟩)
              | (go_at_call 19; refine hit.mono ?_; rintro e w7 ⟨rfl, hb7⟩;
                 have HIT7 := Lib.hid (keepB hb7 HIT2.out);
                 have HB7 := Lib.hid (HBW2.out.trans (hb7.mono HBW2.out.size));
                 clear hb7))
            go_roundg g'
            case measure => omega
            case rel => exact ⟨m + 1, _, rfl, by have := HL4.out; omega, HIT7.out, HB7.out, by rw [bytes_app HI.out.s (bytes_app (x := [32]) rfl HND.out), HTS2.out, List.append_assoc]; rfl⟩
          · obtain rfl : m = L := by omega
            have hpe : ¬ m < PB.size := by rw [HPZ.out]; omega
            have hnx : ∀ ty, (Instr.next (.pointer (some ⟨w6.heap.size, 0, none⟩)) true ty).run Tryd.prog wr = _ := fun ty => Lib.run_next_end_at wr _ PB m ty hI.i hpe
            have hall : P.take m = P := List.take_of_length_le (by rw [HL4.out]; exact Nat.le_refl _)
            have hsd := hI.s
            rw [hall] at hsd hSz
            have HSD := Lib.hid hsd
            have HBI := Lib.hid hI.b
            have hT := HMAX.out
            have t1 : ¬ 9223372036854775807 < S'.size + 1 := by omega
            clear hsd hall hpe hI hSz hS0z hT HI hbx
            go_wp2
            exact ⟨⟨k + 1, _, by omega, rfl, by go_num, by rw [bytes_app HSD.out (y := [10]) rfl, HS0.out, HS.out, HTS.out, HLL.out]; simp, HB6.out.trans (HBI.out.mono HB6.out.size)⟩, by simp [intOf]; omega⟩
      · obtain rfl : k = N := by omega
        have hall : (o.lines.take k) = o.lines := List.take_of_length_le (by rw [HN.out]; exact Nat.le_refl _)
        have hSS : S = bA (printL o) := by
          have e : S.data.toList = printL o := by rw [hS, hall]; rfl
          rw [← e]
          rfl
        subst hSS
        clear hS HS hb
        go_wp2
        go_returns
        exact ⟨rfl, HB1.out.trans (HBB.out.mono HB1.out.size)⟩
end Go.Proofs.YtihbgppcacaekaaDoor
