import Derived.Test.YtfaccdidjhaahaaH
namespace Go.Proofs.Ytfaccdidjhaahaa
open Go.RowKit

def Row.never (r : Row) : Bool := r.bare && decide (r.c < 0)
def nevAux : Nat → Nat → List Row → Bool
  | 0, _, rows => rows.any Row.never
  | n + 1, v, rows => rows.any Row.never || match stepS v rows with
    | none => false
    | some out => nevAux n (v + 1) out
def neverS (l : List Row) : Bool := if l.all Row.right then nevAux 8 0 (l.map Row.tight) else false

theorem any_no (l : List Row) (h : ∀ r ∈ l, r.never = false) : l.any Row.never = false := by
  rw [List.any_eq_false]; intro r hr; simp [h r hr]
theorem any_yes (l : List Row) (k : Nat) (hk : k < l.length) (h : l[k].never = true) : l.any Row.never = true := List.any_eq_true.2 ⟨l[k], List.getElem_mem hk, h⟩

set_option maxHeartbeats 400000 in
theorem never1_any (l : List Row) (A : Option Addr) (cap : Nat) (g : Nat) (w : World) (hl : l.length ≤ 64) (hR : Rd w w.heap.size A l) (hg : w.cell? ⟨g, 0, none⟩ = some (.slice A l.length cap)) :
    Calls Try.prog 23 #[.pointer (some ⟨g, 0, none⟩)] w fun e w' => e = .returned (.bool (l.any Row.never)) ∧ Below w.heap.size w w' := by
  go_enter Try.func23, Try.ntmps23
  go_wp2
  go_loopw [6] (fun i wr => ∃ k : Nat, k ≤ l.length ∧ i = .int .i64 k ∧ Below w.heap.size w wr ∧ Hid (∀ j (hj : j < l.length), j < k → l[j].never = false)) (fun i _ => l.length - (intOf i).toNat)
  case atStart => exact ⟨0, by omega, rfl, Below.refl _ _, fun j _ hj => by omega⟩
  case round =>
    clear hg
    obtain ⟨k, hk, rfl, hB, HN⟩ := hrel
    by_cases hlt : k < l.length
    · obtain ⟨b, o, rfl, hb, c0, c1, c2, c3, c4, c5, c6, c7, c8⟩ := (hR.below hB (Nat.le_refl _)).at_ k hlt
      have hyes := any_yes l k hlt
      have hnext : l[k].never = false → ∀ j (hj : j < l.length), j < k + 1 → l[j].never = false := fun h j hj hjk => by
        rcases Nat.lt_succ_iff_lt_or_eq.1 hjk with h' | rfl
        · exact HN.out j hj h'
        · exact h
      have HY := Lib.hid hyes
      have HX := Lib.hid hnext
      clear hyes hnext HN
      generalize l[k] = x at c0 c1 c2 c3 c4 c5 c6 c7 c8 HY HX
      go_wp2_with fail
      clear c0 c1 c2 c3 c4 c5 c6 c7 c8
      have hX : HasR (wr.alloc x.o) wr.heap.size x := HasR.new wr x
      replace hB := hB.trans (((Below.refl wr.heap.size wr).alloc (Nat.le_refl _) x.o).mono hB.size)
      generalize wr.alloc x.o = W1 at *
      refine (bare_any x _).mono ?_; rintro e w1 ⟨rfl, hb1⟩
      replace hB := hB.trans (hb1.mono hB.size)
      replace hX := hX.below hb1 hX.lt
      clear hb1
      have hc := hX.cells.2.2.2.2.2.2.2.2
      cases hbr : (x.F == [0, 0, 0, 0, 0, 0, 0, 0])
      · have hn : x.never = false := by simp [Row.never, Row.bare, hbr]
        have HNX := Lib.hid hn
        have HBR := Lib.hid hbr
        clear hn hbr
        go_wp2_with fail
        exact ⟨⟨k + 1, by omega, by go_num, hB, HX.out HNX.out⟩, by simp [intOf]; omega⟩
      · by_cases hc0 : x.c < 0
        · have hn : x.never = true := by simp [Row.never, Row.bare, hbr, hc0]
          have HNX := Lib.hid hn
          have HBR := Lib.hid hbr
          clear hn hbr
          go_wp2_with fail
          go_returns
          exact ⟨ret_b (HY.out HNX.out).symm, hB⟩
        · have hn : x.never = false := by simp [Row.never, hc0]
          have HNX := Lib.hid hn
          have HBR := Lib.hid hbr
          clear hn hbr
          go_wp2_with fail
          exact ⟨⟨k + 1, by omega, by go_num, hB, HX.out HNX.out⟩, by simp [intOf]; omega⟩
    · have hfin : l.any Row.never = false := any_no l (fun r hr => by
        obtain ⟨j, hj, rfl⟩ := List.getElem_of_mem hr
        exact HN.out j hj (by omega))
      have HF := Lib.hid hfin
      clear hfin
      go_wp2_with fail
      go_returns
      exact ⟨ret_b HF.out.symm, hB⟩
end Go.Proofs.Ytfaccdidjhaahaa
