import Derived.Test.YtihbgppcacaekaaDoorQo
import Derived.Test.YtihbgppcacaekaaDoorQr
/- step, whatever the line. -/
namespace Go.Proofs.YtihbgppcacaekaaDoor
open Go.RowKit Go.BigFrame
theorem right_b2 {r a b n : Int} {tx : ByteArray} {o : Ob} (h : rightL (Ln.mk 2 r a b n tx) o = true) : b = 0 := by
  unfold rightL at h
  simp only [Bool.and_eq_true, decide_eq_true_eq] at h
  have := h.1.2
  simp [bareL, shp, shapes, Ln.set, Ln.zero] at this
  exact this
section
variable {w0 w : World} {xb mb mp : Nat} {gv : ByteArray → Option Value} {R : Rn} {iv sv ov : Value} {l : List Fb} {by_ : ByteArray → Option Ob} {top : Int} {n : Nat}
set_option maxRecDepth 100000 in
theorem step_any (hb : BySo by_) (ht : 0 ≤ top) (hgv : ∀ s o, by_ s = some o → ∃ C cap, gv s = some (obAgg o C cap) ∧ RdL w0 C o.lines) (h : XS w0 w xb mb mp gv R iv sv ov l) (hk : ROk by_ top n R) (hov : R.over = false) (hn : n ≤ 80000) :
    Calls Tryd.prog 24 #[.pointer (some ⟨xb, 0, none⟩)] w fun e w' => e = .returned (.tuple #[]) ∧ StT w0 xb mb mp gv (R.step by_) w' := by
  have hsp0 : 0 ≤ R.sp := by rw [hk.sp]; exact spOf_ge hb ht _ hk.frs hk.ch
  have hne := hk.go hov
  rcases List.eq_nil_or_concat l with rfl | ⟨l', x, hlx⟩
  · exact absurd (by rw [h.st]; rfl) hne
  · rw [List.concat_eq_append] at hlx
    subst hlx
    have hstk := stack_top h
    have hfo := hk.frs x.f (by rw [hstk]; simp)
    have hch := hk.ch
    rw [hstk] at hch
    have hbase : 0 ≤ x.f.base := by
      rw [hch.1]
      exact spOf_ge hb ht _ (fun g hg => hk.frs g (List.mem_of_mem_tail hg)) hch.2
    have hpf := rightO_parts (hb.frame hfo)
    have hbase2 : x.f.base ≤ 4096 := by
      have h1 := hk.sp
      rw [hstk] at h1
      have h2 : R.sp = x.f.base + x.f.o.frame := h1
      have h3 := hk.sp4
      omega
    have hl : l'.length ≤ 900 := by
      have h1 := hk.len
      rw [h.st] at h1
      simp at h1
      omega
    obtain ⟨i, hi, hr, _, _⟩ := line_at hb hfo
    obtain ⟨p, hpp⟩ : ∃ p : Nat, x.f.at_.toNat = p := ⟨_, rfl⟩
    have hat : x.f.at_ = p := by have := hfo.at0; omega
    have hp : p ≤ 100000 := by have := hfo.at1; omega
    rw [hpp] at hi
    obtain ⟨hop, _, hnum⟩ := rightL_parts hr
    obtain ⟨h1, h2, h3⟩ := right_regs hr
    obtain ⟨op, r, a, b, m, tx⟩ := i
    simp only at hop h1 h2 h3 hnum
    rcases op_cases hop with rfl | rfl | rfl | rfl | rfl | rfl | rfl | rfl | rfl | rfl | rfl | rfl | rfl | rfl | rfl | rfl | rfl | rfl
    · -- 1
      obtain ⟨r0, r1⟩ := h1 (by simp)
      obtain ⟨r, rfl⟩ : ∃ q : Nat, r = (q : Int) := ⟨r.toNat, by omega⟩
      have r2 : r < 8 := by omega
      exact step_rk by_ h p 1 (r : Int) a b m tx hat hp hi hl (by decide) (by decide) (by decide) (by decide) (by decide) (by decide) (by decide) (by decide) (by decide)
        (fun W' x' hb' hf' h' => by
          have := reckon_1 h' r a b m tx r2
          rw [hf'] at this
          exact this)
    · -- 2
      obtain ⟨r0, r1⟩ := h1 (by simp)
      obtain ⟨r, rfl⟩ : ∃ q : Nat, r = (q : Int) := ⟨r.toNat, by omega⟩
      have r2 : r < 8 := by omega
      obtain ⟨a0, a1⟩ := h2 (by simp)
      obtain ⟨a, rfl⟩ : ∃ q : Nat, a = (q : Int) := ⟨a.toNat, by omega⟩
      have a2 : a < 8 := by omega
      have hb0 : b = 0 := right_b2 hr
      subst hb0
      exact step_rk by_ h p 2 (r : Int) (a : Int) ((0 : Nat) : Int) m tx hat hp hi hl (by decide) (by decide) (by decide) (by decide) (by decide) (by decide) (by decide) (by decide) (by decide)
        (fun W' x' hb' hf' h' => by
          have := reckon_2 h' r a 0 m tx r2 a2 (by omega)
          rw [hf'] at this
          exact this)
    · -- 3
      obtain ⟨r0, r1⟩ := h1 (by simp)
      obtain ⟨r, rfl⟩ : ∃ q : Nat, r = (q : Int) := ⟨r.toNat, by omega⟩
      have r2 : r < 8 := by omega
      obtain ⟨a0, a1⟩ := h2 (by simp)
      obtain ⟨a, rfl⟩ : ∃ q : Nat, a = (q : Int) := ⟨a.toNat, by omega⟩
      have a2 : a < 8 := by omega
      obtain ⟨b0, b1⟩ := h3 (by simp)
      obtain ⟨b, rfl⟩ : ∃ q : Nat, b = (q : Int) := ⟨b.toNat, by omega⟩
      have b2 : b < 8 := by omega
      exact step_rk by_ h p 3 (r : Int) (a : Int) (b : Int) m tx hat hp hi hl (by decide) (by decide) (by decide) (by decide) (by decide) (by decide) (by decide) (by decide) (by decide)
        (fun W' x' hb' hf' h' => by
          have := reckon_3 h' r a b m tx r2 a2 b2
          rw [hf'] at this
          exact this)
    · -- 4
      obtain ⟨r0, r1⟩ := h1 (by simp)
      obtain ⟨r, rfl⟩ : ∃ q : Nat, r = (q : Int) := ⟨r.toNat, by omega⟩
      have r2 : r < 8 := by omega
      obtain ⟨a0, a1⟩ := h2 (by simp)
      obtain ⟨a, rfl⟩ : ∃ q : Nat, a = (q : Int) := ⟨a.toNat, by omega⟩
      have a2 : a < 8 := by omega
      exact step_rk by_ h p 4 (r : Int) (a : Int) b m tx hat hp hi hl (by decide) (by decide) (by decide) (by decide) (by decide) (by decide) (by decide) (by decide) (by decide)
        (fun W' x' hb' hf' h' => by
          have := reckon_4 h' r a b m tx r2 a2
          rw [hf'] at this
          exact this)
    · -- 5
      obtain ⟨r0, r1⟩ := h1 (by simp)
      obtain ⟨r, rfl⟩ : ∃ q : Nat, r = (q : Int) := ⟨r.toNat, by omega⟩
      have r2 : r < 8 := by omega
      have hnn : 0 ≤ m ∧ m ≤ x.f.o.frame := by simpa [numOk] using hnum
      exact step_rk by_ h p 5 (r : Int) a b m tx hat hp hi hl (by decide) (by decide) (by decide) (by decide) (by decide) (by decide) (by decide) (by decide) (by decide)
        (fun W' x' hb' hf' h' => by
          have := reckon_5 h' r a b m tx r2 (by omega) (by rw [hf']; show 0 ≤ x.f.base ∧ x.f.base ≤ 100000; omega)
          rw [hf'] at this
          exact this)
    · -- 6
      obtain ⟨r0, r1⟩ := h1 (by simp)
      obtain ⟨r, rfl⟩ : ∃ q : Nat, r = (q : Int) := ⟨r.toNat, by omega⟩
      have r2 : r < 8 := by omega
      obtain ⟨a0, a1⟩ := h2 (by simp)
      obtain ⟨a, rfl⟩ : ∃ q : Nat, a = (q : Int) := ⟨a.toNat, by omega⟩
      have a2 : a < 8 := by omega
      exact step_6 by_ h p r a b m tx hat hp hi hl a2 r2
    · -- 7
      obtain ⟨a0, a1⟩ := h2 (by simp)
      obtain ⟨a, rfl⟩ : ∃ q : Nat, a = (q : Int) := ⟨a.toNat, by omega⟩
      have a2 : a < 8 := by omega
      obtain ⟨b0, b1⟩ := h3 (by simp)
      obtain ⟨b, rfl⟩ : ∃ q : Nat, b = (q : Int) := ⟨b.toNat, by omega⟩
      have b2 : b < 8 := by omega
      exact step_7 by_ h p r a b m tx hat hp hi hl a2 b2
    · -- 8
      obtain ⟨r0, r1⟩ := h1 (by simp)
      obtain ⟨r, rfl⟩ : ∃ q : Nat, r = (q : Int) := ⟨r.toNat, by omega⟩
      have r2 : r < 8 := by omega
      have hnn : 0 ≤ m ∧ m < x.f.o.slots := by simpa [numOk] using hnum
      obtain ⟨m, rfl⟩ : ∃ q : Nat, m = (q : Int) := ⟨m.toNat, by omega⟩
      exact step_rk by_ h p 8 (r : Int) a b (m : Int) tx hat hp hi hl (by decide) (by decide) (by decide) (by decide) (by decide) (by decide) (by decide) (by decide) (by decide)
        (fun W' x' hb' hf' h' => by
          have := reckon_8 h' r m a b tx r2 (by rw [hf']; show m < x.f.slots.length; have := hfo.sl; omega)
          rw [hf'] at this
          exact this)
    · -- 9
      obtain ⟨a0, a1⟩ := h2 (by simp)
      obtain ⟨a, rfl⟩ : ∃ q : Nat, a = (q : Int) := ⟨a.toNat, by omega⟩
      have a2 : a < 8 := by omega
      have hnn : 0 ≤ m ∧ m < x.f.o.slots := by simpa [numOk] using hnum
      obtain ⟨m, rfl⟩ : ∃ q : Nat, m = (q : Int) := ⟨m.toNat, by omega⟩
      exact step_9 by_ h p r b a m tx hat hp hi hl a2 (by have := hfo.sl; omega)
    · -- 10
      obtain ⟨a0, a1⟩ := h2 (by simp)
      obtain ⟨a, rfl⟩ : ∃ q : Nat, a = (q : Int) := ⟨a.toNat, by omega⟩
      have a2 : a < 8 := by omega
      have hnn : 0 ≤ m ∧ m < 6 := by simpa [numOk] using hnum
      obtain ⟨m, rfl⟩ : ∃ q : Nat, m = (q : Int) := ⟨m.toNat, by omega⟩
      exact step_10 by_ h p r b a m tx hat hp hi hl a2 (by omega)
    · -- 11
      obtain ⟨r0, r1⟩ := h1 (by simp)
      obtain ⟨r, rfl⟩ : ∃ q : Nat, r = (q : Int) := ⟨r.toNat, by omega⟩
      have r2 : r < 8 := by omega
      have hnn : 0 ≤ m ∧ m < 6 := by simpa [numOk] using hnum
      obtain ⟨m, rfl⟩ : ∃ q : Nat, m = (q : Int) := ⟨m.toNat, by omega⟩
      exact step_rk by_ h p 11 (r : Int) a b (m : Int) tx hat hp hi hl (by decide) (by decide) (by decide) (by decide) (by decide) (by decide) (by decide) (by decide) (by decide)
        (fun W' x' hb' hf' h' => by
          have := reckon_11 h' r m a b tx r2 (by omega)
          rw [hf'] at this
          exact this)
    · -- 12
      obtain ⟨s, hsrc⟩ := hfo.src
      obtain ⟨o, ho⟩ := hb.calls s _ hsrc _ (List.mem_of_getElem? hi) rfl
      obtain ⟨C, cap, hg1, hg2⟩ := hgv _ _ ho
      have hpo := rightO_parts (hb.right _ _ ho)
      exact step_12 by_ h p r a b m tx hat hp hi hl o C cap ho hg1 hg2 hpo.1 hpo.2.1 ⟨hsp0, hk.sp4⟩
    · -- 13
      obtain ⟨r0, r1⟩ := h1 (by simp)
      obtain ⟨r, rfl⟩ : ∃ q : Nat, r = (q : Int) := ⟨r.toNat, by omega⟩
      have r2 : r < 8 := by omega
      exact step_rk by_ h p 13 (r : Int) a b m tx hat hp hi hl (by decide) (by decide) (by decide) (by decide) (by decide) (by decide) (by decide) (by decide) (by decide)
        (fun W' x' hb' hf' h' => by
          have := reckon_13 h' r a b m tx r2
          rw [hf'] at this
          exact this)
    · -- 14
      obtain ⟨r0, r1⟩ := h1 (by simp)
      obtain ⟨r, rfl⟩ : ∃ q : Nat, r = (q : Int) := ⟨r.toNat, by omega⟩
      have r2 : r < 8 := by omega
      exact step_rk by_ h p 14 (r : Int) a b m tx hat hp hi hl (by decide) (by decide) (by decide) (by decide) (by decide) (by decide) (by decide) (by decide) (by decide)
        (fun W' x' hb' hf' h' => by
          have := reckon_14 h' r a b m tx r2
          rw [hf'] at this
          exact this)
    · -- 15
      obtain ⟨a0, a1⟩ := h2 (by simp)
      obtain ⟨a, rfl⟩ : ∃ q : Nat, a = (q : Int) := ⟨a.toNat, by omega⟩
      have a2 : a < 8 := by omega
      exact step_15 by_ h p r b m a tx hat hp hi hl a2 (by have := hk.out; omega)
    · -- 16
      exact step_16 by_ h p r a b m tx hat hp hi hl
    · -- 17
      obtain ⟨a0, a1⟩ := h2 (by simp)
      obtain ⟨a, rfl⟩ : ∃ q : Nat, a = (q : Int) := ⟨a.toNat, by omega⟩
      have a2 : a < 8 := by omega
      exact step_17 by_ h p r b m a tx hat hp hi hl a2
    · -- 18
      obtain ⟨a0, a1⟩ := h2 (by simp)
      obtain ⟨a, rfl⟩ : ∃ q : Nat, a = (q : Int) := ⟨a.toNat, by omega⟩
      have a2 : a < 8 := by omega
      exact step_18 by_ h p r b m a tx hat hp hi hl a2 ⟨hsp0, by have := hk.sp4; omega⟩ ⟨hpf.2.1.1, by omega⟩
end
end Go.Proofs.YtihbgppcacaekaaDoor
