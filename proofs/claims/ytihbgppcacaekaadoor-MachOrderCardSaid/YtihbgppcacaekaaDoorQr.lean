import Derived.Test.YtihbgppcacaekaaDoorQq
/- WHAT HOLDS OF A RUN (plain) stays so. -/
namespace Go.Proofs.YtihbgppcacaekaaDoor
variable {by_ : ByteArray → Option Ob} {top : Int} {n : Nat} {R : Rn}

theorem touch_same (R : Rn) (l : Ln) : (R.touch l).stack = R.stack ∧ (R.touch l).sp = R.sp ∧ (R.touch l).outp = R.outp := by
  unfold Rn.touch
  repeat' split
  all_goals exact ⟨rfl, rfl, rfl⟩
theorem reckon_same (R : Rn) (f : Fm) (l : Ln) : (R.reckon f l).stack = R.stack ∧ (R.reckon f l).sp = R.sp ∧ (R.reckon f l).outp = R.outp := by
  unfold Rn.reckon
  repeat' split
  all_goals exact ⟨rfl, rfl, rfl⟩
theorem ROk.keep (h : ROk by_ top n R) {f : Fm} {rest : List Fm} (hs : R.stack = f :: rest) (f' : Fm) (ho : f'.o = f.o) (hb : f'.base = f.base) (hsl : f'.slots.length = f.slots.length) (ha : 0 ≤ f'.at_ ∧ f'.at_ < f.o.lines.length) {R' : Rn} (hst : R'.stack = f' :: rest) (hsp : R'.sp = R.sp) (hout : R'.outp.length ≤ n + 1) : ROk by_ top (n + 1) R' := by
  have hf := h.frs f (by rw [hs]; simp)
  have hch := h.ch
  rw [hs] at hch
  exact {
    frs := fun g hg => by
      rw [hst] at hg
      rcases List.mem_cons.1 hg with rfl | hg
      · exact ⟨by rw [ho]; exact hf.src, ha.1, by rw [ho]; exact ha.2, by rw [ho, hsl]; exact hf.sl⟩
      · exact h.frs g (by rw [hs]; simp [hg])
    ch := by
      rw [hst]
      exact ⟨by rw [hb]; exact hch.1, hch.2⟩
    sp := by
      rw [hsp, h.sp, hs, hst]
      show f.base + f.o.frame = f'.base + f'.o.frame
      rw [ho, hb]
    sp4 := by rw [hsp]; exact h.sp4
    len := by
      have := h.len
      rw [hs] at this
      rw [hst]
      simpa using this
    out := hout
    go := fun _ => by rw [hst]; simp }
theorem ROk.step (hb : BySo by_) (h : ROk by_ top n R) (hov : R.over = false) : ROk by_ top (n + 1) (R.step by_) := by
  obtain ⟨f, rest, hs⟩ : ∃ f rest, R.stack = f :: rest := by
    cases hst : R.stack with
    | nil => exact absurd hst (h.go hov)
    | cons f rest => exact ⟨f, rest, rfl⟩
  have hf := h.frs f (by rw [hs]; simp)
  obtain ⟨i, hi, hr, hgd, hnx⟩ := line_at hb hf
  have hop := (rightL_parts hr).1
  have hnum := (rightL_parts hr).2.2
  have hout := h.out
  have hat := hf.at0
  have hne : f.o.lines ≠ [] := by
    intro e
    rw [e] at hi
    simp at hi
  rw [Rn.step_is hs hgd]
  unfold Rn.stepL
  by_cases c1 : i.op = 6 ∨ i.op = 7
  · rw [if_pos c1]
    obtain ⟨e1, e2, e3⟩ := touch_same (R.top { f with at_ := f.at_ + 1 } rest) i
    exact h.keep hs { f with at_ := f.at_ + 1 } rfl rfl rfl ⟨by show 0 ≤ f.at_ + 1; omega, hnx (by omega) (by omega)⟩ e1 e2 (by rw [e3]; show R.outp.length ≤ n + 1; omega)
  rw [if_neg c1]
  by_cases c2 : i.op = 9
  · rw [if_pos c2]
    exact h.keep hs { f with at_ := f.at_ + 1, slots := f.slots.set i.n.toNat (R.rg i.a) } rfl rfl (by simp) ⟨by show 0 ≤ f.at_ + 1; omega, hnx (by omega) (by omega)⟩ rfl rfl (by show R.outp.length ≤ n + 1; omega)
  rw [if_neg c2]
  by_cases c3 : i.op = 10
  · rw [if_pos c3]
    exact h.keep hs { f with at_ := f.at_ + 1, out := f.out.set i.n.toNat (R.rg i.a) } rfl rfl rfl ⟨by show 0 ≤ f.at_ + 1; omega, hnx (by omega) (by omega)⟩ rfl rfl (by show R.outp.length ≤ n + 1; omega)
  rw [if_neg c3]
  by_cases c4 : i.op = 12
  · rw [if_pos c4]
    obtain ⟨s, hsrc⟩ := hf.src
    obtain ⟨o, ho⟩ := hb.calls s _ hsrc i (List.mem_of_getElem? hi) c4
    rw [ho]
    have hk : ROk by_ top (n + 1) (R.top { f with at_ := f.at_ + 1, out := zero6 } rest) := h.keep hs { f with at_ := f.at_ + 1, out := zero6 } rfl rfl rfl ⟨by show 0 ≤ f.at_ + 1; omega, hnx (by omega) (by omega)⟩ rfl rfl (by show R.outp.length ≤ n + 1; omega)
    have hpo := rightO_parts (hb.right _ _ ho)
    show ROk by_ top (n + 1) ((R.top { f with at_ := f.at_ + 1, out := zero6 } rest).enter o f.out)
    generalize R.top { f with at_ := f.at_ + 1, out := zero6 } rest = R1 at hk ⊢
    unfold Rn.enter
    split
    · exact ⟨hk.frs, hk.ch, hk.sp, hk.sp4, hk.len, hk.out, fun hh => by cases hh⟩
    · rename_i hc
      exact {
        frs := fun g hg => by
          rcases List.mem_cons.1 hg with rfl | hg
          · exact ⟨⟨_, ho⟩, by show (0 : Int) ≤ 0; omega, by show (0 : Int) < o.lines.length; omega, by show ((List.replicate o.slots.toNat (0 : Int)).length : Int) = o.slots; rw [List.length_replicate]; omega⟩
          · exact hk.frs g hg
        ch := ⟨hk.sp, hk.ch⟩
        sp := rfl
        sp4 := by show R1.sp + o.frame ≤ 4096; omega
        len := by show R1.stack.length + 1 ≤ 200; omega
        out := hk.out
        go := fun _ => by simp }
  rw [if_neg c4]
  by_cases c5 : i.op = 15
  · rw [if_pos c5]
    exact h.keep hs { f with at_ := f.at_ + 1 } rfl rfl rfl ⟨by show 0 ≤ f.at_ + 1; omega, hnx (by omega) (by omega)⟩ rfl rfl (by show (R.outp ++ [R.rg i.a % 256]).length ≤ n + 1; simp; omega)
  rw [if_neg c5]
  by_cases c6 : i.op = 16
  · rw [if_pos c6]
    have hn : 0 ≤ i.n ∧ i.n < f.o.lines.length := by simpa [numOk, c6] using hnum
    exact h.keep hs { f with at_ := i.n } rfl rfl rfl hn rfl rfl (by show R.outp.length ≤ n + 1; omega)
  rw [if_neg c6]
  by_cases c7 : i.op = 17
  · rw [if_pos c7]
    have hn : 0 ≤ i.n ∧ i.n < f.o.lines.length := by simpa [numOk, c7] using hnum
    split
    · exact h.keep hs { f with at_ := f.at_ + 1 } rfl rfl rfl ⟨by show 0 ≤ f.at_ + 1; omega, hnx (by omega) (by omega)⟩ rfl rfl (by show R.outp.length ≤ n + 1; omega)
    · exact h.keep hs { f with at_ := i.n } rfl rfl rfl hn rfl rfl (by show R.outp.length ≤ n + 1; omega)
  rw [if_neg c7]
  by_cases c8 : i.op = 18
  · rw [if_pos c8]
    have hch := h.ch
    rw [hs] at hch
    have hsp := h.sp
    rw [hs] at hsp
    have hfr := (rightO_parts (hb.frame hf)).2.1
    have hsp2 : R.sp = f.base + f.o.frame := hsp
    have hlen := h.len
    rw [hs] at hlen
    simp only [List.length_cons] at hlen
    have hsp4 := h.sp4
    cases rest with
    | nil =>
      show ROk by_ top (n + 1) (({ R with told := R.rg i.a, sp := R.sp - f.o.frame, stack := [] } : Rn).endd 1 (R.rg i.a))
      exact ⟨(fun g hg => by cases hg), trivial, by show R.sp - f.o.frame = top; rw [hsp2]; have := hch.1; simp only [spOf] at this; omega, by show R.sp - f.o.frame ≤ 4096; omega, by show 0 ≤ 200; omega, by show R.outp.length ≤ n + 1; omega, fun hh => by cases hh⟩
    | cons g0 r0 =>
      show ROk by_ top (n + 1) ({ R with told := R.rg i.a, sp := R.sp - f.o.frame, stack := g0 :: r0 } : Rn)
      exact ⟨(fun g hg => h.frs g (by rw [hs]; exact List.mem_cons_of_mem _ hg)), hch.2, by show R.sp - f.o.frame = spOf top (g0 :: r0); rw [hsp2, ← hch.1]; omega, by show R.sp - f.o.frame ≤ 4096; omega, by show (g0 :: r0).length ≤ 200; omega, by show R.outp.length ≤ n + 1; omega, fun _ => by simp⟩
  · rw [if_neg c8]
    obtain ⟨e1, e2, e3⟩ := reckon_same (R.top { f with at_ := f.at_ + 1 } rest) { f with at_ := f.at_ + 1 } i
    exact h.keep hs { f with at_ := f.at_ + 1 } rfl rfl rfl ⟨by show 0 ≤ f.at_ + 1; omega, hnx (by omega) (by omega)⟩ e1 e2 (by rw [e3]; show R.outp.length ≤ n + 1; omega)
end Go.Proofs.YtihbgppcacaekaaDoor
