import Derived.Test.YtgdbkoncaojmoaaMa
import Derived.Test.YtgdbkoncaojmoaaZa
/- NUMBERS, AND INSTRUCTIONS, AS KEYS. -/
namespace Go.Proofs.Ytgdbkoncaojmoaa
open Go.MapKept Go.RowKit

theorem under_int : Try.prog.underlying 3 = some (.int .i64) := by kernel_rfl
theorem kvInt : KeyV Try.prog 3 (fun n : Int => .int .i64 n) where
  inj := fun x y h => by injection h
  check := fun w em x => run_checkKey (w := w) under_int (d := .int .i64) (k := .int .i64 x) rfl em 9999
  find := fun w x es hes => by
    have hks : ∀ y ∈ es, IsKey (.int .i64) y.key := fun y hy => by
      obtain ⟨s, e⟩ := hes y hy
      rw [e]; rfl
    rcases findNow_spec (d := .int .i64) (k := .int .i64 x) rfl es 0 hks with ⟨ha, hn⟩ | ⟨j, e0, ha, hj, hk⟩
    · exact Or.inl ⟨run_findKey (w := w) under_int ha, hn⟩
    · exact Or.inr ⟨j, e0, by have := run_findKey (w := w) under_int ha; simpa using this, hj, hk⟩
  stays := fun w x => run_keyThatStays (d := .int .i64) rfl
theorem agg_inj {x y : Ins} (h : x.agg = y.agg) : x = y := by
  obtain ⟨k, op, dst, a, b, n, text, r0, r1, r2, r3, r4, r5, to_, els⟩ := x
  obtain ⟨k', op', dst', a', b', n', text', r0', r1', r2', r3', r4', r5', to', els'⟩ := y
  simp only [Ins.agg, Value.agg.injEq, Array.mk.injEq, List.cons.injEq, Value.int.injEq, Value.string.injEq, true_and, and_true] at h
  simp only [Ins.mk.injEq]
  exact h
theorem find_ask (w : World) (x : Ins) : ∀ (es : List MapEntry) (i : Nat), (∀ e ∈ es, ∃ y : Ins, e.key = y.agg) →
    ((Instr.findAsking 44 x.agg es i).run Try.prog w = .ok none w ∧ ∀ e ∈ es, e.key ≠ x.agg) ∨ ∃ j e, (Instr.findAsking 44 x.agg es i).run Try.prog w = .ok (some (i + j, e.val)) w ∧ es[j]? = some e ∧ e.key = x.agg
  | [], i, _ => Or.inl ⟨rfl, by simp⟩
  | e :: es, i, h => by
    obtain ⟨y, hy⟩ := h e (by simp)
    have he := equalIn_ins x y w
    rw [insEq_dec] at he
    have hrun : (Instr.findAsking 44 x.agg (e :: es) i).run Try.prog w = if x = y then .ok (some (i, e.val)) w else (Instr.findAsking 44 x.agg es (i + 1)).run Try.prog w := by
      rw [show Instr.findAsking 44 x.agg (e :: es) i = (do if ← Op.equal 44 x.agg e.key then pure (some (i, e.val)) else Instr.findAsking 44 x.agg es (i + 1)) from rfl]
      simp only [hy, Op.equal, Op.maxDepth, Sem.run_bind, he, Result.andThen_ok]
      by_cases hxy : x = y
      · simp only [hxy, decide_true, if_true]; rfl
      · simp only [hxy, decide_false, Bool.false_eq_true, if_false]
    rw [hrun]
    by_cases hxy : x = y
    · rw [if_pos hxy]
      exact Or.inr ⟨0, e, rfl, rfl, by rw [hy, hxy]⟩
    · rw [if_neg hxy]
      rcases find_ask w x es (i + 1) (fun e he => h e (by simp [he])) with ⟨h1, h2⟩ | ⟨j, e', h1, h2, h3⟩
      · refine Or.inl ⟨h1, fun e' he' => ?_⟩
        rcases List.mem_cons.1 he' with rfl | h4
        · rw [hy]; exact fun hh => hxy (agg_inj hh).symm
        · exact h2 e' h4
      · exact Or.inr ⟨j + 1, e', by rw [h1, show i + 1 + j = i + (j + 1) by omega], h2, h3⟩
theorem sameBits_ins (x : Ins) : Instr.sameBits 10000 x.agg x.agg = true := by
  simp [Instr.sameBits]
  exact (MapKept.bytes_beq _ _).2 rfl
theorem under_ins : ∃ fs, Try.prog.underlying 44 = some (.struct fs) := by
  have h : (match Try.prog.underlying 44 with | some (.struct _) => true | _ => false) = true := by kernel_rfl
  split at h
  · rename_i fs hfs; exact ⟨fs, hfs⟩
  · cases h
theorem check_ins (w : World) (em : Bool) (x : Ins) : (Instr.checkKey em 10000 44 x.agg).run Try.prog w = .ok () w := by
  kernel_rfl
theorem kvIns : KeyV Try.prog 44 Ins.agg where
  inj := fun x y h => agg_inj h
  check := check_ins
  find := fun w x es hes => by
    obtain ⟨fs, hfs⟩ := under_ins
    cases es with
    | nil =>
      refine Or.inl ⟨?_, by simp⟩
      unfold Instr.findKey
      simp [run_underlying hfs, Instr.findNow, Result.andThen]
    | cons e es =>
      have hn : Instr.findNow (.struct fs) x.agg (e :: es) 0 = none := rfl
      have hrun : (Instr.findKey 44 x.agg (e :: es)).run Try.prog w = (Instr.findAsking 44 x.agg (e :: es) 0).run Try.prog w := by
        unfold Instr.findKey
        simp only [Sem.run_bind, run_underlying hfs, Result.andThen_ok, hn]
      rw [hrun]
      rcases find_ask w x (e :: es) 0 hes with h | ⟨j, e', h1, h2, h3⟩
      · exact Or.inl h
      · exact Or.inr ⟨j, e', by rw [h1, Nat.zero_add], h2, h3⟩
  stays := fun w x => by
    unfold Instr.keyThatStays
    rw [sameBits_ins]
    rfl
end Go.Proofs.Ytgdbkoncaojmoaa
