import Derived.Test.YtdoeinccnfggiaaDoorL
namespace Go.Proofs.YtdoeinccnfggiaaDoor
open Go.RowKit Go.BigFrame

theorem Turn.define {w wa w5 : World} {p : Nat} {F : Nat → Prop} {T : List Ty} {D : ByteArray → Option (List Fld)} {V : Value} {M n n' : Nat} {g : ByteArray → Option Value}
    (h1 : w.heap[p]? = some (.cells #[V, .map (some M)] 66 (0, 0))) (h2 : OwnT w V T) (h3 : MapS w M n g) (h4 : F p) (h5 : F M) (h6 : ∀ b, V.ownBlock = some b → F b) (h7 : FOk w F g D) (h8 : T.length ≤ 256)
    (hb : Below w.heap.size w wa) {s : ByteArray} {gb cap : Nat} {l : List Fld} {cs : Array Value} (hM5 : MapS w5 M n' (upd g s (.slice (some ⟨gb, 0, none⟩) l.length cap))) (hg : wa.grownBy w5 (some M)) (hgb : w.heap.size ≤ gb)
    (hcs : wa.heap[gb]? = some (.cells cs 31 (0, 0))) (hc : ∀ j, j < l.length * 2 → cs[j]? = (fcells l)[j]?) (hl : l.length ≤ 1000) : Turn w w5 p F T (fun x => if x = s then some l else D x) := by
  have hp := (Array.getElem?_eq_some_iff.1 h1).1
  have hMlt := h3.lt
  obtain ⟨es, clk, hmo, _⟩ := id h3
  have hne : ∀ (k : Nat) cs t fz, w.heap[k]? = some (.cells cs t fz) → k ≠ M := fun k cs t fz hk e => by
    rw [e, hmo] at hk
    simp at hk
  have hkeep : ∀ (k : Nat), k < w.heap.size → k ≠ M → w5.heap[k]? = w.heap[k]? := fun k hk hkM => by
    rw [hg.block k (Nat.lt_of_lt_of_le hk hb.size) (fun e => hkM (by injection e)), hb.block k hk]
  refine ⟨fun k => F k ∨ k = gb, ⟨V, M, n', _, (hkeep p hp (hne p _ _ _ h1)).trans h1, ?_, hM5, .inl h4, .inl h5, fun b hb => .inl (h6 b hb), fun x => ?_, h8⟩, ⟨hg.os.trans hb.os, hg.tape.trans hb.tape, hg.output.trans hb.output, Nat.le_trans hb.size hg.size, fun k hk hn => hkeep k hk (fun e => hn (e ▸ h5))⟩, fun k hk => ?_⟩
  · obtain ⟨_, _, _, hV, _⟩ := h2.form
    exact World.ownsRow.kept (h2.below hb) hg (by
      cases hv : V.ownBlock with
      | none => exact .inl rfl
      | some b =>
        obtain ⟨cur, hcur, _⟩ := hV b hv
        exact .inr (fun e => hne b _ _ _ hcur (by injection e)))
  · by_cases hx : x = s
    · subst hx
      refine ⟨fun h => by simp at h, fun l' hl' => ?_⟩
      simp only [if_pos] at hl'
      injection hl' with hl'
      subst hl'
      refine ⟨gb, cap, cs, by simp [upd], .inr rfl, ?_, hc, hl⟩
      rw [hg.block gb (Array.getElem?_eq_some_iff.1 hcs).1 (fun e => by injection e with e; omega), hcs]
    · simp only [if_neg hx]
      refine ⟨fun h => by simp only [upd, if_neg hx]; exact (h7 x).1 h, fun l' hl' => ?_⟩
      obtain ⟨b, cap', cs', e1, e2, e3, e4⟩ := (h7 x).2 l' hl'
      exact ⟨b, cap', cs', by simp only [upd, if_neg hx]; exact e1, .inl e2, (hkeep b (Array.getElem?_eq_some_iff.1 e3).1 (hne b _ _ _ e3)).trans e3, e4⟩
  · rcases hk with hk | rfl
    · exact .inl hk
    · exact .inr hgb

def cnt (l : List Fld) (s : ByteArray) : Nat := (l.filter (fun f => decide (f.name = s))).length
def gc (l : List Fld) : ByteArray → Option Value := fun s => if cnt l s = 0 then none else some (.int .i64 (cnt l s))
theorem gc_look (l : List Fld) (s : ByteArray) : (gc l s).getD (.int .i64 0) = .int .i64 (cnt l s) := by
  unfold gc
  by_cases h : cnt l s = 0
  · rw [if_pos h, h]; rfl
  · rw [if_neg h]; rfl
theorem cnt_snoc (l : List Fld) (f : Fld) (s : ByteArray) : cnt (l ++ [f]) s = if s = f.name then cnt l s + 1 else cnt l s := by
  unfold cnt
  rw [List.filter_append]
  by_cases h : s = f.name
  · rw [if_pos h, h]; simp
  · rw [if_neg h]
    have : ¬ f.name = s := fun e => h e.symm
    simp [this]
theorem gc_snoc (l : List Fld) (f : Fld) : gc (l ++ [f]) = upd (gc l) f.name (.int .i64 ((cnt l f.name : Int) + 1)) := by
  funext s
  unfold gc upd
  rw [cnt_snoc]
  by_cases h : s = f.name
  · subst h; simp
  · simp [h]
theorem cnt_le (l : List Fld) (s : ByteArray) : cnt l s ≤ l.length := List.length_filter_le _ _
def badAt (l : List Fld) (j : Nat) : Bool := match l[j]? with | none => false | some f => f.name.toList.isEmpty || decide (0 < cnt (l.take j) f.name)
def tw (t0 : Bool) (l : List Fld) : Nat → Bool
  | 0 => t0
  | j + 1 => tw t0 l j || badAt l j
theorem tw_succ (t0 : Bool) (l : List Fld) (j : Nat) (f : Fld) (h : l[j]? = some f) : tw t0 l (j + 1) = (tw t0 l j || (f.name.toList.isEmpty || decide (0 < cnt (l.take j) f.name))) := by
  rw [tw]
  unfold badAt
  rw [h]
def defE (T : List Ty) (D : ByteArray → Option (List Fld)) (K : Nat) (s : ByteArray) (l : List Fld) : Int :=
  if tw (D s).isSome l l.length = true then 7 else if (l.all fun f => (sz T D K f.type).2) = false then 8 else if l.length = 0 then 8 else if 4096 < sumF T D K l then 4 else 0
def defD (D : ByteArray → Option (List Fld)) (s : ByteArray) (l : List Fld) (e : Int) : ByteArray → Option (List Fld) := if e = 0 then (fun x => if x = s then some l else D x) else D
theorem zero3 (w : World) : (zeroValue 3).run Tryd.prog w = .ok (.int .i64 0) w := by kernel_rfl
theorem look69 {w : World} {b n : Nat} {g} (h : MapS w b n g) (s : ByteArray) (c : Bool) :
    (Instr.lookup 69 (.map (some b)) (.string s) c).run Tryd.prog w = .ok (if c then .tuple #[(g s).getD (.int .i64 0), .bool (g s).isSome] else (g s).getD (.int .i64 0)) w :=
  h.lookup (k := 9) (e := 3) (by kernel_rfl) (by kernel_rfl) (zero3 w) s c
theorem FRd.chg {w w' : World} {F : Nat → Prop} {A : Option Addr} {l : List Fld} (h : FRd w A l) (hc : Chg w w' F) (hA : ∀ b, A = some ⟨b, 0, none⟩ → ¬ F b) : FRd w' A l := fun j f hf => by
  obtain ⟨b, e1, e2, e3, e4⟩ := h j f hf
  have hb := hc.block b e2 (hA b e1)
  exact ⟨b, e1, Nat.lt_of_lt_of_le e2 hc.size, (World.cell?_of_block (a := ⟨b, _, none⟩) hb).trans e3, (World.cell?_of_block (a := ⟨b, _, none⟩) hb).trans e4⟩
set_option maxRecDepth 1000000 in
set_option maxHeartbeats 1000000 in
theorem define_err {w : World} {p : Nat} {F : Nat → Prop} {T : List Ty} {D : ByteArray → Option (List Fld)} (h : Tb w p F T D) (s : ByteArray) (v : Value) (he : (strL T s).2.2 ≠ 0) :
    Calls Tryd.prog 12 #[.pointer (some ⟨p, 0, none⟩), .string s, v] w fun e w' => e = .returned (.int .i64 (strL T s).2.2) ∧ Turn w w' p F (strL T s).1 D := by
  have hs := struct_any h s
  generalize strL T s = R at *
  obtain ⟨R1, R2, R3⟩ := R
  simp only at *
  have q : (R3 != 0) = true := by simpa using he
  clear he
  go_enter Tryd.func12, Tryd.ntmps12
  go_wp2_with (first
    | (go_at_call 13; refine hs.mono ?_; rintro e w1 ⟨rfl, ht⟩))
  go_returns
  exact ⟨rfl, ht⟩
end Go.Proofs.YtdoeinccnfggiaaDoor
