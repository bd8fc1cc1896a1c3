import Derived.Test.YtihbgppcacaekaaDoorQs
import Derived.Test.YtihbgppcacaekaaDoorQt
/- Run: its parts. -/
namespace Go.Proofs.YtihbgppcacaekaaDoor
open Go.RowKit Go.BigFrame

/-- what is held on to in a region whose operations tell values, in worlds that grow -/
structure IG (W : World) (G : Nat → Value → World → Prop) (s : Nat → Option Value) (w : World) : Prop where
  b : Below W.heap.size W w
  g : ∀ i v, s i = some v → G i v w
theorem IG.step {W : World} {G : Nat → Value → World → Prop} {s : Nat → Option Value} {w w' : World} (h : IG W G s w) (hg : ∀ i v w w', Below w.heap.size w w' → G i v w → G i v w') (hb : Below w.heap.size w w') (i : Nat) (v : Value) (hv : G i v w') : IG W G (updT s i v) w' where
  b := h.b.trans (hb.mono h.b.size)
  g := fun j u hu => by
    unfold updT at hu
    split at hu
    · rename_i e
      subst e
      injection hu with hu
      rw [← hu]
      exact hv
    · exact hg j u w w' hb (h.g j u hu)
theorem some_of {o : Option Value} (h : o.isSome = true) : ∃ v, o = some v := Option.isSome_iff_exists.1 h
abbrev rowX (mp mb : Nat) (top : Int) (iv : Value) : Array Value := #[.map (some mp), .slice (some ⟨mb, 0, none⟩) 4096 4096, .int .i64 0, .int .i64 0, .int .i64 0, .int .i64 0, .int .i64 0, .int .i64 0, .int .i64 0, .int .i64 0, .int .i64 top, .int .i64 0, iv, .slice none 0 0, .bool false, .int .i64 0, .int .i64 0, .slice none 0 0]
def memO : Obj := .cells (madeCells #[.int .i64 0] 4096) 3 (0, 0)
def RnG (base im : Nat) (top : Int) (iv : Value) : Nat → Value → World → Prop
  | 0, v, w => ∃ b, v = .map (some b) ∧ base ≤ b ∧ w.heap[b]? = some (.map #[] 0)
  | 1, v, w => ∃ b, v = .slice (some ⟨b, 0, none⟩) 4096 4096 ∧ base ≤ b ∧ w.heap[b]? = some memO
  | 2, v, _ => v = .pointer (some ⟨im, 2, none⟩)
  | 3, v, _ => v = .int .i64 top
  | 4, v, _ => v = iv
  | 5, v, w => ∃ mp mb, v = .agg (rowX mp mb top iv) ∧ (base ≤ mp ∧ base ≤ mb) ∧ w.heap[mp]? = some (.map #[] 0) ∧ w.heap[mb]? = some memO
  | 6, v, w => ∃ xb mp mb, v = .pointer (some ⟨xb, 0, none⟩) ∧ (base ≤ xb ∧ base ≤ mp ∧ base ≤ mb) ∧ w.heap[xb]? = some (.cells (rowX mp mb top iv) 64 (0, 0)) ∧ w.heap[mp]? = some (.map #[] 0) ∧ w.heap[mb]? = some memO
  | _, _, _ => True
theorem keepB {w w' : World} {b : Nat} {o : Obj} (hb : Below w.heap.size w w') (h : w.heap[b]? = some o) : w'.heap[b]? = some o := (hb.block b (Array.getElem?_eq_some_iff.1 h).1).trans h
theorem RnG.grow {base im : Nat} {top : Int} {iv : Value} : ∀ i v w w', Below w.heap.size w w' → RnG base im top iv i v w → RnG base im top iv i v w'
  | 0, _, _, _, hb, ⟨b, h1, h0, h2⟩ => ⟨b, h1, h0, keepB hb h2⟩
  | 1, _, _, _, hb, ⟨b, h1, h0, h2⟩ => ⟨b, h1, h0, keepB hb h2⟩
  | 2, _, _, _, _, h => h
  | 3, _, _, _, _, h => h
  | 4, _, _, _, _, h => h
  | 5, _, _, _, hb, ⟨mp, mb, h1, h0, h2, h3⟩ => ⟨mp, mb, h1, h0, keepB hb h2, keepB hb h3⟩
  | 6, _, _, _, hb, ⟨xb, mp, mb, h1, h0, h2, h3, h4⟩ => ⟨xb, mp, mb, h1, h0, keepB hb h2, keepB hb h3, keepB hb h4⟩
  | _ + 7, _, _, _, _, _ => trivial
theorem make_mso (w : World) : (Instr.makeMap 59 none).run Tryd.prog w = .ok (.map (some w.heap.size)) (w.alloc (.map #[] 0)) := by kernel_rfl
theorem make_4096 (W : World) : (Instr.makeSlice 60 (.int .i64 4096) (.int .i64 4096)).run Tryd.prog W = .ok (.slice (some ⟨W.heap.size, 0, none⟩) 4096 4096) (W.alloc memO) := make_regs 4096 (by omega) W
theorem bld_x (w : World) (mp mb : Nat) (top : Int) (I : Option Addr) (n c : Nat) : (Instr.build 64 #[(0, .map (some mp)), (1, .slice (some ⟨mb, 0, none⟩) 4096 4096), (3, .int .i64 top), (5, .slice I n c)]).run Tryd.prog w = .ok (.agg (rowX mp mb top (.slice I n c))) w := by kernel_rfl
theorem box_x (w : World) (mp mb : Nat) (top : Int) (I : Option Addr) (n c : Nat) : (Instr.box 64 (.agg (rowX mp mb top (.slice I n c)))).run Tryd.prog w = .ok (.pointer (some ⟨w.heap.size, 0, none⟩)) (w.alloc (.cells (rowX mp mb top (.slice I n c)) 64 (0, 0))) := by kernel_rfl
theorem fa_i2 (w : World) (b : Nat) : (Instr.fieldAt 25 (.pointer (some ⟨b, 0, none⟩)) 2).run Tryd.prog w = .ok (.pointer (some ⟨b, 2, none⟩)) w := by kernel_rfl
end Go.Proofs.YtihbgppcacaekaaDoor
