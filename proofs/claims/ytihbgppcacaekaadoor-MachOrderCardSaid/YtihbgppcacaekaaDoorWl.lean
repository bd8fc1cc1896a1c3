import Derived.WalkKit
import Derived.ProofKit
import Derived.WalkLawsBesides
import Derived.WalkSpells
import Derived.Handy
import Derived.Lib.Hide
import Derived.Deep.QuietTactic
import Derived.BigQuiet
/- REGIONS THAT DRAW THEIR ORDER AND HOLD CALLS THAT MAKE MEMORY: one walk in the order of the text, in the class of worlds that have more blocks, and the old ones as they were. -/
namespace Go.Proofs.YtihbgppcacaekaaDoor
open Go.RowKit

/-- a world that is W with more blocks -/
structure Later (W : World) where
  w : World
  h : Below W.heap.size W w
instance (W : World) : Nonempty (Later W) := ⟨⟨W, Below.refl _ _⟩⟩
theorem Later.cell {W : World} {a : Addr} {v : Value} (h : W.cell? a = some v) (s : Later W) : s.w.cell? a = some v :=
  (s.h.cell (World.block_lt_of_cell? W a h)).trans h
theorem Later.frozen {W : World} {a : Addr} (h : a.block < W.heap.size) (s : Later W) : s.w.frozen? a = W.frozen? a := s.h.frozen h
theorem wp_region_later {P : Program} {id : Nat} {Q : Exit → Act → World → Prop} {a : Act} {W : World} {l : List Oper} (hm : P.follows .mixedOrders = true) (hB : Region.lexB .any l.toArray = true)
    (h : wpQuiet P l.toArray (fun w' => ∃ s : Later W, w' = s.w) (fun a' => ∀ w', (∃ s : Later W, w' = s.w) → Q .normal a' w') l a) : (Code.region id l.toArray true).wp P Q a W :=
  wp_region_quiet (C := fun w' => ∃ s : Later W, w' = s.w) hm hB ⟨⟨{ W with drawn := W.drawn + 1 }, ⟨rfl, rfl, rfl, Nat.le_refl _, fun _ _ => rfl⟩⟩, rfl⟩ (by simpa using h)
theorem Calls.later {P : Program} {f : FuncId} {args : Array Value} {W : World} {s : Later W} {v : Value}
    (h : Calls P f args s.w fun e w' => e = .returned v ∧ Below s.w.heap.size s.w w') : Calls P f args s.w fun e w'' => e = .returned v ∧ ∃ t : Later W, w'' = t.w :=
  h.mono fun _ w' ⟨he, hb⟩ => ⟨he, ⟨w', s.h.trans (hb.mono s.h.size)⟩, rfl⟩
theorem Calls.later_same {P : Program} {f : FuncId} {args : Array Value} {W : World} {s : Later W} {v : Value}
    (h : Calls P f args s.w fun e w' => e = .returned v ∧ s.w = w') : Calls P f args s.w fun e w'' => e = .returned v ∧ ∃ t : Later W, w'' = t.w :=
  h.mono fun _ _ ⟨he, hb⟩ => ⟨he, s, hb.symm⟩
end Go.Proofs.YtihbgppcacaekaaDoor
