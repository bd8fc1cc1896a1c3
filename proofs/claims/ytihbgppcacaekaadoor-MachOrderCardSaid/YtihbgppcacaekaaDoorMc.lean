import Derived.Test.YtihbgppcacaekaaDoorMa
import Derived.Test.YtihbgppcacaekaaDoorQa
/- MAPS WITH STRINGS AS KEYS. -/
namespace Go.Proofs.YtihbgppcacaekaaDoor
open Go.MapKept Go.RowKit

theorem under_str : Tryd.prog.underlying 9 = some .string := by kernel_rfl
theorem kvStr : KeyV Tryd.prog 9 (fun s : ByteArray => .string s) where
  inj := fun x y h => by injection h
  check := fun w em x => run_checkKey (w := w) under_str (d := .string) (k := .string x) trivial em 9999
  find := fun w x es hes => by
    have hks : ∀ y ∈ es, IsKey .string y.key := fun y hy => by
      obtain ⟨s, e⟩ := hes y hy
      rw [e]; trivial
    rcases findNow_spec (d := .string) (k := .string x) trivial es 0 hks with ⟨ha, hn⟩ | ⟨j, e0, ha, hj, hk⟩
    · exact Or.inl ⟨run_findKey (w := w) under_str ha, hn⟩
    · exact Or.inr ⟨j, e0, by have := run_findKey (w := w) under_str ha; simpa using this, hj, hk⟩
  stays := fun w x => run_keyThatStays (d := .string) trivial
end Go.Proofs.YtihbgppcacaekaaDoor
