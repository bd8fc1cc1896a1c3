import Derived.Test.YtihbgppcacaekaaDoorRa
/- WHAT IS READ (plain): a line, an object. -/
namespace Go.Proofs.YtihbgppcacaekaaDoor
open Go.RowKit Go.BigFrame

/-- the word operation of that name, or 0 -/
def opOf (s : ByteArray) : Nat := match (List.range 23).find? (fun i => decide (nm i = s)) with
  | some i => i + 1
  | none => 0
theorem opOf_found (s : ByteArray) : FoundIn s 23 (opOf s) := by
  unfold opOf
  cases h : (List.range 23).find? (fun i => decide (nm i = s)) with
  | some i =>
    have h1 := List.find?_some h
    have h2 := List.mem_of_find?_eq_some h
    rw [List.mem_range] at h2
    exact Or.inr ⟨by simp, (show i + 1 ≤ 23 by omega), by simpa using of_decide_eq_true h1⟩
  | none =>
    rw [List.find?_eq_none] at h
    exact Or.inl ⟨rfl, fun i hi e => h i (List.mem_range.2 hi) (decide_eq_true e)⟩
theorem opNamed_any (s : ByteArray) (w : World) (h : Tabs w) : Calls Tryd.prog 53 #[.string s] w fun e w' => e = .returned (.tuple #[.int .i64 (opOf s), .bool (decide (0 < opOf s))]) ∧ Below w.heap.size w w' :=
  (wnamed_any s w h).mono fun e w' hh => by
    obtain ⟨⟨r, e1, hf⟩, hb⟩ := hh
    have := hf.same (opOf_found s)
    subst this
    exact ⟨e1, hb⟩
/-- a part is right, as it is written -/
def okP (p : UInt8) (x : ByteArray) : Bool := if p = 116 then namedL x.data.toList else if p = 111 then decide (0 < opOf x) else (numF x).2
/-- a part is set -/
def setP (l : Ln) (p : UInt8) (x : ByteArray) : Ln := if p = 116 then { l with text := x } else if p = 111 then { l with n := opOf x } else l.set p (numF x).1
/-- the operation that a line's words fit -/
def fitsB (ws : List ByteArray) (k : Nat) : Bool := decide ((⟨(shp (k + 1)).1.toArray⟩ : ByteArray) = ws.headD ⟨#[]⟩) && decide (ws.length = (shp (k + 1)).2.length + 1)
def opFit (ws : List ByteArray) : Option Nat := (List.range 18).find? (fitsB ws)
def foldP (l : Ln) (qs : List (UInt8 × ByteArray)) : Ln := qs.foldl (fun l q => setP l q.1 q.2) l
def lineW (ws : List ByteArray) : Option Ln := match opFit ws with
  | none => none
  | some k => if ((shp (k + 1)).2.zip ws.tail).all (fun q => okP q.1 q.2) then some (foldP { Ln.zero with op := k + 1 } ((shp (k + 1)).2.zip ws.tail)) else none
def lineF (s : ByteArray) : Option Ln := lineW (spB 32 s)
theorem opFit_some {ws : List ByteArray} {k : Nat} (hk : k < 18) (hf : fitsB ws k = true) (hb : ∀ j, j < k → fitsB ws j = false) : opFit ws = some k := by
  unfold opFit
  rw [List.find?_range_eq_some]
  exact ⟨hf, List.mem_range.2 hk, fun j hj => by rw [hb j hj]; rfl⟩
theorem opFit_none {ws : List ByteArray} (hb : ∀ j, j < 18 → fitsB ws j = false) : opFit ws = none := by
  unfold opFit
  rw [List.find?_eq_none]
  intro j hj
  rw [hb j (List.mem_range.1 hj)]
  simp
theorem spB_ne (c : UInt8) (s : ByteArray) : ∃ h t, spB c s = h :: t := by
  unfold spB
  cases e : splt c s.data.toList with
  | nil => exact absurd e (splt_ne c _)
  | cons h t => exact ⟨_, _, rfl⟩
theorem splt_size (c : UInt8) : ∀ (s : List UInt8), ∀ x ∈ splt c s, x.length ≤ s.length
  | [] => by simp [splt]
  | a :: s => by
    have ih := splt_size c s
    intro x hx
    unfold splt at hx
    split at hx
    · rcases List.mem_cons.1 hx with rfl | hx
      · simp
      · have := ih x hx; simp; omega
    · cases e : splt c s with
      | nil => exact absurd e (splt_ne c s)
      | cons h t =>
        rw [e] at hx
        simp only at hx
        rcases List.mem_cons.1 hx with rfl | hx
        · have := ih h (by rw [e]; simp); simp; omega
        · have := ih x (by rw [e]; simp [hx]); simp; omega
theorem splt_len (c : UInt8) : ∀ (s : List UInt8), (splt c s).length ≤ s.length + 1
  | [] => by simp [splt]
  | a :: s => by
    have ih := splt_len c s
    unfold splt
    split
    · simp; omega
    · cases e : splt c s with
      | nil => simp
      | cons h t => rw [e] at ih; simp at ih ⊢; omega
theorem spB_len (c : UInt8) (s : ByteArray) : (spB c s).length ≤ s.size + 1 := by
  unfold spB
  rw [List.length_map]
  exact splt_len c _
theorem shp_len (op : Int) : (shp op).2.length ≤ 4 := by
  by_cases h : 1 ≤ op ∧ op ≤ 18
  · rcases op_cases h with e | e | e | e | e | e | e | e | e | e | e | e | e | e | e | e | e | e <;> subst e <;> decide
  · rw [shp_out h]; decide
theorem spB_size {c : UInt8} {s x : ByteArray} (hx : x ∈ spB c s) : x.size ≤ s.size := by
  unfold spB at hx
  obtain ⟨l, hl, rfl⟩ := List.mem_map.1 hx
  have := splt_size c _ l hl
  show l.toArray.size ≤ s.data.size
  simpa using this
end Go.Proofs.YtihbgppcacaekaaDoor
