import Derived.Test.YtpadbfjocecofaaDoorH
namespace Go.Proofs.YtpadbfjocecofaaDoor
open Go.RowKit Go.BigFrame

theorem wr_cong {x y : Int} (h : x % 4294967296 = y % 4294967296) : wr x = wr y := by unfold wr; omega
theorem wr_mod (x : Int) : wr x % 4294967296 = x % 4294967296 := by unfold wr; omega
theorem pl_mod (x : Int) : pl x % 4294967296 = x % 4294967296 := by unfold pl; omega
theorem div_back {A B p q : Int} (hA : A % 4294967296 = p % 4294967296) (hB : B % 4294967296 = q % 4294967296) (hq : q ≠ 0) :
    wr (wr (wr (wr (dv p q) * B)) + wr (wr (md p q))) = wr A := by
  apply wr_cong
  have e1 : dv p q = p.tdiv q := by unfold dv; rw [if_neg hq]
  have e2 : md p q = p.tmod q := by unfold md; rw [if_neg hq]
  have h1 : (wr (p.tdiv q) * B) % 4294967296 = (p.tdiv q * q) % 4294967296 := by
    rw [Int.mul_emod, wr_mod, hB, ← Int.mul_emod]
  have h2 := Int.tmod_add_mul_tdiv p q
  have h3 : p.tdiv q * q = q * p.tdiv q := Int.mul_comm _ _
  have h4 := wr_mod (wr (wr (p.tdiv q) * B))
  have h5 := wr_mod (wr (p.tdiv q) * B)
  have h6 := wr_mod (wr (p.tmod q))
  have h7 := wr_mod (p.tmod q)
  rw [e1, e2]
  generalize wr (wr (p.tdiv q) * B) = X at *
  generalize wr (p.tdiv q) * B = Y at *
  generalize wr (wr (p.tmod q)) = Z at *
  generalize wr (p.tmod q) = Z1 at *
  generalize p.tmod q = m at *
  rw [h3] at h1
  generalize q * p.tdiv q = D at *
  omega
theorem sub_back (a b : Int) : wr (wr (wr (wr a - wr b)) + wr b) = wr a := by unfold wr; omega
theorem bits_comm (op : BinOp) (h : op = .and ∨ op = .or ∨ op = .xor) (a b : Int) : bits op .i64 a b = bits op .i64 b a := by
  rcases h with rfl | rfl | rfl
  · show IntKind.i64.wrap ((BitVec.ofInt 64 a &&& BitVec.ofInt 64 b).toNat : Int) = IntKind.i64.wrap ((BitVec.ofInt 64 b &&& BitVec.ofInt 64 a).toNat : Int)
    rw [BitVec.and_comm]
  · show IntKind.i64.wrap ((BitVec.ofInt 64 a ||| BitVec.ofInt 64 b).toNat : Int) = IntKind.i64.wrap ((BitVec.ofInt 64 b ||| BitVec.ofInt 64 a).toNat : Int)
    rw [BitVec.or_comm]
  · show IntKind.i64.wrap ((BitVec.ofInt 64 a ^^^ BitVec.ofInt 64 b).toNat : Int) = IntKind.i64.wrap ((BitVec.ofInt 64 b ^^^ BitVec.ofInt 64 a).toNat : Int)
    rw [BitVec.xor_comm]
theorem beq_comm' (a b : Int) : (a == b) = (b == a) := by
  by_cases h : a = b
  · subst h; rfl
  · have h' : ¬ b = a := fun e => h e.symm
    rw [beq_eq_false_iff_ne.2 h, beq_eq_false_iff_ne.2 h']
theorem bne_comm' (a b : Int) : (a != b) = (b != a) := by unfold bne; rw [beq_comm']
theorem loop_out (k : Nat) (h : k < 7) : k = 0 ∨ k = 1 ∨ k = 2 ∨ k = 3 ∨ k = 4 ∨ k = 5 ∨ k = 6 := by omega

theorem pl0 {b : Int} (h : wr b ≠ 0) : pl (wr b) ≠ 0 := by have := wr_bd b; unfold pl; omega
theorem pl0' {b : Int} (h : wr b = 0) : pl (wr b) = 0 := by rw [h]; decide
theorem dd4 {a b : Int} {z : Bool} (hz : (!decide (wr b = 0)) = z) (w : World) : Calls Tryd.prog 11 #[.int .i64 4, .int .i64 a, .int .i64 b] w fun e w' => e = .returned (.tuple #[.int .i64 (wr (dv (wr a) (wr b))), .bool z]) ∧ Below w.heap.size w w' := by
  subst hz; exact do_4 a b w
theorem dd5 {a b : Int} {z : Bool} (hz : (!decide (wr b = 0)) = z) (w : World) : Calls Tryd.prog 11 #[.int .i64 5, .int .i64 a, .int .i64 b] w fun e w' => e = .returned (.tuple #[.int .i64 (wr (md (wr a) (wr b))), .bool z]) ∧ Below w.heap.size w w' := by
  subst hz; exact do_5 a b w
theorem dd6 {a b : Int} {z : Bool} (hz : (!decide (pl (wr b) = 0)) = z) (w : World) : Calls Tryd.prog 11 #[.int .i64 6, .int .i64 a, .int .i64 b] w fun e w' => e = .returned (.tuple #[.int .i64 (wr (dv (pl (wr a)) (pl (wr b)))), .bool z]) ∧ Below w.heap.size w w' := by
  subst hz; exact do_6 a b w
theorem dd7 {a b : Int} {z : Bool} (hz : (!decide (pl (wr b) = 0)) = z) (w : World) : Calls Tryd.prog 11 #[.int .i64 7, .int .i64 a, .int .i64 b] w fun e w' => e = .returned (.tuple #[.int .i64 (wr (md (pl (wr a)) (pl (wr b)))), .bool z]) ∧ Below w.heap.size w w' := by
  subst hz; exact do_7 a b w
theorem dd1 {x r v : Int} (hv : wr (wr x + wr r) = v) (w : World) : Calls Tryd.prog 11 #[.int .i64 1, .int .i64 x, .int .i64 r] w fun e w' => e = .returned (.tuple #[.int .i64 v, .bool true]) ∧ w = w' := by
  subst hv; exact do_1 x r w
def ops7 : Obj := .cells #[.int .i64 1, .int .i64 3, .int .i64 8, .int .i64 9, .int .i64 10, .int .i64 14, .int .i64 15] 22
def ops2 : Obj := .cells #[.int .i64 4, .int .i64 6] 22
set_option maxRecDepth 1000000 in
set_option maxHeartbeats 8000000 in
theorem laws_any (a b : Int) (w : World) (h : Tab w) : Calls Tryd.prog 3 #[.int .i64 a, .int .i64 b] w fun e w' => e = .returned (.bool true) ∧ Below w.heap.size w w' := by
  have q1 : ∀ w, Calls Tryd.prog 11 #[.int .i64 1, .int .i64 b, .int .i64 a] w fun e w' => e = .returned (.tuple #[.int .i64 (wr (wr a + wr b)), .bool true]) ∧ w = w' := fun w => by
    have h := do_1 b a w
    rwa [show wr (wr b + wr a) = wr (wr a + wr b) by rw [Int.add_comm]] at h
  have q3 : ∀ w, Calls Tryd.prog 11 #[.int .i64 3, .int .i64 b, .int .i64 a] w fun e w' => e = .returned (.tuple #[.int .i64 (wr (wr a * wr b)), .bool true]) ∧ w = w' := fun w => by
    have h := do_3 b a w
    rwa [show wr (wr b * wr a) = wr (wr a * wr b) by rw [Int.mul_comm]] at h
  have q8 : ∀ w, Calls Tryd.prog 11 #[.int .i64 8, .int .i64 b, .int .i64 a] w fun e w' => e = .returned (.tuple #[.int .i64 (wr (bits .and .i64 (wr a) (wr b))), .bool true]) ∧ w = w' := fun w => by
    have h := do_8 b a w
    rwa [show wr (bits .and .i64 (wr b) (wr a)) = wr (bits .and .i64 (wr a) (wr b)) by rw [bits_comm _ (.inl rfl)]] at h
  have q9 : ∀ w, Calls Tryd.prog 11 #[.int .i64 9, .int .i64 b, .int .i64 a] w fun e w' => e = .returned (.tuple #[.int .i64 (wr (bits .or .i64 (wr a) (wr b))), .bool true]) ∧ w = w' := fun w => by
    have h := do_9 b a w
    rwa [show wr (bits .or .i64 (wr b) (wr a)) = wr (bits .or .i64 (wr a) (wr b)) by rw [bits_comm _ (.inr (.inl rfl))]] at h
  have q10 : ∀ w, Calls Tryd.prog 11 #[.int .i64 10, .int .i64 b, .int .i64 a] w fun e w' => e = .returned (.tuple #[.int .i64 (wr (bits .xor .i64 (wr a) (wr b))), .bool true]) ∧ w = w' := fun w => by
    have h := do_10 b a w
    rwa [show wr (bits .xor .i64 (wr b) (wr a)) = wr (bits .xor .i64 (wr a) (wr b)) by rw [bits_comm _ (.inr (.inr rfl))]] at h
  have q14 : ∀ w, Calls Tryd.prog 11 #[.int .i64 14, .int .i64 b, .int .i64 a] w fun e w' => e = .returned (.tuple #[.int .i64 (wr (tv (wr a == wr b))), .bool true]) ∧ w = w' := fun w => by
    have h := do_14 b a w
    rwa [show wr (tv (wr b == wr a)) = wr (tv (wr a == wr b)) by rw [beq_comm']] at h
  have q15 : ∀ w, Calls Tryd.prog 11 #[.int .i64 15, .int .i64 b, .int .i64 a] w fun e w' => e = .returned (.tuple #[.int .i64 (wr (tv (wr a != wr b))), .bool true]) ∧ w = w' := fun w => by
    have h := do_15 b a w
    rwa [show wr (tv (wr b != wr a)) = wr (tv (wr a != wr b)) by rw [bne_comm']] at h
  have s2 : ∀ w, Calls Tryd.prog 11 #[.int .i64 1, .int .i64 (wr (wr a - wr b)), .int .i64 b] w fun e w' => e = .returned (.tuple #[.int .i64 (wr a), .bool true]) ∧ w = w' := fun w => by
    have h := do_1 (wr (wr a - wr b)) b w
    rwa [sub_back] at h
  go_enter Tryd.func3, Tryd.ntmps3
  go_wp2_with fail
  have hW : w.alloc ops7 = w.alloc ops7 := rfl
  have hb : Below w.heap.size w (w.alloc ops7) := (Below.refl _ _).alloc (Nat.le_refl _) _
  have hc := heap_alloc_new w ops7
  have hcell : ∀ k : Nat, (w.alloc ops7).cell? ⟨w.heap.size, k, none⟩ = (#[.int .i64 1, .int .i64 3, .int .i64 8, .int .i64 9, .int .i64 10, .int .i64 14, .int .i64 15] : Array Value)[k]? := fun k => by
    unfold World.cell?
    rw [hc]
    rfl
  have k0 := hcell 0; have k1 := hcell 1; have k2 := hcell 2; have k3 := hcell 3; have k4 := hcell 4; have k5 := hcell 5; have k6 := hcell 6
  simp only [List.getElem?_toArray, List.getElem?_cons_zero, List.getElem?_cons_succ] at k0 k1 k2 k3 k4 k5 k6
  clear hcell hc hW
  generalize hW : w.alloc ops7 = W at *
  rw [show w.alloc (.cells #[.int .i64 1, .int .i64 3, .int .i64 8, .int .i64 9, .int .i64 10, .int .i64 14, .int .i64 15] 22) = W from hW]
  have hT := h.below hb
  clear hW
  go_loopw [27] (fun i w8 => ∃ k : Nat, k ≤ 7 ∧ i = .int .i64 k ∧ w8 = W) (fun i _ => 7 - (intOf i).toNat)
  case atStart => exact ⟨0, by omega, rfl, rfl⟩
  case round =>
    obtain ⟨k, hk, rfl, hw0⟩ := hrel
    have hw1 := hw0.symm
    subst hw1
    by_cases hlt : k < 7
    · rcases loop_out k hlt with rfl | rfl | rfl | rfl | rfl | rfl | rfl
      · go_wp2_with (first
          | (go_at_call_of 11 (#[Value.int IntKind.i64 1, Value.int IntKind.i64 a, Value.int IntKind.i64 b]); refine (do_1 a b _).mono ?_; rintro e w' ⟨rfl, rfl⟩)
          | (go_at_call_of 11 (#[Value.int IntKind.i64 1, Value.int IntKind.i64 b, Value.int IntKind.i64 a]); refine (q1 _).mono ?_; rintro e w' ⟨rfl, rfl⟩))
        exact ⟨⟨1, by omega, rfl, trivial⟩, by simp [intOf]⟩
      · go_wp2_with (first
          | (go_at_call_of 11 (#[Value.int IntKind.i64 3, Value.int IntKind.i64 a, Value.int IntKind.i64 b]); refine (do_3 a b _).mono ?_; rintro e w' ⟨rfl, rfl⟩)
          | (go_at_call_of 11 (#[Value.int IntKind.i64 3, Value.int IntKind.i64 b, Value.int IntKind.i64 a]); refine (q3 _).mono ?_; rintro e w' ⟨rfl, rfl⟩))
        exact ⟨⟨2, by omega, rfl, trivial⟩, by simp [intOf]⟩
      · go_wp2_with (first
          | (go_at_call_of 11 (#[Value.int IntKind.i64 8, Value.int IntKind.i64 a, Value.int IntKind.i64 b]); refine (do_8 a b _).mono ?_; rintro e w' ⟨rfl, rfl⟩)
          | (go_at_call_of 11 (#[Value.int IntKind.i64 8, Value.int IntKind.i64 b, Value.int IntKind.i64 a]); refine (q8 _).mono ?_; rintro e w' ⟨rfl, rfl⟩))
        exact ⟨⟨3, by omega, rfl, trivial⟩, by simp [intOf]⟩
      · go_wp2_with (first
          | (go_at_call_of 11 (#[Value.int IntKind.i64 9, Value.int IntKind.i64 a, Value.int IntKind.i64 b]); refine (do_9 a b _).mono ?_; rintro e w' ⟨rfl, rfl⟩)
          | (go_at_call_of 11 (#[Value.int IntKind.i64 9, Value.int IntKind.i64 b, Value.int IntKind.i64 a]); refine (q9 _).mono ?_; rintro e w' ⟨rfl, rfl⟩))
        exact ⟨⟨4, by omega, rfl, trivial⟩, by simp [intOf]⟩
      · go_wp2_with (first
          | (go_at_call_of 11 (#[Value.int IntKind.i64 10, Value.int IntKind.i64 a, Value.int IntKind.i64 b]); refine (do_10 a b _).mono ?_; rintro e w' ⟨rfl, rfl⟩)
          | (go_at_call_of 11 (#[Value.int IntKind.i64 10, Value.int IntKind.i64 b, Value.int IntKind.i64 a]); refine (q10 _).mono ?_; rintro e w' ⟨rfl, rfl⟩))
        exact ⟨⟨5, by omega, rfl, trivial⟩, by simp [intOf]⟩
      · go_wp2_with (first
          | (go_at_call_of 11 (#[Value.int IntKind.i64 14, Value.int IntKind.i64 a, Value.int IntKind.i64 b]); refine (do_14 a b _).mono ?_; rintro e w' ⟨rfl, rfl⟩)
          | (go_at_call_of 11 (#[Value.int IntKind.i64 14, Value.int IntKind.i64 b, Value.int IntKind.i64 a]); refine (q14 _).mono ?_; rintro e w' ⟨rfl, rfl⟩))
        exact ⟨⟨6, by omega, rfl, trivial⟩, by simp [intOf]⟩
      · go_wp2_with (first
          | (go_at_call_of 11 (#[Value.int IntKind.i64 15, Value.int IntKind.i64 a, Value.int IntKind.i64 b]); refine (do_15 a b _).mono ?_; rintro e w' ⟨rfl, rfl⟩)
          | (go_at_call_of 11 (#[Value.int IntKind.i64 15, Value.int IntKind.i64 b, Value.int IntKind.i64 a]); refine (q15 _).mono ?_; rintro e w' ⟨rfl, rfl⟩))
        exact ⟨⟨7, by omega, rfl, trivial⟩, by simp [intOf]⟩
    · have hk7 : k = 7 := by omega
      subst hk7
      clear q1 q3 q8 q9 q10 q14 q15 k0 k1 k2 k3 k4 k5 k6
      go_wp2_with (first
        | (go_at_call_of 11 (2 : Int); refine (do_2 a b _).mono ?_; rintro e w' ⟨rfl, rfl⟩)
        | (go_at_call_of 11 (1 : Int); refine (s2 _).mono ?_; rintro e w' ⟨rfl, rfl⟩)
        | (go_at_call 12; refine (wrap_any _ _).mono ?_; rintro e w' ⟨rfl, rfl⟩))
      have hb2 : Below W.heap.size W (W.alloc ops2) := (Below.refl _ _).alloc (Nat.le_refl _) _
      have hc2 := heap_alloc_new W ops2
      have j0 : (W.alloc ops2).cell? ⟨W.heap.size, 0, none⟩ = some (.int .i64 4) := by
        unfold World.cell?
        rw [hc2]
        rfl
      have j1 : (W.alloc ops2).cell? ⟨W.heap.size, 1, none⟩ = some (.int .i64 6) := by
        unfold World.cell?
        rw [hc2]
        rfl
      have hlt2 : W.heap.size < (W.alloc ops2).heap.size := by simp
      clear hc2
      generalize hW2 : W.alloc ops2 = W2 at *
      rw [show W.alloc (.cells #[.int .i64 4, .int .i64 6] 22) = W2 from hW2]
      have hT2 := hT.below hb2
      have hB2 := hb.trans (hb2.mono hb.size)
      clear hW2
      generalize W.heap.size = G at *
      go_loopw [67] (fun i w9 => ∃ k : Nat, k ≤ 2 ∧ i = .int .i64 k ∧ Below W2.heap.size W2 w9) (fun i _ => 2 - (intOf i).toNat)
      case atStart => exact ⟨0, by omega, rfl, Below.refl _ _⟩
      case round =>
        obtain ⟨k, hk, rfl, hB⟩ := hrel
        obtain ⟨w9, rfl⟩ : ∃ w9 : World, w9 = wr := ⟨_, rfl⟩
        by_cases hlt : k < 2
        · have l0 := (hB.cell (p := ⟨G, 0, none⟩) hlt2).trans j0
          have l1 := (hB.cell (p := ⟨G, 1, none⟩) hlt2).trans j1
          by_cases hz : wr b = 0
          · have z1 : (!decide (wr b = 0)) = false := by simp [hz]
            have z2 : (!decide (pl (wr b) = 0)) = false := by simp [pl0' hz]
            have z3 : (wr b == 0) = true := by simp [hz]
            have z4 : (wr b != 0) = false := by simp [hz]
            have z5 : decide (wr b = 0) = true := by simp [hz]
            rcases (show k = 0 ∨ k = 1 by omega) with rfl | rfl
            · have d4 := fun w => dd4 (a := a) z1 w
              have d5 := fun w => dd5 (a := a) z1 w
              have d3 := fun w => do_3 (wr (dv (wr a) (wr b))) b w
              rw [wr_wr] at d3
              have d1 := fun w => dd1 (x := wr (wr (dv (wr a) (wr b)) * wr b)) (r := wr (md (wr a) (wr b))) (v := _) rfl w
              clear z1 z2 hz
              generalize wr (wr (dv (wr a) (wr b)) * wr b) = v3 at *
              generalize wr (dv (wr a) (wr b)) = v1 at *
              generalize wr (md (wr a) (wr b)) = v2 at *
              generalize wr (wr v3 + wr v2) = v4 at *
              go_wp2_with (first
                | (go_at_call_of 11 (4 : Int); refine (d4 _).mono ?_; rintro e w1 ⟨rfl, hb1⟩)
                | (go_at_call_of 11 (5 : Int); refine (d5 _).mono ?_; rintro e w2 ⟨rfl, hb2⟩)
                | (go_at_call_of 11 (3 : Int); refine (d3 _).mono ?_; rintro e w' ⟨rfl, rfl⟩)
                | (go_at_call_of 11 (1 : Int); refine (d1 _).mono ?_; rintro e w' ⟨rfl, rfl⟩)
                | (go_at_call 12; refine (wrap_any _ _).mono ?_; rintro e w' ⟨rfl, rfl⟩))
              exact ⟨⟨1, by omega, rfl, (hB.trans (hb1.mono hB.size)).trans (hb2.mono (Nat.le_trans hB.size hb1.size))⟩, by simp [intOf]⟩
            · have d4 := fun w => dd6 (a := a) z2 w
              have d5 := fun w => dd7 (a := a) z2 w
              have d3 := fun w => do_3 (wr (dv (pl (wr a)) (pl (wr b)))) b w
              rw [wr_wr] at d3
              have d1 := fun w => dd1 (x := wr (wr (dv (pl (wr a)) (pl (wr b))) * wr b)) (r := wr (md (pl (wr a)) (pl (wr b)))) (v := _) rfl w
              clear z1 z2 hz
              generalize wr (wr (dv (pl (wr a)) (pl (wr b))) * wr b) = v3 at *
              generalize wr (dv (pl (wr a)) (pl (wr b))) = v1 at *
              generalize wr (md (pl (wr a)) (pl (wr b))) = v2 at *
              generalize wr (wr v3 + wr v2) = v4 at *
              go_wp2_with (first
                | (go_at_call_of 11 (6 : Int); refine (d4 _).mono ?_; rintro e w1 ⟨rfl, hb1⟩)
                | (go_at_call_of 11 (7 : Int); refine (d5 _).mono ?_; rintro e w2 ⟨rfl, hb2⟩)
                | (go_at_call_of 11 (3 : Int); refine (d3 _).mono ?_; rintro e w' ⟨rfl, rfl⟩)
                | (go_at_call_of 11 (1 : Int); refine (d1 _).mono ?_; rintro e w' ⟨rfl, rfl⟩)
                | (go_at_call 12; refine (wrap_any _ _).mono ?_; rintro e w' ⟨rfl, rfl⟩))
              exact ⟨⟨2, by omega, rfl, (hB.trans (hb1.mono hB.size)).trans (hb2.mono (Nat.le_trans hB.size hb1.size))⟩, by simp [intOf]⟩
          · have z1 : (!decide (wr b = 0)) = true := by simp [hz]
            have z2 : (!decide (pl (wr b) = 0)) = true := by simp [pl0 hz]
            have z3 : (wr b == 0) = false := by simp [hz]
            have z4 : (wr b != 0) = true := by simp [hz]
            have z5 : decide (wr b = 0) = false := by simp [hz]
            have e4 := div_back (A := wr a) (B := wr b) (p := wr a) (q := wr b) rfl rfl hz
            have e6 := div_back (A := wr a) (B := wr b) (p := pl (wr a)) (q := pl (wr b)) (pl_mod _).symm (pl_mod _).symm (pl0 hz)
            rw [wr_wr a] at e4 e6
            rcases (show k = 0 ∨ k = 1 by omega) with rfl | rfl
            · have d4 := fun w => dd4 (a := a) z1 w
              have d5 := fun w => dd5 (a := a) z1 w
              have d3 := fun w => do_3 (wr (dv (wr a) (wr b))) b w
              rw [wr_wr] at d3
              have d1 := fun w => dd1 (x := wr (wr (dv (wr a) (wr b)) * wr b)) (r := wr (md (wr a) (wr b))) (v := wr a) e4 w
              clear z1 z2 hz e4 e6
              generalize wr (wr (dv (wr a) (wr b)) * wr b) = v3 at *
              generalize wr (dv (wr a) (wr b)) = v1 at *
              generalize wr (md (wr a) (wr b)) = v2 at *
              go_wp2_with (first
                | (go_at_call_of 11 (4 : Int); refine (d4 _).mono ?_; rintro e w1 ⟨rfl, hb1⟩)
                | (go_at_call_of 11 (5 : Int); refine (d5 _).mono ?_; rintro e w2 ⟨rfl, hb2⟩)
                | (go_at_call_of 11 (3 : Int); refine (d3 _).mono ?_; rintro e w' ⟨rfl, rfl⟩)
                | (go_at_call_of 11 (1 : Int); refine (d1 _).mono ?_; rintro e w' ⟨rfl, rfl⟩)
                | (go_at_call 12; refine (wrap_any _ _).mono ?_; rintro e w' ⟨rfl, rfl⟩))
              exact ⟨⟨1, by omega, rfl, (hB.trans (hb1.mono hB.size)).trans (hb2.mono (Nat.le_trans hB.size hb1.size))⟩, by simp [intOf]⟩
            · have d4 := fun w => dd6 (a := a) z2 w
              have d5 := fun w => dd7 (a := a) z2 w
              have d3 := fun w => do_3 (wr (dv (pl (wr a)) (pl (wr b)))) b w
              rw [wr_wr] at d3
              have d1 := fun w => dd1 (x := wr (wr (dv (pl (wr a)) (pl (wr b))) * wr b)) (r := wr (md (pl (wr a)) (pl (wr b)))) (v := wr a) e6 w
              clear z1 z2 hz e4 e6
              generalize wr (wr (dv (pl (wr a)) (pl (wr b))) * wr b) = v3 at *
              generalize wr (dv (pl (wr a)) (pl (wr b))) = v1 at *
              generalize wr (md (pl (wr a)) (pl (wr b))) = v2 at *
              go_wp2_with (first
                | (go_at_call_of 11 (6 : Int); refine (d4 _).mono ?_; rintro e w1 ⟨rfl, hb1⟩)
                | (go_at_call_of 11 (7 : Int); refine (d5 _).mono ?_; rintro e w2 ⟨rfl, hb2⟩)
                | (go_at_call_of 11 (3 : Int); refine (d3 _).mono ?_; rintro e w' ⟨rfl, rfl⟩)
                | (go_at_call_of 11 (1 : Int); refine (d1 _).mono ?_; rintro e w' ⟨rfl, rfl⟩)
                | (go_at_call 12; refine (wrap_any _ _).mono ?_; rintro e w' ⟨rfl, rfl⟩))
              exact ⟨⟨2, by omega, rfl, (hB.trans (hb1.mono hB.size)).trans (hb2.mono (Nat.le_trans hB.size hb1.size))⟩, by simp [intOf]⟩
        · have hk2 : k = 2 := by omega
          subst hk2
          go_wp2_with (go_at_call 13; refine (awake_any _ (hT2.below hB)).mono ?_; rintro e w5 ⟨rfl, hb5⟩)
          go_returns
          exact ⟨rfl, hB2.trans ((hB.trans (hb5.mono hB.size)).mono hB2.size)⟩
end Go.Proofs.YtpadbfjocecofaaDoor
