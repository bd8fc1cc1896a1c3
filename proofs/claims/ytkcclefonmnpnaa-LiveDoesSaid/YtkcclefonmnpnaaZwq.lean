import Derived.Test.YtkcclefonmnpnaaZw
namespace Go.Proofs.Ytkcclefonmnpnaa
open Go.RowKit Go.BigFrame
theorem plain_any (n:Int)(w:World):Calls Try.prog 107 #[.int .i64 n] w fun e w'=>e = .returned (.int .i64 (pl n))∧w=w':=by
  go_enter Try.func107,Try.ntmps107
  go_wp2
  go_returns
  exact ⟨rfl,rfl⟩
theorem truth_any (b:Bool)(w:World):Calls Try.prog 108 #[.bool b] w fun e w'=>e = .returned (.int .i64 (tv b))∧w=w':=by
  cases b <;> (go_enter Try.func108,Try.ntmps108; go_wp2; go_returns; exact ⟨rfl,rfl⟩)
theorem told_any (n:Int)(w:World):Calls Try.prog 105 #[.int .i64 n] w fun e w'=>e = .returned (.tuple #[.int .i64 (wr n),.bool true])∧w=w':=by
  go_enter Try.func105,Try.ntmps105
  go_wp2_with (go_at_call 104; refine (wrap_any _ _).mono ?_; rintro e w' ⟨rfl,rfl⟩)
  go_returns
  exact ⟨rfl,rfl⟩
theorem divide_any (a b:Int)(w:World)(ha:-4294967296≤a∧a < 4294967296)(hb:-4294967296≤b∧b < 4294967296) :
    Calls Try.prog 106 #[.int .i64 a,.int .i64 b] w fun e w'=>e = .returned (.tuple #[.int .i64 (dv a b),.int .i64 (md a b),.bool (!decide (b=0))])∧Below w.heap.size w w':=by
  by_cases h:b=0
  · subst h
    go_enter Try.func106,Try.ntmps106
    go_wp2
    refine wp_scope_jumps 0 (fun a' w'=>w'=w∧∃ (u2 u3 u9 u10 u11 u12 u13 u14:Value),a'={ tmps:=#[.int .i64 a,.int .i64 0,u2,u3,.int .i64 0,.int .i64 0,.bool false,.int .i64 0,.bool true,u9,u10,u11,u12,u13,u14],defers:=[] }) (fun _ _=>0) rfl ?_ ?_
    · go_wp2
      go_step3
      exact ⟨rfl,rfl,_,_,_,_,_,_,_,_,rfl⟩
    · rintro _ _ ⟨rfl,u2,u3,u9,u10,u11,u12,u13,u14,rfl⟩
      go_wp2
      simp only [Exit.jump]
      go_returns
      exact ⟨rfl,Below.refl _ _⟩
  · have h1:(b == 0)=false:=by simp [h]
    have hq:wrap64 (a.tdiv b)=a.tdiv b:=w64 (by
      have h1:=Int.natAbs_tdiv_le_natAbs a b
      omega)
    have hm:wrap64 (a.tmod b)=a.tmod b:=w64 (by
      have h1:=Int.tmod_add_mul_tdiv a b
      have h2:(a.tmod b).natAbs≤a.natAbs:=by rw [Int.natAbs_tmod]; exact Nat.mod_le _ _
      omega)
    go_enter Try.func106,Try.ntmps106
    go_wp2
    go_step3
    go_wp2
    have hq':IntKind.i64.wrap (a.tdiv b)=a.tdiv b:=by rw [k64]; exact hq
    have hm':IntKind.i64.wrap (a.tmod b)=a.tmod b:=by rw [k64]; exact hm
    go_quiet (fail)
    go_wp2
    rw [Exit.noGoto_ret]
    go_returns
    exact ⟨by simp [h,dv,md],below_drewN (Below.refl _ _) nq⟩
end Go.Proofs.Ytkcclefonmnpnaa
namespace Go.Proofs.Ytkcclefonmnpnaa
open Go.RowKit Go.BigFrame
theorem ofInt_and31 (n:Int):bits .and .i64 n 31=n % 32:=by
  show IntKind.i64.wrap ((BitVec.ofInt 64 n &&& BitVec.ofInt 64 31).toNat:Int)=_
  have h1:BitVec.ofInt 64 31=31#64:=by decide
  rw [h1,BitVec.toNat_and,show (31#64).toNat=2 ^ 5 - 1 from rfl,Nat.and_two_pow_sub_one_eq_mod,k64]
  simp [BitVec.toNat_ofInt,wrap64]
  omega
set_option maxRecDepth 1000000 in
set_option maxHeartbeats 1000000 in
theorem do_1 (a b:Int)(w:World):Calls Try.prog 88 #[.int .i64 1,.int .i64 a,.int .i64 b] w fun e w'=>e = .returned (.tuple #[.int .i64 (wr (wr a + wr b)),.bool (true)])∧w=w':=by
  have h1:=wr_bd a
  have h2:=wr_bd b
  have h3:wrap64 (wr a + wr b)=wr a + wr b:=w64 (by omega)
  go_enter Try.func88,Try.ntmps88
  go_wp2_with (first
    | (go_at_call 104; refine (wrap_any _ _).mono ?_; rintro e w' ⟨rfl,rfl⟩)
    | (go_at_call 107; refine (plain_any _ _).mono ?_; rintro e w' ⟨rfl,rfl⟩)
    | (go_at_call 108; refine (truth_any _ _).mono ?_; rintro e w' ⟨rfl,rfl⟩)
    | (go_at_call 105; refine (told_any _ _).mono ?_; rintro e w' ⟨rfl,rfl⟩))
  go_returns
  exact ⟨rfl,rfl⟩
set_option maxRecDepth 1000000 in
set_option maxHeartbeats 1000000 in
theorem do_2 (a b:Int)(w:World):Calls Try.prog 88 #[.int .i64 2,.int .i64 a,.int .i64 b] w fun e w'=>e = .returned (.tuple #[.int .i64 (wr (wr a - wr b)),.bool (true)])∧w=w':=by
  have h1:=wr_bd a
  have h2:=wr_bd b
  have h3:wrap64 (wr a - wr b)=wr a - wr b:=w64 (by omega)
  go_enter Try.func88,Try.ntmps88
  go_wp2_with (first
    | (go_at_call 104; refine (wrap_any _ _).mono ?_; rintro e w' ⟨rfl,rfl⟩)
    | (go_at_call 107; refine (plain_any _ _).mono ?_; rintro e w' ⟨rfl,rfl⟩)
    | (go_at_call 108; refine (truth_any _ _).mono ?_; rintro e w' ⟨rfl,rfl⟩)
    | (go_at_call 105; refine (told_any _ _).mono ?_; rintro e w' ⟨rfl,rfl⟩))
  go_returns
  exact ⟨rfl,rfl⟩
set_option maxRecDepth 1000000 in
set_option maxHeartbeats 1000000 in
theorem do_3 (a b:Int)(w:World):Calls Try.prog 88 #[.int .i64 3,.int .i64 a,.int .i64 b] w fun e w'=>e = .returned (.tuple #[.int .i64 (wr (wr a * wr b)),.bool (true)])∧w=w':=by
  have h1:=wr_bd a
  have h2:=wr_bd b
  have h3:wrap64 (wr a * wr b)=wr a * wr b:=w64 (mul_bd h1 h2)
  go_enter Try.func88,Try.ntmps88
  go_wp2_with (first
    | (go_at_call 104; refine (wrap_any _ _).mono ?_; rintro e w' ⟨rfl,rfl⟩)
    | (go_at_call 107; refine (plain_any _ _).mono ?_; rintro e w' ⟨rfl,rfl⟩)
    | (go_at_call 108; refine (truth_any _ _).mono ?_; rintro e w' ⟨rfl,rfl⟩)
    | (go_at_call 105; refine (told_any _ _).mono ?_; rintro e w' ⟨rfl,rfl⟩))
  go_returns
  exact ⟨rfl,rfl⟩
set_option maxRecDepth 1000000 in
set_option maxHeartbeats 1000000 in
theorem do_4 (a b:Int)(w:World):Calls Try.prog 88 #[.int .i64 4,.int .i64 a,.int .i64 b] w fun e w'=>e = .returned (.tuple #[.int .i64 (wr (dv (wr a) (wr b))),.bool (!decide (wr b=0))])∧Below w.heap.size w w':=by
  have h1:=wr_bd a
  have h2:=wr_bd b
  have h3:-4294967296≤wr a∧wr a < 4294967296:=by omega
  have h4:-4294967296≤wr b∧wr b < 4294967296:=by omega
  go_enter Try.func88,Try.ntmps88
  go_wp2_with (first
    | (go_at_call 104; refine (wrap_any _ _).mono ?_; rintro e w' ⟨rfl,rfl⟩)
    | (go_at_call 107; refine (plain_any _ _).mono ?_; rintro e w' ⟨rfl,rfl⟩)
    | (go_at_call 108; refine (truth_any _ _).mono ?_; rintro e w' ⟨rfl,rfl⟩)
    | (go_at_call 106; refine (divide_any _ _ _ h3 h4).mono ?_; rintro e w' ⟨rfl,hb⟩)
    | (go_at_call 105; refine (told_any _ _).mono ?_; rintro e w' ⟨rfl,rfl⟩))
  go_returns
  exact ⟨rfl,hb⟩
set_option maxRecDepth 1000000 in
set_option maxHeartbeats 1000000 in
theorem do_5 (a b:Int)(w:World):Calls Try.prog 88 #[.int .i64 5,.int .i64 a,.int .i64 b] w fun e w'=>e = .returned (.tuple #[.int .i64 (wr (md (wr a) (wr b))),.bool (!decide (wr b=0))])∧Below w.heap.size w w':=by
  have h1:=wr_bd a
  have h2:=wr_bd b
  have h3:-4294967296≤wr a∧wr a < 4294967296:=by omega
  have h4:-4294967296≤wr b∧wr b < 4294967296:=by omega
  go_enter Try.func88,Try.ntmps88
  go_wp2_with (first
    | (go_at_call 104; refine (wrap_any _ _).mono ?_; rintro e w' ⟨rfl,rfl⟩)
    | (go_at_call 107; refine (plain_any _ _).mono ?_; rintro e w' ⟨rfl,rfl⟩)
    | (go_at_call 108; refine (truth_any _ _).mono ?_; rintro e w' ⟨rfl,rfl⟩)
    | (go_at_call 106; refine (divide_any _ _ _ h3 h4).mono ?_; rintro e w' ⟨rfl,hb⟩)
    | (go_at_call 105; refine (told_any _ _).mono ?_; rintro e w' ⟨rfl,rfl⟩))
  go_returns
  exact ⟨rfl,hb⟩
set_option maxRecDepth 1000000 in
set_option maxHeartbeats 1000000 in
theorem do_6 (a b:Int)(w:World):Calls Try.prog 88 #[.int .i64 6,.int .i64 a,.int .i64 b] w fun e w'=>e = .returned (.tuple #[.int .i64 (wr (dv (pl (wr a)) (pl (wr b)))),.bool (!decide (pl (wr b)=0))])∧Below w.heap.size w w':=by
  have h1:=wr_bd a
  have h2:=wr_bd b
  have h3:-4294967296≤pl (wr a)∧pl (wr a) < 4294967296:=by have:=pl_bd (wr a); omega
  have h4:-4294967296≤pl (wr b)∧pl (wr b) < 4294967296:=by have:=pl_bd (wr b); omega
  go_enter Try.func88,Try.ntmps88
  go_wp2_with (first
    | (go_at_call 104; refine (wrap_any _ _).mono ?_; rintro e w' ⟨rfl,rfl⟩)
    | (go_at_call 107; refine (plain_any _ _).mono ?_; rintro e w' ⟨rfl,rfl⟩)
    | (go_at_call 108; refine (truth_any _ _).mono ?_; rintro e w' ⟨rfl,rfl⟩)
    | (go_at_call 106; refine (divide_any _ _ _ h3 h4).mono ?_; rintro e w' ⟨rfl,hb⟩)
    | (go_at_call 105; refine (told_any _ _).mono ?_; rintro e w' ⟨rfl,rfl⟩))
  go_returns
  exact ⟨rfl,hb⟩
set_option maxRecDepth 1000000 in
set_option maxHeartbeats 1000000 in
theorem do_7 (a b:Int)(w:World):Calls Try.prog 88 #[.int .i64 7,.int .i64 a,.int .i64 b] w fun e w'=>e = .returned (.tuple #[.int .i64 (wr (md (pl (wr a)) (pl (wr b)))),.bool (!decide (pl (wr b)=0))])∧Below w.heap.size w w':=by
  have h1:=wr_bd a
  have h2:=wr_bd b
  have h3:-4294967296≤pl (wr a)∧pl (wr a) < 4294967296:=by have:=pl_bd (wr a); omega
  have h4:-4294967296≤pl (wr b)∧pl (wr b) < 4294967296:=by have:=pl_bd (wr b); omega
  go_enter Try.func88,Try.ntmps88
  go_wp2_with (first
    | (go_at_call 104; refine (wrap_any _ _).mono ?_; rintro e w' ⟨rfl,rfl⟩)
    | (go_at_call 107; refine (plain_any _ _).mono ?_; rintro e w' ⟨rfl,rfl⟩)
    | (go_at_call 108; refine (truth_any _ _).mono ?_; rintro e w' ⟨rfl,rfl⟩)
    | (go_at_call 106; refine (divide_any _ _ _ h3 h4).mono ?_; rintro e w' ⟨rfl,hb⟩)
    | (go_at_call 105; refine (told_any _ _).mono ?_; rintro e w' ⟨rfl,rfl⟩))
  go_returns
  exact ⟨rfl,hb⟩
set_option maxRecDepth 1000000 in
set_option maxHeartbeats 1000000 in
theorem do_8 (a b:Int)(w:World):Calls Try.prog 88 #[.int .i64 8,.int .i64 a,.int .i64 b] w fun e w'=>e = .returned (.tuple #[.int .i64 (wr (bits .and .i64 (wr a) (wr b))),.bool (true)])∧w=w':=by
  have h1:=wr_bd a
  have h2:=wr_bd b
  go_enter Try.func88,Try.ntmps88
  go_wp2_with (first
    | (go_at_call 104; refine (wrap_any _ _).mono ?_; rintro e w' ⟨rfl,rfl⟩)
    | (go_at_call 107; refine (plain_any _ _).mono ?_; rintro e w' ⟨rfl,rfl⟩)
    | (go_at_call 108; refine (truth_any _ _).mono ?_; rintro e w' ⟨rfl,rfl⟩)
    | (go_at_call 105; refine (told_any _ _).mono ?_; rintro e w' ⟨rfl,rfl⟩))
  go_returns
  exact ⟨rfl,rfl⟩
set_option maxRecDepth 1000000 in
set_option maxHeartbeats 1000000 in
theorem do_9 (a b:Int)(w:World):Calls Try.prog 88 #[.int .i64 9,.int .i64 a,.int .i64 b] w fun e w'=>e = .returned (.tuple #[.int .i64 (wr (bits .or .i64 (wr a) (wr b))),.bool (true)])∧w=w':=by
  have h1:=wr_bd a
  have h2:=wr_bd b
  go_enter Try.func88,Try.ntmps88
  go_wp2_with (first
    | (go_at_call 104; refine (wrap_any _ _).mono ?_; rintro e w' ⟨rfl,rfl⟩)
    | (go_at_call 107; refine (plain_any _ _).mono ?_; rintro e w' ⟨rfl,rfl⟩)
    | (go_at_call 108; refine (truth_any _ _).mono ?_; rintro e w' ⟨rfl,rfl⟩)
    | (go_at_call 105; refine (told_any _ _).mono ?_; rintro e w' ⟨rfl,rfl⟩))
  go_returns
  exact ⟨rfl,rfl⟩
set_option maxRecDepth 1000000 in
set_option maxHeartbeats 1000000 in
theorem do_10 (a b:Int)(w:World):Calls Try.prog 88 #[.int .i64 10,.int .i64 a,.int .i64 b] w fun e w'=>e = .returned (.tuple #[.int .i64 (wr (bits .xor .i64 (wr a) (wr b))),.bool (true)])∧w=w':=by
  have h1:=wr_bd a
  have h2:=wr_bd b
  go_enter Try.func88,Try.ntmps88
  go_wp2_with (first
    | (go_at_call 104; refine (wrap_any _ _).mono ?_; rintro e w' ⟨rfl,rfl⟩)
    | (go_at_call 107; refine (plain_any _ _).mono ?_; rintro e w' ⟨rfl,rfl⟩)
    | (go_at_call 108; refine (truth_any _ _).mono ?_; rintro e w' ⟨rfl,rfl⟩)
    | (go_at_call 105; refine (told_any _ _).mono ?_; rintro e w' ⟨rfl,rfl⟩))
  go_returns
  exact ⟨rfl,rfl⟩
set_option maxRecDepth 1000000 in
set_option maxHeartbeats 1000000 in
theorem do_11 (a b:Int)(w:World):Calls Try.prog 88 #[.int .i64 11,.int .i64 a,.int .i64 b] w fun e w'=>e = .returned (.tuple #[.int .i64 (wr (wr a * 2 ^ (wr b % 32).toNat)),.bool (true)])∧w=w':=by
  have h1:=wr_bd a
  have h2:=wr_bd b
  have h3:bits .and .i64 (wr b) 31=wr b % 32:=ofInt_and31 _
  have h4:decide (wr b % 32 < 0)=false:=by simp; omega
  have h5:¬ (wr b % 32 < 0):=by omega
  have h6:0≤wr b % 32:=by omega
  have h7:IntKind.i64.wrap (wr a * 2 ^ (wr b % 32).toNat)=wr a * 2 ^ (wr b % 32).toNat:=by rw [k64]; exact w64 (shl_bd h1 (by omega))
  have h8:min (wr b % 32).toNat 64=(wr b % 32).toNat:=by omega
  have h9:wrap64 (wr a * 2 ^ (wr b % 32).toNat)=wr a * 2 ^ (wr b % 32).toNat:=w64 (shl_bd h1 (by omega))
  go_enter Try.func88,Try.ntmps88
  go_wp2_with (first
    | (go_at_call 104; refine (wrap_any _ _).mono ?_; rintro e w' ⟨rfl,rfl⟩)
    | (go_at_call 107; refine (plain_any _ _).mono ?_; rintro e w' ⟨rfl,rfl⟩)
    | (go_at_call 108; refine (truth_any _ _).mono ?_; rintro e w' ⟨rfl,rfl⟩)
    | (go_at_call 105; refine (told_any _ _).mono ?_; rintro e w' ⟨rfl,rfl⟩))
  go_returns
  exact ⟨rfl,rfl⟩
set_option maxRecDepth 1000000 in
set_option maxHeartbeats 1000000 in
theorem do_12 (a b:Int)(w:World):Calls Try.prog 88 #[.int .i64 12,.int .i64 a,.int .i64 b] w fun e w'=>e = .returned (.tuple #[.int .i64 (wr (wr a / 2 ^ (wr b % 32).toNat)),.bool (true)])∧w=w':=by
  have h1:=wr_bd a
  have h2:=wr_bd b
  have h3:bits .and .i64 (wr b) 31=wr b % 32:=ofInt_and31 _
  have h4:decide (wr b % 32 < 0)=false:=by simp; omega
  have h5:¬ (wr b % 32 < 0):=by omega
  have h6:0≤wr b % 32:=by omega
  go_enter Try.func88,Try.ntmps88
  go_wp2_with (first
    | (go_at_call 104; refine (wrap_any _ _).mono ?_; rintro e w' ⟨rfl,rfl⟩)
    | (go_at_call 107; refine (plain_any _ _).mono ?_; rintro e w' ⟨rfl,rfl⟩)
    | (go_at_call 108; refine (truth_any _ _).mono ?_; rintro e w' ⟨rfl,rfl⟩)
    | (go_at_call 105; refine (told_any _ _).mono ?_; rintro e w' ⟨rfl,rfl⟩))
  go_returns
  exact ⟨rfl,rfl⟩
set_option maxRecDepth 1000000 in
set_option maxHeartbeats 1000000 in
theorem do_13 (a b:Int)(w:World):Calls Try.prog 88 #[.int .i64 13,.int .i64 a,.int .i64 b] w fun e w'=>e = .returned (.tuple #[.int .i64 (wr (pl (wr a) / 2 ^ (wr b % 32).toNat)),.bool (true)])∧w=w':=by
  have h1:=wr_bd a
  have h2:=wr_bd b
  have h3:bits .and .i64 (wr b) 31=wr b % 32:=ofInt_and31 _
  have h4:decide (wr b % 32 < 0)=false:=by simp; omega
  have h5:¬ (wr b % 32 < 0):=by omega
  have h6:0≤wr b % 32:=by omega
  go_enter Try.func88,Try.ntmps88
  go_wp2_with (first
    | (go_at_call 104; refine (wrap_any _ _).mono ?_; rintro e w' ⟨rfl,rfl⟩)
    | (go_at_call 107; refine (plain_any _ _).mono ?_; rintro e w' ⟨rfl,rfl⟩)
    | (go_at_call 108; refine (truth_any _ _).mono ?_; rintro e w' ⟨rfl,rfl⟩)
    | (go_at_call 105; refine (told_any _ _).mono ?_; rintro e w' ⟨rfl,rfl⟩))
  go_returns
  exact ⟨rfl,rfl⟩
set_option maxRecDepth 1000000 in
set_option maxHeartbeats 1000000 in
theorem do_14 (a b:Int)(w:World):Calls Try.prog 88 #[.int .i64 14,.int .i64 a,.int .i64 b] w fun e w'=>e = .returned (.tuple #[.int .i64 (wr (tv (wr a == wr b))),.bool (true)])∧w=w':=by
  have h1:=wr_bd a
  have h2:=wr_bd b
  go_enter Try.func88,Try.ntmps88
  go_wp2_with (first
    | (go_at_call 104; refine (wrap_any _ _).mono ?_; rintro e w' ⟨rfl,rfl⟩)
    | (go_at_call 107; refine (plain_any _ _).mono ?_; rintro e w' ⟨rfl,rfl⟩)
    | (go_at_call 108; refine (truth_any _ _).mono ?_; rintro e w' ⟨rfl,rfl⟩)
    | (go_at_call 105; refine (told_any _ _).mono ?_; rintro e w' ⟨rfl,rfl⟩))
  go_returns
  exact ⟨rfl,rfl⟩
set_option maxRecDepth 1000000 in
set_option maxHeartbeats 1000000 in
theorem do_15 (a b:Int)(w:World):Calls Try.prog 88 #[.int .i64 15,.int .i64 a,.int .i64 b] w fun e w'=>e = .returned (.tuple #[.int .i64 (wr (tv (wr a != wr b))),.bool (true)])∧w=w':=by
  have h1:=wr_bd a
  have h2:=wr_bd b
  go_enter Try.func88,Try.ntmps88
  go_wp2_with (first
    | (go_at_call 104; refine (wrap_any _ _).mono ?_; rintro e w' ⟨rfl,rfl⟩)
    | (go_at_call 107; refine (plain_any _ _).mono ?_; rintro e w' ⟨rfl,rfl⟩)
    | (go_at_call 108; refine (truth_any _ _).mono ?_; rintro e w' ⟨rfl,rfl⟩)
    | (go_at_call 105; refine (told_any _ _).mono ?_; rintro e w' ⟨rfl,rfl⟩))
  go_returns
  exact ⟨rfl,rfl⟩
set_option maxRecDepth 1000000 in
set_option maxHeartbeats 1000000 in
theorem do_16 (a b:Int)(w:World):Calls Try.prog 88 #[.int .i64 16,.int .i64 a,.int .i64 b] w fun e w'=>e = .returned (.tuple #[.int .i64 (wr (tv (decide (wr a < wr b)))),.bool (true)])∧w=w':=by
  have h1:=wr_bd a
  have h2:=wr_bd b
  go_enter Try.func88,Try.ntmps88
  go_wp2_with (first
    | (go_at_call 104; refine (wrap_any _ _).mono ?_; rintro e w' ⟨rfl,rfl⟩)
    | (go_at_call 107; refine (plain_any _ _).mono ?_; rintro e w' ⟨rfl,rfl⟩)
    | (go_at_call 108; refine (truth_any _ _).mono ?_; rintro e w' ⟨rfl,rfl⟩)
    | (go_at_call 105; refine (told_any _ _).mono ?_; rintro e w' ⟨rfl,rfl⟩))
  go_returns
  exact ⟨rfl,rfl⟩
set_option maxRecDepth 1000000 in
set_option maxHeartbeats 1000000 in
theorem do_17 (a b:Int)(w:World):Calls Try.prog 88 #[.int .i64 17,.int .i64 a,.int .i64 b] w fun e w'=>e = .returned (.tuple #[.int .i64 (wr (tv (decide (wr a≤wr b)))),.bool (true)])∧w=w':=by
  have h1:=wr_bd a
  have h2:=wr_bd b
  go_enter Try.func88,Try.ntmps88
  go_wp2_with (first
    | (go_at_call 104; refine (wrap_any _ _).mono ?_; rintro e w' ⟨rfl,rfl⟩)
    | (go_at_call 107; refine (plain_any _ _).mono ?_; rintro e w' ⟨rfl,rfl⟩)
    | (go_at_call 108; refine (truth_any _ _).mono ?_; rintro e w' ⟨rfl,rfl⟩)
    | (go_at_call 105; refine (told_any _ _).mono ?_; rintro e w' ⟨rfl,rfl⟩))
  go_returns
  exact ⟨rfl,rfl⟩
set_option maxRecDepth 1000000 in
set_option maxHeartbeats 1000000 in
theorem do_18 (a b:Int)(w:World):Calls Try.prog 88 #[.int .i64 18,.int .i64 a,.int .i64 b] w fun e w'=>e = .returned (.tuple #[.int .i64 (wr (tv (decide (pl (wr a) < pl (wr b))))),.bool (true)])∧w=w':=by
  have h1:=wr_bd a
  have h2:=wr_bd b
  go_enter Try.func88,Try.ntmps88
  go_wp2_with (first
    | (go_at_call 104; refine (wrap_any _ _).mono ?_; rintro e w' ⟨rfl,rfl⟩)
    | (go_at_call 107; refine (plain_any _ _).mono ?_; rintro e w' ⟨rfl,rfl⟩)
    | (go_at_call 108; refine (truth_any _ _).mono ?_; rintro e w' ⟨rfl,rfl⟩)
    | (go_at_call 105; refine (told_any _ _).mono ?_; rintro e w' ⟨rfl,rfl⟩))
  go_returns
  exact ⟨rfl,rfl⟩
set_option maxRecDepth 1000000 in
set_option maxHeartbeats 1000000 in
theorem do_19 (a b:Int)(w:World):Calls Try.prog 88 #[.int .i64 19,.int .i64 a,.int .i64 b] w fun e w'=>e = .returned (.tuple #[.int .i64 (wr (tv (decide (pl (wr a)≤pl (wr b))))),.bool (true)])∧w=w':=by
  have h1:=wr_bd a
  have h2:=wr_bd b
  go_enter Try.func88,Try.ntmps88
  go_wp2_with (first
    | (go_at_call 104; refine (wrap_any _ _).mono ?_; rintro e w' ⟨rfl,rfl⟩)
    | (go_at_call 107; refine (plain_any _ _).mono ?_; rintro e w' ⟨rfl,rfl⟩)
    | (go_at_call 108; refine (truth_any _ _).mono ?_; rintro e w' ⟨rfl,rfl⟩)
    | (go_at_call 105; refine (told_any _ _).mono ?_; rintro e w' ⟨rfl,rfl⟩))
  go_returns
  exact ⟨rfl,rfl⟩
set_option maxRecDepth 1000000 in
set_option maxHeartbeats 1000000 in
theorem do_20 (a b:Int)(w:World):Calls Try.prog 88 #[.int .i64 20,.int .i64 a,.int .i64 b] w fun e w'=>e = .returned (.tuple #[.int .i64 (wr (-wr a)),.bool (true)])∧w=w':=by
  have h1:=wr_bd a
  have h2:=wr_bd b
  have h3:wrap64 (-wr a)=-wr a:=w64 (by omega)
  go_enter Try.func88,Try.ntmps88
  go_wp2_with (first
    | (go_at_call 104; refine (wrap_any _ _).mono ?_; rintro e w' ⟨rfl,rfl⟩)
    | (go_at_call 107; refine (plain_any _ _).mono ?_; rintro e w' ⟨rfl,rfl⟩)
    | (go_at_call 108; refine (truth_any _ _).mono ?_; rintro e w' ⟨rfl,rfl⟩)
    | (go_at_call 105; refine (told_any _ _).mono ?_; rintro e w' ⟨rfl,rfl⟩))
  go_returns
  exact ⟨rfl,rfl⟩
set_option maxRecDepth 1000000 in
set_option maxHeartbeats 1000000 in
theorem do_21 (a b:Int)(w:World):Calls Try.prog 88 #[.int .i64 21,.int .i64 a,.int .i64 b] w fun e w'=>e = .returned (.tuple #[.int .i64 (wr (bits .xor .i64 (-1) (wr a))),.bool (true)])∧w=w':=by
  have h1:=wr_bd a
  have h2:=wr_bd b
  go_enter Try.func88,Try.ntmps88
  go_wp2_with (first
    | (go_at_call 104; refine (wrap_any _ _).mono ?_; rintro e w' ⟨rfl,rfl⟩)
    | (go_at_call 107; refine (plain_any _ _).mono ?_; rintro e w' ⟨rfl,rfl⟩)
    | (go_at_call 108; refine (truth_any _ _).mono ?_; rintro e w' ⟨rfl,rfl⟩)
    | (go_at_call 105; refine (told_any _ _).mono ?_; rintro e w' ⟨rfl,rfl⟩))
  go_returns
  exact ⟨rfl,rfl⟩
set_option maxRecDepth 1000000 in
set_option maxHeartbeats 1000000 in
theorem do_22 (a b:Int)(w:World):Calls Try.prog 88 #[.int .i64 22,.int .i64 a,.int .i64 b] w fun e w'=>e = .returned (.tuple #[.int .i64 (wr (bits .and .i64 (wr a) 255)),.bool (true)])∧w=w':=by
  have h1:=wr_bd a
  have h2:=wr_bd b
  go_enter Try.func88,Try.ntmps88
  go_wp2_with (first
    | (go_at_call 104; refine (wrap_any _ _).mono ?_; rintro e w' ⟨rfl,rfl⟩)
    | (go_at_call 107; refine (plain_any _ _).mono ?_; rintro e w' ⟨rfl,rfl⟩)
    | (go_at_call 108; refine (truth_any _ _).mono ?_; rintro e w' ⟨rfl,rfl⟩)
    | (go_at_call 105; refine (told_any _ _).mono ?_; rintro e w' ⟨rfl,rfl⟩))
  go_returns
  exact ⟨rfl,rfl⟩
set_option maxRecDepth 1000000 in
set_option maxHeartbeats 1000000 in
theorem do_23 (a b:Int)(w:World):Calls Try.prog 88 #[.int .i64 23,.int .i64 a,.int .i64 b] w fun e w'=>e = .returned (.tuple #[.int .i64 (wr (tv (wr a == 0))),.bool (true)])∧w=w':=by
  have h1:=wr_bd a
  have h2:=wr_bd b
  go_enter Try.func88,Try.ntmps88
  go_wp2_with (first
    | (go_at_call 104; refine (wrap_any _ _).mono ?_; rintro e w' ⟨rfl,rfl⟩)
    | (go_at_call 107; refine (plain_any _ _).mono ?_; rintro e w' ⟨rfl,rfl⟩)
    | (go_at_call 108; refine (truth_any _ _).mono ?_; rintro e w' ⟨rfl,rfl⟩)
    | (go_at_call 105; refine (told_any _ _).mono ?_; rintro e w' ⟨rfl,rfl⟩))
  go_returns
  exact ⟨rfl,rfl⟩
end Go.Proofs.Ytkcclefonmnpnaa
namespace Go.Proofs.Ytkcclefonmnpnaa
open Go.RowKit Go.BigFrame
end Go.Proofs.Ytkcclefonmnpnaa
namespace Go.Proofs.Ytkcclefonmnpnaa
open Go.RowKit Go.BigFrame
end Go.Proofs.Ytkcclefonmnpnaa
namespace Go.Proofs.Ytkcclefonmnpnaa
open Go.RowKit Go.BigFrame
end Go.Proofs.Ytkcclefonmnpnaa
namespace Go.Proofs.Ytkcclefonmnpnaa
open Go.RowKit Go.BigFrame
end Go.Proofs.Ytkcclefonmnpnaa
namespace Go.Proofs.Ytkcclefonmnpnaa
open Go.RowKit Go.BigFrame
end Go.Proofs.Ytkcclefonmnpnaa

