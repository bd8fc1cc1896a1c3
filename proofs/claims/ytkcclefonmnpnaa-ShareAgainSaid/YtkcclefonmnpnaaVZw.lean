import Derived.Deep.RegionWith
import Derived.ProofKit
import Derived.WalkKit
import Derived.WalkMore
import Derived.ScopeJumps
import Derived.Laws.BitsLemmas
import Derived.Laws.Shifts
import Derived.Test.YtkcclefonmnpnaaVZc
set_option maxRecDepth 1000000
set_option maxHeartbeats 4000000
namespace Go.Proofs.Ytkcclefonmnpnaa
open Go.RowKit Go.BigFrame
def pl (n:Int):Int:=n % 4294967296
theorem aO (n:Int):-2147483648≤wr n∧wr n<2147483648:=by unfold wr;omega
theorem bM (n:Int):0≤pl n∧pl n<4294967296:=by unfold pl;omega
theorem iI {n:Int}(h:-9223372036854775808≤n∧n<9223372036854775808):wrap64 n=n:=by unfold wrap64;omega
theorem FN (n:Int):IntKind.i64.wrap n=wrap64 n:=by rw[IntKind.wrap_i64];unfold wrap64;rfl
theorem bE (n:Int)(w:World):Calls Try.prog 107 #[.int .i64 n] w fun e w'=>e = .returned (.int .i64 (pl n))∧w=w':=by
 go_enter Try.func107,Try.ntmps107
 go_wp2
 go_returns
 exact⟨rfl,rfl⟩
def tv (b:Bool):Int:=if b then 1 else 0
def dv (a b:Int):Int:=if b=0 then 0 else a.tdiv b
def md (a b:Int):Int:=if b=0 then 0 else a.tmod b
theorem bH (b:Bool)(w:World):Calls Try.prog 108 #[.bool b] w fun e w'=>e = .returned (.int .i64 (tv b))∧w=w':=by
 cases b <;> (go_enter Try.func108,Try.ntmps108;go_wp2;go_returns;exact⟨rfl,rfl⟩)
theorem bR (n:Int)(w:World):Calls Try.prog 105 #[.int .i64 n] w fun e w'=>e = .returned (.tuple #[.int .i64 (wr n),.bool true])∧w=w':=by
 go_enter Try.func105,Try.ntmps105
 go_wp2_with (go_at_call 104;refine (bJ _ _).mono ?_;rintro e w' ⟨rfl,rfl⟩)
 go_returns
 exact⟨rfl,rfl⟩
theorem hY (a b:Int)(w:World)(ha:-4294967296≤a∧a<4294967296)(hb:-4294967296≤b∧b<4294967296) :
  Calls Try.prog 106 #[.int .i64 a,.int .i64 b] w fun e w'=>e = .returned (.tuple #[.int .i64 (dv a b),.int .i64 (md a b),.bool (!decide (b=0))])∧Below w.heap.size w w':=by
 by_cases h:b=0
 ·subst h
  go_enter Try.func106,Try.ntmps106
  go_wp2
  refine wp_scope_jumps 0 (fun a' w'=>w'=w∧∃ (u2 u3 u9 u10 u11 u12 u13 u14:Value),a'={ tmps:=#[.int .i64 a,.int .i64 0,u2,u3,.int .i64 0,.int .i64 0,.bool false,.int .i64 0,.bool true,u9,u10,u11,u12,u13,u14],defers:=[] }) (fun _ _=>0) rfl ?_ ?_
  ·go_wp2
   go_step3
   exact⟨rfl,rfl,_,_,_,_,_,_,_,_,rfl⟩
  ·rintro _ _ ⟨rfl,u2,u3,u9,u10,u11,u12,u13,u14,rfl⟩
   go_wp2
   simp only[Exit.jump]
   go_returns
   exact⟨rfl,Below.refl _ _⟩
 ·have h1:(b==0)=false:=by simp[h]
  have hq:wrap64 (a.tdiv b)=a.tdiv b:=iI (by
   have h1:=Int.natAbs_tdiv_le_natAbs a b
   omega)
  have hm:wrap64 (a.tmod b)=a.tmod b:=iI (by
   have h1:=Int.tmod_add_mul_tdiv a b
   have h2:(a.tmod b).natAbs≤a.natAbs:=by rw[Int.natAbs_tmod];exact Nat.mod_le _ _
   omega)
  go_enter Try.func106,Try.ntmps106
  go_wp2
  go_step3
  go_wp2
  have hq':IntKind.i64.wrap (a.tdiv b)=a.tdiv b:=by rw[FN];exact hq
  have hm':IntKind.i64.wrap (a.tmod b)=a.tmod b:=by rw[FN];exact hm
  go_quiet (fail)
  go_wp2
  rw[Exit.noGoto_ret]
  go_returns
  exact⟨by simp[h,dv,md],below_drewN (Below.refl _ _) nq⟩
theorem iV (n:Int):bits .and .i64 n 31=n % 32:=by
 show IntKind.i64.wrap ((BitVec.ofInt 64 n &&& BitVec.ofInt 64 31).toNat:Int)=_
 have h1:BitVec.ofInt 64 31=31#64:=by decide
 rw[h1,BitVec.toNat_and,show (31#64).toNat=2 ^ 5-1 from rfl,Nat.and_two_pow_sub_one_eq_mod,FN]
 simp[BitVec.toNat_ofInt,wrap64]
 omega
theorem zQ {a b:Int}(h1:-2147483648≤a∧a<2147483648)(h2:-2147483648≤b∧b<2147483648):-9223372036854775808≤a*b∧a*b<9223372036854775808:=by
 have h:=Int.natAbs_mul a b
 have h3:a.natAbs*b.natAbs≤2147483648*2147483648:=Nat.mul_le_mul (by omega) (by omega)
 omega
theorem uV {a:Int}{k:Nat}(h1:-2147483648≤a∧a<2147483648)(hk:k<32):-9223372036854775808≤a*2 ^ k∧a*2 ^ k<9223372036854775808:=by
 have h:=Int.natAbs_mul a (2 ^ k)
 have h2:((2:Int) ^ k).natAbs=2 ^ k:=by rw[Int.natAbs_pow];rfl
 rw[h2] at h
 have hp:2 ^ k≤2 ^ 31:=Nat.pow_le_pow_right (by decide) (by omega)
 have h3:a.natAbs*2 ^ k≤2147483648*2147483648:=Nat.mul_le_mul (by omega) hp
 omega
theorem LM (a b:Int)(w:World):Calls Try.prog 88 #[.int .i64 1,.int .i64 a,.int .i64 b] w fun e w'=>e = .returned (.tuple #[.int .i64 (wr (wr a+wr b)),.bool (true)])∧w=w':=by
 have h1:=aO a
 have h2:=aO b
 have h3:wrap64 (wr a+wr b)=wr a+wr b:=iI (by omega)
 go_enter Try.func88,Try.ntmps88
 go_wp2_with (first
  |(go_at_call 104;refine (bJ _ _).mono ?_;rintro e w' ⟨rfl,rfl⟩)
  |(go_at_call 107;refine (bE _ _).mono ?_;rintro e w' ⟨rfl,rfl⟩)
  |(go_at_call 108;refine (bH _ _).mono ?_;rintro e w' ⟨rfl,rfl⟩)
  |(go_at_call 105;refine (bR _ _).mono ?_;rintro e w' ⟨rfl,rfl⟩))
 go_returns
 exact⟨rfl,rfl⟩
theorem LN (a b:Int)(w:World):Calls Try.prog 88 #[.int .i64 2,.int .i64 a,.int .i64 b] w fun e w'=>e = .returned (.tuple #[.int .i64 (wr (wr a-wr b)),.bool (true)])∧w=w':=by
 have h1:=aO a
 have h2:=aO b
 have h3:wrap64 (wr a-wr b)=wr a-wr b:=iI (by omega)
 go_enter Try.func88,Try.ntmps88
 go_wp2_with (first
  |(go_at_call 104;refine (bJ _ _).mono ?_;rintro e w' ⟨rfl,rfl⟩)
  |(go_at_call 107;refine (bE _ _).mono ?_;rintro e w' ⟨rfl,rfl⟩)
  |(go_at_call 108;refine (bH _ _).mono ?_;rintro e w' ⟨rfl,rfl⟩)
  |(go_at_call 105;refine (bR _ _).mono ?_;rintro e w' ⟨rfl,rfl⟩))
 go_returns
 exact⟨rfl,rfl⟩
theorem LO (a b:Int)(w:World):Calls Try.prog 88 #[.int .i64 3,.int .i64 a,.int .i64 b] w fun e w'=>e = .returned (.tuple #[.int .i64 (wr (wr a*wr b)),.bool (true)])∧w=w':=by
 have h1:=aO a
 have h2:=aO b
 have h3:wrap64 (wr a*wr b)=wr a*wr b:=iI (zQ h1 h2)
 go_enter Try.func88,Try.ntmps88
 go_wp2_with (first
  |(go_at_call 104;refine (bJ _ _).mono ?_;rintro e w' ⟨rfl,rfl⟩)
  |(go_at_call 107;refine (bE _ _).mono ?_;rintro e w' ⟨rfl,rfl⟩)
  |(go_at_call 108;refine (bH _ _).mono ?_;rintro e w' ⟨rfl,rfl⟩)
  |(go_at_call 105;refine (bR _ _).mono ?_;rintro e w' ⟨rfl,rfl⟩))
 go_returns
 exact⟨rfl,rfl⟩
theorem LP (a b:Int)(w:World):Calls Try.prog 88 #[.int .i64 4,.int .i64 a,.int .i64 b] w fun e w'=>e = .returned (.tuple #[.int .i64 (wr (dv (wr a) (wr b))),.bool (!decide (wr b=0))])∧Below w.heap.size w w':=by
 have h1:=aO a
 have h2:=aO b
 have h3:-4294967296≤wr a∧wr a<4294967296:=by omega
 have h4:-4294967296≤wr b∧wr b<4294967296:=by omega
 go_enter Try.func88,Try.ntmps88
 go_wp2_with (first
  |(go_at_call 104;refine (bJ _ _).mono ?_;rintro e w' ⟨rfl,rfl⟩)
  |(go_at_call 107;refine (bE _ _).mono ?_;rintro e w' ⟨rfl,rfl⟩)
  |(go_at_call 108;refine (bH _ _).mono ?_;rintro e w' ⟨rfl,rfl⟩)
  |(go_at_call 106;refine (hY _ _ _ h3 h4).mono ?_;rintro e w' ⟨rfl,hb⟩)
  |(go_at_call 105;refine (bR _ _).mono ?_;rintro e w' ⟨rfl,rfl⟩))
 go_returns
 exact⟨rfl,hb⟩
theorem LQ (a b:Int)(w:World):Calls Try.prog 88 #[.int .i64 5,.int .i64 a,.int .i64 b] w fun e w'=>e = .returned (.tuple #[.int .i64 (wr (md (wr a) (wr b))),.bool (!decide (wr b=0))])∧Below w.heap.size w w':=by
 have h1:=aO a
 have h2:=aO b
 have h3:-4294967296≤wr a∧wr a<4294967296:=by omega
 have h4:-4294967296≤wr b∧wr b<4294967296:=by omega
 go_enter Try.func88,Try.ntmps88
 go_wp2_with (first
  |(go_at_call 104;refine (bJ _ _).mono ?_;rintro e w' ⟨rfl,rfl⟩)
  |(go_at_call 107;refine (bE _ _).mono ?_;rintro e w' ⟨rfl,rfl⟩)
  |(go_at_call 108;refine (bH _ _).mono ?_;rintro e w' ⟨rfl,rfl⟩)
  |(go_at_call 106;refine (hY _ _ _ h3 h4).mono ?_;rintro e w' ⟨rfl,hb⟩)
  |(go_at_call 105;refine (bR _ _).mono ?_;rintro e w' ⟨rfl,rfl⟩))
 go_returns
 exact⟨rfl,hb⟩
theorem LR (a b:Int)(w:World):Calls Try.prog 88 #[.int .i64 6,.int .i64 a,.int .i64 b] w fun e w'=>e = .returned (.tuple #[.int .i64 (wr (dv (pl (wr a)) (pl (wr b)))),.bool (!decide (pl (wr b)=0))])∧Below w.heap.size w w':=by
 have h1:=aO a
 have h2:=aO b
 have h3:-4294967296≤pl (wr a)∧pl (wr a)<4294967296:=by have:=bM (wr a);omega
 have h4:-4294967296≤pl (wr b)∧pl (wr b)<4294967296:=by have:=bM (wr b);omega
 go_enter Try.func88,Try.ntmps88
 go_wp2_with (first
  |(go_at_call 104;refine (bJ _ _).mono ?_;rintro e w' ⟨rfl,rfl⟩)
  |(go_at_call 107;refine (bE _ _).mono ?_;rintro e w' ⟨rfl,rfl⟩)
  |(go_at_call 108;refine (bH _ _).mono ?_;rintro e w' ⟨rfl,rfl⟩)
  |(go_at_call 106;refine (hY _ _ _ h3 h4).mono ?_;rintro e w' ⟨rfl,hb⟩)
  |(go_at_call 105;refine (bR _ _).mono ?_;rintro e w' ⟨rfl,rfl⟩))
 go_returns
 exact⟨rfl,hb⟩
theorem LS (a b:Int)(w:World):Calls Try.prog 88 #[.int .i64 7,.int .i64 a,.int .i64 b] w fun e w'=>e = .returned (.tuple #[.int .i64 (wr (md (pl (wr a)) (pl (wr b)))),.bool (!decide (pl (wr b)=0))])∧Below w.heap.size w w':=by
 have h1:=aO a
 have h2:=aO b
 have h3:-4294967296≤pl (wr a)∧pl (wr a)<4294967296:=by have:=bM (wr a);omega
 have h4:-4294967296≤pl (wr b)∧pl (wr b)<4294967296:=by have:=bM (wr b);omega
 go_enter Try.func88,Try.ntmps88
 go_wp2_with (first
  |(go_at_call 104;refine (bJ _ _).mono ?_;rintro e w' ⟨rfl,rfl⟩)
  |(go_at_call 107;refine (bE _ _).mono ?_;rintro e w' ⟨rfl,rfl⟩)
  |(go_at_call 108;refine (bH _ _).mono ?_;rintro e w' ⟨rfl,rfl⟩)
  |(go_at_call 106;refine (hY _ _ _ h3 h4).mono ?_;rintro e w' ⟨rfl,hb⟩)
  |(go_at_call 105;refine (bR _ _).mono ?_;rintro e w' ⟨rfl,rfl⟩))
 go_returns
 exact⟨rfl,hb⟩
theorem LT (a b:Int)(w:World):Calls Try.prog 88 #[.int .i64 8,.int .i64 a,.int .i64 b] w fun e w'=>e = .returned (.tuple #[.int .i64 (wr (bits .and .i64 (wr a) (wr b))),.bool (true)])∧w=w':=by
 have h1:=aO a
 have h2:=aO b
 go_enter Try.func88,Try.ntmps88
 go_wp2_with (first
  |(go_at_call 104;refine (bJ _ _).mono ?_;rintro e w' ⟨rfl,rfl⟩)
  |(go_at_call 107;refine (bE _ _).mono ?_;rintro e w' ⟨rfl,rfl⟩)
  |(go_at_call 108;refine (bH _ _).mono ?_;rintro e w' ⟨rfl,rfl⟩)
  |(go_at_call 105;refine (bR _ _).mono ?_;rintro e w' ⟨rfl,rfl⟩))
 go_returns
 exact⟨rfl,rfl⟩
theorem LV (a b:Int)(w:World):Calls Try.prog 88 #[.int .i64 9,.int .i64 a,.int .i64 b] w fun e w'=>e = .returned (.tuple #[.int .i64 (wr (bits .or .i64 (wr a) (wr b))),.bool (true)])∧w=w':=by
 have h1:=aO a
 have h2:=aO b
 go_enter Try.func88,Try.ntmps88
 go_wp2_with (first
  |(go_at_call 104;refine (bJ _ _).mono ?_;rintro e w' ⟨rfl,rfl⟩)
  |(go_at_call 107;refine (bE _ _).mono ?_;rintro e w' ⟨rfl,rfl⟩)
  |(go_at_call 108;refine (bH _ _).mono ?_;rintro e w' ⟨rfl,rfl⟩)
  |(go_at_call 105;refine (bR _ _).mono ?_;rintro e w' ⟨rfl,rfl⟩))
 go_returns
 exact⟨rfl,rfl⟩
theorem IV (a b:Int)(w:World):Calls Try.prog 88 #[.int .i64 10,.int .i64 a,.int .i64 b] w fun e w'=>e = .returned (.tuple #[.int .i64 (wr (bits .xor .i64 (wr a) (wr b))),.bool (true)])∧w=w':=by
 have h1:=aO a
 have h2:=aO b
 go_enter Try.func88,Try.ntmps88
 go_wp2_with (first
  |(go_at_call 104;refine (bJ _ _).mono ?_;rintro e w' ⟨rfl,rfl⟩)
  |(go_at_call 107;refine (bE _ _).mono ?_;rintro e w' ⟨rfl,rfl⟩)
  |(go_at_call 108;refine (bH _ _).mono ?_;rintro e w' ⟨rfl,rfl⟩)
  |(go_at_call 105;refine (bR _ _).mono ?_;rintro e w' ⟨rfl,rfl⟩))
 go_returns
 exact⟨rfl,rfl⟩
theorem IW (a b:Int)(w:World):Calls Try.prog 88 #[.int .i64 11,.int .i64 a,.int .i64 b] w fun e w'=>e = .returned (.tuple #[.int .i64 (wr (wr a*2 ^ (wr b % 32).toNat)),.bool (true)])∧w=w':=by
 have h1:=aO a
 have h2:=aO b
 have h3:bits .and .i64 (wr b) 31=wr b % 32:=iV _
 have h4:decide (wr b % 32<0)=false:=by simp;omega
 have h5:¬ (wr b % 32<0):=by omega
 have h6:0≤wr b % 32:=by omega
 have h7:IntKind.i64.wrap (wr a*2 ^ (wr b % 32).toNat)=wr a*2 ^ (wr b % 32).toNat:=by rw[FN];exact iI (uV h1 (by omega))
 have h8:min (wr b % 32).toNat 64=(wr b % 32).toNat:=by omega
 have h9:wrap64 (wr a*2 ^ (wr b % 32).toNat)=wr a*2 ^ (wr b % 32).toNat:=iI (uV h1 (by omega))
 go_enter Try.func88,Try.ntmps88
 go_wp2_with (first
  |(go_at_call 104;refine (bJ _ _).mono ?_;rintro e w' ⟨rfl,rfl⟩)
  |(go_at_call 107;refine (bE _ _).mono ?_;rintro e w' ⟨rfl,rfl⟩)
  |(go_at_call 108;refine (bH _ _).mono ?_;rintro e w' ⟨rfl,rfl⟩)
  |(go_at_call 105;refine (bR _ _).mono ?_;rintro e w' ⟨rfl,rfl⟩))
 go_returns
 exact⟨rfl,rfl⟩
theorem IX (a b:Int)(w:World):Calls Try.prog 88 #[.int .i64 12,.int .i64 a,.int .i64 b] w fun e w'=>e = .returned (.tuple #[.int .i64 (wr (wr a / 2 ^ (wr b % 32).toNat)),.bool (true)])∧w=w':=by
 have h1:=aO a
 have h2:=aO b
 have h3:bits .and .i64 (wr b) 31=wr b % 32:=iV _
 have h4:decide (wr b % 32<0)=false:=by simp;omega
 have h5:¬ (wr b % 32<0):=by omega
 have h6:0≤wr b % 32:=by omega
 go_enter Try.func88,Try.ntmps88
 go_wp2_with (first
  |(go_at_call 104;refine (bJ _ _).mono ?_;rintro e w' ⟨rfl,rfl⟩)
  |(go_at_call 107;refine (bE _ _).mono ?_;rintro e w' ⟨rfl,rfl⟩)
  |(go_at_call 108;refine (bH _ _).mono ?_;rintro e w' ⟨rfl,rfl⟩)
  |(go_at_call 105;refine (bR _ _).mono ?_;rintro e w' ⟨rfl,rfl⟩))
 go_returns
 exact⟨rfl,rfl⟩
theorem IY (a b:Int)(w:World):Calls Try.prog 88 #[.int .i64 13,.int .i64 a,.int .i64 b] w fun e w'=>e = .returned (.tuple #[.int .i64 (wr (pl (wr a) / 2 ^ (wr b % 32).toNat)),.bool (true)])∧w=w':=by
 have h1:=aO a
 have h2:=aO b
 have h3:bits .and .i64 (wr b) 31=wr b % 32:=iV _
 have h4:decide (wr b % 32<0)=false:=by simp;omega
 have h5:¬ (wr b % 32<0):=by omega
 have h6:0≤wr b % 32:=by omega
 go_enter Try.func88,Try.ntmps88
 go_wp2_with (first
  |(go_at_call 104;refine (bJ _ _).mono ?_;rintro e w' ⟨rfl,rfl⟩)
  |(go_at_call 107;refine (bE _ _).mono ?_;rintro e w' ⟨rfl,rfl⟩)
  |(go_at_call 108;refine (bH _ _).mono ?_;rintro e w' ⟨rfl,rfl⟩)
  |(go_at_call 105;refine (bR _ _).mono ?_;rintro e w' ⟨rfl,rfl⟩))
 go_returns
 exact⟨rfl,rfl⟩
theorem IZ (a b:Int)(w:World):Calls Try.prog 88 #[.int .i64 14,.int .i64 a,.int .i64 b] w fun e w'=>e = .returned (.tuple #[.int .i64 (wr (tv (wr a==wr b))),.bool (true)])∧w=w':=by
 have h1:=aO a
 have h2:=aO b
 go_enter Try.func88,Try.ntmps88
 go_wp2_with (first
  |(go_at_call 104;refine (bJ _ _).mono ?_;rintro e w' ⟨rfl,rfl⟩)
  |(go_at_call 107;refine (bE _ _).mono ?_;rintro e w' ⟨rfl,rfl⟩)
  |(go_at_call 108;refine (bH _ _).mono ?_;rintro e w' ⟨rfl,rfl⟩)
  |(go_at_call 105;refine (bR _ _).mono ?_;rintro e w' ⟨rfl,rfl⟩))
 go_returns
 exact⟨rfl,rfl⟩
theorem JA (a b:Int)(w:World):Calls Try.prog 88 #[.int .i64 15,.int .i64 a,.int .i64 b] w fun e w'=>e = .returned (.tuple #[.int .i64 (wr (tv (wr a != wr b))),.bool (true)])∧w=w':=by
 have h1:=aO a
 have h2:=aO b
 go_enter Try.func88,Try.ntmps88
 go_wp2_with (first
  |(go_at_call 104;refine (bJ _ _).mono ?_;rintro e w' ⟨rfl,rfl⟩)
  |(go_at_call 107;refine (bE _ _).mono ?_;rintro e w' ⟨rfl,rfl⟩)
  |(go_at_call 108;refine (bH _ _).mono ?_;rintro e w' ⟨rfl,rfl⟩)
  |(go_at_call 105;refine (bR _ _).mono ?_;rintro e w' ⟨rfl,rfl⟩))
 go_returns
 exact⟨rfl,rfl⟩
theorem JB (a b:Int)(w:World):Calls Try.prog 88 #[.int .i64 16,.int .i64 a,.int .i64 b] w fun e w'=>e = .returned (.tuple #[.int .i64 (wr (tv (decide (wr a<wr b)))),.bool (true)])∧w=w':=by
 have h1:=aO a
 have h2:=aO b
 go_enter Try.func88,Try.ntmps88
 go_wp2_with (first
  |(go_at_call 104;refine (bJ _ _).mono ?_;rintro e w' ⟨rfl,rfl⟩)
  |(go_at_call 107;refine (bE _ _).mono ?_;rintro e w' ⟨rfl,rfl⟩)
  |(go_at_call 108;refine (bH _ _).mono ?_;rintro e w' ⟨rfl,rfl⟩)
  |(go_at_call 105;refine (bR _ _).mono ?_;rintro e w' ⟨rfl,rfl⟩))
 go_returns
 exact⟨rfl,rfl⟩
theorem JC (a b:Int)(w:World):Calls Try.prog 88 #[.int .i64 17,.int .i64 a,.int .i64 b] w fun e w'=>e = .returned (.tuple #[.int .i64 (wr (tv (decide (wr a≤wr b)))),.bool (true)])∧w=w':=by
 have h1:=aO a
 have h2:=aO b
 go_enter Try.func88,Try.ntmps88
 go_wp2_with (first
  |(go_at_call 104;refine (bJ _ _).mono ?_;rintro e w' ⟨rfl,rfl⟩)
  |(go_at_call 107;refine (bE _ _).mono ?_;rintro e w' ⟨rfl,rfl⟩)
  |(go_at_call 108;refine (bH _ _).mono ?_;rintro e w' ⟨rfl,rfl⟩)
  |(go_at_call 105;refine (bR _ _).mono ?_;rintro e w' ⟨rfl,rfl⟩))
 go_returns
 exact⟨rfl,rfl⟩
theorem JD (a b:Int)(w:World):Calls Try.prog 88 #[.int .i64 18,.int .i64 a,.int .i64 b] w fun e w'=>e = .returned (.tuple #[.int .i64 (wr (tv (decide (pl (wr a)<pl (wr b))))),.bool (true)])∧w=w':=by
 have h1:=aO a
 have h2:=aO b
 go_enter Try.func88,Try.ntmps88
 go_wp2_with (first
  |(go_at_call 104;refine (bJ _ _).mono ?_;rintro e w' ⟨rfl,rfl⟩)
  |(go_at_call 107;refine (bE _ _).mono ?_;rintro e w' ⟨rfl,rfl⟩)
  |(go_at_call 108;refine (bH _ _).mono ?_;rintro e w' ⟨rfl,rfl⟩)
  |(go_at_call 105;refine (bR _ _).mono ?_;rintro e w' ⟨rfl,rfl⟩))
 go_returns
 exact⟨rfl,rfl⟩
theorem JE (a b:Int)(w:World):Calls Try.prog 88 #[.int .i64 19,.int .i64 a,.int .i64 b] w fun e w'=>e = .returned (.tuple #[.int .i64 (wr (tv (decide (pl (wr a)≤pl (wr b))))),.bool (true)])∧w=w':=by
 have h1:=aO a
 have h2:=aO b
 go_enter Try.func88,Try.ntmps88
 go_wp2_with (first
  |(go_at_call 104;refine (bJ _ _).mono ?_;rintro e w' ⟨rfl,rfl⟩)
  |(go_at_call 107;refine (bE _ _).mono ?_;rintro e w' ⟨rfl,rfl⟩)
  |(go_at_call 108;refine (bH _ _).mono ?_;rintro e w' ⟨rfl,rfl⟩)
  |(go_at_call 105;refine (bR _ _).mono ?_;rintro e w' ⟨rfl,rfl⟩))
 go_returns
 exact⟨rfl,rfl⟩
theorem JF (a b:Int)(w:World):Calls Try.prog 88 #[.int .i64 20,.int .i64 a,.int .i64 b] w fun e w'=>e = .returned (.tuple #[.int .i64 (wr (-wr a)),.bool (true)])∧w=w':=by
 have h1:=aO a
 have h2:=aO b
 have h3:wrap64 (-wr a)=-wr a:=iI (by omega)
 go_enter Try.func88,Try.ntmps88
 go_wp2_with (first
  |(go_at_call 104;refine (bJ _ _).mono ?_;rintro e w' ⟨rfl,rfl⟩)
  |(go_at_call 107;refine (bE _ _).mono ?_;rintro e w' ⟨rfl,rfl⟩)
  |(go_at_call 108;refine (bH _ _).mono ?_;rintro e w' ⟨rfl,rfl⟩)
  |(go_at_call 105;refine (bR _ _).mono ?_;rintro e w' ⟨rfl,rfl⟩))
 go_returns
 exact⟨rfl,rfl⟩
theorem JG (a b:Int)(w:World):Calls Try.prog 88 #[.int .i64 21,.int .i64 a,.int .i64 b] w fun e w'=>e = .returned (.tuple #[.int .i64 (wr (bits .xor .i64 (-1) (wr a))),.bool (true)])∧w=w':=by
 have h1:=aO a
 have h2:=aO b
 go_enter Try.func88,Try.ntmps88
 go_wp2_with (first
  |(go_at_call 104;refine (bJ _ _).mono ?_;rintro e w' ⟨rfl,rfl⟩)
  |(go_at_call 107;refine (bE _ _).mono ?_;rintro e w' ⟨rfl,rfl⟩)
  |(go_at_call 108;refine (bH _ _).mono ?_;rintro e w' ⟨rfl,rfl⟩)
  |(go_at_call 105;refine (bR _ _).mono ?_;rintro e w' ⟨rfl,rfl⟩))
 go_returns
 exact⟨rfl,rfl⟩
theorem JH (a b:Int)(w:World):Calls Try.prog 88 #[.int .i64 22,.int .i64 a,.int .i64 b] w fun e w'=>e = .returned (.tuple #[.int .i64 (wr (bits .and .i64 (wr a) 255)),.bool (true)])∧w=w':=by
 have h1:=aO a
 have h2:=aO b
 go_enter Try.func88,Try.ntmps88
 go_wp2_with (first
  |(go_at_call 104;refine (bJ _ _).mono ?_;rintro e w' ⟨rfl,rfl⟩)
  |(go_at_call 107;refine (bE _ _).mono ?_;rintro e w' ⟨rfl,rfl⟩)
  |(go_at_call 108;refine (bH _ _).mono ?_;rintro e w' ⟨rfl,rfl⟩)
  |(go_at_call 105;refine (bR _ _).mono ?_;rintro e w' ⟨rfl,rfl⟩))
 go_returns
 exact⟨rfl,rfl⟩
theorem JI (a b:Int)(w:World):Calls Try.prog 88 #[.int .i64 23,.int .i64 a,.int .i64 b] w fun e w'=>e = .returned (.tuple #[.int .i64 (wr (tv (wr a==0))),.bool (true)])∧w=w':=by
 have h1:=aO a
 have h2:=aO b
 go_enter Try.func88,Try.ntmps88
 go_wp2_with (first
  |(go_at_call 104;refine (bJ _ _).mono ?_;rintro e w' ⟨rfl,rfl⟩)
  |(go_at_call 107;refine (bE _ _).mono ?_;rintro e w' ⟨rfl,rfl⟩)
  |(go_at_call 108;refine (bH _ _).mono ?_;rintro e w' ⟨rfl,rfl⟩)
  |(go_at_call 105;refine (bR _ _).mono ?_;rintro e w' ⟨rfl,rfl⟩))
 go_returns
 exact⟨rfl,rfl⟩
theorem zR (n:Int)(j:Nat)(hj:j≤32):bits .and .i64 n ((2 ^ j-1:Nat):Int)=n % 2 ^ j:=by
 show IntKind.i64.wrap ((BitVec.ofInt 64 n &&& BitVec.ofInt 64 ((2 ^ j-1:Nat):Int)).toNat:Int)=_
 have hp:2 ^ j≤2 ^ 32:=Nat.pow_le_pow_right (by decide) hj
 have hp0:0<2 ^ j:=Nat.pow_pos (by decide)
 have h1:(BitVec.ofInt 64 ((2 ^ j-1:Nat):Int)).toNat=2 ^ j-1:=by
  rw[BitVec.toNat_ofInt]
  omega
 rw[BitVec.toNat_and,h1,Nat.and_two_pow_sub_one_eq_mod,FN,BitVec.toNat_ofInt]
 have h2:((n % (2 ^ 64:Nat)).toNat % 2 ^ j:Nat)=n % 2 ^ j:=by
  have h3:0≤n % ((2 ^ 64:Nat):Int):=Int.emod_nonneg _ (by decide)
  rw[Int.natCast_emod,Int.toNat_of_nonneg h3]
  have hd:((2:Int) ^ j) ∣ ((2 ^ 64:Nat):Int):=by
   have:(2 ^ j:Nat) ∣ 2 ^ 64:=Nat.pow_dvd_pow 2 (by omega)
   exact_mod_cast Int.natCast_dvd_natCast.2 this
  have:=Int.emod_emod_of_dvd n hd
  simpa using this
 have h4:n % 2 ^ j<2 ^ 32:=by
  have h5:=Int.emod_lt_of_pos n (show (0:Int)<2 ^ j by exact_mod_cast hp0)
  have h6:(2:Int) ^ j≤2 ^ 32:=by exact_mod_cast hp
  omega
 have h7:0≤n % 2 ^ j:=Int.emod_nonneg _ (by have:(0:Int)<2 ^ j:=(by exact_mod_cast hp0);omega)
 rw[h2]
 exact iI (by omega)
theorem FO (n:Int):bits .and .i64 n 255=n % 256:=by
 have h:=zR n 8 (by decide)
 simpa using h
theorem FP (n:Int)(h:-2147483648≤n∧n<2147483648):bits .xor .i64 (-1) n=-1-n:=by
 show IntKind.i64.wrap ((BitVec.ofInt 64 (-1) ^^^ BitVec.ofInt 64 n).toNat:Int)=_
 have h1:BitVec.ofInt 64 (-1)=BitVec.allOnes 64:=by decide
 rw[h1,BitVec.allOnes_xor,BitVec.toNat_not,BitVec.toNat_ofInt,FN]
 unfold wrap64
 omega
def eZ (n:Int):BitVec 32:=BitVec.ofInt 32 n
theorem rP (n:Int):wr n=(eZ n).toInt:=by
 unfold eZ
 rw[BitVec.toInt_ofInt]
 rw[Int.bmod_def]
 unfold wr
 split <;> omega
theorem qF (X:BitVec 32):eZ X.toInt=X:=by unfold eZ;exact BitVec.ofInt_toInt
theorem kF (Z:BitVec 64):IntKind.i64.wrap (Z.toNat:Int)=Z.toInt:=by
 rw[FN,BitVec.toInt_eq_toNat_bmod]
 have:=Z.isLt
 rw[Int.bmod_def]
 unfold wrap64
 split <;> omega
theorem uW (X Y:BitVec 32):bits .and .i64 X.toInt Y.toInt=(X &&& Y).toInt:=by
 show IntKind.i64.wrap ((X.signExtend 64 &&& Y.signExtend 64).toNat:Int)=_
 rw[←BitVec.signExtend_and,kF,BitVec.toInt_signExtend_of_le (by decide)]
theorem xV (X Y:BitVec 32):bits .or .i64 X.toInt Y.toInt=(X ||| Y).toInt:=by
 show IntKind.i64.wrap ((X.signExtend 64 ||| Y.signExtend 64).toNat:Int)=_
 rw[←BitVec.signExtend_or,kF,BitVec.toInt_signExtend_of_le (by decide)]
theorem uX (X Y:BitVec 32):bits .xor .i64 X.toInt Y.toInt=(X ^^^ Y).toInt:=by
 show IntKind.i64.wrap ((X.signExtend 64 ^^^ Y.signExtend 64).toNat:Int)=_
 rw[←BitVec.signExtend_xor,kF,BitVec.toInt_signExtend_of_le (by decide)]
theorem oE (X:BitVec 32):wr X.toInt=X.toInt:=by rw[rP,qF]
theorem JJ (m n:Int):wr (bits .and .i64 (wr m) (wr n))=(eZ m &&& eZ n).toInt:=by rw[rP m,rP n,uW,oE]
theorem LW (m n:Int):wr (bits .or .i64 (wr m) (wr n))=(eZ m ||| eZ n).toInt:=by rw[rP m,rP n,xV,oE]
theorem JK (m n:Int):wr (bits .xor .i64 (wr m) (wr n))=(eZ m ^^^ eZ n).toInt:=by rw[rP m,rP n,uX,oE]
theorem CR (n:Int):(n.tmod 4294967296=n % 4294967296∧0≤n)∨(n.tmod 4294967296=n % 4294967296-4294967296∧n % 4294967296≠0∧n<0)∨(n.tmod 4294967296=0∧n % 4294967296=0∧n<0):=by
 rcases Int.le_total 0 n with h|h
 ·exact .inl ⟨Int.tmod_eq_emod_of_nonneg h,h⟩
 ·have h1:=Int.tmod_add_mul_tdiv n 4294967296
  have h2:n.tmod 4294967296≤0:=by
   have:=Int.tmod_nonneg 4294967296 (show 0≤-n by omega)
   rw[Int.neg_tmod] at this
   omega
  have h3:(n.tmod 4294967296).natAbs<4294967296:=by
   rw[Int.natAbs_tmod];exact Nat.mod_lt _ (by decide)
  omega
theorem aJ (n:Int)(w:World):Calls Try.prog 73 #[.int .i64 n] w fun e w'=>e = .returned (.int .i64 (wr n))∧w=w':=by
 have h0:=CR n
 by_cases h1:2147483648≤n.tmod 4294967296
 ·have h2:wrap64 (n.tmod 4294967296-4294967296)=n.tmod 4294967296-4294967296:=iI (by omega)
  have h3:n % 4294967296-4294967296=wr n:=by unfold wr;omega
  go_enter Try.func73,Try.ntmps73
  go_wp2
  go_returns
  exact⟨rfl,rfl⟩
 ·by_cases h3:n.tmod 4294967296 < -2147483648
  ·have h2:n.tmod 4294967296+4294967296=wr n:=by unfold wr;omega
   go_enter Try.func73,Try.ntmps73
   go_wp2
   go_returns
   exact⟨rfl,rfl⟩
  ·have h2:n.tmod 4294967296=wr n:=by unfold wr;omega
   go_enter Try.func73,Try.ntmps73
   go_wp2
   go_returns
   exact⟨rfl,rfl⟩
theorem aG (n:Int)(w:World):Calls Try.prog 59 #[.int .i64 n] w fun e w'=>e = .returned (.int .i64 (pl n))∧w=w':=by
 have h1:=aO n
 by_cases h:wr n<0
 ·have h2:wrap64 (wr n+4294967296)=wr n+4294967296:=iI (by omega)
  have h3:wr n+4294967296=pl n:=by unfold wr pl at *;omega
  go_enter Try.func59,Try.ntmps59
  go_wp2_with (go_at_call 73;refine (aJ _ _).mono ?_;rintro e w' ⟨rfl,rfl⟩)
  go_returns
  exact⟨rfl,rfl⟩
 ·have h3:wr n=pl n:=by unfold wr pl at *;omega
  go_enter Try.func59,Try.ntmps59
  go_wp2_with (go_at_call 73;refine (aJ _ _).mono ?_;rintro e w' ⟨rfl,rfl⟩)
  go_returns
  exact⟨rfl,rfl⟩
theorem aI (b:Bool)(w:World):Calls Try.prog 77 #[.bool b] w fun e w'=>e = .returned (.int .i64 (tv b))∧w=w':=by
 cases b <;> (go_enter Try.func77,Try.ntmps77;go_wp2;go_returns;exact⟨rfl,rfl⟩)
theorem xW (p:Int)(j:Nat)(hp:0≤p):(p / 2 ^ j).tdiv 2=p / 2 ^ (j+1):=by
 have h:0≤p / 2 ^ j:=Int.ediv_nonneg hp (Int.le_of_lt (Int.pow_pos (by decide)))
 rw[Int.tdiv_eq_ediv_of_nonneg h,Int.ediv_ediv_of_nonneg (Int.le_of_lt (Int.pow_pos (by decide))),Int.pow_succ]
theorem CS (n:Int)(k:Nat)(hk:k≤32)(w:World):Calls Try.prog 94 #[.int .i64 n,.int .i64 k] w fun e w'=>e = .returned (.int .i64 ((pl n / 2 ^ k) % 2))∧Below w.heap.size w w':=by
 have hpl:=bM n
 go_enter Try.func94,Try.ntmps94
 go_wp2_with (go_at_call 59;refine (aG _ _).mono ?_;rintro e w' ⟨rfl,rfl⟩)
 go_loopw [5,6] (fun p i w8=>∃ j:Nat,j≤k∧i = .int .i64 j∧p = .int .i64 (pl n / 2 ^ j)∧Below w.heap.size w w8) (fun _ i _=>k-(intOf i).toNat)
 case atStart=>exact⟨0,by omega,rfl,by simp,Below.refl _ _⟩
 case round =>
  obtain⟨j,hj,rfl,rfl,hB⟩:=hrel
  have hs:=xW (pl n) j hpl.1
  have h0:0≤pl n / 2 ^ j:=Int.ediv_nonneg hpl.1 (Int.le_of_lt (Int.pow_pos (by decide)))
  have h1:pl n / 2 ^ j≤pl n:=Int.ediv_le_self _ hpl.1
  by_cases hlt:j<k
  ·have hd:wrap64 ((pl n / 2 ^ j).tdiv 2)=pl n / 2 ^ (j+1):=by
    rw[hs]
    have h2:0≤pl n / 2 ^ (j+1):=Int.ediv_nonneg hpl.1 (Int.le_of_lt (Int.pow_pos (by decide)))
    have h3:pl n / 2 ^ (j+1)≤pl n:=Int.ediv_le_self _ hpl.1
    exact iI (by omega)
   have hq:wrap64 (pl n / 2 ^ (j+1))=pl n / 2 ^ (j+1):=by rw[←hs];rw[hs] at hd ⊢;exact hd
   have HQ:=Hz hq
   clear hq
   generalize pl n / 2 ^ j=p at *
   generalize hp':pl n / 2 ^ (j+1)=p' at *
   go_wp2_with fail
   exact⟨⟨j+1,by omega,by go_num,by rw[hp'];exact congrArg (Value.int .i64) HQ.out,hB⟩,by simp[intOf];omega⟩
  ·have hjk:j=k:=by omega
   subst hjk
   generalize hpp:pl n / 2 ^ j=p at *
   have hm:p.tmod 2=p % 2:=Int.tmod_eq_emod_of_nonneg h0
   go_wp2_with fail
   go_returns
   exact⟨by rw[hpp];rfl,hB⟩
theorem aL (k:Nat)(hk:k≤31)(w:World):Calls Try.prog 74 #[.int .i64 k] w fun e w'=>e = .returned (.int .i64 (2 ^ k))∧w=w':=by
 go_enter Try.func74,Try.ntmps74
 go_wp2_with fail
 go_loopw [3,4] (fun p i w8=>∃ j:Nat,j≤k∧i = .int .i64 j∧p = .int .i64 (2 ^ j)∧w8=w) (fun _ i _=>k-(intOf i).toNat)
 case atStart=>exact⟨0,by omega,rfl,by simp,rfl⟩
 case round =>
  obtain⟨j,hj,rfl,rfl,hB⟩:=hrel
  subst hB
  by_cases hlt:j<k
  ·have hp:(2:Int) ^ j≤2 ^ 31:=by
    have:=Nat.pow_le_pow_right (show 0<2 by decide) (show j≤31 by omega)
    exact_mod_cast this
   have hp0:(0:Int)<2 ^ j:=Int.pow_pos (by decide)
   have hs:wrap64 (2 ^ j*2)=2 ^ (j+1):=by rw[Int.pow_succ];exact iI (by omega)
   go_wp2_with fail
   exact⟨⟨j+1,by omega,by go_num,rfl,trivial⟩,by simp[intOf];omega⟩
  ·have hjk:j=k:=by omega
   subst hjk
   go_wp2_with fail
   go_returns
   exact⟨rfl,rfl⟩
theorem CT (a:Int)(k:Nat):(if a<0∧a.tdiv (2 ^ k)*2 ^ k≠a then a.tdiv (2 ^ k)-1 else a.tdiv (2 ^ k))=a / 2 ^ k:=by
 have hp:(0:Int)<2 ^ k:=Int.pow_pos (by decide)
 have h1:=Int.tdiv_mul_add_tmod a (2 ^ k)
 have h2:=Int.ediv_mul_add_emod a (2 ^ k)
 by_cases h0:0≤a
 ·rw[if_neg (by omega),Int.tdiv_eq_ediv_of_nonneg h0]
 ·by_cases hd:(2:Int) ^ k ∣ a
  ·have hq:a.tdiv (2 ^ k)=a / 2 ^ k:=by rw[Int.tdiv_eq_ediv,if_pos (Or.inr hd),Int.add_zero]
   have h3:a / 2 ^ k*2 ^ k=a:=Int.ediv_mul_cancel hd
   rw[hq,if_neg (fun h=>h.2 h3)]
  ·have hq:a.tdiv (2 ^ k)=a / 2 ^ k+1:=by
    rw[Int.tdiv_eq_ediv,if_neg (fun h=>h.elim h0 hd),Int.sign_eq_one_of_pos hp]
   rw[hq,if_pos ⟨by omega,fun h=>hd ⟨a / 2 ^ k+1,by rw[Int.mul_comm];exact h.symm⟩⟩]
   omega
theorem sX (a:Int)(k:Nat)(ha:-2147483648≤a∧a<2147483648)(hk:k<32)(w:World):Calls Try.prog 76 #[.int .i64 a,.int .i64 (2 ^ k)] w fun e w'=>e = .returned (.int .i64 (a / 2 ^ k))∧Below w.heap.size w w':=by
 have hd:=CT a k
 have hp:(0:Int)<2 ^ k:=Int.pow_pos (by decide)
 have hp2:(2:Int) ^ k≤2147483648:=by
  have h1:=Nat.pow_le_pow_right (show 0<2 by decide) (show k≤31 by omega)
  have h2:(2:Int) ^ k≤2 ^ 31:=by exact_mod_cast h1
  omega
 have hq0:(a.tdiv (2 ^ k)).natAbs≤a.natAbs:=Int.natAbs_tdiv_le_natAbs _ _
 generalize a / 2 ^ k=r at *
 generalize (2:Int) ^ k=D at *
 have hD:(D==0)=false:=by simp;omega
 have hq:wrap64 (a.tdiv D)=a.tdiv D:=iI (by omega)
 have hm:wrap64 (a.tdiv D*D)=a.tdiv D*D:=iI (by
  have h1:=Int.natAbs_mul (a.tdiv D) D
  have h2:(a.tdiv D).natAbs*D.natAbs≤2147483648*2147483648:=Nat.mul_le_mul (by omega) (by omega)
  omega)
 have hs:wrap64 (a.tdiv D-1)=a.tdiv D-1:=iI (by omega)
 by_cases h0:a<0
 ·by_cases h1:a.tdiv D*D=a
  ·rw[if_neg (fun h=>h.2 h1)] at hd
   subst hd
   have h2:(a.tdiv D*D==a)=true:=by simp[h1]
   have h3:(a.tdiv D*D != a)=false:=by simp[h1]
   have h4:decide (a.tdiv D*D=a)=true:=by simp[h1]
   go_enter Try.func76,Try.ntmps76
   go_wp2_with fail
   go_returns
   exact⟨rfl,Below.refl _ _⟩
  ·rw[if_pos ⟨h0,h1⟩] at hd
   have h2:(a.tdiv D*D==a)=false:=by simp[h1]
   have h3:(a.tdiv D*D != a)=true:=by simp[h1]
   have h4:decide (a.tdiv D*D=a)=false:=by simp[h1]
   go_enter Try.func76,Try.ntmps76
   go_wp2_with fail
   go_returns
   exact⟨by rw[←hd];rfl,Below.refl _ _⟩
 ·rw[if_neg (fun h=>h0 h.1)] at hd
  subst hd
  go_enter Try.func76,Try.ntmps76
  go_wp2_with fail
  go_returns
  exact⟨rfl,Below.refl _ _⟩
theorem LX (a:Int):pl a=((eZ a).toNat:Int):=by
 unfold eZ pl
 rw[BitVec.toNat_ofInt]
 omega
theorem CU (a:Int)(j:Nat):(pl a / 2 ^ j) % 2=(((eZ a).toNat.testBit j).toNat:Int):=by
 rw[Nat.toNat_testBit,LX]
 simp
theorem oH (Z:Nat)(j:Nat):Z % 2 ^ (j+1)=Z % 2 ^ j+2 ^ j*(Z.testBit j).toNat:=by rw[Nat.mod_pow_succ,Nat.toNat_testBit]
theorem qG (a:Int)(j:Nat)(bx:Bool)(hb:(eZ a).toNat.testBit j=bx)(hj:j≤32)(w:World):Calls Try.prog 94 #[.int .i64 a,.int .i64 j] w fun e w'=>e = .returned (.int .i64 (bx.toNat:Int))∧Below w.heap.size w w':=by
 have h:=CS a j hj w
 rw[CU,hb] at h
 exact h
theorem qH (a b:Int)(w:World):Calls Try.prog 75 #[.int .i64 a,.int .i64 b,.int .i64 0] w fun e w'=>e = .returned (.int .i64 ((eZ a &&& eZ b).toNat:Int))∧Below w.heap.size w w':=by
 obtain⟨Z,hZ⟩:∃ Z,Z=(eZ a &&& eZ b).toNat:=⟨_,rfl⟩
 have hlt:Z<4294967296:=by rw[hZ];exact (eZ a &&& eZ b).isLt
 have hbit:∀ j,Z.testBit j=((eZ a).toNat.testBit j && (eZ b).toNat.testBit j):=fun j=>by rw[hZ,BitVec.toNat_and,Nat.testBit_and]
 rw[←hZ]
 clear hZ
 go_enter Try.func75,Try.ntmps75
 go_wp2_with fail
 go_loopw [7,8] (fun n i w8=>∃ j:Nat,j≤32∧i = .int .i64 j∧n = .int .i64 ((Z % 2 ^ j:Nat):Int)∧Below w.heap.size w w8) (fun _ i _=>32-(intOf i).toNat)
 case atStart=>exact⟨0,by omega,rfl,by simp[Nat.mod_one],Below.refl _ _⟩
 case round =>
  obtain⟨j,hj,rfl,rfl,hB⟩:=hrel
  by_cases hl:j<32
  ·have hb:=hbit j
   have hs:=oH Z j
   have hm:Z % 2 ^ (j+1)≤Z:=Nat.mod_le _ _
   rw[hb] at hs
   have cx:=fun w=>qG a j _ rfl (by omega) w
   have cy:=fun w=>qG b j _ rfl (by omega) w
   generalize (eZ a).toNat.testBit j=bx at *
   generalize (eZ b).toNat.testBit j=bb at *
   clear hbit hb
   have cp:=fun w=>aL j (by omega) w
   have hpw:(2:Int) ^ j=((2 ^ j:Nat):Int):=by simp
   generalize Z % 2 ^ j=N at *
   generalize hN':Z % 2 ^ (j+1)=N' at *
   have hP:0<2 ^ j:=Nat.pow_pos (by decide)
   rw[hpw] at cp
   generalize (2:Nat) ^ j=P at *
   cases bx <;> cases bb
   all_goals
    simp at hs
    have HS:=Hz hs
    have hw:N'=N∨wrap64 ((N:Int)+(P:Int))=(N':Int):=by
     by_cases h:N'=N
     ·exact .inl h
     ·refine .inr ?_
      rw[iI (by omega)]
      omega
    have HW:=Hz hw
    clear hs hw
    go_wp2_with (first
     |(go_at_call_of 94 a;refine (cx _).mono ?_;rintro e w1 ⟨rfl,hb1⟩)
     |(go_at_call_of 94 b;refine (cy _).mono ?_;rintro e w2 ⟨rfl,hb2⟩)
     |(go_at_call 74;refine (cp _).mono ?_;rintro e w' ⟨rfl,rfl⟩))
    exact⟨⟨j+1,by omega,by go_num,by rw[hN'];first | exact congrArg (Value.int .i64) (by have:=HS.out;omega) | exact congrArg (Value.int .i64) (HW.out.resolve_left (by have:=HS.out;omega)),(hB.trans (hb1.mono hB.size)).trans (hb2.mono (Nat.le_trans hB.size hb1.size))⟩,by simp[intOf];omega⟩
  ·have hj2:j=32:=by omega
   subst hj2
   have hmod:Z % 2 ^ 32=Z:=Nat.mod_eq_of_lt hlt
   rw[hmod]
   go_wp2_with fail
   go_returns
   exact⟨rfl,hB⟩
theorem qI (a b:Int)(w:World):Calls Try.prog 75 #[.int .i64 a,.int .i64 b,.int .i64 1] w fun e w'=>e = .returned (.int .i64 ((eZ a ||| eZ b).toNat:Int))∧Below w.heap.size w w':=by
 obtain⟨Z,hZ⟩:∃ Z,Z=(eZ a ||| eZ b).toNat:=⟨_,rfl⟩
 have hlt:Z<4294967296:=by rw[hZ];exact (eZ a ||| eZ b).isLt
 have hbit:∀ j,Z.testBit j=((eZ a).toNat.testBit j || (eZ b).toNat.testBit j):=fun j=>by rw[hZ,BitVec.toNat_or,Nat.testBit_or]
 rw[←hZ]
 clear hZ
 go_enter Try.func75,Try.ntmps75
 go_wp2_with fail
 go_loopw [7,8] (fun n i w8=>∃ j:Nat,j≤32∧i = .int .i64 j∧n = .int .i64 ((Z % 2 ^ j:Nat):Int)∧Below w.heap.size w w8) (fun _ i _=>32-(intOf i).toNat)
 case atStart=>exact⟨0,by omega,rfl,by simp[Nat.mod_one],Below.refl _ _⟩
 case round =>
  obtain⟨j,hj,rfl,rfl,hB⟩:=hrel
  by_cases hl:j<32
  ·have hb:=hbit j
   have hs:=oH Z j
   have hm:Z % 2 ^ (j+1)≤Z:=Nat.mod_le _ _
   rw[hb] at hs
   have cx:=fun w=>qG a j _ rfl (by omega) w
   have cy:=fun w=>qG b j _ rfl (by omega) w
   generalize (eZ a).toNat.testBit j=bx at *
   generalize (eZ b).toNat.testBit j=bb at *
   clear hbit hb
   have cp:=fun w=>aL j (by omega) w
   have hpw:(2:Int) ^ j=((2 ^ j:Nat):Int):=by simp
   generalize Z % 2 ^ j=N at *
   generalize hN':Z % 2 ^ (j+1)=N' at *
   have hP:0<2 ^ j:=Nat.pow_pos (by decide)
   rw[hpw] at cp
   generalize (2:Nat) ^ j=P at *
   cases bx <;> cases bb
   all_goals
    simp at hs
    have HS:=Hz hs
    have hw:N'=N∨wrap64 ((N:Int)+(P:Int))=(N':Int):=by
     by_cases h:N'=N
     ·exact .inl h
     ·refine .inr ?_
      rw[iI (by omega)]
      omega
    have HW:=Hz hw
    clear hs hw
    go_wp2_with (first
     |(go_at_call_of 94 a;refine (cx _).mono ?_;rintro e w1 ⟨rfl,hb1⟩)
     |(go_at_call_of 94 b;refine (cy _).mono ?_;rintro e w2 ⟨rfl,hb2⟩)
     |(go_at_call 74;refine (cp _).mono ?_;rintro e w' ⟨rfl,rfl⟩))
    exact⟨⟨j+1,by omega,by go_num,by rw[hN'];first | exact congrArg (Value.int .i64) (by have:=HS.out;omega) | exact congrArg (Value.int .i64) (HW.out.resolve_left (by have:=HS.out;omega)),(hB.trans (hb1.mono hB.size)).trans (hb2.mono (Nat.le_trans hB.size hb1.size))⟩,by simp[intOf];omega⟩
  ·have hj2:j=32:=by omega
   subst hj2
   have hmod:Z % 2 ^ 32=Z:=Nat.mod_eq_of_lt hlt
   rw[hmod]
   go_wp2_with fail
   go_returns
   exact⟨rfl,hB⟩
theorem qJ (a b:Int)(w:World):Calls Try.prog 75 #[.int .i64 a,.int .i64 b,.int .i64 2] w fun e w'=>e = .returned (.int .i64 ((eZ a ^^^ eZ b).toNat:Int))∧Below w.heap.size w w':=by
 obtain⟨Z,hZ⟩:∃ Z,Z=(eZ a ^^^ eZ b).toNat:=⟨_,rfl⟩
 have hlt:Z<4294967296:=by rw[hZ];exact (eZ a ^^^ eZ b).isLt
 have hbit:∀ j,Z.testBit j=((eZ a).toNat.testBit j ^^ (eZ b).toNat.testBit j):=fun j=>by rw[hZ,BitVec.toNat_xor,Nat.testBit_xor]
 rw[←hZ]
 clear hZ
 go_enter Try.func75,Try.ntmps75
 go_wp2_with fail
 go_loopw [7,8] (fun n i w8=>∃ j:Nat,j≤32∧i = .int .i64 j∧n = .int .i64 ((Z % 2 ^ j:Nat):Int)∧Below w.heap.size w w8) (fun _ i _=>32-(intOf i).toNat)
 case atStart=>exact⟨0,by omega,rfl,by simp[Nat.mod_one],Below.refl _ _⟩
 case round =>
  obtain⟨j,hj,rfl,rfl,hB⟩:=hrel
  by_cases hl:j<32
  ·have hb:=hbit j
   have hs:=oH Z j
   have hm:Z % 2 ^ (j+1)≤Z:=Nat.mod_le _ _
   rw[hb] at hs
   have cx:=fun w=>qG a j _ rfl (by omega) w
   have cy:=fun w=>qG b j _ rfl (by omega) w
   generalize (eZ a).toNat.testBit j=bx at *
   generalize (eZ b).toNat.testBit j=bb at *
   clear hbit hb
   have cp:=fun w=>aL j (by omega) w
   have hpw:(2:Int) ^ j=((2 ^ j:Nat):Int):=by simp
   generalize Z % 2 ^ j=N at *
   generalize hN':Z % 2 ^ (j+1)=N' at *
   have hP:0<2 ^ j:=Nat.pow_pos (by decide)
   rw[hpw] at cp
   generalize (2:Nat) ^ j=P at *
   cases bx <;> cases bb
   all_goals
    simp at hs
    have HS:=Hz hs
    have hw:N'=N∨wrap64 ((N:Int)+(P:Int))=(N':Int):=by
     by_cases h:N'=N
     ·exact .inl h
     ·refine .inr ?_
      rw[iI (by omega)]
      omega
    have HW:=Hz hw
    clear hs hw
    go_wp2_with (first
     |(go_at_call_of 94 a;refine (cx _).mono ?_;rintro e w1 ⟨rfl,hb1⟩)
     |(go_at_call_of 94 b;refine (cy _).mono ?_;rintro e w2 ⟨rfl,hb2⟩)
     |(go_at_call 74;refine (cp _).mono ?_;rintro e w' ⟨rfl,rfl⟩))
    exact⟨⟨j+1,by omega,by go_num,by rw[hN'];first | exact congrArg (Value.int .i64) (by have:=HS.out;omega) | exact congrArg (Value.int .i64) (HW.out.resolve_left (by have:=HS.out;omega)),(hB.trans (hb1.mono hB.size)).trans (hb2.mono (Nat.le_trans hB.size hb1.size))⟩,by simp[intOf];omega⟩
  ·have hj2:j=32:=by omega
   subst hj2
   have hmod:Z % 2 ^ 32=Z:=Nat.mod_eq_of_lt hlt
   rw[hmod]
   go_wp2_with fail
   go_returns
   exact⟨rfl,hB⟩
end Go.Proofs.Ytkcclefonmnpnaa
