import Derived.Deep.RegionWith
import Derived.ProofKit
import Derived.WalkKit
import Derived.WalkMore
import Derived.ScopeJumps
import Derived.Laws.BitsLemmas
import Derived.Laws.Shifts
import Derived.Test.YtkcclefonmnpnaaZc
namespace Go.Proofs.Ytkcclefonmnpnaa
open Go.RowKit Go.BigFrame
def pl (n:Int):Int:=n % 4294967296
theorem wr_bd (n:Int):-2147483648≤wr n∧wr n < 2147483648:=by unfold wr; omega
theorem pl_bd (n:Int):0≤pl n∧pl n < 4294967296:=by unfold pl; omega
theorem w64 {n:Int}(h:-9223372036854775808≤n∧n < 9223372036854775808):wrap64 n=n:=by unfold wrap64; omega
theorem k64 (n:Int):IntKind.i64.wrap n=wrap64 n:=by rw [IntKind.wrap_i64]; unfold wrap64; rfl
def tv (b:Bool):Int:=if b then 1 else 0
def dv (a b:Int):Int:=if b=0 then 0 else a.tdiv b
def md (a b:Int):Int:=if b=0 then 0 else a.tmod b
end Go.Proofs.Ytkcclefonmnpnaa
namespace Go.Proofs.Ytkcclefonmnpnaa
open Go.RowKit Go.BigFrame
theorem mul_bd {a b:Int}(h1:-2147483648≤a∧a < 2147483648)(h2:-2147483648≤b∧b < 2147483648):-9223372036854775808≤a * b∧a * b < 9223372036854775808:=by
  have h:=Int.natAbs_mul a b
  have h3:a.natAbs * b.natAbs≤2147483648 * 2147483648:=Nat.mul_le_mul (by omega) (by omega)
  omega
theorem shl_bd {a:Int}{k:Nat}(h1:-2147483648≤a∧a < 2147483648)(hk:k < 32):-9223372036854775808≤a * 2 ^ k∧a * 2 ^ k < 9223372036854775808:=by
  have h:=Int.natAbs_mul a (2 ^ k)
  have h2:((2:Int) ^ k).natAbs=2 ^ k:=by rw [Int.natAbs_pow]; rfl
  rw [h2] at h
  have hp:2 ^ k≤2 ^ 31:=Nat.pow_le_pow_right (by decide) (by omega)
  have h3:a.natAbs * 2 ^ k≤2147483648 * 2147483648:=Nat.mul_le_mul (by omega) hp
  omega
end Go.Proofs.Ytkcclefonmnpnaa
namespace Go.Proofs.Ytkcclefonmnpnaa
open Go.RowKit Go.BigFrame
end Go.Proofs.Ytkcclefonmnpnaa
namespace Go.Proofs.Ytkcclefonmnpnaa
open Go.RowKit Go.BigFrame
end Go.Proofs.Ytkcclefonmnpnaa
namespace Go.Proofs.Ytkcclefonmnpnaa
open Go.RowKit Go.BigFrame
end Go.Proofs.Ytkcclefonmnpnaa
namespace Go.Proofs.Ytkcclefonmnpnaa
open Go.RowKit Go.BigFrame
end Go.Proofs.Ytkcclefonmnpnaa
namespace Go.Proofs.Ytkcclefonmnpnaa
open Go.RowKit Go.BigFrame
end Go.Proofs.Ytkcclefonmnpnaa

