import Derived.Test.YtkcclefonmnpnaaIf
import Derived.Test.YtkcclefonmnpnaaIa
namespace Go.Proofs.Ytkcclefonmnpnaa
open Go.RowKit Go.BigFrame
theorem moved_any (i:Ins){R:Int}{L:Nat}(hok:Ok i R 0 L)(hR:R≤4096)(h8:i.kind≠8)(h10:i.kind≤10)(bb:Nat)(b:Int)(hb:0≤b∧b≤4096)(w:World)(h:w.cell? ⟨bb,0,none⟩=some (.int .i64 b)) :
    Calls Try.prog 92 #[i.agg,regB bb] w fun e w'=>e = .returned (movedI b i).agg∧Below w.heap.size w w':=by
  have hk:=hok.kind
  have hd:kS i.kind=true→0≤i.dst∧i.dst≤5000:=fun hs=>by
    rcases hok.dst hs with h1 | h1
    · omega
    · exact absurd h1.1 h8
  have huA:kA i.kind=true→0≤i.a∧i.a≤5000:=fun hs=>by
    have:=hok.uses i.a (by simp [Ins.uses,hs])
    omega
  have huB:kB i.kind=true→0≤i.b∧i.b≤5000:=fun hs=>by
    have:=hok.uses i.b (by simp [Ins.uses,hs])
    omega
  have hb5:0≤b∧b≤5000:=by omega
  have eS:kS i.kind=true→movedI b i={ i with dst:=b + i.dst,a:=if kA i.kind then b + i.a else i.a,b:=if kB i.kind then b + i.b else i.b }:=fun hs=>by
    have:i.sets=i.dst:=by simp [Ins.sets,hs]
    unfold movedI
    rw [this,if_pos (hd hs).1]
  have eN:¬ kS i.kind=true→movedI b i={ i with a:=if kA i.kind then b + i.a else i.a,b:=if kB i.kind then b + i.b else i.b }:=fun hs=>by
    have:i.sets=-1:=by simp [Ins.sets,hs]
    unfold movedI
    rw [this,if_neg (by decide)]
  have hcase:(i.kind=2∨i.kind=4∨i.kind=6)∨(i.kind=1∨i.kind=5∨i.kind=9)∨i.kind=10∨i.kind=3∨i.kind=7:=by omega
  rcases hcase with hc | hc | hc | hc | hc
  · have s1:kS i.kind=true:=by rcases hc with e | e | e <;> simp [e,kS]
    have s2:kA i.kind=true:=by rcases hc with e | e | e <;> simp [e,kA]
    have s3:kB i.kind=false:=by rcases hc with e | e | e <;> simp [e,kB]
    rw [eS s1,if_pos s2,if_neg (by rw [s3]; decide)]
    exact moved_sa i hc (hd s1) (huA s2) bb b hb5 w h
  · have s1:kS i.kind=true:=by rcases hc with e | e | e <;> simp [e,kS]
    have s2:kA i.kind=false:=by rcases hc with e | e | e <;> simp [e,kA]
    have s3:kB i.kind=false:=by rcases hc with e | e | e <;> simp [e,kB]
    rw [eS s1,if_neg (by rw [s2]; decide),if_neg (by rw [s3]; decide)]
    exact moved_s i hc (hd s1) bb b hb5 w h
  · have s1:kS i.kind=false:=by simp [hc,kS]
    have s2:kA i.kind=true:=by simp [hc,kA]
    have s3:kB i.kind=false:=by simp [hc,kB]
    rw [eN (by rw [s1]; decide),if_pos s2,if_neg (by rw [s3]; decide)]
    exact moved_a i hc (huA s2) bb b hb5 w h
  · have s1:kS i.kind=true:=by simp [hc,kS]
    have s2:kA i.kind=true:=by simp [hc,kA]
    have s3:kB i.kind=true:=by simp [hc,kB]
    rw [eS s1,if_pos s2,if_pos s3]
    exact moved_sab i hc (hd s1) (huA s2) (huB s3) bb b hb5 w h
  · have s1:kS i.kind=false:=by simp [hc,kS]
    have s2:kA i.kind=true:=by simp [hc,kA]
    have s3:kB i.kind=true:=by simp [hc,kB]
    rw [eN (by rw [s1]; decide),if_pos s2,if_pos s3]
    exact moved_ab i hc (huA s2) (huB s3) bb b hb5 w h
end Go.Proofs.Ytkcclefonmnpnaa

