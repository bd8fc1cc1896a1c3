import Derived.Test.YtkcclefonmnpnaaVZkc
import Derived.Test.YtkcclefonmnpnaaVZkb
namespace Go.Proofs.Ytkcclefonmnpnaa
def LH (f:aR)(M:List (List Vl))(k:aR):Nat:=kP f.code f.code.length+aU (iP f) M f.code.length+(f.code.length-k.code.length)
inductive ShR:Nat→aR→aR→Prop
 | zero (f:aR):ShR 0 f f
 | stop {n:Nat} {f k:aR} {M:List (List Vl)} (hA:Ans (iP f) M) (hs:Swp (eE (iP f) M) k) (h0:LH f M k=0):ShR (n+1) f k
 | more {n:Nat} {f k g:aR} {M:List (List Vl)} (hA:Ans (iP f) M) (hs:Swp (eE (iP f) M) k) (h0:LH f M k≠0) (hr:ShR n k g):ShR (n+1) f g
theorem lQ {f k:aR}{M:List (List Vl)}(hf:OkF f)(hA:Ans (iP f) M)(hs:Swp (eE (iP f) M) k):TrS True f k :=
 .step (KJ hf).weak (.step (sB (pC hf) hA).weak (hs.tr (sB (pC hf) hA).ok))
theorem ShR.tr {n:Nat}{f g:aR}(a:ShR n f g):OkF f→TrS True f g:=by
 induction a with
 | zero f=>exact fun _=>.refl f
 | stop hA hs _=>exact fun hf=>lQ hf hA hs
 | more hA hs _ _ ih=>exact fun hf=>(lQ hf hA hs).trans (ih ((lQ hf hA hs).ok hf))
theorem rJ {f k:aR}{M:List (List Vl)}(hf:OkF f)(hA:Ans (iP f) M)(hs:Swp (eE (iP f) M) k):k.code.length≤f.code.length:=by
 have h1:=(hs.end_ (sB (pC hf) hA).ok).2.2.2.2.2.2.2
 have h2:(eE (iP f) M).code.length=f.code.length:=(dU _ _).trans (fJ _)
 omega
theorem ShR.len {n:Nat}{f g:aR}(a:ShR n f g):OkF f→g.code.length≤f.code.length:=by
 induction a with
 | zero f=>exact fun _=>Nat.le_refl _
 | stop hA hs _=>exact fun hf=>rJ hf hA hs
 | more hA hs _ _ ih=>exact fun hf=>Nat.le_trans (ih ((lQ hf hA hs).ok hf)) (rJ hf hA hs)
end Go.Proofs.Ytkcclefonmnpnaa
