import Derived.Test.YtkcclefonmnpnaaZkc
import Derived.Test.YtkcclefonmnpnaaZkbp
namespace Go.Proofs.Ytkcclefonmnpnaa
theorem Swp.unique {f g h:Fn7}(a:Swp f g)(b:Swp f h):g=h:=by
  induction a with
  | done ha =>
    cases b with
    | done _=>rfl
    | more hb _=>exact absurd ha hb
  | more ha _ ih =>
    cases b with
    | done hb=>exact absurd hb ha
    | more _ hs=>exact ih hs
def cnt (f:Fn7)(M:List (List Vl))(k:Fn7):Nat:=shN f.code f.code.length + foldN (shF f) M f.code.length + (f.code.length - k.code.length)
inductive ShR:Nat→Fn7→Fn7→Prop
  | zero (f:Fn7):ShR 0 f f
  | stop {n:Nat} {f k:Fn7} {M:List (List Vl)} (hA:Ans (shF f) M) (hs:Swp (foldF (shF f) M) k) (h0:cnt f M k=0):ShR (n + 1) f k
  | more {n:Nat} {f k g:Fn7} {M:List (List Vl)} (hA:Ans (shF f) M) (hs:Swp (foldF (shF f) M) k) (h0:cnt f M k≠0) (hr:ShR n k g):ShR (n + 1) f g
theorem ShR.unique {n:Nat}{f g h:Fn7}(a:ShR n f g)(b:ShR n f h):g=h:=by
  induction a with
  | zero f=>cases b; rfl
  | @stop n f k M hA hs h0 =>
    cases b with
    | @stop _ _ _ M' hA' hs' _ =>
      have:=hA.unique hA'
      subst this
      exact hs.unique hs'
    | @more _ _ k' _ M' hA' hs' h0' hr' =>
      have:=hA.unique hA'
      subst this
      have:=hs.unique hs'
      subst this
      exact absurd h0 h0'
  | @more n f k g M hA hs h0 hr ih =>
    cases b with
    | @stop _ _ _ M' hA' hs' h0' =>
      have:=hA.unique hA'
      subst this
      have:=hs.unique hs'
      subst this
      exact absurd h0' h0
    | @more _ _ k' _ M' hA' hs' h0' hr' =>
      have:=hA.unique hA'
      subst this
      have:=hs.unique hs'
      subst this
      exact ih hr'
theorem round_tr {f k:Fn7}{M:List (List Vl)}(hf:OkF f)(hA:Ans (shF f) M)(hs:Swp (foldF (shF f) M) k):TrS True f k :=
  .step (sh_tr hf).weak (.step (fold_tr (shF_ok hf) hA).weak (hs.tr (fold_tr (shF_ok hf) hA).ok))
theorem ShR.tr {n:Nat}{f g:Fn7}(a:ShR n f g):OkF f→TrS True f g:=by
  induction a with
  | zero f=>exact fun _=>.refl f
  | stop hA hs _=>exact fun hf=>round_tr hf hA hs
  | more hA hs _ _ ih=>exact fun hf=>(round_tr hf hA hs).trans (ih ((round_tr hf hA hs).ok hf))
theorem round_len {f k:Fn7}{M:List (List Vl)}(hf:OkF f)(hA:Ans (shF f) M)(hs:Swp (foldF (shF f) M) k):k.code.length≤f.code.length:=by
  have h1:=(hs.end_ (fold_tr (shF_ok hf) hA).ok).2.2.2.2.2.2.2
  have h2:(foldF (shF f) M).code.length=f.code.length:=(foldL_len _ _).trans (shL_len _)
  omega
theorem ShR.len {n:Nat}{f g:Fn7}(a:ShR n f g):OkF f→g.code.length≤f.code.length:=by
  induction a with
  | zero f=>exact fun _=>Nat.le_refl _
  | stop hA hs _=>exact fun hf=>round_len hf hA hs
  | more hA hs _ _ ih=>exact fun hf=>Nat.le_trans (ih ((round_tr hf hA hs).ok hf)) (round_len hf hA hs)
end Go.Proofs.Ytkcclefonmnpnaa

