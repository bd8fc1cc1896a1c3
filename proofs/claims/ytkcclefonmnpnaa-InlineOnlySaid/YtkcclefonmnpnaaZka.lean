import Derived.Test.YtkcclefonmnpnaaZg0
namespace Go.Proofs.Ytkcclefonmnpnaa
structure Gl where
  nm:ByteArray
  at_:Int
  size:Int
  init:Int
structure Un7 where
  funcs:List Fn7
  globs:List Gl
  top:Int
structure Env where
  mem:List Int
  inp:List Int
  out:List Int
structure Res where
  e:Int
  c:Int
  out:List Int
structure Fr7 where
  k:Nat
  base:Int
  p:Nat
  dst:Int
  ρ:List Int
def findU (l:List Fn7)(nm:ByteArray):Option Nat:=l.findIdx? fun f=>decide (f.nm=nm)
def rg (ρ:List Int)(r:Int):Int:=ρ.getD r.toNat 0
def setd (d v:Int)(ρ:List Int):List Int:=if 0≤d then ρ.set d.toNat v else ρ
inductive Deed
  | go (p:Nat) (ρ:List Int) (E:Env)
  | stop (c:Int)
  | call (nm:ByteArray) (args:List Int) (d:Int)
  | ret (v:Int)
def Ins.bv (i:Ins)(ρ:List Int):Int:=if i.kind=3 then rg ρ i.b else 0
def lstep (i:Ins) (p:Nat) (base:Int) (ρ:List Int) (E:Env):Deed :=
  if i.kind=1 then .go (p + 1) (setd i.dst i.n ρ) E
  else if i.kind=2∨i.kind=3 then
    (if (dov i.op (rg ρ i.a) (i.bv ρ)).2=true then .go (p + 1) (setd i.dst (dov i.op (rg ρ i.a) (i.bv ρ)).1 ρ) E else .stop 2)
  else if i.kind=4 then .go (p + 1) (setd i.dst (rg ρ i.a) ρ) E
  else if i.kind=5 then .go (p + 1) (setd i.dst (base + i.n) ρ) E
  else if i.kind=6 then
    (if pln (rg ρ i.a) < 1∨4096≤pln (rg ρ i.a) then .stop 1 else .go (p + 1) (setd i.dst (E.mem.getD (pln (rg ρ i.a)).toNat 0) ρ) E)
  else if i.kind=7 then
    (if pln (rg ρ i.a) < 1∨4096≤pln (rg ρ i.a) then .stop 1 else .go (p + 1) ρ { E with mem:=E.mem.set (pln (rg ρ i.a)).toNat (rg ρ i.b) })
  else if i.kind=8 then .call i.text ((i.args.take i.n.toNat).map (rg ρ)) i.dst
  else if i.kind=9 then .go (p + 1) (setd i.dst (E.inp.headD (-1)) ρ) { E with inp:=E.inp.tail }
  else if i.kind=10 then .go (p + 1) ρ { E with out:=E.out++[pln (rg ρ i.a) % 256] }
  else if i.kind=11 then .go i.to_.toNat ρ E
  else if i.kind=12 then .go (if rg ρ i.a=0 then i.els.toNat else i.to_.toNat) ρ E
  else .ret (rg ρ i.a)
def Fast (x y:Res):Prop:=(x.e≠4→y=x)∧x.out <+: y.out
theorem Fast.refl (x:Res):Fast x x:=⟨fun _=>rfl,List.prefix_refl _⟩
theorem Fast.trans {x y z:Res}(h:Fast x y)(h':Fast y z):Fast x z :=
  ⟨fun hx=>by
    have h1:=h.1 hx
    have h2:=h'.1 (by rw [h1]; exact hx)
    rw [h2,h1],h.2.trans h'.2⟩
structure Loc (stay:Prop)(f g:Fn7) where
  R:Int→Nat→List Int→Nat→List Int→Prop
  nm:g.nm=f.nm
  ps:g.ps=f.ps
  Rs:g.R=f.R
  Fr:g.Fr=f.Fr
  start:∀ (base:Int) (args:List Int),(args.length:Int)=f.ps→R base 0 (args++List.replicate (f.R.toNat - args.length) 0) 0 (args++List.replicate (f.R.toNat - args.length) 0)
  at_:∀ base p ρ p' ρ',R base p ρ p' ρ'→∃ i i',f.code[p]? = some i∧g.code[p']? = some i'
  go:∀ p ρ p' ρ' i i' base E q σ E',R base p ρ p' ρ'→f.code[p]? = some i→g.code[p']? = some i'→lstep i p base ρ E = .go q σ E' →
    (stay∧E'=E∧R base q σ p' ρ')∨∃ q' σ',lstep i' p' base ρ' E = .go q' σ' E'∧R base q σ q' σ'
  stop:∀ p ρ p' ρ' i i' base E c,R base p ρ p' ρ'→f.code[p]? = some i→g.code[p']? = some i'→lstep i p base ρ E = .stop c→lstep i' p' base ρ' E = .stop c
  call:∀ p ρ p' ρ' i i' base E nm args d,R base p ρ p' ρ'→f.code[p]? = some i→g.code[p']? = some i'→lstep i p base ρ E = .call nm args d →
    lstep i' p' base ρ' E = .call nm args d∧∀ v,R base (p + 1) (setd d v ρ) (p' + 1) (setd d v ρ')
  ret:∀ p ρ p' ρ' i i' base E v,R base p ρ p' ρ'→f.code[p]? = some i→g.code[p']? = some i'→lstep i p base ρ E = .ret v→lstep i' p' base ρ' E = .ret v
end Go.Proofs.Ytkcclefonmnpnaa
namespace Go.Proofs.Ytkcclefonmnpnaa
structure Rel (stay:Prop)(x y:Res):Prop where
  fast:Fast x y
  same:¬ stay→x=y
theorem Rel.refl (stay:Prop)(x:Res):Rel stay x x:=⟨Fast.refl x,fun _=>rfl⟩
theorem Rel.trans {stay:Prop}{x y z:Res}(h:Rel stay x y)(h':Rel stay y z):Rel stay x z:=⟨h.fast.trans h'.fast,fun hs=>(h.same hs).trans (h'.same hs)⟩
structure Tr (stay:Prop)(f g:Fn7):Prop where
  loc:Nonempty (Loc stay f g)
  ok:OkF g
  calls:∀ i ∈ g.code,i.kind=8→∃ j ∈ f.code,j.kind=8∧j.text=i.text∧j.n=i.n
inductive TrS (stay:Prop):Fn7→Fn7→Prop
  | refl (f:Fn7):TrS stay f f
  | step {f g h:Fn7} (ht:Tr stay f g) (hs:TrS stay g h):TrS stay f h
theorem TrS.one {stay:Prop}{f g:Fn7}(h:Tr stay f g):TrS stay f g:=.step h (.refl g)
theorem TrS.trans {stay:Prop}{f g h:Fn7}(a:TrS stay f g)(b:TrS stay g h):TrS stay f h:=by
  induction a with
  | refl=>exact b
  | step ht _ ih=>exact .step ht (ih b)
theorem TrS.ok {stay:Prop}{f g:Fn7}(a:TrS stay f g)(hf:OkF f):OkF g:=by
  induction a with
  | refl=>exact hf
  | step ht _ ih=>exact ih ht.ok
theorem TrS.nm {stay:Prop}{f g:Fn7}(a:TrS stay f g):g.nm=f.nm∧g.ps=f.ps∧g.R=f.R∧g.Fr=f.Fr:=by
  induction a with
  | refl=>exact ⟨rfl,rfl,rfl,rfl⟩
  | step ht _ ih =>
    obtain ⟨L⟩:=ht.loc
    obtain ⟨h1,h2,h3,h4⟩:=ih
    exact ⟨h1.trans L.nm,h2.trans L.ps,h3.trans L.Rs,h4.trans L.Fr⟩
theorem TrS.calls {stay:Prop}{f g:Fn7}(a:TrS stay f g):∀ i ∈ g.code,i.kind=8→∃ j ∈ f.code,j.kind=8∧j.text=i.text∧j.n=i.n:=by
  induction a with
  | refl=>exact fun i hi hk=>⟨i,hi,hk,rfl,rfl⟩
  | step ht _ ih =>
    intro i hi hk
    obtain ⟨j,hj,h1,h2,h3⟩:=ih i hi hk
    obtain ⟨j',hj',h1',h2',h3'⟩:=ht.calls j hj h1
    exact ⟨j',hj',h1',h2'.trans h2,h3'.trans h3⟩
end Go.Proofs.Ytkcclefonmnpnaa

