import Derived.Test.YtkcclefonmnpnaaVZg0
namespace Go.Proofs.Ytkcclefonmnpnaa
structure Gl where
 nm:ByteArray
 at_:Int
 size:Int
 init:Int
structure eH where
 funcs:List aR
 globs:List Gl
 top:Int
structure eX where
 mem:List Int
 inp:List Int
 out:List Int
structure jQ where
 e:Int
 c:Int
 out:List Int
structure cU where
 k:Nat
 base:Int
 p:Nat
 dst:Int
 ρ:List Int
def bV (l:List aR)(nm:ByteArray):Option Nat:=l.findIdx? fun f=>decide (f.nm=nm)
def rg (ρ:List Int)(r:Int):Int:=ρ.getD r.toNat 0
def bB (d v:Int)(ρ:List Int):List Int:=if 0≤d then ρ.set d.toNat v else ρ
inductive pY
 | go (p:Nat) (ρ:List Int) (E:eX)
 | stop (c:Int)
 | call (nm:ByteArray) (args:List Int) (d:Int)
 | ret (v:Int)
def Ins.bv (i:Ins)(ρ:List Int):Int:=if i.kind=3 then rg ρ i.b else 0
def aQ (i:Ins)(p:Nat)(base:Int)(ρ:List Int)(E:eX):pY :=
 if i.kind=1 then .go (p+1) (bB i.dst i.n ρ) E
 else if i.kind=2∨i.kind=3 then
  (if (iN i.op (rg ρ i.a) (i.bv ρ)).2=true then .go (p+1) (bB i.dst (iN i.op (rg ρ i.a) (i.bv ρ)).1 ρ) E else .stop 2)
 else if i.kind=4 then .go (p+1) (bB i.dst (rg ρ i.a) ρ) E
 else if i.kind=5 then .go (p+1) (bB i.dst (base+i.n) ρ) E
 else if i.kind=6 then
  (if eJ (rg ρ i.a)<1∨4096≤eJ (rg ρ i.a) then .stop 1 else .go (p+1) (bB i.dst (E.mem.getD (eJ (rg ρ i.a)).toNat 0) ρ) E)
 else if i.kind=7 then
  (if eJ (rg ρ i.a)<1∨4096≤eJ (rg ρ i.a) then .stop 1 else .go (p+1) ρ { E with mem:=E.mem.set (eJ (rg ρ i.a)).toNat (rg ρ i.b) })
 else if i.kind=8 then .call i.text ((i.args.take i.n.toNat).map (rg ρ)) i.dst
 else if i.kind=9 then .go (p+1) (bB i.dst (E.inp.headD (-1)) ρ) { E with inp:=E.inp.tail }
 else if i.kind=10 then .go (p+1) ρ { E with out:=E.out++[eJ (rg ρ i.a) % 256] }
 else if i.kind=11 then .go i.to_.toNat ρ E
 else if i.kind=12 then .go (if rg ρ i.a=0 then i.els.toNat else i.to_.toNat) ρ E
 else .ret (rg ρ i.a)
def oM (d v:Int)(E:eX):List cU→(List cU × eX) ⊕ jQ
 | []=>.inr ⟨1,v,E.out⟩
 | c::s'=>.inl ({ c with ρ:=bB d v c.ρ }::s',E)
def cW (u:eH):List cU→eX→(List cU × eX) ⊕ jQ
 | [],E=>.inr ⟨4,0,E.out⟩
 | t::s,E =>
  match u.funcs[t.k]? with
  | none=>.inr ⟨4,0,E.out⟩
  | some f=>match f.code[t.p]? with
   | none=>.inr ⟨4,0,E.out⟩
   | some i=>match aQ i t.p t.base t.ρ E with
    | .go p ρ E'=>.inl ({ t with p:=p,ρ:=ρ }::s,E')
    | .stop c=>.inr ⟨2,c,E.out⟩
    | .call nm args d=>match bV u.funcs nm with
     | none=>.inr ⟨4,0,E.out⟩
     | some k=>match u.funcs[k]? with
      | none=>.inr ⟨4,0,E.out⟩
      | some g=>if 4096<t.base+f.Fr+g.Fr then .inr ⟨3,0,E.out⟩
       else .inl (⟨k,t.base+f.Fr,0,d,args++List.replicate (g.R.toNat-args.length) 0⟩::{ t with p:=t.p+1 }::s,E)
    | .ret v=>oM t.dst v E s
def gO (u:eH):Nat→List cU→eX→jQ
 | 0,_,E=>⟨4,0,E.out⟩
 | n+1,s,E=>match cW u s E with
  | .inl (s',E')=>gO u n s' E'
  | .inr r=>r
def vI (l:List Gl):List Int:=l.foldl (fun m g=>if g.at_<4096 then m.set g.at_.toNat g.init else m) (List.replicate 4096 0)
def iX (u:eH)(m:Nat)(f:aR):List cU:=[⟨m,u.top,0,-1,List.replicate f.R.toNat 0⟩]
def gJ:ByteArray:=⟨#[109,97,105,110]⟩
def dY (u:eH)(inp:List Int)(n:Nat):jQ :=
 match bV u.funcs gJ with
 | none=>⟨4,0,[]⟩
 | some m=>match u.funcs[m]? with
  | none=>⟨4,0,[]⟩
  | some f=>if 0<f.ps then ⟨4,0,[]⟩ else if 4096<u.top+f.Fr then ⟨3,0,[]⟩ else gO u n (iX u m f) ⟨vI u.globs,inp,[]⟩
def Fast (x y:jQ):Prop:=(x.e≠4→y=x)∧x.out <+: y.out
theorem Fast.refl (x:jQ):Fast x x:=⟨fun _=>rfl,List.prefix_refl _⟩
theorem Fast.trans {x y z:jQ}(h:Fast x y)(h':Fast y z):Fast x z :=
 ⟨fun hx=>by
  have h1:=h.1 hx
  have h2:=h'.1 (by rw[h1];exact hx)
  rw[h2,h1],h.2.trans h'.2⟩
theorem gP {i:Ins}{p:Nat}{base:Int}{ρ:List Int}{E:eX}{P:pY→Prop}
  (h1:i.kind=1→P (.go (p+1) (bB i.dst i.n ρ) E))
  (h2:i.kind=2∨i.kind=3→(iN i.op (rg ρ i.a) (i.bv ρ)).2=true→P (.go (p+1) (bB i.dst (iN i.op (rg ρ i.a) (i.bv ρ)).1 ρ) E))
  (h3:i.kind=2∨i.kind=3→(iN i.op (rg ρ i.a) (i.bv ρ)).2=false→P (.stop 2))
  (h4:i.kind=4→P (.go (p+1) (bB i.dst (rg ρ i.a) ρ) E))
  (h5:i.kind=5→P (.go (p+1) (bB i.dst (base+i.n) ρ) E))
  (h6:i.kind=6∨i.kind=7→(eJ (rg ρ i.a)<1∨4096≤eJ (rg ρ i.a))→P (.stop 1))
  (h7:i.kind=6→¬ (eJ (rg ρ i.a)<1∨4096≤eJ (rg ρ i.a))→P (.go (p+1) (bB i.dst (E.mem.getD (eJ (rg ρ i.a)).toNat 0) ρ) E))
  (h8:i.kind=7→¬ (eJ (rg ρ i.a)<1∨4096≤eJ (rg ρ i.a))→P (.go (p+1) ρ { E with mem:=E.mem.set (eJ (rg ρ i.a)).toNat (rg ρ i.b) }))
  (h9:i.kind=8→P (.call i.text ((i.args.take i.n.toNat).map (rg ρ)) i.dst))
  (h10:i.kind=9→P (.go (p+1) (bB i.dst (E.inp.headD (-1)) ρ) { E with inp:=E.inp.tail }))
  (h11:i.kind=10→P (.go (p+1) ρ { E with out:=E.out++[eJ (rg ρ i.a) % 256] }))
  (h12:i.kind=11→P (.go i.to_.toNat ρ E))
  (h13:i.kind=12→P (.go (if rg ρ i.a=0 then i.els.toNat else i.to_.toNat) ρ E))
  (h14:(¬ (1≤i.kind∧i.kind≤12))→P (.ret (rg ρ i.a))):P (aQ i p base ρ E):=by
 unfold aQ
 by_cases k1:i.kind=1
 ·rw[if_pos k1];exact h1 k1
 rw[if_neg k1]
 by_cases k2:i.kind=2∨i.kind=3
 ·rw[if_pos k2]
  by_cases d:(iN i.op (rg ρ i.a) (i.bv ρ)).2=true
  ·rw[if_pos d];exact h2 k2 d
  ·rw[if_neg d];exact h3 k2 (by simpa using d)
 rw[if_neg k2]
 by_cases k4:i.kind=4
 ·rw[if_pos k4];exact h4 k4
 rw[if_neg k4]
 by_cases k5:i.kind=5
 ·rw[if_pos k5];exact h5 k5
 rw[if_neg k5]
 by_cases k6:i.kind=6
 ·rw[if_pos k6]
  by_cases d:eJ (rg ρ i.a)<1∨4096≤eJ (rg ρ i.a)
  ·rw[if_pos d];exact h6 (Or.inl k6) d
  ·rw[if_neg d];exact h7 k6 d
 rw[if_neg k6]
 by_cases k7:i.kind=7
 ·rw[if_pos k7]
  by_cases d:eJ (rg ρ i.a)<1∨4096≤eJ (rg ρ i.a)
  ·rw[if_pos d];exact h6 (Or.inr k7) d
  ·rw[if_neg d];exact h8 k7 d
 rw[if_neg k7]
 by_cases k8:i.kind=8
 ·rw[if_pos k8];exact h9 k8
 rw[if_neg k8]
 by_cases k9:i.kind=9
 ·rw[if_pos k9];exact h10 k9
 rw[if_neg k9]
 by_cases k10:i.kind=10
 ·rw[if_pos k10];exact h11 k10
 rw[if_neg k10]
 by_cases k11:i.kind=11
 ·rw[if_pos k11];exact h12 k11
 rw[if_neg k11]
 by_cases k12:i.kind=12
 ·rw[if_pos k12];exact h13 k12
 rw[if_neg k12]
 exact h14 (by omega)
theorem yH {i:Ins}{p:Nat}{base:Int}{ρ:List Int}{E E':eX}{p':Nat}{ρ':List Int}(h:aQ i p base ρ E = .go p' ρ' E'):E.out <+: E'.out:=by
 revert h
 apply gP (P:=fun d=>d = .go p' ρ' E'→E.out <+: E'.out)
 all_goals
  intros
  rename_i h
  first
   |(cases h;done)
   |(injection h with h1 h2 h3;subst h3;first | exact List.prefix_refl _ | exact List.prefix_append _ _)
theorem yI {u:eH}{s s':List cU}{E E':eX}(h:cW u s E = .inl (s',E')):E.out <+: E'.out:=by
 unfold cW at h
 split at h
 ·cases h
 ·split at h
  ·cases h
  ·split at h
   ·cases h
   ·split at h
    ·rename_i hl
     injection h with h;injection h with h1 h2;subst h2
     exact yH hl
    ·cases h
    ·split at h
     ·cases h
     ·split at h
      ·cases h
      ·split at h
       ·cases h
       ·injection h with h;injection h with h1 h2;subst h2;exact List.prefix_refl _
    ·unfold oM at h
     split at h
     ·cases h
     ·injection h with h;injection h with h1 h2;subst h2;exact List.prefix_refl _
theorem qQ {u:eH}{s:List cU}{E:eX}{r:jQ}(h:cW u s E = .inr r):r.out=E.out:=by
 unfold cW oM at h
 repeat' split at h
 all_goals first
  |(cases h;done)
  |(injection h with h;subst h;rfl)
theorem tF (u:eH):∀ (n:Nat) (s:List cU) (E:eX),E.out <+: (gO u n s E).out
 | 0,_,_=>List.prefix_refl _
 | n+1,s,E=>by
  unfold gO
  split
  ·rename_i s' E' h
   exact (yI h).trans (tF u n s' E')
  ·rename_i r h
   rw[qQ h]
   exact List.prefix_refl _
structure Loc (stay:Prop)(f g:aR) where
 R:Int→Nat→List Int→Nat→List Int→Prop
 nm:g.nm=f.nm
 ps:g.ps=f.ps
 Rs:g.R=f.R
 Fr:g.Fr=f.Fr
 start:∀ (base:Int) (args:List Int),(args.length:Int)=f.ps→R base 0 (args++List.replicate (f.R.toNat-args.length) 0) 0 (args++List.replicate (f.R.toNat-args.length) 0)
 at_:∀ base p ρ p' ρ',R base p ρ p' ρ'→∃ i i',f.code[p]? = some i∧g.code[p']? = some i'
 go:∀ p ρ p' ρ' i i' base E q σ E',R base p ρ p' ρ'→f.code[p]? = some i→g.code[p']? = some i'→aQ i p base ρ E = .go q σ E' →
  (stay∧E'=E∧R base q σ p' ρ')∨∃ q' σ',aQ i' p' base ρ' E = .go q' σ' E'∧R base q σ q' σ'
 stop:∀ p ρ p' ρ' i i' base E c,R base p ρ p' ρ'→f.code[p]? = some i→g.code[p']? = some i'→aQ i p base ρ E = .stop c→aQ i' p' base ρ' E = .stop c
 call:∀ p ρ p' ρ' i i' base E nm args d,R base p ρ p' ρ'→f.code[p]? = some i→g.code[p']? = some i'→aQ i p base ρ E = .call nm args d →
  aQ i' p' base ρ' E = .call nm args d∧∀ v,R base (p+1) (bB d v ρ) (p'+1) (bB d v ρ')
 ret:∀ p ρ p' ρ' i i' base E v,R base p ρ p' ρ'→f.code[p]? = some i→g.code[p']? = some i'→aQ i p base ρ E = .ret v→aQ i' p' base ρ' E = .ret v
def EV {stay:Prop}{f g:aR}(L:Loc stay f g)(k:Nat):Int→List cU→List cU→Prop
 | _,[],[]=>True
 | d,a::s,b::s'=>(a.k=b.k∧a.base=b.base∧a.dst=b.dst∧(if a.k=k then ∀ v,L.R a.base a.p (bB d v a.ρ) b.p (bB d v b.ρ) else a=b))∧EV L k a.dst s s'
 | _,_,_=>False
def vJ {stay:Prop}{f g:aR}(L:Loc stay f g)(k:Nat):List cU→List cU→Prop
 | [],[]=>True
 | a::s,b::s'=>(a.k=b.k∧a.base=b.base∧a.dst=b.dst∧(if a.k=k then L.R a.base a.p a.ρ b.p b.ρ else a=b))∧EV L k a.dst s s'
 | _,_=>False
def oN (u:eH):Prop:=∀ f ∈ u.funcs,∀ i ∈ f.code,i.kind=8→0≤i.n∧i.n≤6∧∃ k g,bV u.funcs i.text=some k∧u.funcs[k]? = some g∧g.ps=i.n
theorem iY (l:List aR)(k:Nat)(f g:aR)(hk:l[k]? = some f)(hn:g.nm=f.nm)(nm:ByteArray):bV (l.set k g) nm=bV l nm:=by
 unfold bV
 induction l generalizing k with
 | nil=>cases hk
 | cons x l ih =>
  cases k with
  | zero =>
   simp at hk
   subst hk
   simp[List.findIdx?_cons,hn]
  | succ k =>
   simp only[List.set_cons_succ,List.findIdx?_cons]
   rw[ih k (by simpa using hk)]
theorem fS {i:Ins}{p:Nat}{base:Int}{ρ:List Int}{E:eX}{nm:ByteArray}{args:List Int}{d:Int}(h:aQ i p base ρ E = .call nm args d):i.kind=8∧nm=i.text∧args=(i.args.take i.n.toNat).map (rg ρ)∧d=i.dst:=by
 revert h
 apply gP (P:=fun x=>x = .call nm args d→i.kind=8∧nm=i.text∧args=(i.args.take i.n.toNat).map (rg ρ)∧d=i.dst)
 all_goals
  intros
  rename_i h
  first
   |(cases h;done)
   |(injection h with h1 h2 h3;exact⟨by assumption,h1.symm,h2.symm,h3.symm⟩)
def bS (u:eH)(k:Nat)(g:aR):eH:={ u with funcs:=u.funcs.set k g }
section
variable {stay:Prop} {f g:aR} (L:Loc stay f g) {u:eH} {k:Nat}
def AJ (L:Loc stay f g)(k:Nat)(s':List cU)(E:eX)(y:(List cU × eX) ⊕ jQ):(List cU × eX) ⊕ jQ→Prop
 | .inl (s2,E2)=>(stay∧E2=E∧vJ L k s2 s')∨∃ s2',y = .inl (s2',E2)∧vJ L k s2 s2'
 | .inr r=>y = .inr r
theorem tG (hf:u.funcs[k]? = some f)(hc:oN u){s s':List cU}(h:vJ L k s s')(E:eX):AJ L k s' E (cW (bS u k g) s' E) (cW u s E):=by
 cases s with
 | nil =>
  cases s' with
  | nil=>rfl
  | cons b s'=>exact h.elim
 | cons a s =>
  cases s' with
  | nil=>exact h.elim
  | cons b s' =>
   obtain⟨⟨e1,e2,e3,hR⟩,hW⟩:=h
   obtain⟨ak,ab,ap,ad,aρ⟩:=a
   obtain⟨bk,bb,bp,bd,bρ⟩:=b
   simp only at e1 e2 e3 hR hW
   subst e1 e2 e3
   have hklt:=(Lz hf).1
   have hfind:∀ nm,bV (bS u k g).funcs nm=bV u.funcs nm:=fun nm=>iY u.funcs k f g hf L.nm nm
   -- what a call brings about
   have hcall:∀ (aF:Int) (nm:ByteArray) (args:List Int) (d:Int) (i:Ins),i.kind=8→nm=i.text→(args.length:Int)=i.n→(∃ F ∈ u.funcs,i ∈ F.code)→∀ (p p':Nat) (ρ ρ':List Int),
     ((if ak=k then ∀ v,L.R ab p (bB d v ρ) p' (bB d v ρ') else (⟨ak,ab,p,ad,ρ⟩:cU)=⟨ak,ab,p',ad,ρ'⟩)) →
     AJ L k ((⟨ak,ab,bp,ad,bρ⟩:cU)::s') E
      (match bV (bS u k g).funcs nm with | none=>.inr ⟨4,0,E.out⟩ | some k'=>match (bS u k g).funcs[k']? with | none=>.inr ⟨4,0,E.out⟩ | some g'=>if 4096<ab+aF+g'.Fr then .inr ⟨3,0,E.out⟩ else .inl (⟨k',ab+aF,0,d,args++List.replicate (g'.R.toNat-args.length) 0⟩::(⟨ak,ab,p',ad,ρ'⟩:cU)::s',E))
      (match bV u.funcs nm with | none=>.inr ⟨4,0,E.out⟩ | some k'=>match u.funcs[k']? with | none=>.inr ⟨4,0,E.out⟩ | some g'=>if 4096<ab+aF+g'.Fr then .inr ⟨3,0,E.out⟩ else .inl (⟨k',ab+aF,0,d,args++List.replicate (g'.R.toNat-args.length) 0⟩::(⟨ak,ab,p,ad,ρ⟩:cU)::s,E)):=by
    intro aF nm args d i hk8 hnm hal ⟨F,hF,hi⟩ p p' ρ ρ' hfr
    rw[hfind]
    obtain⟨_,_,k',g',hk',hg',hps⟩:=hc F hF i hi hk8
    rw[←hnm] at hk'
    rw[hk']
    by_cases hkk:k'=k
    ·subst hkk
     obtain rfl:g'=f:=by rw[hf] at hg';exact (Option.some.inj hg').symm
     have hv:(bS u k' g).funcs[k']? = some g:=by simp[bS,hklt]
     simp only[hv,hg']
     rw[L.Fr,L.Rs]
     by_cases hb:4096<ab+aF+g'.Fr
     ·rw[if_pos hb,if_pos hb];rfl
     ·rw[if_neg hb,if_neg hb]
      refine Or.inr ⟨_,rfl,⟨rfl,rfl,rfl,?_⟩,⟨rfl,rfl,rfl,hfr⟩,hW⟩
      rw[if_pos rfl]
      exact L.start _ args (by rw[hal,hps])
    ·have hv:(bS u k g).funcs[k']? = some g':=by
      simp only[bS]
      rw[List.getElem?_set_ne (Ne.symm hkk)]
      exact hg'
     simp only[hv,hg']
     by_cases hb:4096<ab+aF+g'.Fr
     ·rw[if_pos hb,if_pos hb];rfl
     ·rw[if_neg hb,if_neg hb]
      refine Or.inr ⟨_,rfl,⟨rfl,rfl,rfl,?_⟩,⟨rfl,rfl,rfl,hfr⟩,hW⟩
      rw[if_neg hkk]
   have hret:∀ v:Int,AJ L k ((⟨ak,ab,bp,ad,bρ⟩:cU)::s') E (oM ad v E s') (oM ad v E s):=by
    intro v
    cases s with
    | nil =>
     cases s' with
     | nil=>rfl
     | cons b s'=>exact hW.elim
    | cons c s =>
     cases s' with
     | nil=>exact hW.elim
     | cons c' s' =>
      obtain⟨⟨e1,e2,e3,hR'⟩,hW'⟩:=hW
      refine Or.inr ⟨_,rfl,⟨e1,e2,e3,?_⟩,hW'⟩
      by_cases hck:c.k=k
      ·rw[if_pos hck] at hR' ⊢
       exact hR' v
      ·rw[if_neg hck] at hR' ⊢
       rw[hR']
   by_cases hak:ak=k
   ·rw[if_pos hak] at hR
    have hua:u.funcs[ak]? = some f:=by rw[hak];exact hf
    have hva:(bS u k g).funcs[ak]? = some g:=by rw[hak];simp[bS,hklt]
    obtain⟨i,i',hi,hi'⟩:=L.at_ _ _ _ _ _ hR
    unfold cW
    simp only[hua,hva,hi,hi']
    cases hl:aQ i ap ab aρ E with
    | go q σ E' =>
     simp only
     rcases L.go _ _ _ _ _ _ _ _ _ _ _ hR hi hi' hl with ⟨h1,h2,h3⟩|⟨q',σ',h1,h2⟩
     ·exact Or.inl ⟨h1,h2,⟨rfl,rfl,rfl,by simp only;rw[if_pos hak];exact h3⟩,hW⟩
     ·rw[h1]
      exact Or.inr ⟨_,rfl,⟨rfl,rfl,rfl,by simp only;rw[if_pos hak];exact h2⟩,hW⟩
    | stop c =>
     rw[L.stop _ _ _ _ _ _ _ _ _ hR hi hi' hl]
     rfl
    | ret v =>
     rw[L.ret _ _ _ _ _ _ _ _ _ hR hi hi' hl]
     exact hret v
    | call nm args d =>
     obtain⟨h1,h2⟩:=L.call _ _ _ _ _ _ _ _ _ _ _ hR hi hi' hl
     obtain⟨q1,q2,q3,q4⟩:=fS hl
     rw[h1]
     simp only[L.Fr]
     have hFm:f ∈ u.funcs:=Mz hf
     have hn:=hc f hFm i (Mz hi) q1
     refine hcall f.Fr nm args d i q1 q2 ?_ ⟨f,hFm,Mz hi⟩ (ap+1) (bp+1) aρ bρ (by rw[if_pos hak];exact h2)
     rw[q3]
     simp only[List.length_map,List.length_take,Ins.args,List.length_cons,List.length_nil]
     omega
   ·rw[if_neg hak] at hR
    injection hR with _ _ e3 _ e5
    subst e3 e5
    have hva:(bS u k g).funcs[ak]? = u.funcs[ak]?:=by
     simp only[bS]
     rw[List.getElem?_set_ne (Ne.symm hak)]
    unfold cW
    simp only[hva]
    cases hF:u.funcs[ak]? with
    | none=>rfl
    | some F =>
     simp only
     cases hi:F.code[ap]? with
     | none=>rfl
     | some i =>
      simp only
      cases hl:aQ i ap ab aρ E with
      | go q σ E'=>exact Or.inr ⟨_,rfl,⟨rfl,rfl,rfl,(if_neg hak).mpr rfl⟩,hW⟩
      | stop c=>rfl
      | ret v=>exact hret v
      | call nm args d =>
       obtain⟨q1,q2,q3,q4⟩:=fS hl
       have hFm:F ∈ u.funcs:=Mz hF
       have hn:=hc F hFm i (Mz hi) q1
       refine hcall F.Fr nm args d i q1 q2 ?_ ⟨F,hFm,Mz hi⟩ (ap+1) (ap+1) aρ aρ (by rw[if_neg hak])
       rw[q3]
       simp only[List.length_map,List.length_take,Ins.args,List.length_cons,List.length_nil]
       omega
theorem kX (hf:u.funcs[k]? = some f)(hc:oN u):∀ (n m:Nat) (s s':List cU) (E:eX),n≤m→vJ L k s s'→Fast (gO u n s E) (gO (bS u k g) m s' E)
 | 0,m,s,s',E,_,_=>⟨fun h=>absurd rfl h,tF _ _ _ _⟩
 | n+1,m,s,s',E,hnm,h=>by
  obtain⟨m,rfl⟩:∃ m',m=m'+1:=⟨m-1,by omega⟩
  have hs:=tG L hf hc h E
  unfold gO
  cases hu:cW u s E with
  | inr r =>
   rw[hu] at hs
   have hs:cW (bS u k g) s' E = .inr r:=hs
   rw[hs]
   exact Fast.refl _
  | inl x =>
   obtain⟨s2,E2⟩:=x
   rw[hu] at hs
   rcases hs with ⟨_,rfl,h3⟩|⟨s2',h1,h2⟩
   ·have:=kX hf hc n (m+1) s2 s' E2 (by omega) h3
    simp only[gO] at this
    exact this
   ·rw[h1]
    exact kX hf hc n m s2 s2' E2 (by omega) h2
theorem oO (hst:¬ stay)(hf:u.funcs[k]? = some f)(hc:oN u):∀ (n:Nat) (s s':List cU) (E:eX),vJ L k s s'→gO u n s E=gO (bS u k g) n s' E
 | 0,s,s',E,_=>rfl
 | n+1,s,s',E,h=>by
  have hs:=tG L hf hc h E
  unfold gO
  cases hu:cW u s E with
  | inr r =>
   rw[hu] at hs
   have hs:cW (bS u k g) s' E = .inr r:=hs
   rw[hs]
  | inl x =>
   obtain⟨s2,E2⟩:=x
   rw[hu] at hs
   rcases hs with ⟨h1,_,_⟩|⟨s2',h1,h2⟩
   ·exact absurd h1 hst
   ·rw[h1]
    exact oO hst hf hc n s2 s2' E2 h2
end
theorem AK {stay:Prop}{f g:aR}(L:Loc stay f g){u:eH}{k:Nat}(hf:u.funcs[k]? = some f)(hc:oN u)(hp:∀ f ∈ u.funcs,0≤f.ps)(inp:List Int)(n:Nat) :
  Fast (dY u inp n) (dY (bS u k g) inp n)∧(¬ stay→dY u inp n=dY (bS u k g) inp n):=by
 have hklt:=(Lz hf).1
 unfold dY
 rw[show bV (bS u k g).funcs gJ=bV u.funcs gJ from iY u.funcs k f g hf L.nm gJ]
 cases hm:bV u.funcs gJ with
 | none=>exact⟨Fast.refl _,fun _=>rfl⟩
 | some m =>
  simp only
  have hgl:(bS u k g).globs=u.globs:=rfl
  have htp:(bS u k g).top=u.top:=rfl
  by_cases hmk:m=k
  ·subst hmk
   have hv:(bS u m g).funcs[m]? = some g:=by simp[bS,hklt]
   simp only[hv,hf,hgl,htp]
   rw[L.Fr,L.ps]
   by_cases h0:0<f.ps
   ·rw[if_pos h0,if_pos h0];exact⟨Fast.refl _,fun _=>rfl⟩
   ·rw[if_neg h0,if_neg h0]
    have hp0:f.ps=0:=by have:=hp f (Mz hf);omega
    by_cases h1:4096<u.top+f.Fr
    ·rw[if_pos h1,if_pos h1];exact⟨Fast.refl _,fun _=>rfl⟩
    ·rw[if_neg h1,if_neg h1]
     have hT:vJ L m (iX u m f) (iX (bS u m g) m g):=by
      refine⟨⟨rfl,rfl,rfl,?_⟩,trivial⟩
      simp only[if_pos]
      have:=L.start u.top [] (by simp[hp0])
      simpa[L.Rs] using this
     exact⟨kX L hf hc n n _ _ _ (Nat.le_refl _) hT,fun hst=>oO L hst hf hc n _ _ _ hT⟩
  ·have hv:(bS u k g).funcs[m]? = u.funcs[m]?:=by
    simp only[bS]
    rw[List.getElem?_set_ne (Ne.symm hmk)]
   simp only[hv,hgl,htp]
   cases hF:u.funcs[m]? with
   | none=>exact⟨Fast.refl _,fun _=>rfl⟩
   | some F =>
    simp only
    by_cases h0:0<F.ps
    ·rw[if_pos h0,if_pos h0];exact⟨Fast.refl _,fun _=>rfl⟩
    ·rw[if_neg h0,if_neg h0]
     by_cases h1:4096<u.top+F.Fr
     ·rw[if_pos h1,if_pos h1];exact⟨Fast.refl _,fun _=>rfl⟩
     ·rw[if_neg h1,if_neg h1]
      have hT:vJ L k (iX u m F) (iX (bS u k g) m F):=by
       refine⟨⟨rfl,rfl,rfl,?_⟩,trivial⟩
       simp only
       rw[if_neg hmk]
       rfl
      exact⟨kX L hf hc n n _ _ _ (Nat.le_refl _) hT,fun hst=>oO L hst hf hc n _ _ _ hT⟩
structure Rel (stay:Prop)(x y:jQ):Prop where
 fast:Fast x y
 same:¬ stay→x=y
theorem Rel.refl (stay:Prop)(x:jQ):Rel stay x x:=⟨Fast.refl x,fun _=>rfl⟩
theorem Rel.trans {stay:Prop}{x y z:jQ}(h:Rel stay x y)(h':Rel stay y z):Rel stay x z:=⟨h.fast.trans h'.fast,fun hs=>(h.same hs).trans (h'.same hs)⟩
structure Tr (stay:Prop)(f g:aR):Prop where
 loc:Nonempty (Loc stay f g)
 ok:OkF g
 calls:∀ i ∈ g.code,i.kind=8→∃ j ∈ f.code,j.kind=8∧j.text=i.text∧j.n=i.n
inductive TrS (stay:Prop):aR→aR→Prop
 | refl (f:aR):TrS stay f f
 | step {f g h:aR} (ht:Tr stay f g) (hs:TrS stay g h):TrS stay f h
theorem TrS.one {stay:Prop}{f g:aR}(h:Tr stay f g):TrS stay f g:=.step h (.refl g)
theorem TrS.trans {stay:Prop}{f g h:aR}(a:TrS stay f g)(b:TrS stay g h):TrS stay f h:=by
 induction a with
 | refl=>exact b
 | step ht _ ih=>exact .step ht (ih b)
theorem TrS.ok {stay:Prop}{f g:aR}(a:TrS stay f g)(hf:OkF f):OkF g:=by
 induction a with
 | refl=>exact hf
 | step ht _ ih=>exact ih ht.ok
theorem TrS.nm {stay:Prop}{f g:aR}(a:TrS stay f g):g.nm=f.nm∧g.ps=f.ps∧g.R=f.R∧g.Fr=f.Fr:=by
 induction a with
 | refl=>exact⟨rfl,rfl,rfl,rfl⟩
 | step ht _ ih =>
  obtain⟨L⟩:=ht.loc
  obtain⟨h1,h2,h3,h4⟩:=ih
  exact⟨h1.trans L.nm,h2.trans L.ps,h3.trans L.Rs,h4.trans L.Fr⟩
theorem TrS.calls {stay:Prop}{f g:aR}(a:TrS stay f g):∀ i ∈ g.code,i.kind=8→∃ j ∈ f.code,j.kind=8∧j.text=i.text∧j.n=i.n:=by
 induction a with
 | refl=>exact fun i hi hk=>⟨i,hi,hk,rfl,rfl⟩
 | step ht _ ih =>
  intro i hi hk
  obtain⟨j,hj,h1,h2,h3⟩:=ih i hi hk
  obtain⟨j',hj',h1',h2',h3'⟩:=ht.calls j hj h1
  exact⟨j',hj',h1',h2'.trans h2,h3'.trans h3⟩
def Loc.weak {f g:aR}(L:Loc False f g):Loc True f g where
 R:=L.R
 nm:=L.nm
 ps:=L.ps
 Rs:=L.Rs
 Fr:=L.Fr
 start:=L.start
 at_:=L.at_
 go:=fun p ρ p' ρ' i i' base E q σ E' h hi hi' hl=>(L.go p ρ p' ρ' i i' base E q σ E' h hi hi' hl).imp (fun h=>h.1.elim) id
 stop:=L.stop
 call:=L.call
 ret:=L.ret
theorem Tr.weak {f g:aR}(h:Tr False f g):Tr True f g:=⟨h.loc.elim fun L=>⟨L.weak⟩,h.ok,h.calls⟩
theorem TrS.weak {f g:aR}(h:TrS False f g):TrS True f g:=by
 induction h with
 | refl=>exact .refl _
 | step ht _ ih=>exact .step ht.weak ih
structure EW (u:eH):Prop where
 ok:∀ f ∈ u.funcs,OkF f
 calls:oN u
theorem DH {stay:Prop}{u:eH}(hu:EW u){k:Nat}{f g:aR}(hf:u.funcs[k]? = some f)(h:Tr stay f g):EW (bS u k g):=by
 obtain⟨L⟩:=h.loc
 have hklt:=(Lz hf).1
 refine⟨fun F hF=>?_,fun F hF i hi hk=>?_⟩
 ·rcases List.mem_or_eq_of_mem_set hF with h1|h1
  ·exact hu.ok F h1
  ·rw[h1];exact h.ok
 ·have key:∀ F' ∈ u.funcs,∀ j ∈ F'.code,j.kind=8→0≤j.n∧j.n≤6∧∃ k' g',bV (bS u k g).funcs j.text=some k'∧(bS u k g).funcs[k']? = some g'∧g'.ps=j.n:=fun F' hF' j hj hk=>by
   obtain⟨h1,h2,k',g',h3,h4,h5⟩:=hu.calls F' hF' j hj hk
   refine⟨h1,h2,k',?_⟩
   rw[show bV (bS u k g).funcs j.text=bV u.funcs j.text from iY u.funcs k f g hf L.nm _]
   by_cases hkk:k'=k
   ·subst hkk
    have:f=g':=by rw[hf] at h4;exact Option.some.inj h4
    subst this
    exact⟨g,h3,by simp[bS,hklt],by rw[L.ps,h5]⟩
   ·exact⟨g',h3,by simp only[bS];rw[List.getElem?_set_ne (Ne.symm hkk)];exact h4,h5⟩
  rcases List.mem_or_eq_of_mem_set hF with h1|h1
  ·exact key F h1 i hi hk
  ·subst h1
   obtain⟨j,hj,e1,e2,e3⟩:=h.calls i hi hk
   have:=key f (Mz hf) j hj e1
   rw[e2,e3] at this
   exact this
theorem AL {stay:Prop}{u:eH}(hu:EW u){k:Nat}{f g:aR}(hf:u.funcs[k]? = some f)(h:Tr stay f g)(inp:List Int)(n:Nat):Rel stay (dY u inp n) (dY (bS u k g) inp n):=by
 obtain⟨L⟩:=h.loc
 have:=AK L hf hu.calls (fun F hF=>(hu.ok F hF).ps.1) inp n
 exact⟨this.1,this.2⟩
theorem yJ {stay:Prop}{f g:aR}(h:TrS stay f g):∀ {u:eH},EW u→∀ {k:Nat},u.funcs[k]? = some f→∀ (inp:List Int) (n:Nat),Rel stay (dY u inp n) (dY (bS u k g) inp n)∧EW (bS u k g):=by
 induction h with
 | refl f =>
  intro u hu k hf inp n
  have:bS u k f=u:=by
   unfold bS
   have hs:u.funcs.set k f=u.funcs:=by
    apply List.ext_getElem?
    intro j
    rw[List.getElem?_set]
    split
    ·rename_i e;subst e
     rw[if_pos (Lz hf).1,hf]
    ·rfl
   rw[hs]
  rw[this]
  exact⟨Rel.refl _ _,hu⟩
 | @step f g h ht hs ih =>
  intro u hu k hf inp n
  have h1:=AL hu hf ht inp n
  have h2:=DH hu hf ht
  have hg:(bS u k g).funcs[k]? = some g:=by simp[bS,(Lz hf).1]
  have h3:=ih h2 hg inp n
  have e:bS (bS u k g) k h=bS u k h:=by simp[bS]
  rw[e] at h3
  exact⟨h1.trans h3.1,h3.2⟩
theorem tH {stay:Prop}{u:eH}(hu:EW u)(gs:List aR)(hlen:gs.length=u.funcs.length)(h:∀ (k:Nat) f g,u.funcs[k]? = some f→gs[k]? = some g→TrS stay f g)(inp:List Int)(n:Nat) :
  Rel stay (dY u inp n) (dY { u with funcs:=gs } inp n):=by
 have key:∀ m,m≤u.funcs.length→Rel stay (dY u inp n) (dY { u with funcs:=gs.take m++u.funcs.drop m } inp n)∧EW { u with funcs:=gs.take m++u.funcs.drop m }:=by
  intro m
  induction m with
  | zero=>intro _;simp only[List.take_zero,List.nil_append,List.drop_zero];exact⟨Rel.refl _ _,hu⟩
  | succ m ih =>
   intro hm
   obtain⟨h1,h2⟩:=ih (by omega)
   have hf:u.funcs[m]? = some u.funcs[m]:=List.getElem?_eq_getElem (by omega)
   have hg:gs[m]? = some gs[m]:=List.getElem?_eq_getElem (by omega)
   have hlt:(gs.take m).length=m:=by simp;omega
   have hf2:({ u with funcs:=gs.take m++u.funcs.drop m }:eH).funcs[m]? = some u.funcs[m]:=by
    show (gs.take m++u.funcs.drop m)[m]? = _
    rw[List.getElem?_append_right (by omega),hlt,Nat.sub_self,List.getElem?_drop,Nat.add_zero]
    exact hf
   have h3:=yJ (h m _ _ hf hg) h2 hf2 inp n
   have e:bS { u with funcs:=gs.take m++u.funcs.drop m } m gs[m]={ u with funcs:=gs.take (m+1)++u.funcs.drop (m+1) }:=by
    unfold bS
    simp only[eH.mk.injEq,and_true]
    apply List.ext_getElem?
    intro j
    rw[List.getElem?_set,List.take_add_one,hg,Option.toList_some]
    have hl1:(gs.take m++[gs[m]]).length=m+1:=by simp;omega
    by_cases hj:m=j
    ·subst hj
     rw[if_pos rfl,if_pos (by simp;omega),List.getElem?_append_left (by omega),List.getElem?_append_right (by omega),hlt,Nat.sub_self]
     rfl
    ·rw[if_neg hj]
     by_cases hjm:j<m
     ·rw[List.getElem?_append_left (by omega),List.getElem?_append_left (by omega),List.getElem?_append_left (by omega)]
     ·rw[List.getElem?_append_right (by omega),List.getElem?_append_right (by omega),hlt,hl1,List.getElem?_drop,List.getElem?_drop]
      congr 1
      omega
   rw[e] at h3
   exact⟨h1.trans h3.1,h3.2⟩
 have:=(key u.funcs.length (Nat.le_refl _)).1
 rw[List.drop_length,List.append_nil,List.take_of_length_le (by omega)] at this
 exact this
end Go.Proofs.Ytkcclefonmnpnaa
