import Derived.Test.YtkcclefonmnpnaaVZh
import Derived.Test.YtkcclefonmnpnaaVZka
namespace Go.Proofs.Ytkcclefonmnpnaa
open Go.RowKit Go.BigFrame
def Wd (x:Vl):Prop:=x.k=1→-2147483648≤x.n∧x.n≤2147483647
instance (x:Vl):Decidable (Wd x):=by unfold Wd;infer_instance
theorem xH {i:Ins}{R Fr:Int}{L:Nat}(h:Ok i R Fr L){v:List Vl}(hv:∀ r,Wd (at_ v r)):Wd (bL i v).1:=by
 unfold bL
 split
 ·rename_i h1;exact fun _=>h.word h1
 ·split
  ·exact hv _
  ·split
   ·split
    ·intro h;cases h
    ·exact fun _=>GI _ _ _
   ·intro h;cases h
theorem GZ {i:Ins}{R Fr:Int}{L:Nat}(h:Ok i R Fr L){v:List Vl}(hv:∀ r,Wd (at_ v r))(r:Nat):Wd (at_ (dN i v) r):=by
 rw[uZ]
 split
 ·exact xH h hv
 ·exact hv r
theorem lI (f:aR):(nI f).length=f.R.toNat:=by simp[nI]
theorem BK {f:aR}{r:Nat}(h:r<f.R.toNat):at_ (nI f) r=if (r:Int)<f.ps then av else ⟨1,0⟩:=by
 simp[nI,h]
theorem EA (f:aR):rok (nI f):=by
 intro x hx
 obtain⟨r,hr,rfl⟩:=List.mem_iff_getElem.1 hx
 rw[lI] at hr
 have h:=BK hr
 rw[dM (by rw[lI];exact hr)] at h
 rw[h]
 split
 ·exact Or.inr rfl
 ·exact Or.inl rfl
theorem OkF.at_ {f:aR}(hf:OkF f){p:Nat}{i:Ins}(h:f.code[p]? = some i):Ok i (f.R.toNat:Int) f.Fr f.code.length:=by
 have h1:=hf.ok _ (Mz h)
 have h2:=hf.ps
 have h3:=hf.R
 rwa [show ((f.R.toNat:Nat):Int)=f.R by omega]
def iL (x:Vl):Vl:=if Wd x then x else nv
theorem BL {x:Vl}(h:x.wf):(iL x).wf:=by unfold iL;split;exact h;exact Or.inl rfl
theorem sA (g:Vl→Vl)(hg:g nv=nv)(v:List Vl)(r:Nat):at_ (v.map g) r=g (at_ v r):=by
 by_cases hr:r<v.length
 ·rw[dM (by simpa using hr),dM hr];simp
 ·rw[fB (by simp;omega),fB (by omega),hg]
theorem nY (g:List Vl→List Vl)(hg:g []=[])(M:List (List Vl))(p:Nat):aY (M.map g) p=g (aY M p):=by
 by_cases hp:p<M.length
 ·simp[aY,List.getD,hp]
 ·simp[aY,List.getD,hp,hg]
theorem lJ:iL nv=nv:=by unfold iL;split <;> rfl
theorem xI {u x:Vl}(hu:u.ok)(hw:Wd u)(h:le u x):le u (iL x):=by
 unfold iL
 split
 ·exact h
 ·rename_i hx
  rcases h with rfl|rfl|rfl
  ·exact Or.inl rfl
  ·exact absurd hw hx
  ·exact absurd (fun e:(2:Int)=1=>absurd e (by decide)) hx
theorem Ans.words {f:aR}{M:List (List Vl)}(hf:OkF f)(h:Ans f M)(p r:Nat):Wd (Go.Proofs.Ytkcclefonmnpnaa.at_ (aY M p) r):=by
 have hm0:∀ v:List Vl,(v.map iL).length=v.length:=fun v=>by simp
 have hN:Holds f (M.map fun v=>v.map iL):=by
  refine⟨⟨by simp[h.holds.shp.len],fun v hv=>?_⟩,fun r=>?_,fun p n u hE r=>?_⟩
  ·obtain⟨v',hv',rfl⟩:=List.mem_map.1 hv
   have:=h.holds.shp.rows v' hv'
   refine⟨by rw[hm0];exact this.1,fun x hx=>?_⟩
   obtain⟨y,hy,rfl⟩:=List.mem_map.1 hx
   exact BL (this.2 y hy)
  ·rw[nY _ rfl,sA _ lJ]
   by_cases hr:r<f.R.toNat
   ·have hw:Wd (Go.Proofs.Ytkcclefonmnpnaa.at_ (nI f) r):=by
     rw[BK hr]
     split
     ·intro e;cases e
     ·intro _;exact⟨by simp,by simp⟩
    exact xI ((EA f).at_ (by rw[lI];exact hr)) hw (h.holds.start r)
   ·rw[fB (by rw[lI];omega)];exact Or.inl rfl
  ·obtain⟨i,v,h1,h2,h3,h4,h5,rfl⟩:=hE
   have hp:p<f.code.length:=(Lz h1).1
   have hpM:p<M.length:=by rw[h.holds.shp.len];exact hp
   have hv0:v=(aY M p).map iL:=by
    have e:=iW h2
    rw[nY _ rfl] at e
    exact e.symm
   have hwd:∀ r,Wd (Go.Proofs.Ytkcclefonmnpnaa.at_ (aY M p) r):=fun r=>by
    by_cases hr:r<v.length
    ·have ho:=h3.at_ hr
     rw[hv0,sA _ lJ] at ho
     unfold iL at ho
     split at ho
     ·assumption
     ·rcases ho with e|e <;> cases e
    ·rw[hv0,hm0] at hr
     rw[fB (by omega)];intro e;cases e
   have hv:v=aY M p:=by
    rw[hv0]
    apply List.ext_getElem (by simp)
    intro r ha hb
    have:=hwd r
    rw[dM hb] at this
    simp[iL,this]
   rw[hv] at h3 h4 h5 ⊢
   rw[nY _ rfl,sA _ lJ]
   have hE:zU f M p n (dN i (aY M p)):=⟨i,aY M p,h1,gI hpM,h3,h4,h5,rfl⟩
   have hle:=h.holds.edge _ _ _ hE r
   by_cases hr:r<(dN i (aY M p)).length
   ·exact xI ((vA (hf.at_ h1) h3 (h.holds.shp.at_ hp).1).at_ hr) (GZ (hf.at_ h1) hwd r) hle
   ·rw[fB (by omega)];exact Or.inl rfl
 have:=h.least _ hN p r
 rw[nY _ rfl,sA _ lJ] at this
 unfold iL at this
 split at this
 ·assumption
 ·intro e
  rcases this with h1|h1|h1
  ·rw[h1] at e;cases e
  ·rw[h1] at e;cases e
  ·cases h1
theorem BM {i:Ins}{p:Nat}{v:List Vl}{R Fr:Int}{L:Nat}(h:Ok i R Fr L)(hw:∀ r,Wd (at_ v r)):Ok (aP i p v) R Fr L:=by
 unfold aP
 split
 ·exact h
 ·split
  ·rename_i hk
   split
   ·rename_i hs
    have hd:0≤i.dst∧i.dst<R:=by
     rcases h.dst (by rcases hk with e|e|e <;> rw[e] <;> rfl) with e|e
     ·exact e
     ·omega
    have hw:=xH h hw hs.2
    refine⟨⟨by show (1:Int)≤1;decide,by show (1:Int)≤13;decide⟩,fun r hr=>?_,fun _=>Or.inl hd,fun _=>hw,fun e=>?_,fun e=>?_,fun e=>?_,fun e=>?_,fun e=>?_,fun e=>?_,?_⟩
    ·simp[Ins.uses,kA,kB] at hr
    ·simp at e
    ·simp at e
    ·simp at e
    ·simp at e
    ·simp at e
    ·simp at e
    ·simp[Ins.mask,kA,kB,kS]
   ·exact h
  ·split
   ·rename_i h12
    split
    ·rename_i n hn
     have hb:0≤n∧n<L:=by
      unfold cJ at hn
      rw[if_pos h12] at hn
      split at hn
      ·split at hn
       ·injection hn with hn;rw[←hn];exact h.els h12
       ·injection hn with hn;rw[←hn];exact h.to_ (Or.inr h12)
      ·injection hn with _ hn;cases hn
     refine⟨⟨by show (1:Int)≤11;decide,by show (11:Int)≤13;decide⟩,fun r hr=>?_,fun e=>?_,fun e=>?_,fun e=>?_,fun e=>?_,fun e=>?_,fun e=>?_,fun _=>hb,fun e=>?_,?_⟩
     ·simp[Ins.uses,kA,kB] at hr
     ·simp[kS] at e
     ·simp at e
     ·simp at e
     ·simp at e
     ·simp at e
     ·simp at e
     ·simp at e
     ·simp[Ins.mask,kA,kB,kS]
    ·exact h
   ·exact h
theorem wD {i:Ins}{p:Nat}{v:List Vl}(h:11≤i.kind):11≤(aP i p v).kind:=by
 unfold aP
 split
 ·exact h
 ·split
  ·omega
  ·split
   ·split
    ·simp
    ·exact h
   ·exact h
def eE (f:aR)(M:List (List Vl)):aR:=⟨f.nm,f.ps,f.R,f.Fr,iJ f M⟩
theorem mM {f:aR}{M:List (List Vl)}(hf:OkF f)(h:Ans f M):OkF (eE f M):=by
 have hl:(eE f M).code.length=f.code.length:=dU f M
 refine⟨hf.nm,hf.ps,hf.R,hf.Fr,by rw[hl];exact hf.len,fun j hj=>?_,fun j hj=>?_⟩
 ·rw[hl]
  obtain⟨p,hp⟩:=List.mem_iff_getElem?.1 hj
  have hpl:p<f.code.length:=by rw[←hl];exact (Lz hp).1
  have e:(eE f M).code[p]? = _:=jC (M:=M) hpl
  rw[e] at hp
  injection hp with hp
  rw[←hp]
  exact BM (hf.ok _ (Mz (fT hpl))) (fun r=>h.words hf p r)
 ·rw[hl] at hj
  have h0:=hf.len
  have hpl:f.code.length-1<f.code.length:=by omega
  have e:(eE f M).code[f.code.length-1]? = _:=jC (M:=M) hpl
  rw[e] at hj
  injection hj with hj
  rw[←hj]
  exact wD (hf.last _ (fT hpl))
theorem wE {f:aR}{M:List (List Vl)}{p:Nat}{j:Ins}(h:(eE f M).code[p]? = some j):∃ i,f.code[p]? = some i∧j=aP i p (aY M p):=by
 have hpl:p<f.code.length:=by rw[←dU f M];exact (Lz h).1
 have e:(eE f M).code[p]? = _:=jC (M:=M) hpl
 rw[e] at h
 injection h with h
 exact⟨_,fT hpl,h.symm⟩
theorem jI {f:aR}{M:List (List Vl)}{p:Nat}{i:Ins}(h:f.code[p]? = some i):(eE f M).code[p]? = some (aP i p (aY M p)):=by
 have hpl:p<f.code.length:=(Lz h).1
 have e:(eE f M).code[p]? = _:=jC (M:=M) hpl
 rw[e]
 rw[fT hpl] at h
 injection h with h
 rw[h]
def skip (i:Ins)(u:List Vl)(k:Nat):Bool:=decide (i.kind=12) && (decide ((at_ u i.a.toNat).k=1) && (decide ((at_ u i.a.toNat).n≠0) != decide (k=0)))
def KL (i:Ins)(p:Nat)(u:List Vl)(C:List (List Vl))(k:Nat):List (List Vl) :=
 match (i.next p)[k]? with
 | some n=>if skip i u k then C else C.set n.toNat (eM (aY C n.toNat) u)
 | none=>C
def BN (i:Ins)(p:Nat)(u:List Vl)(C:List (List Vl)):Nat→List (List Vl)
 | 0=>C
 | k+1=>KL i p u (BN i p u C k) k
def goes (f:aR)(M:List (List Vl))(p:Nat):Bool:=!(aY M p).any (fun x=>x.k==0) && (bL (aN f.code p) (aY M p)).2
def KM (f:aR)(M C:List (List Vl))(p:Nat):List (List Vl) :=
 if goes f M p then BN (aN f.code p) p (dN (aN f.code p) (aY M p)) C ((aN f.code p).next p).length else C
def KN (f:aR):List (List Vl):=(List.replicate f.code.length (List.replicate f.R.toNat nv)).set 0 (nI f)
def call (f:aR)(M:List (List Vl)):Nat→List (List Vl)
 | 0=>KN f
 | p+1=>KM f M (call f M p) p
theorem wG {v:List Vl}(h:rok v):v.any (fun x=>x.k==0)=false:=by
 rw[List.any_eq_false]
 intro x hx
 rcases h x hx with e|e
 ·simp[e]
 ·simp[e]
theorem mle.trans {A B C:List (List Vl)}(h1:mle A B)(h2:mle B C):mle A C:=fun p=>(h1 p).trans (h2 p)
def kn (v:List Vl):Prop:=∀ x ∈ v,x.k=1
theorem kn.at_ {v:List Vl}(h:kn v){r:Nat}(hr:r<v.length):(at_ v r).k=1:=by rw[dM hr];exact h _ (List.getElem_mem hr)
theorem kn.ok {v:List Vl}(h:kn v):rok v:=fun x hx=>Or.inl (h x hx)
structure Snd (v:List Vl)(ρ:List Int):Prop where
 len:ρ.length=v.length
 rok:rok v
 kn:∀ r,r<v.length→(at_ v r).k=1→ρ.getD r 0=(at_ v r).n
theorem Snd.rle {u v:List Vl}{ρ:List Int}(h:Snd u ρ)(hl:u.length=v.length)(hle:rle u v):Snd v ρ:=by
 refine⟨by rw[h.len,hl],hle.rok h.rok hl,fun r hr hk=>?_⟩
 have h1:=h.rok.at_ (r:=r) (by omega)
 rcases hle r with e|e|e
 ·rw[e] at h1
  rcases h1 with h1|h1
  ·exact absurd h1 (by decide)
  ·cases h1
 ·rw[←e] at hk ⊢;exact h.kn r (by omega) hk
 ·rw[e] at hk;exact absurd hk (by decide)
theorem setd_len (d v:Int)(ρ:List Int):(bB d v ρ).length=ρ.length:=by unfold bB;split <;> simp
theorem Snd.set {v:List Vl}{ρ:List Int}(h:Snd v ρ)(d:Int)(n:Int)(x:Vl)(hx:x.ok)(hn:x.k=1→n=x.n):Snd (if 0≤d then v.set d.toNat x else v) (bB d n ρ):=by
 unfold bB
 by_cases hd:0≤d
 ·rw[if_pos hd,if_pos hd]
  refine⟨by simp[h.len],fun y hy=>?_,fun r hr hk=>?_⟩
  ·rcases List.mem_or_eq_of_mem_set hy with h1|h1
   ·exact h.rok y h1
   ·rw[h1];exact hx
  ·rw[List.length_set] at hr
   by_cases hrd:d.toNat=r
   ·subst hrd
    rw[dM (by rw[List.length_set];exact hr),List.getElem_set_self] at hk ⊢
    rw[List.getD_eq_getElem?_getD,List.getElem?_set_self (by rw[h.len];exact hr)]
    exact hn hk
   ·rw[dM (by rw[List.length_set];exact hr),List.getElem_set_ne hrd,←dM hr] at hk ⊢
    rw[List.getD_eq_getElem?_getD,List.getElem?_set_ne hrd,←List.getD_eq_getElem?_getD]
    exact h.kn r hr hk
 ·rw[if_neg hd,if_neg hd];exact h
theorem Snd.val {v:List Vl}{ρ:List Int}(h:Snd v ρ){r:Int}(h0:0≤r)(hr:r<v.length)(hk:(at_ v r.toNat).k=1):rg ρ r=(at_ v r.toNat).n:=h.kn _ (by omega) hk
theorem Snd.updS {v:List Vl}{ρ:List Int}(h:Snd v ρ)(i:Ins)(n:Int)(hok:(bL i v).1.ok)(hn:(bL i v).1.k=1→n=(bL i v).1.n)(hs:kS i.kind=true):Snd (dN i v) (bB i.dst n ρ):=by
 have:dN i v=if 0≤i.dst then v.set i.dst.toNat (bL i v).1 else v:=by
  unfold dN Ins.sets
  rw[hs]
  rfl
 rw[this]
 exact h.set i.dst n _ hok hn
theorem pD {i:Ins}{v:List Vl}(hs:kS i.kind=false):dN i v=v:=by
 unfold dN Ins.sets
 rw[hs]
 rfl
theorem Snd.step {f:aR}{M:List (List Vl)}(hf:OkF f)(hA:Ans f M){p:Nat}{i:Ins}(hi:f.code[p]? = some i){ρ:List Int}(h:Snd (aY M p) ρ){q:Nat}{σ:List Int}(hb:(bL i (aY M p)).2=true)(hq:(q:Int) ∈ cJ i p (dN i (aY M p)))(hs:Snd (dN i (aY M p)) σ):Snd (aY M q) σ∧q<f.code.length:=by
 have hp:=(Lz hi).1
 have hsh:=hA.holds.shp
 have hlen:∀ p,p<f.code.length→(aY M p).length=f.R.toNat:=fun p hp=>(hsh.at_ hp).1
 have hok:=hf.ok i (Mz hi)
 have hqn:(q:Int) ∈ i.next p:=by
  unfold cJ at hq
  split at hq
  ·rename_i h12
   have:i.next p=[i.to_,i.els]:=by unfold Ins.next;rw[if_neg (by omega),if_pos h12]
   rw[this]
   split at hq
   ·split at hq
    ·simp at hq ⊢;exact Or.inr hq
    ·simp at hq ⊢;exact Or.inl hq
   ·exact hq
  ·exact hq
 have hql:q<f.code.length:=by
  unfold Ins.next at hqn
  split at hqn
  ·rename_i h11
   simp at hqn
   have:=hok.to_ (Or.inl h11);omega
  ·split at hqn
   ·rename_i h12
    simp at hqn
    have:=hok.to_ (Or.inr h12)
    have:=hok.els h12
    rcases hqn with h1|h1 <;> omega
   ·split at hqn
    ·cases hqn
    ·simp at hqn
     have h11:¬ 11≤i.kind:=by have:=hok.kind;omega
     have:=hf.last
     by_cases hlast:p=f.code.length-1
     ·exact absurd (this i (hlast ▸ hi)) h11
     ·omega
 refine⟨hs.rle ?_ (hA.holds.edge p q _ ⟨i,aY M p,hi,gI (by rw[hsh.len];exact hp),h.rok,hb,hq,rfl⟩),hql⟩
 rw[kT,hlen p hp,hlen q hql]
theorem Snd.ops {f:aR}{i:Ins}(hok:Ok i f.R f.Fr f.code.length){v:List Vl}{ρ:List Int}(h:Snd v ρ)(hl:v.length=f.R.toNat)(hk:i.kind=2∨i.kind=3)(hn:¬ ((at_ v i.a.toNat).k=2∨(fH i v).k=2)):rg ρ i.a=(at_ v i.a.toNat).n∧i.bv ρ=(fH i v).n:=by
 have ha:=hok.a_in (by unfold kA;rcases hk with e | e <;> rw[e] <;> decide)
 have hka:(at_ v i.a.toNat).k=1:=by
  rcases h.rok.at_ (r:=i.a.toNat) (by omega) with e|e
  ·exact e
  ·exact absurd (Or.inl (by rw[e])) hn
 refine⟨h.val ha.1 (by omega) hka,?_⟩
 unfold Ins.bv fH at *
 by_cases h3:i.kind=3
 ·rw[if_pos h3,if_pos h3]
  rw[if_pos h3] at hn
  have hb:=hok.b_in (by unfold kB;rw[h3];decide)
  have hkb:(at_ v i.b.toNat).k=1:=by
   rcases h.rok.at_ (r:=i.b.toNat) (by omega) with e|e
   ·exact e
   ·exact absurd (Or.inr (by rw[e])) hn
  exact h.val hb.1 (by omega) hkb
 ·rw[if_neg h3,if_neg h3]
theorem iF {f:aR}{i:Ins}(hok:Ok i f.R f.Fr f.code.length){v:List Vl}{ρ:List Int}(h:Snd v ρ)(hl:v.length=f.R.toNat)(p:Nat)(base:Int)(E:eX):aQ (aP i p v) p base ρ E=aQ i p base ρ E:=by
 unfold aP
 rw[wG h.rok]
 simp only[Bool.false_eq_true,if_false]
 by_cases hk:i.kind=4∨i.kind=2∨i.kind=3
 ·rw[if_pos hk]
  by_cases hs:(bL i v).2=true∧(bL i v).1.k=1
  ·rw[if_pos hs]
   have hc:aQ ⟨1,0,i.dst,0,0,(bL i v).1.n,⟨#[]⟩,0,0,0,0,0,0,0,-1⟩ p base ρ E = .go (p+1) (bB i.dst (bL i v).1.n ρ) E:=rfl
   rw[hc]
   unfold aQ
   rcases hk with h4|h23
   ·rw[if_neg (by omega),if_neg (by omega),if_pos h4]
    have e:bL i v=(at_ v i.a.toNat,true):=by unfold bL;rw[if_neg (by omega),if_pos h4]
    rw[e] at hs ⊢
    have ha:=hok.a_in (by unfold kA;rw[h4];decide)
    rw[h.val ha.1 (by omega) hs.2]
   ·rw[if_neg (by omega),if_pos h23]
    have e:bL i v=if (at_ v i.a.toNat).k=2∨(fH i v).k=2 then (av,true) else (⟨1,(iN i.op (at_ v i.a.toNat).n (fH i v).n).1⟩,(iN i.op (at_ v i.a.toNat).n (fH i v).n).2):=by unfold bL;rw[if_neg (by omega),if_neg (by omega),if_pos h23]
    by_cases hn:(at_ v i.a.toNat).k=2∨(fH i v).k=2
    ·rw[e,if_pos hn] at hs
     exact absurd hs.2 (by decide)
    ·rw[e,if_neg hn] at hs ⊢
     obtain⟨e1,e2⟩:=h.ops hok hl h23 hn
     rw[e1,e2]
     simp only at hs
     rw[if_pos hs.1]
  ·rw[if_neg hs]
 ·rw[if_neg hk]
  by_cases h12:i.kind=12
  ·rw[if_pos h12]
   have ha:=hok.a_in (by unfold kA;rw[h12];decide)
   have hi:aQ i p base ρ E = .go (if rg ρ i.a=0 then i.els.toNat else i.to_.toNat) ρ E:=by unfold aQ;simp[h12]
   unfold cJ
   rw[if_pos h12,hi]
   by_cases h1:(at_ v i.a.toNat).k=1
   ·rw[if_pos h1,h.val ha.1 (by omega) h1]
    by_cases h0:(at_ v i.a.toNat).n=0
    ·rw[if_pos h0,if_pos h0];rfl
    ·rw[if_neg h0,if_neg h0];rfl
   ·rw[if_neg h1]
    simp only
    rw[hi]
  ·rw[if_neg h12]
theorem qX {k:Int}(h:k=1∨k=2∨k=3∨k=4∨k=5∨k=6∨k=8∨k=9):kS k=true:=by
 rcases h with e|e|e|e|e|e|e|e <;> rw[e] <;> decide
theorem lK {i:Ins}(v:List Vl)(h:¬ (i.kind=1∨i.kind=4∨i.kind=2∨i.kind=3)):bL i v=(av,true):=by
 unfold bL
 rw[if_neg (by omega),if_neg (by omega),if_neg (by omega)]
theorem eU {i:Ins}{p:Nat}(v:List Vl)(h:i.kind<11):((p+1:Nat):Int) ∈ cJ i p v:=by
 unfold cJ Ins.next
 rw[if_neg (by omega),if_neg (by omega),if_neg (by omega),if_neg (by omega)]
 simp
theorem Snd.goes {f:aR}{i:Ins}(hok:Ok i f.R f.Fr f.code.length){v:List Vl}{ρ:List Int}(h:Snd v ρ)(hl:v.length=f.R.toNat){p:Nat}{base:Int}{E E':eX}{q:Nat}{σ:List Int} :
  aQ i p base ρ E = .go q σ E'→(bL i v).2=true∧(q:Int) ∈ cJ i p (dN i v)∧Snd (dN i v) σ:=by
 have av_:∀ n,i.kind=5∨i.kind=6∨i.kind=9→(bL i v).2=true∧((p+1:Nat):Int) ∈ cJ i p (dN i v)∧Snd (dN i v) (bB i.dst n ρ):=fun n hk=>by
  have e:=lK (i:=i) v (by omega)
  exact⟨by rw[e],eU _ (by omega),h.updS i n (by rw[e];exact Or.inr rfl) (fun hk=>by rw[e] at hk;cases hk) (qX (by omega))⟩
 have keep:i.kind=7∨i.kind=10→(bL i v).2=true∧((p+1:Nat):Int) ∈ cJ i p (dN i v)∧Snd (dN i v) ρ:=fun hk=>by
  have e:=lK (i:=i) v (by omega)
  exact⟨by rw[e],eU _ (by omega),by rw[pD (by unfold kS;rcases hk with e | e <;> rw[e] <;> decide)];exact h⟩
 apply gP (P:=fun d=>d = .go q σ E'→(bL i v).2=true∧(q:Int) ∈ cJ i p (dN i v)∧Snd (dN i v) σ)
 ·intro hk he
  injection he with h1 h2 h3
  subst h1 h2
  have e:bL i v=(⟨1,i.n⟩,true):=by unfold bL;rw[if_pos hk]
  exact⟨by rw[e],eU _ (by omega),h.updS i _ (by rw[e];exact Or.inl rfl) (fun _=>by rw[e]) (qX (by omega))⟩
 ·intro hk hd he
  injection he with h1 h2 h3
  subst h1 h2
  have e:bL i v=if (at_ v i.a.toNat).k=2∨(fH i v).k=2 then (av,true) else (⟨1,(iN i.op (at_ v i.a.toNat).n (fH i v).n).1⟩,(iN i.op (at_ v i.a.toNat).n (fH i v).n).2):=by unfold bL;rw[if_neg (by omega),if_neg (by omega),if_pos hk]
  by_cases hn:(at_ v i.a.toNat).k=2∨(fH i v).k=2
  ·rw[if_pos hn] at e
   exact⟨by rw[e],eU _ (by omega),h.updS i _ (by rw[e];exact Or.inr rfl) (fun hk=>by rw[e] at hk;cases hk) (qX (by omega))⟩
  ·rw[if_neg hn] at e
   obtain⟨e1,e2⟩:=h.ops hok hl hk hn
   rw[e1,e2] at hd ⊢
   exact⟨by rw[e];exact hd,eU _ (by omega),h.updS i _ (by rw[e];exact Or.inl rfl) (fun _=>by rw[e]) (qX (by omega))⟩
 ·intro _ _ he;cases he
 ·intro hk he
  injection he with h1 h2 h3
  subst h1 h2
  have ha:=hok.a_in (by unfold kA;rw[hk];decide)
  have e:bL i v=(at_ v i.a.toNat,true):=by unfold bL;rw[if_neg (by omega),if_pos hk]
  exact⟨by rw[e],eU _ (by omega),h.updS i _ (by rw[e];exact h.rok.at_ (by omega)) (fun hk1=>by rw[e] at hk1 ⊢;exact h.val ha.1 (by omega) hk1) (qX (by omega))⟩
 ·intro hk he
  injection he with h1 h2 h3
  subst h1 h2
  exact av_ _ (by omega)
 ·intro _ _ he;cases he
 ·intro hk _ he
  injection he with h1 h2 h3
  subst h1 h2
  exact av_ _ (by omega)
 ·intro hk _ he
  injection he with h1 h2 h3
  subst h1 h2
  exact keep (by omega)
 ·intro _ he;cases he
 ·intro hk he
  injection he with h1 h2 h3
  subst h1 h2
  exact av_ _ (by omega)
 ·intro hk he
  injection he with h1 h2 h3
  subst h1 h2
  exact keep (by omega)
 ·intro hk he
  injection he with h1 h2 h3
  subst h1 h2
  have e:=lK (i:=i) v (by omega)
  have hto:=hok.to_ (Or.inl hk)
  refine⟨by rw[e],?_,by rw[pD (by unfold kS;rw[hk];decide)];exact h⟩
  unfold cJ Ins.next
  rw[if_neg (by omega),if_pos hk]
  simp
  omega
 ·intro hk he
  injection he with h1 h2 h3
  subst h1 h2
  have e:=lK (i:=i) v (by omega)
  have hto:=hok.to_ (Or.inr hk)
  have hel:=hok.els hk
  have ha:=hok.a_in (by unfold kA;rw[hk];decide)
  have hu:dN i v=v:=pD (by unfold kS;rw[hk];decide)
  rw[hu]
  refine⟨by rw[e],?_,h⟩
  unfold cJ
  rw[if_pos hk]
  by_cases h1:(at_ v i.a.toNat).k=1
  ·rw[if_pos h1,h.val ha.1 (by omega) h1]
   by_cases h0:(at_ v i.a.toNat).n=0
   ·rw[if_pos h0,if_pos h0];simp;omega
   ·rw[if_neg h0,if_neg h0];simp;omega
  ·rw[if_neg h1]
   by_cases h0:rg ρ i.a=0
   ·rw[if_pos h0];simp;omega
   ·rw[if_neg h0];simp;omega
 ·intro _ he;cases he
def BO {f:aR}{M:List (List Vl)}(hf:OkF f)(hA:Ans f M):Loc False f (eE f M) where
 R:=fun _ p ρ p' ρ'=>p'=p∧ρ'=ρ∧p<f.code.length∧Snd (aY M p) ρ
 nm:=rfl
 ps:=rfl
 Rs:=rfl
 Fr:=rfl
 start:=fun _ args hargs=>by
  have hl:=hf.len
  have h0:(aY M 0).length=f.R.toNat:=(hA.holds.shp.at_ (by omega)).1
  have hR:=hf.R
  have hini:(nI f).length=f.R.toNat:=by simp[nI]
  refine⟨rfl,rfl,by omega,Snd.rle (u:=nI f) ?_ (by rw[hini,h0]) hA.holds.start⟩
  refine⟨by rw[hini];simp;omega,fun x hx=>?_,fun r hr hk=>?_⟩
  ·unfold nI at hx
   obtain⟨r,_,rfl⟩:=List.mem_map.1 hx
   split
   ·exact Or.inr rfl
   ·exact Or.inl rfl
  ·have e:at_ (nI f) r=if (r:Int)<f.ps then av else ⟨1,0⟩:=by
    rw[hini] at hr
    unfold nI
    rw[dM (by simpa using hr)]
    simp
   rw[e] at hk ⊢
   by_cases hrp:(r:Int)<f.ps
   ·rw[if_pos hrp] at hk;cases hk
   ·rw[if_neg hrp]
    rw[List.getD_eq_getElem?_getD,List.getElem?_append_right (by omega),List.getElem?_replicate]
    split <;> rfl
 at_:=fun _ p ρ p' ρ' h=>by
  obtain⟨rfl,rfl,hp,_⟩:=h
  have hi:=fT hp
  exact⟨_,_,hi,jI hi⟩
 go:=fun p ρ p' ρ' i i' base E q σ E' h hi hi' hl=>by
  obtain⟨rfl,rfl,hp,hs⟩:=h
  rw[jI hi] at hi'
  injection hi' with hi'
  subst hi'
  have hok:=hf.ok i (Mz hi)
  have hrl:(aY M p').length=f.R.toNat:=(hA.holds.shp.at_ hp).1
  refine Or.inr ⟨q,σ,?_,rfl,rfl,?_⟩
  ·rw[iF hok hs hrl];exact hl
  ·obtain⟨h1,h2,h3⟩:=hs.goes hok hrl hl
   have:=hs.step hf hA hi h1 h2 h3
   exact⟨this.2,this.1⟩
 stop:=fun p ρ p' ρ' i i' base E c h hi hi' hl=>by
  obtain⟨rfl,rfl,hp,hs⟩:=h
  rw[jI hi] at hi'
  injection hi' with hi'
  subst hi'
  rw[iF (hf.ok i (Mz hi)) hs (hA.holds.shp.at_ hp).1]
  exact hl
 call:=fun p ρ p' ρ' i i' base E nm args d h hi hi' hl=>by
  obtain⟨rfl,rfl,hp,hs⟩:=h
  rw[jI hi] at hi'
  injection hi' with hi'
  subst hi'
  have hok:=hf.ok i (Mz hi)
  refine⟨by rw[iF hok hs (hA.holds.shp.at_ hp).1];exact hl,fun v=>⟨rfl,rfl,?_⟩⟩
  obtain⟨q1,_,_,q4⟩:=fS hl
  have e:=lK (i:=i) (aY M p') (by omega)
  have:=hs.step hf hA hi (q:=p'+1) (σ:=bB d v ρ') (by rw[e]) (eU _ (by omega)) (by
   rw[q4]
   exact hs.updS i v (by rw[e];exact Or.inr rfl) (fun hk=>by rw[e] at hk;cases hk) (qX (by omega)))
  exact⟨this.2,this.1⟩
 ret:=fun p ρ p' ρ' i i' base E v h hi hi' hl=>by
  obtain⟨rfl,rfl,hp,hs⟩:=h
  rw[jI hi] at hi'
  injection hi' with hi'
  subst hi'
  rw[iF (hf.ok i (Mz hi)) hs (hA.holds.shp.at_ hp).1]
  exact hl
theorem sB {f:aR}{M:List (List Vl)}(hf:OkF f)(hA:Ans f M):Tr False f (eE f M):=by
 refine⟨⟨BO hf hA⟩,mM hf hA,fun j hj hk=>?_⟩
 obtain⟨p,hp⟩:=List.mem_iff_getElem?.1 hj
 obtain⟨i,hi,e⟩:=wE hp
 refine⟨i,Mz hi,?_⟩
 have:j=i:=by
  subst e
  revert hk
  unfold aP
  split
  ·intro _;rfl
  split
  ·split
   ·intro hk;cases hk
   ·intro _;rfl
  split
  ·split
   ·intro hk;cases hk
   ·intro _;rfl
  ·intro _;rfl
 rw[this] at hk ⊢
 exact⟨hk,rfl,rfl⟩
end Go.Proofs.Ytkcclefonmnpnaa
