import Derived.Test.YtkcclefonmnpnaaVXe
namespace Go.Proofs.Ytkcclefonmnpnaa
theorem rK (nm:ByteArray):∀ (l gs:List aR),gs.length=l.length→(∀ (k:Nat) f g,l[k]? = some f→gs[k]? = some g→g.nm=f.nm)→bV gs nm=bV l nm
 | [],[],_,_=>rfl
 | [],_::_,h,_=>by cases h
 | _::_,[],h,_=>by cases h
 | f::l,g::gs,hl,h=>by
  have h0:=h 0 f g rfl rfl
  have ih:=rK nm l gs (by simpa using hl) (fun k f' g' hf hg=>h (k+1) f' g' (by simpa using hf) (by simpa using hg))
  unfold bV at ih ⊢
  simp only[List.findIdx?_cons,h0,ih]
theorem OkU.okC {u:eH}(h:OkU u):EW u where
 ok:=h.ok
 calls:=fun f hf i hi hk=>by
  have h1:=(h.ok f hf).ok i hi
  have hn:0≤i.n∧i.n≤6:=by
   have:=h1.call hk
   omega
  exact⟨hn.1,hn.2,h.calls f hf i hi hk⟩
theorem OkU.swap {stay:Prop}{u:eH}(hu:OkU u)(gs:List aR)(hlen:gs.length=u.funcs.length)(h:∀ (k:Nat) f g,u.funcs[k]? = some f→gs[k]? = some g→TrS stay f g):OkU { u with funcs:=gs }:=by
 have hfind:∀ nm,bV gs nm=bV u.funcs nm:=fun nm=>rK nm u.funcs gs hlen fun k f g hf hg=>(h k f g hf hg).nm.1
 have hget:∀ (k:Nat) g,gs[k]? = some g→∃ f,u.funcs[k]? = some f∧TrS stay f g:=fun k g hg=>by
  have hlt:=(Lz hg).1
  have hf:u.funcs[k]? = some (u.funcs[k]'(by omega)):=List.getElem?_eq_getElem (by omega)
  exact⟨_,hf,h k _ g hf hg⟩
 have hmem:∀ g ∈ gs,∃ f ∈ u.funcs,TrS stay f g:=fun g hg=>by
  obtain⟨k,hk⟩:=List.mem_iff_getElem?.1 hg
  obtain⟨f,hf,ht⟩:=hget k g hk
  exact⟨f,Mz hf,ht⟩
 exact {
  len:=by show gs.length≤64;rw[hlen];exact hu.len
  top:=hu.top
  gl:=hu.gl
  ok:=fun g hg=>by
   obtain⟨f,hf,ht⟩:=hmem g hg
   exact ht.ok (hu.ok f hf)
  one:=fun k g hg=>by
   obtain⟨f,hf,ht⟩:=hget k g hg
   show bV gs g.nm=some k
   rw[hfind,ht.nm.1]
   exact hu.one k f hf
  calls:=fun g hg i hi hk=>by
   obtain⟨f,hf,ht⟩:=hmem g hg
   obtain⟨j,hj,e1,e2,e3⟩:=ht.calls i hi hk
   obtain⟨k,f',h1,h2,h3⟩:=hu.calls f hf j hj e1
   have hlt:=(Lz h2).1
   have hg':gs[k]? = some (gs[k]'(by omega)):=List.getElem?_eq_getElem (by omega)
   refine⟨k,_,?_,hg',?_⟩
   ·show bV gs i.text=some k
    rw[hfind,←e2]
    exact h1
   ·rw[(h k f' _ h2 hg').nm.2.1,h3,e3] }
def uE (x y:jQ):Prop :=
 if x.e≠4∧y.e≠4 then x=y
 else ¬ (x.e≠4∧x.out.length<y.out.length)∧¬ (y.e≠4∧y.out.length<x.out.length)∧x.out.take (min x.out.length y.out.length)=y.out.take (min x.out.length y.out.length)
theorem Fast.does {x y:jQ}(h:Fast x y):uE x y:=by
 unfold uE
 obtain⟨t,ht⟩:=h.2
 have hl:x.out.length≤y.out.length:=by rw[←ht];simp
 by_cases hx:x.e≠4
 ·have e:=h.1 hx
  rw[if_pos ⟨hx,by rw[e];exact hx⟩,e]
 ·rw[if_neg fun hh=>hx hh.1]
  refine⟨fun hh=>hx hh.1,fun hh=>by omega,?_⟩
  rw[Nat.min_eq_left hl,←ht]
  simp
theorem wP {i:Ins}{p:Nat}{base:Int}{ρ:List Int}{E E':eX}{p':Nat}{ρ':List Int}(h:aQ i p base ρ E = .go p' ρ' E'):E'.out.length≤E.out.length+1:=by
 revert h
 apply gP (P:=fun d=>d = .go p' ρ' E'→E'.out.length≤E.out.length+1)
 all_goals
  intros
  rename_i h
  first
   |(cases h;done)
   |(injection h with h1 h2 h3;subst h3;simp)
theorem wQ {u:eH}{s s':List cU}{E E':eX}(h:cW u s E = .inl (s',E')):E'.out.length≤E.out.length+1:=by
 unfold cW at h
 split at h
 ·cases h
 ·split at h
  ·cases h
  ·split at h
   ·cases h
   ·split at h
    ·rename_i hl
     injection h with h;injection h with h1 h2;subst h2
     exact wP hl
    ·cases h
    ·split at h
     ·cases h
     ·split at h
      ·cases h
      ·split at h
       ·cases h
       ·injection h with h;injection h with h1 h2;subst h2;omega
    ·unfold oM at h
     split at h
     ·cases h
     ·injection h with h;injection h with h1 h2;subst h2;omega
theorem rL (u:eH):∀ (n:Nat) (s:List cU) (E:eX),(gO u n s E).out.length≤E.out.length+n
 | 0,_,_=>by unfold gO;simp
 | n+1,s,E=>by
  unfold gO
  split
  ·rename_i s' E' h
   have h1:=rL u n s' E'
   have h2:=wQ h
   omega
  ·rename_i r h
   rw[qQ h]
   omega
theorem lR (u:eH)(inp:List Int)(n:Nat):(dY u inp n).out.length≤n:=by
 unfold dY
 split
 ·simp
 ·split
  ·simp
  ·split
   ·simp
   ·split
    ·simp
    ·exact Nat.le_trans (rL u n _ _) (by simp)
end Go.Proofs.Ytkcclefonmnpnaa
