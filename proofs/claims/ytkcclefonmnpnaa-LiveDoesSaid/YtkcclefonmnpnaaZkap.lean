import Derived.Test.YtkcclefonmnpnaaZka
namespace Go.Proofs.Ytkcclefonmnpnaa
structure Gl where
  nm:ByteArray
  at_:Int
  size:Int
  init:Int
structure Un7 where
  funcs:List Fn7
  globs:List Gl
  top:Int
structure Fr7 where
  k:Nat
  base:Int
  p:Nat
  dst:Int
  ρ:List Int
def findU (l:List Fn7)(nm:ByteArray):Option Nat:=l.findIdx? fun f=>decide (f.nm=nm)
def backS (d v:Int)(E:Env):List Fr7→(List Fr7 × Env) ⊕ Res
  | []=>.inr ⟨1,v,E.out⟩
  | c::s'=>.inl ({ c with ρ:=setd d v c.ρ }::s',E)
def ustep (u:Un7):List Fr7→Env→(List Fr7 × Env) ⊕ Res
  | [],E=>.inr ⟨4,0,E.out⟩
  | t::s, E =>
    match u.funcs[t.k]? with
    | none=>.inr ⟨4,0,E.out⟩
    | some f=>match f.code[t.p]? with
      | none=>.inr ⟨4,0,E.out⟩
      | some i=>match lstep i t.p t.base t.ρ E with
        | .go p ρ E'=>.inl ({ t with p:=p,ρ:=ρ }::s,E')
        | .stop c=>.inr ⟨2,c,E.out⟩
        | .call nm args d=>match findU u.funcs nm with
          | none=>.inr ⟨4,0,E.out⟩
          | some k=>match u.funcs[k]? with
            | none=>.inr ⟨4,0,E.out⟩
            | some g=>if 4096 < t.base + f.Fr + g.Fr then .inr ⟨3,0,E.out⟩
              else .inl (⟨k,t.base + f.Fr,0,d,args++List.replicate (g.R.toNat - args.length) 0⟩::{ t with p:=t.p + 1 }::s,E)
        | .ret v=>backS t.dst v E s
def urun (u:Un7):Nat→List Fr7→Env→Res
  | 0,_,E=>⟨4,0,E.out⟩
  | n + 1,s,E=>match ustep u s E with
    | .inl (s',E')=>urun u n s' E'
    | .inr r=>r
def gmem (l:List Gl):List Int:=l.foldl (fun m g=>if g.at_ < 4096 then m.set g.at_.toNat g.init else m) (List.replicate 4096 0)
def startU (u:Un7)(m:Nat)(f:Fn7):List Fr7:=[⟨m,u.top,0,-1,List.replicate f.R.toNat 0⟩]
def mainNm:ByteArray:=⟨#[109,97,105,110]⟩
def runU (u:Un7) (inp:List Int) (n:Nat):Res :=
  match findU u.funcs mainNm with
  | none=>⟨4,0,[]⟩
  | some m=>match u.funcs[m]? with
    | none=>⟨4,0,[]⟩
    | some f=>if 0 < f.ps then ⟨4,0,[]⟩ else if 4096 < u.top + f.Fr then ⟨3,0,[]⟩ else urun u n (startU u m f) ⟨gmem u.globs,inp,[]⟩
theorem lstep_out {i:Ins}{p:Nat}{base:Int}{ρ:List Int}{E E':Env}{p':Nat}{ρ':List Int}(h:lstep i p base ρ E = .go p' ρ' E'):E.out <+: E'.out:=by
  revert h
  apply lstep_ind (P:=fun d=>d = .go p' ρ' E'→E.out <+: E'.out)
  all_goals
    intros
    rename_i h
    first
      | (cases h; done)
      | (injection h with h1 h2 h3; subst h3; first | exact List.prefix_refl _ | exact List.prefix_append _ _)
theorem ustep_out {u:Un7} {s s':List Fr7} {E E':Env} (h:ustep u s E = .inl (s',E')):E.out <+: E'.out:=by
  unfold ustep at h
  split at h
  · cases h
  · split at h
    · cases h
    · split at h
      · cases h
      · split at h
        · rename_i hl
          injection h with h; injection h with h1 h2; subst h2
          exact lstep_out hl
        · cases h
        · split at h
          · cases h
          · split at h
            · cases h
            · split at h
              · cases h
              · injection h with h; injection h with h1 h2; subst h2; exact List.prefix_refl _
        · unfold backS at h
          split at h
          · cases h
          · injection h with h; injection h with h1 h2; subst h2; exact List.prefix_refl _
theorem ustep_end {u:Un7}{s:List Fr7}{E:Env}{r:Res}(h:ustep u s E = .inr r):r.out=E.out:=by
  unfold ustep backS at h
  repeat' split at h
  all_goals first
    | (cases h; done)
    | (injection h with h; subst h; rfl)
theorem urun_out (u:Un7):∀ (n:Nat) (s:List Fr7) (E:Env),E.out <+: (urun u n s E).out
  | 0,_,_=>List.prefix_refl _
  | n + 1,s,E=>by
    unfold urun
    split
    · rename_i s' E' h
      exact (ustep_out h).trans (urun_out u n s' E')
    · rename_i r h
      rw [ustep_end h]
      exact List.prefix_refl _
def WaitS {stay:Prop}{f g:Fn7}(L:Loc stay f g)(k:Nat):Int→List Fr7→List Fr7→Prop
  | _,[],[]=>True
  | d,a::s,b::s'=>(a.k=b.k∧a.base=b.base∧a.dst=b.dst∧(if a.k=k then ∀ v,L.R a.base a.p (setd d v a.ρ) b.p (setd d v b.ρ) else a=b))∧WaitS L k a.dst s s'
  | _,_,_=>False
def TopS {stay:Prop}{f g:Fn7}(L:Loc stay f g)(k:Nat):List Fr7→List Fr7→Prop
  | [],[]=>True
  | a::s,b::s'=>(a.k=b.k∧a.base=b.base∧a.dst=b.dst∧(if a.k=k then L.R a.base a.p a.ρ b.p b.ρ else a=b))∧WaitS L k a.dst s s'
  | _,_=>False
def Calls7 (u:Un7):Prop:=∀ f ∈ u.funcs,∀ i ∈ f.code,i.kind=8→0≤i.n∧i.n≤6∧∃ k g,findU u.funcs i.text=some k∧u.funcs[k]? = some g∧g.ps=i.n
theorem findIdx_set (l:List Fn7)(k:Nat)(f g:Fn7)(hk:l[k]? = some f)(hn:g.nm=f.nm)(nm:ByteArray):findU (l.set k g) nm=findU l nm:=by
  unfold findU
  induction l generalizing k with
  | nil=>cases hk
  | cons x l ih =>
    cases k with
    | zero =>
      simp at hk
      subst hk
      simp [List.findIdx?_cons,hn]
    | succ k =>
      simp only [List.set_cons_succ,List.findIdx?_cons]
      rw [ih k (by simpa using hk)]
end Go.Proofs.Ytkcclefonmnpnaa
namespace Go.Proofs.Ytkcclefonmnpnaa
def swapU (u:Un7)(k:Nat)(g:Fn7):Un7:={ u with funcs:=u.funcs.set k g }
section
variable {stay:Prop} {f g:Fn7} (L:Loc stay f g) {u:Un7} {k:Nat}
def SimTo (L:Loc stay f g)(k:Nat)(s':List Fr7)(E:Env)(y:(List Fr7 × Env) ⊕ Res):(List Fr7 × Env) ⊕ Res→Prop
  | .inl (s2,E2)=>(stay∧E2=E∧TopS L k s2 s')∨∃ s2',y = .inl (s2',E2)∧TopS L k s2 s2'
  | .inr r=>y = .inr r
theorem sim_step (hf:u.funcs[k]? = some f) (hc:Calls7 u) {s s':List Fr7} (h:TopS L k s s') (E:Env):SimTo L k s' E (ustep (swapU u k g) s' E) (ustep u s E):=by
  cases s with
  | nil =>
    cases s' with
    | nil=>rfl
    | cons b s'=>exact h.elim
  | cons a s =>
    cases s' with
    | nil=>exact h.elim
    | cons b s' =>
      obtain ⟨⟨e1,e2,e3,hR⟩,hW⟩:=h
      obtain ⟨ak,ab,ap,ad,aρ⟩:=a
      obtain ⟨bk,bb,bp,bd,bρ⟩:=b
      simp only at e1 e2 e3 hR hW
      subst e1 e2 e3
      have hklt:=(List.getElem?_eq_some_iff.1 hf).1
      have hfind:∀ nm,findU (swapU u k g).funcs nm=findU u.funcs nm:=fun nm=>findIdx_set u.funcs k f g hf L.nm nm
      -- what a call brings about
      have hcall:∀ (aF:Int) (nm:ByteArray) (args:List Int) (d:Int) (i:Ins),i.kind=8→nm=i.text→(args.length:Int)=i.n→(∃ F ∈ u.funcs,i ∈ F.code)→∀ (p p':Nat) (ρ ρ':List Int),
          ((if ak=k then ∀ v,L.R ab p (setd d v ρ) p' (setd d v ρ') else (⟨ak,ab,p,ad,ρ⟩:Fr7)=⟨ak,ab,p',ad,ρ'⟩)) →
          SimTo L k ((⟨ak,ab,bp,ad,bρ⟩:Fr7)::s') E
            (match findU (swapU u k g).funcs nm with | none=>.inr ⟨4,0,E.out⟩ | some k'=>match (swapU u k g).funcs[k']? with | none=>.inr ⟨4,0,E.out⟩ | some g'=>if 4096 < ab + aF + g'.Fr then .inr ⟨3,0,E.out⟩ else .inl (⟨k',ab + aF,0,d,args++List.replicate (g'.R.toNat - args.length) 0⟩::(⟨ak,ab,p',ad,ρ'⟩:Fr7)::s',E))
            (match findU u.funcs nm with | none=>.inr ⟨4,0,E.out⟩ | some k'=>match u.funcs[k']? with | none=>.inr ⟨4,0,E.out⟩ | some g'=>if 4096 < ab + aF + g'.Fr then .inr ⟨3,0,E.out⟩ else .inl (⟨k',ab + aF,0,d,args++List.replicate (g'.R.toNat - args.length) 0⟩::(⟨ak,ab,p,ad,ρ⟩:Fr7)::s,E)):=by
        intro aF nm args d i hk8 hnm hal ⟨F,hF,hi⟩ p p' ρ ρ' hfr
        rw [hfind]
        obtain ⟨_,_,k',g',hk',hg',hps⟩:=hc F hF i hi hk8
        rw [← hnm] at hk'
        rw [hk']
        by_cases hkk:k'=k
        · subst hkk
          obtain rfl:g'=f:=by rw [hf] at hg'; exact (Option.some.inj hg').symm
          have hv:(swapU u k' g).funcs[k']? = some g:=by simp [swapU,hklt]
          simp only [hv,hg']
          rw [L.Fr,L.Rs]
          by_cases hb:4096 < ab + aF + g'.Fr
          · rw [if_pos hb,if_pos hb]; rfl
          · rw [if_neg hb,if_neg hb]
            refine Or.inr ⟨_,rfl,⟨rfl,rfl,rfl,?_⟩,⟨rfl,rfl,rfl,hfr⟩,hW⟩
            rw [if_pos rfl]
            exact L.start _ args (by rw [hal,hps])
        · have hv:(swapU u k g).funcs[k']? = some g':=by
            simp only [swapU]
            rw [List.getElem?_set_ne (Ne.symm hkk)]
            exact hg'
          simp only [hv,hg']
          by_cases hb:4096 < ab + aF + g'.Fr
          · rw [if_pos hb,if_pos hb]; rfl
          · rw [if_neg hb,if_neg hb]
            refine Or.inr ⟨_,rfl,⟨rfl,rfl,rfl,?_⟩,⟨rfl,rfl,rfl,hfr⟩,hW⟩
            rw [if_neg hkk]
      have hret:∀ v:Int,SimTo L k ((⟨ak,ab,bp,ad,bρ⟩:Fr7)::s') E (backS ad v E s') (backS ad v E s):=by
        intro v
        cases s with
        | nil =>
          cases s' with
          | nil=>rfl
          | cons b s'=>exact hW.elim
        | cons c s =>
          cases s' with
          | nil=>exact hW.elim
          | cons c' s' =>
            obtain ⟨⟨e1,e2,e3,hR'⟩,hW'⟩:=hW
            refine Or.inr ⟨_,rfl,⟨e1,e2,e3,?_⟩,hW'⟩
            by_cases hck:c.k=k
            · rw [if_pos hck] at hR' ⊢
              exact hR' v
            · rw [if_neg hck] at hR' ⊢
              rw [hR']
      by_cases hak:ak=k
      · rw [if_pos hak] at hR
        have hua:u.funcs[ak]? = some f:=by rw [hak]; exact hf
        have hva:(swapU u k g).funcs[ak]? = some g:=by rw [hak]; simp [swapU,hklt]
        obtain ⟨i,i',hi,hi'⟩:=L.at_ _ _ _ _ _ hR
        unfold ustep
        simp only [hua,hva,hi,hi']
        cases hl:lstep i ap ab aρ E with
        | go q σ E' =>
          simp only
          rcases L.go _ _ _ _ _ _ _ _ _ _ _ hR hi hi' hl with ⟨h1,h2,h3⟩ | ⟨q',σ',h1,h2⟩
          · exact Or.inl ⟨h1,h2,⟨rfl,rfl,rfl,by simp only; rw [if_pos hak]; exact h3⟩,hW⟩
          · rw [h1]
            exact Or.inr ⟨_,rfl,⟨rfl,rfl,rfl,by simp only; rw [if_pos hak]; exact h2⟩,hW⟩
        | stop c =>
          rw [L.stop _ _ _ _ _ _ _ _ _ hR hi hi' hl]
          rfl
        | ret v =>
          rw [L.ret _ _ _ _ _ _ _ _ _ hR hi hi' hl]
          exact hret v
        | call nm args d =>
          obtain ⟨h1,h2⟩:=L.call _ _ _ _ _ _ _ _ _ _ _ hR hi hi' hl
          obtain ⟨q1,q2,q3,q4⟩:=lstep_call hl
          rw [h1]
          simp only [L.Fr]
          have hFm:f ∈ u.funcs:=List.mem_of_getElem? hf
          have hn:=hc f hFm i (List.mem_of_getElem? hi) q1
          refine hcall f.Fr nm args d i q1 q2 ?_ ⟨f,hFm,List.mem_of_getElem? hi⟩ (ap + 1) (bp + 1) aρ bρ (by rw [if_pos hak]; exact h2)
          rw [q3]
          simp only [List.length_map,List.length_take,Ins.args,List.length_cons,List.length_nil]
          omega
      · rw [if_neg hak] at hR
        injection hR with _ _ e3 _ e5
        subst e3 e5
        have hva:(swapU u k g).funcs[ak]? = u.funcs[ak]?:=by
          simp only [swapU]
          rw [List.getElem?_set_ne (Ne.symm hak)]
        unfold ustep
        simp only [hva]
        cases hF:u.funcs[ak]? with
        | none=>rfl
        | some F =>
          simp only
          cases hi:F.code[ap]? with
          | none=>rfl
          | some i =>
            simp only
            cases hl:lstep i ap ab aρ E with
            | go q σ E'=>exact Or.inr ⟨_,rfl,⟨rfl,rfl,rfl,(if_neg hak).mpr rfl⟩,hW⟩
            | stop c=>rfl
            | ret v=>exact hret v
            | call nm args d =>
              obtain ⟨q1,q2,q3,q4⟩:=lstep_call hl
              have hFm:F ∈ u.funcs:=List.mem_of_getElem? hF
              have hn:=hc F hFm i (List.mem_of_getElem? hi) q1
              refine hcall F.Fr nm args d i q1 q2 ?_ ⟨F,hFm,List.mem_of_getElem? hi⟩ (ap + 1) (ap + 1) aρ aρ (by rw [if_neg hak])
              rw [q3]
              simp only [List.length_map,List.length_take,Ins.args,List.length_cons,List.length_nil]
              omega
theorem sim_fast (hf:u.funcs[k]? = some f) (hc:Calls7 u):∀ (n m:Nat) (s s':List Fr7) (E:Env),n≤m→TopS L k s s'→Fast (urun u n s E) (urun (swapU u k g) m s' E)
  | 0,m,s,s',E,_,_=>⟨fun h=>absurd rfl h,urun_out _ _ _ _⟩
  | n + 1,m,s,s',E,hnm,h=>by
    obtain ⟨m,rfl⟩:∃ m',m=m' + 1:=⟨m - 1,by omega⟩
    have hs:=sim_step L hf hc h E
    unfold urun
    cases hu:ustep u s E with
    | inr r =>
      rw [hu] at hs
      have hs:ustep (swapU u k g) s' E = .inr r:=hs
      rw [hs]
      exact Fast.refl _
    | inl x =>
      obtain ⟨s2,E2⟩:=x
      rw [hu] at hs
      rcases hs with ⟨_,rfl,h3⟩ | ⟨s2',h1,h2⟩
      · have:=sim_fast hf hc n (m + 1) s2 s' E2 (by omega) h3
        simp only [urun] at this
        exact this
      · rw [h1]
        exact sim_fast hf hc n m s2 s2' E2 (by omega) h2
theorem sim_same (hst:¬ stay) (hf:u.funcs[k]? = some f) (hc:Calls7 u):∀ (n:Nat) (s s':List Fr7) (E:Env),TopS L k s s'→urun u n s E=urun (swapU u k g) n s' E
  | 0,s,s',E,_=>rfl
  | n + 1,s,s',E,h=>by
    have hs:=sim_step L hf hc h E
    unfold urun
    cases hu:ustep u s E with
    | inr r =>
      rw [hu] at hs
      have hs:ustep (swapU u k g) s' E = .inr r:=hs
      rw [hs]
    | inl x =>
      obtain ⟨s2,E2⟩:=x
      rw [hu] at hs
      rcases hs with ⟨h1,_,_⟩ | ⟨s2',h1,h2⟩
      · exact absurd h1 hst
      · rw [h1]
        exact sim_same hst hf hc n s2 s2' E2 h2
end
theorem swap_run {stay:Prop} {f g:Fn7} (L:Loc stay f g) {u:Un7} {k:Nat} (hf:u.funcs[k]? = some f) (hc:Calls7 u) (hp:∀ f ∈ u.funcs,0≤f.ps) (inp:List Int) (n:Nat) :
    Fast (runU u inp n) (runU (swapU u k g) inp n)∧(¬ stay→runU u inp n=runU (swapU u k g) inp n):=by
  have hklt:=(List.getElem?_eq_some_iff.1 hf).1
  unfold runU
  rw [show findU (swapU u k g).funcs mainNm=findU u.funcs mainNm from findIdx_set u.funcs k f g hf L.nm mainNm]
  cases hm:findU u.funcs mainNm with
  | none=>exact ⟨Fast.refl _,fun _=>rfl⟩
  | some m =>
    simp only
    have hgl:(swapU u k g).globs=u.globs:=rfl
    have htp:(swapU u k g).top=u.top:=rfl
    by_cases hmk:m=k
    · subst hmk
      have hv:(swapU u m g).funcs[m]? = some g:=by simp [swapU,hklt]
      simp only [hv,hf,hgl,htp]
      rw [L.Fr,L.ps]
      by_cases h0:0 < f.ps
      · rw [if_pos h0,if_pos h0]; exact ⟨Fast.refl _,fun _=>rfl⟩
      · rw [if_neg h0,if_neg h0]
        have hp0:f.ps=0:=by have:=hp f (List.mem_of_getElem? hf); omega
        by_cases h1:4096 < u.top + f.Fr
        · rw [if_pos h1,if_pos h1]; exact ⟨Fast.refl _,fun _=>rfl⟩
        · rw [if_neg h1,if_neg h1]
          have hT:TopS L m (startU u m f) (startU (swapU u m g) m g):=by
            refine ⟨⟨rfl,rfl,rfl,?_⟩,trivial⟩
            simp only [if_pos]
            have:=L.start u.top [] (by simp [hp0])
            simpa [L.Rs] using this
          exact ⟨sim_fast L hf hc n n _ _ _ (Nat.le_refl _) hT,fun hst=>sim_same L hst hf hc n _ _ _ hT⟩
    · have hv : (swapU u k g).funcs[m]? = u.funcs[m]?:=by
        simp only [swapU]
        rw [List.getElem?_set_ne (Ne.symm hmk)]
      simp only [hv,hgl,htp]
      cases hF:u.funcs[m]? with
      | none=>exact ⟨Fast.refl _,fun _=>rfl⟩
      | some F =>
        simp only
        by_cases h0:0 < F.ps
        · rw [if_pos h0,if_pos h0]; exact ⟨Fast.refl _,fun _=>rfl⟩
        · rw [if_neg h0,if_neg h0]
          by_cases h1:4096 < u.top + F.Fr
          · rw [if_pos h1,if_pos h1]; exact ⟨Fast.refl _,fun _=>rfl⟩
          · rw [if_neg h1,if_neg h1]
            have hT:TopS L k (startU u m F) (startU (swapU u k g) m F):=by
              refine ⟨⟨rfl,rfl,rfl,?_⟩,trivial⟩
              simp only
              rw [if_neg hmk]
              rfl
            exact ⟨sim_fast L hf hc n n _ _ _ (Nat.le_refl _) hT,fun hst=>sim_same L hst hf hc n _ _ _ hT⟩
end Go.Proofs.Ytkcclefonmnpnaa
namespace Go.Proofs.Ytkcclefonmnpnaa
structure OkC (u:Un7):Prop where
  ok:∀ f ∈ u.funcs,OkF f
  calls:Calls7 u
theorem swap_ok {stay:Prop} {u:Un7} (hu:OkC u) {k:Nat} {f g:Fn7} (hf:u.funcs[k]? = some f) (h:Tr stay f g):OkC (swapU u k g):=by
  obtain ⟨L⟩:=h.loc
  have hklt:=(List.getElem?_eq_some_iff.1 hf).1
  refine ⟨fun F hF=>?_,fun F hF i hi hk=>?_⟩
  · rcases List.mem_or_eq_of_mem_set hF with h1 | h1
    · exact hu.ok F h1
    · rw [h1]; exact h.ok
  · have key:∀ F' ∈ u.funcs,∀ j ∈ F'.code,j.kind=8→0≤j.n∧j.n≤6∧∃ k' g',findU (swapU u k g).funcs j.text=some k'∧(swapU u k g).funcs[k']? = some g'∧g'.ps=j.n:=fun F' hF' j hj hk=>by
      obtain ⟨h1,h2,k',g',h3,h4,h5⟩:=hu.calls F' hF' j hj hk
      refine ⟨h1,h2,k',?_⟩
      rw [show findU (swapU u k g).funcs j.text=findU u.funcs j.text from findIdx_set u.funcs k f g hf L.nm _]
      by_cases hkk:k'=k
      · subst hkk
        have:f=g':=by rw [hf] at h4; exact Option.some.inj h4
        subst this
        exact ⟨g,h3,by simp [swapU,hklt],by rw [L.ps,h5]⟩
      · exact ⟨g',h3,by simp only [swapU]; rw [List.getElem?_set_ne (Ne.symm hkk)]; exact h4,h5⟩
    rcases List.mem_or_eq_of_mem_set hF with h1 | h1
    · exact key F h1 i hi hk
    · subst h1
      obtain ⟨j,hj,e1,e2,e3⟩:=h.calls i hi hk
      have:=key f (List.mem_of_getElem? hf) j hj e1
      rw [e2,e3] at this
      exact this
theorem swap_one {stay:Prop}{u:Un7}(hu:OkC u){k:Nat}{f g:Fn7}(hf:u.funcs[k]? = some f)(h:Tr stay f g)(inp:List Int)(n:Nat):Rel stay (runU u inp n) (runU (swapU u k g) inp n):=by
  obtain ⟨L⟩:=h.loc
  have:=swap_run L hf hu.calls (fun F hF=>(hu.ok F hF).ps.1) inp n
  exact ⟨this.1,this.2⟩
theorem swap_star {stay:Prop} {f g:Fn7} (h:TrS stay f g):∀ {u:Un7},OkC u→∀ {k:Nat},u.funcs[k]? = some f→∀ (inp:List Int) (n:Nat),Rel stay (runU u inp n) (runU (swapU u k g) inp n)∧OkC (swapU u k g):=by
  induction h with
  | refl f =>
    intro u hu k hf inp n
    have:swapU u k f=u:=by
      unfold swapU
      have hs:u.funcs.set k f=u.funcs:=by
        apply List.ext_getElem?
        intro j
        rw [List.getElem?_set]
        split
        · rename_i e; subst e
          rw [if_pos (List.getElem?_eq_some_iff.1 hf).1,hf]
        · rfl
      rw [hs]
    rw [this]
    exact ⟨Rel.refl _ _,hu⟩
  | @step f g h ht hs ih =>
    intro u hu k hf inp n
    have h1:=swap_one hu hf ht inp n
    have h2:=swap_ok hu hf ht
    have hg:(swapU u k g).funcs[k]? = some g:=by simp [swapU,(List.getElem?_eq_some_iff.1 hf).1]
    have h3:=ih h2 hg inp n
    have e:swapU (swapU u k g) k h=swapU u k h:=by simp [swapU]
    rw [e] at h3
    exact ⟨h1.trans h3.1,h3.2⟩
theorem swap_all {stay:Prop} {u:Un7} (hu:OkC u) (gs:List Fn7) (hlen:gs.length=u.funcs.length) (h:∀ (k:Nat) f g,u.funcs[k]? = some f→gs[k]? = some g→TrS stay f g) (inp:List Int) (n:Nat) :
    Rel stay (runU u inp n) (runU { u with funcs:=gs } inp n):=by
  have key:∀ m,m≤u.funcs.length→Rel stay (runU u inp n) (runU { u with funcs:=gs.take m++u.funcs.drop m } inp n)∧OkC { u with funcs:=gs.take m++u.funcs.drop m }:=by
    intro m
    induction m with
    | zero=>intro _; simp only [List.take_zero,List.nil_append,List.drop_zero]; exact ⟨Rel.refl _ _,hu⟩
    | succ m ih =>
      intro hm
      obtain ⟨h1,h2⟩:=ih (by omega)
      have hf:u.funcs[m]? = some u.funcs[m]:=List.getElem?_eq_getElem (by omega)
      have hg:gs[m]? = some gs[m]:=List.getElem?_eq_getElem (by omega)
      have hlt:(gs.take m).length=m:=by simp; omega
      have hf2:({ u with funcs:=gs.take m++u.funcs.drop m }:Un7).funcs[m]? = some u.funcs[m]:=by
        show (gs.take m++u.funcs.drop m)[m]? = _
        rw [List.getElem?_append_right (by omega),hlt,Nat.sub_self,List.getElem?_drop,Nat.add_zero]
        exact hf
      have h3:=swap_star (h m _ _ hf hg) h2 hf2 inp n
      have e:swapU { u with funcs:=gs.take m++u.funcs.drop m } m gs[m]={ u with funcs:=gs.take (m + 1)++u.funcs.drop (m + 1) }:=by
        unfold swapU
        simp only [Un7.mk.injEq,and_true]
        apply List.ext_getElem?
        intro j
        rw [List.getElem?_set,List.take_add_one,hg,Option.toList_some]
        have hl1:(gs.take m++[gs[m]]).length=m + 1:=by simp; omega
        by_cases hj:m=j
        · subst hj
          rw [if_pos rfl,if_pos (by simp; omega),List.getElem?_append_left (by omega),List.getElem?_append_right (by omega),hlt,Nat.sub_self]
          rfl
        · rw [if_neg hj]
          by_cases hjm:j < m
          · rw [List.getElem?_append_left (by omega),List.getElem?_append_left (by omega),List.getElem?_append_left (by omega)]
          · rw [List.getElem?_append_right (by omega),List.getElem?_append_right (by omega),hlt,hl1,List.getElem?_drop,List.getElem?_drop]
            congr 1
            omega
      rw [e] at h3
      exact ⟨h1.trans h3.1,h3.2⟩
  have:=(key u.funcs.length (Nat.le_refl _)).1
  rw [List.drop_length,List.append_nil,List.take_of_length_le (by omega)] at this
  exact this
end Go.Proofs.Ytkcclefonmnpnaa

