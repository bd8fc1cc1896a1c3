import Derived.Test.YtkcclefonmnpnaaZkb
namespace Go.Proofs.Ytkcclefonmnpnaa
def shOut (l:List Ins):Nat→ShS
  | 0=>ShS.none
  | p + 1=>(if first l p=true then ShS.none else shOut l p).step (insD l p)
def shIn (l:List Ins)(p:Nat):ShS:=if first l p=true then ShS.none else shOut l p
theorem shOut_succ (l:List Ins)(p:Nat):shOut l (p + 1)=(shIn l p).step (insD l p):=rfl
def shL (l:List Ins):List Ins:=(List.range l.length).map fun p=>(shIn l p).new (insD l p)
def shN (l:List Ins)(k:Nat):Nat:=((List.range k).filter fun p=>decide ((shIn l p).new (insD l p)≠insD l p)).length
def shF (f:Fn7):Fn7:={ f with code:=shL f.code }
theorem shL_len (l:List Ins):(shL l).length=l.length:=by simp [shL]
theorem shL_at {l:List Ins}{p:Nat}{i:Ins}(h:l[p]? = some i):(shL l)[p]? = some ((shIn l p).new i):=by
  have hp:=(List.getElem?_eq_some_iff.1 h).1
  simp [shL,hp,insD_some h]
theorem step_inv {x:ShS} {i:Ins} {R Fr:Int} {L:Nat} (hx:ShI R x) (h:Ok i R Fr L):ShI R (x.step i):=by
  have ho:=new_ok hx h
  unfold ShS.step
  simp only
  by_cases hr:(x.new i).sets < 0
  · rw [if_pos hr]; exact hx
  rw [if_neg hr]
  have hset:0≤(x.new i).sets∧(x.new i).sets < R:=by
    have hs:kS (x.new i).kind=true:=by
      cases e:kS (x.new i).kind with
      | true=>rfl
      | false =>
        exfalso
        apply hr
        unfold Ins.sets
        rw [e]
        simp
    have hd:=ho.dst hs
    have:(x.new i).sets=(x.new i).dst:=by unfold Ins.sets; rw [hs]; rfl
    rw [this] at hr ⊢
    rcases hd with hd | hd <;> omega
  generalize hrr:(x.new i).sets=r at *
  have hy:ShI R (x.forget r):=by
    refine ⟨fun k a ha=>?_,fun k q hq=>?_⟩
    · unfold ShS.forget at ha
      simp only at ha
      split at ha
      · cases ha
      · exact hx.am k a ha
    · unfold ShS.forget at hq
      simp only at hq
      split at hq
      · cases hq
      · exact hx.has k q hq
  split
  · rename_i h4
    refine ⟨fun k a ha=>?_,hy.has⟩
    simp only at ha
    split at ha
    · rename_i hk
      injection ha with ha
      subst hk ha
      exact ⟨hset,hy.thr (ho.uses _ (by unfold Ins.uses; rw [h4.1]; simp [kA]))⟩
    · exact hy.am k a ha
  · split
    · rename_i h4 hm
      refine ⟨hy.am,fun k q hq=>?_⟩
      simp only at hq
      split at hq
      · rename_i hk
        injection hq with hq
        subst hk hq
        have hor:=read_ok hx h
        refine ⟨hset,?_,hor.uses⟩
        have:x.new i=x.read i:=by
          rcases new_cases x i with e | ⟨r',hr',hm',e⟩
          · exact e
          · rw [e] at hm
            have:=more_kind hm.1
            exact absurd rfl this.2.2
        rw [this] at hm
        exact hm.1
      · exact hy.has k q hq
    · exact hy
theorem shIn_inv {f:Fn7}(hf:OkF f):∀ p,p≤f.code.length→ShI f.R (shOut f.code p)
  | 0,_=>ShI.none _
  | p + 1,hp=>by
    rw [shOut_succ]
    refine step_inv ?_ (hf.ok _ (List.mem_of_getElem? (insD_in (by omega))))
    unfold shIn
    split
    · exact ShI.none _
    · exact shIn_inv hf p (by omega)
theorem shIn_inv' {f:Fn7}(hf:OkF f){p:Nat}(hp:p≤f.code.length):ShI f.R (shIn f.code p):=by
  unfold shIn
  split
  · exact ShI.none _
  · exact shIn_inv hf p hp
theorem shF_ok {f:Fn7}(hf:OkF f):OkF (shF f):=by
  have hl:(shF f).code.length=f.code.length:=shL_len _
  refine ⟨hf.nm,hf.ps,hf.R,hf.Fr,by rw [hl]; exact hf.len,fun i hi=>?_,fun i hi=>?_⟩
  · obtain ⟨p,hp⟩:=List.mem_iff_getElem?.1 hi
    have hlt:p < f.code.length:=by
      have:=(List.getElem?_eq_some_iff.1 hp).1
      rw [hl] at this; exact this
    have h1:=insD_in hlt
    have h2:(shL f.code)[p]? = some i:=hp
    rw [shL_at h1] at h2
    injection h2 with h2
    rw [← h2,hl]
    exact new_ok (shIn_inv' hf (by omega)) (hf.ok _ (List.mem_of_getElem? h1))
  · have hlt:f.code.length - 1 < f.code.length:=by have:=hf.len; omega
    rw [hl] at hi
    have h1:=insD_in hlt
    have h2:(shL f.code)[f.code.length - 1]? = some i:=hi
    rw [shL_at h1] at h2
    injection h2 with h2
    have hk:=hf.last _ h1
    rcases new_cases (shIn f.code (f.code.length - 1)) (insD f.code (f.code.length - 1)) with e | ⟨r,hr,hm,e⟩
    · rw [← h2,e]; exact hk
    · have:=pur_kind (more_kind hm).1
      have:(insD f.code (f.code.length - 1)).kind≤5:=this.2
      omega
theorem lstep_next {i:Ins}{R Fr:Int}{L:Nat}(hok:Ok i R Fr L){p:Nat}{base:Int}{ρ:List Int}{E E':Env}{q:Nat}{σ:List Int}(h:lstep i p base ρ E = .go q σ E'):(q:Int) ∈ i.next p∧∃ v,Put i v ρ σ:=by
  have:=fix_step (G:=fun _=>false) hok (ρ:=ρ) (ρ':=ρ) (fun _ _=>rfl) p p base E
  rw [h] at this
  obtain ⟨h1,_,_,v,h2,_⟩:=this
  exact ⟨h1,v,h2⟩
def sh_loc {f:Fn7} (hf:OkF f):Loc False f (shF f) where
  R:=fun base p ρ p' ρ'=>p'=p∧ρ'=ρ∧p < f.code.length∧ρ.length=f.R.toNat∧ShV base (shIn f.code p) ρ
  nm:=rfl
  ps:=rfl
  Rs:=rfl
  Fr:=rfl
  start:=fun base args hargs=>by
    have hR:=hf.R
    refine ⟨rfl,rfl,by have:=hf.len; omega,by simp; omega,?_⟩
    unfold shIn
    rw [if_pos (by unfold first; simp)]
    exact ShV.none _ _
  at_:=fun base p ρ p' ρ' h=>by
    obtain ⟨rfl,rfl,hp,_⟩:=h
    have hi:=insD_in hp
    exact ⟨_,_,hi,shL_at hi⟩
  go := fun p ρ p' ρ' i i' base E q σ E' h hi hi' hl=>by
    obtain ⟨rfl,rfl,hp,hlen,hv⟩:=h
    have hi2:(shL f.code)[p']? = some i':=hi'
    rw [shL_at hi] at hi2
    injection hi2 with hi2
    subst hi2
    have hok:=hf.ok i (List.mem_of_getElem? hi)
    have hx:=shIn_inv' hf (p:=p') (by omega)
    obtain ⟨hn,v,hput⟩:=lstep_next hok hl
    have hq:=hf.next hi q hn
    refine Or.inr ⟨q,σ,by rw [hv.new hx hok]; exact hl,rfl,rfl,by simpa using hq.2,?_,?_⟩
    · rw [hput]; split
      · rw [setd_len2]; exact hlen
      · exact hlen
    · unfold shIn
      cases hfq:first f.code q with
      | true=>exact ShV.none _ _
      | false =>
        -- then the step was to the next one
        have hk:¬ 11≤i.kind:=fun hk=>by
          have:first f.code q=true:=by
            unfold first
            rw [Bool.or_eq_true]
            refine Or.inr (List.any_eq_true.2 ⟨p',List.mem_range.2 hp,?_⟩)
            rw [insD_some hi]
            simp [hk,hn]
          rw [this] at hfq
          cases hfq
        rw [next_low hk] at hn
        have hq1:q=p' + 1:=by simp at hn; omega
        subst hq1
        simp only [Bool.false_eq_true,if_false]
        rw [shOut_succ,insD_some hi,hput]
        by_cases hp2:pur i=true
        · have e:=pur_val (read_ok hx hok) (show pur ((shIn f.code p').read i)=true from hp2) p' base ρ' E
          rw [hv.read i,hl] at e
          have hs:kS i.kind=true:=kS_small (by have:=pur_kind hp2; omega)
          have hst:=hv.step hx hok hlen (lval ((shIn f.code p').read i) base ρ') (fun _=>rfl)
          injection e with _ e2 _
          have e3:(if kS i.kind=true then setd i.dst v ρ' else ρ')=σ:=hput.symm
          rw [e3,e2]
          rw [if_pos hs] at hst
          exact hst
        · exact hv.step hx hok hlen v (fun h=>absurd h hp2)
  stop:=fun p ρ p' ρ' i i' base E c h hi hi' hl=>by
    obtain ⟨rfl,rfl,hp,hlen,hv⟩:=h
    have hi2:(shL f.code)[p']? = some i':=hi'
    rw [shL_at hi] at hi2
    injection hi2 with hi2
    subst hi2
    rw [hv.new (shIn_inv' hf (p:=p') (by omega)) (hf.ok i (List.mem_of_getElem? hi))]
    exact hl
  call:=fun p ρ p' ρ' i i' base E nm args d h hi hi' hl=>by
    obtain ⟨rfl,rfl,hp,hlen,hv⟩:=h
    have hi2:(shL f.code)[p']? = some i':=hi'
    rw [shL_at hi] at hi2
    injection hi2 with hi2
    subst hi2
    have hok:=hf.ok i (List.mem_of_getElem? hi)
    have hx:=shIn_inv' hf (p:=p') (by omega)
    obtain ⟨q1,_,_,q4⟩:=lstep_call hl
    refine ⟨by rw [hv.new hx hok]; exact hl,fun v=>⟨rfl,rfl,?_,by rw [setd_len2]; exact hlen,?_⟩⟩
    · have:=hf.next hi ((p' + 1:Nat):Int) (by rw [next_low (by omega)]; simp)
      simpa using this.2
    · unfold shIn
      cases hfq:first f.code (p' + 1) with
      | true=>exact ShV.none _ _
      | false =>
        simp only [Bool.false_eq_true,if_false]
        rw [shOut_succ,insD_some hi]
        have hst:=hv.step hx hok hlen v (fun h=>by have:=pur_kind h; omega)
        rw [if_pos (by rw [q1]; decide),← q4] at hst
        exact hst
  ret:=fun p ρ p' ρ' i i' base E v h hi hi' hl=>by
    obtain ⟨rfl,rfl,hp,hlen,hv⟩:=h
    have hi2:(shL f.code)[p']? = some i':=hi'
    rw [shL_at hi] at hi2
    injection hi2 with hi2
    subst hi2
    rw [hv.new (shIn_inv' hf (p:=p') (by omega)) (hf.ok i (List.mem_of_getElem? hi))]
    exact hl
end Go.Proofs.Ytkcclefonmnpnaa
namespace Go.Proofs.Ytkcclefonmnpnaa
theorem sh_tr {f:Fn7}(hf:OkF f):Tr False f (shF f):=by
  refine ⟨⟨sh_loc hf⟩,shF_ok hf,fun j hj hk=>?_⟩
  obtain ⟨p,hp⟩:=List.mem_iff_getElem?.1 hj
  have hlt:p < f.code.length:=by
    have:=(List.getElem?_eq_some_iff.1 hp).1
    rw [show (shF f).code.length=f.code.length from shL_len _] at this
    exact this
  have h1:=insD_in hlt
  have h2:(shL f.code)[p]? = some j:=hp
  rw [shL_at h1] at h2
  injection h2 with h2
  refine ⟨_,List.mem_of_getElem? h1,?_⟩
  rcases new_cases (shIn f.code p) (insD f.code p) with e | ⟨r,_,_,e⟩
  · rw [e] at h2
    rw [← h2] at hk ⊢
    exact ⟨hk,rfl,rfl⟩
  · rw [e] at h2
    rw [← h2] at hk
    cases hk
end Go.Proofs.Ytkcclefonmnpnaa

