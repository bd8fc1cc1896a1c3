import Derived.Test.YtkcclefonmnpnaaWe
namespace Go.Proofs.Ytkcclefonmnpnaa
theorem findU_map (nm:ByteArray):∀ (l gs:List Fn7),gs.length=l.length→(∀ (k:Nat) f g,l[k]? = some f→gs[k]? = some g→g.nm=f.nm)→findU gs nm=findU l nm
  | [],[],_,_=>rfl
  | [],_::_,h,_=>by cases h
  | _::_,[],h,_=>by cases h
  | f::l,g::gs,hl,h=>by
    have h0:=h 0 f g rfl rfl
    have ih:=findU_map nm l gs (by simpa using hl) (fun k f' g' hf hg=>h (k + 1) f' g' (by simpa using hf) (by simpa using hg))
    unfold findU at ih ⊢
    simp only [List.findIdx?_cons,h0,ih]
theorem OkU.okC {u:Un7}(h:OkU u):OkC u where
  ok:=h.ok
  calls:=fun f hf i hi hk=>by
    have h1:=(h.ok f hf).ok i hi
    have hn:0≤i.n∧i.n≤6:=by
      have:=h1.call hk
      omega
    exact ⟨hn.1,hn.2,h.calls f hf i hi hk⟩
theorem OkU.swap {stay:Prop} {u:Un7} (hu:OkU u) (gs:List Fn7) (hlen:gs.length=u.funcs.length) (h:∀ (k:Nat) f g,u.funcs[k]? = some f→gs[k]? = some g→TrS stay f g):OkU { u with funcs:=gs }:=by
  have hfind:∀ nm,findU gs nm=findU u.funcs nm:=fun nm=>findU_map nm u.funcs gs hlen fun k f g hf hg=>(h k f g hf hg).nm.1
  have hget:∀ (k:Nat) g,gs[k]? = some g→∃ f,u.funcs[k]? = some f∧TrS stay f g:=fun k g hg=>by
    have hlt:=(List.getElem?_eq_some_iff.1 hg).1
    have hf:u.funcs[k]? = some (u.funcs[k]'(by omega)):=List.getElem?_eq_getElem (by omega)
    exact ⟨_,hf,h k _ g hf hg⟩
  have hmem:∀ g ∈ gs,∃ f ∈ u.funcs,TrS stay f g:=fun g hg=>by
    obtain ⟨k,hk⟩:=List.mem_iff_getElem?.1 hg
    obtain ⟨f,hf,ht⟩:=hget k g hk
    exact ⟨f,List.mem_of_getElem? hf,ht⟩
  exact {
    len:=by show gs.length≤64; rw [hlen]; exact hu.len
    top:=hu.top
    gl:=hu.gl
    ok:=fun g hg=>by
      obtain ⟨f,hf,ht⟩:=hmem g hg
      exact ht.ok (hu.ok f hf)
    one:=fun k g hg=>by
      obtain ⟨f,hf,ht⟩:=hget k g hg
      show findU gs g.nm=some k
      rw [hfind,ht.nm.1]
      exact hu.one k f hf
    calls:=fun g hg i hi hk=>by
      obtain ⟨f,hf,ht⟩:=hmem g hg
      obtain ⟨j,hj,e1,e2,e3⟩:=ht.calls i hi hk
      obtain ⟨k,f',h1,h2,h3⟩:=hu.calls f hf j hj e1
      have hlt:=(List.getElem?_eq_some_iff.1 h2).1
      have hg':gs[k]? = some (gs[k]'(by omega)):=List.getElem?_eq_getElem (by omega)
      refine ⟨k,_,?_,hg',?_⟩
      · show findU gs i.text=some k
        rw [hfind,← e2]
        exact h1
      · rw [(h k f' _ h2 hg').nm.2.1,h3,e3] }
def doesB (x y:Res):Prop :=
  if x.e≠4∧y.e≠4 then x=y
  else ¬ (x.e≠4∧x.out.length < y.out.length)∧¬ (y.e≠4∧y.out.length < x.out.length)∧x.out.take (min x.out.length y.out.length)=y.out.take (min x.out.length y.out.length)
theorem Fast.does {x y:Res}(h:Fast x y):doesB x y:=by
  unfold doesB
  obtain ⟨t,ht⟩:=h.2
  have hl:x.out.length≤y.out.length:=by rw [← ht]; simp
  by_cases hx:x.e≠4
  · have e:=h.1 hx
    rw [if_pos ⟨hx,by rw [e]; exact hx⟩,e]
  · rw [if_neg fun hh=>hx hh.1]
    refine ⟨fun hh=>hx hh.1,fun hh=>by omega,?_⟩
    rw [Nat.min_eq_left hl,← ht]
    simp
theorem lstep_out1 {i:Ins}{p:Nat}{base:Int}{ρ:List Int}{E E':Env}{p':Nat}{ρ':List Int}(h:lstep i p base ρ E = .go p' ρ' E'):E'.out.length≤E.out.length + 1:=by
  revert h
  apply lstep_ind (P:=fun d=>d = .go p' ρ' E'→E'.out.length≤E.out.length + 1)
  all_goals
    intros
    rename_i h
    first
      | (cases h; done)
      | (injection h with h1 h2 h3; subst h3; simp)
theorem ustep_out1 {u:Un7} {s s':List Fr7} {E E':Env} (h:ustep u s E = .inl (s',E')):E'.out.length≤E.out.length + 1:=by
  unfold ustep at h
  split at h
  · cases h
  · split at h
    · cases h
    · split at h
      · cases h
      · split at h
        · rename_i hl
          injection h with h; injection h with h1 h2; subst h2
          exact lstep_out1 hl
        · cases h
        · split at h
          · cases h
          · split at h
            · cases h
            · split at h
              · cases h
              · injection h with h; injection h with h1 h2; subst h2; omega
        · unfold backS at h
          split at h
          · cases h
          · injection h with h; injection h with h1 h2; subst h2; omega
theorem urun_out1 (u:Un7):∀ (n:Nat) (s:List Fr7) (E:Env),(urun u n s E).out.length≤E.out.length + n
  | 0,_,_=>by unfold urun; simp
  | n + 1,s,E=>by
    unfold urun
    split
    · rename_i s' E' h
      have h1:=urun_out1 u n s' E'
      have h2:=ustep_out1 h
      omega
    · rename_i r h
      rw [ustep_end h]
      omega
theorem runU_out (u:Un7) (inp:List Int) (n:Nat):(runU u inp n).out.length≤n:=by
  unfold runU
  split
  · simp
  · split
    · simp
    · split
      · simp
      · split
        · simp
        · exact Nat.le_trans (urun_out1 u n _ _) (by simp)
end Go.Proofs.Ytkcclefonmnpnaa

