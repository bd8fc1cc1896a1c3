import Derived.Test.YtkcclefonmnpnaaIp
namespace Go.Proofs.Ytkcclefonmnpnaa
open Go.RowKit
theorem smOf_law {u:Un7}(hU:OkU u){k:Int}{f:Fn7}(hf:f ∈ u.funcs){i:Ins}(hi:i ∈ f.code)(h8:i.kind=8) :
    ∃ (a:Nat) (g:Fn7),findU u.funcs i.text=some a∧u.funcs[a]? = some g∧((((a:Int)≠k∧SmallF g)∧smOf (smTo u.funcs k u.funcs.length) i=some g)∨(¬ ((a:Int)≠k∧SmallF g)∧smOf (smTo u.funcs k u.funcs.length) i=none)):=by
  obtain ⟨a,g,h1,h2,_⟩:=hU.calls f hf i hi h8
  have hnm:g.nm=i.text:=by
    obtain ⟨g',h3,h4⟩:=findU_lt h1
    rw [h2] at h3
    injection h3 with h3
    rw [h3,h4]
  have hso:smOf (smTo u.funcs k u.funcs.length) i=smTo u.funcs k u.funcs.length i.text:=by unfold smOf; rw [if_pos h8]
  refine ⟨a,g,h1,h2,?_⟩
  by_cases hc:(a:Int)≠k∧SmallF g
  · left
    refine ⟨hc,?_⟩
    rw [hso,← hnm]
    exact smTo_in (one_nm hU) (List.getElem?_eq_some_iff.1 h2).1 h2 hc.1 hc.2
  · right
    refine ⟨hc,?_⟩
    rw [hso]
    cases hs:smTo u.funcs k u.funcs.length i.text with
    | none=>rfl
    | some g' =>
      obtain ⟨m1,m2,j,_,m3,m4⟩:=smTo_mem hs
      have:=one_nm hU a j g g' h2 m3 (by rw [hnm,m1])
      subst this
      rw [h2] at m3
      injection m3 with m3
      subst m3
      exact absurd ⟨m4,m2⟩ hc
end Go.Proofs.Ytkcclefonmnpnaa

