import Derived.Test.YtkcclefonmnpnaaZkc
namespace Go.Proofs.Ytkcclefonmnpnaa
open Go.RowKit Go.BigFrame
theorem row_nil {M:List (List Vl)}{p:Nat}(h:M.length≤p):row M p=[]:=by simp [row,List.getD,h]
end Go.Proofs.Ytkcclefonmnpnaa
namespace Go.Proofs.Ytkcclefonmnpnaa
open Go.RowKit Go.BigFrame
theorem nextL_in {f:Fn7} (hf:OkF f) {p:Nat} {i:Ins} (hi:f.code[p]? = some i) {n:Int} (hn:n ∈ i.next p):0≤n∧n < f.code.length:=by
  have hp:p < f.code.length:=(List.getElem?_eq_some_iff.1 hi).1
  have h:=hf.ok _ (List.mem_of_getElem? hi)
  unfold Ins.next at hn
  split at hn
  · rename_i h11; simp at hn; subst hn; exact h.to_ (Or.inl h11)
  · split at hn
    · rename_i h12
      simp at hn
      rcases hn with rfl | rfl
      · exact h.to_ (Or.inr h12)
      · exact h.els h12
    · split at hn
      · simp at hn
      · rename_i h1 h2 h3
        simp at hn
        subst hn
        have hk:=h.kind
        have:p≠f.code.length - 1:=fun e=>by
          have:=hf.last i (by rw [← e]; exact hi)
          omega
        omega
end Go.Proofs.Ytkcclefonmnpnaa
namespace Go.Proofs.Ytkcclefonmnpnaa
open Go.RowKit Go.BigFrame
structure Strt (f:Fn7):Prop where
  okf:OkF f
  ps:f.ps=0
  kinds:∀ (p:Nat) (i:Ins),f.code[p]? = some i→(i.kind=1∨i.kind=3∨i.kind=13)
  last:∀ (p:Nat) (i:Ins),f.code[p]? = some i→i.kind=13→p + 1=f.code.length
  steady:∀ (p:Nat) (i:Ins),f.code[p]? = some i→i.kind=3→∀ a b,(dov i.op a b).2=true
def srow (f:Fn7):Nat→List Vl
  | 0=>ini f
  | p + 1=>upd (insAt f.code p) (srow f p)
def sM (f:Fn7):List (List Vl):=(List.range f.code.length).map (srow f)
theorem sM_at {f:Fn7}{p:Nat}(h:p < f.code.length):(sM f)[p]? = some (srow f p):=by simp [sM,h]
theorem sM_row {f:Fn7}{p:Nat}(h:p < f.code.length):row (sM f) p=srow f p:=row_some (sM_at h)
theorem srow_len (f:Fn7):∀ p,(srow f p).length=f.R.toNat
  | 0=>inil_len f
  | p + 1=>by show (upd _ _).length=_; rw [upd_len]; exact srow_len f p
theorem setV_kn {f:Fn7}(hs:Strt f){p:Nat}{i:Ins}(hi:f.code[p]? = some i){v:List Vl}(hv:kn v)(hl:v.length=f.R.toNat):(setV i v).2=true∧(i.kind≠13→(setV i v).1.k=1):=by
  have hok:=hs.okf.at_ hi
  rcases hs.kinds p i hi with e | e | e
  · unfold setV; rw [if_pos e]; exact ⟨rfl,fun _=>rfl⟩
  · have ha:=hok.a_in (by rw [e]; rfl)
    have hb:=hok.b_in (by rw [e]; rfl)
    have h1:=hv.at_ (r:=i.a.toNat) (by omega)
    have h2:=hv.at_ (r:=i.b.toNat) (by omega)
    have h3:(bval i v).k=1:=by unfold bval; rw [if_pos e]; exact h2
    unfold setV
    rw [if_neg (by omega),if_neg (by omega),if_pos (Or.inr e),if_neg (by omega)]
    exact ⟨hs.steady p i hi e _ _,fun _=>rfl⟩
  · unfold setV; rw [if_neg (by omega),if_neg (by omega),if_neg (by omega)]; exact ⟨rfl,fun h=>absurd e h⟩
theorem upd_kn {f:Fn7}(hs:Strt f){p:Nat}{i:Ins}(hi:f.code[p]? = some i){v:List Vl}(hv:kn v)(hl:v.length=f.R.toNat):kn (upd i v):=by
  unfold upd
  split
  · rename_i h0
    intro x hx
    rcases List.mem_or_eq_of_mem_set hx with hx | rfl
    · exact hv x hx
    · exact (setV_kn hs hi hv hl).2 (fun e=>by simp [Ins.sets,kS,e] at h0)
  · exact hv
theorem srow_kn {f:Fn7}(hs:Strt f):∀ p,p≤f.code.length→kn (srow f p)
  | 0,_=>fun x hx=>by
    obtain ⟨r,hr,rfl⟩:=List.mem_iff_getElem.1 hx
    have hr':r < f.R.toNat:=by rwa [show (srow f 0).length=_ from srow_len f 0] at hr
    have h:=ini_at hr'
    rw [at_in (by rw [inil_len]; exact hr')] at h
    rw [show (srow f 0)[r]=_ from h,if_neg (by rw [hs.ps]; omega)]
  | p + 1,h=>upd_kn hs (insAt_in (by omega)) (srow_kn hs p (by omega)) (srow_len f p)
theorem next_strt {f:Fn7}(hs:Strt f){p:Nat}{i:Ins}(hi:f.code[p]? = some i)(v:List Vl):nextV i p v=if i.kind=13 then [] else [(p:Int) + 1]:=by
  unfold nextV Ins.next
  rcases hs.kinds p i hi with e | e | e
  · rw [if_neg (by omega),if_neg (by omega),if_neg (by omega),if_neg (by omega)]
  · rw [if_neg (by omega),if_neg (by omega),if_neg (by omega),if_neg (by omega)]
  · rw [if_neg (by omega),if_neg (by omega),if_neg (by omega),if_pos e]
theorem sM_holds {f:Fn7} (hs:Strt f):Holds f (sM f):=by
  have h0:=hs.okf.len
  refine ⟨⟨by simp [sM],fun v hv=>?_⟩,by rw [sM_row (by omega)]; exact rle.refl _,fun p n u hE=>?_⟩
  · obtain ⟨p,hp,rfl⟩:=List.mem_map.1 hv
    have hp:p < f.code.length:=by simpa using hp
    exact ⟨srow_len f p,fun x hx=>(srow_kn hs p (by omega)).ok x hx |>.wf⟩
  · obtain ⟨i,v,h1,h2,h3,h4,h5,rfl⟩:=hE
    have hp:p < f.code.length:=(List.getElem?_eq_some_iff.1 h1).1
    rw [sM_at hp] at h2
    injection h2 with h2
    subst h2
    have e:insAt f.code p=i:=by have:=insAt_in hp; rw [h1] at this; injection this with this; exact this.symm
    have hin:=h5
    rw [next_strt hs h1] at h5
    split at h5
    · simp at h5
    · have hn:n=p + 1:=by simp at h5; omega
      subst hn
      have hlt:p + 1 < f.code.length:=by
        have hx:((p + 1:Nat):Int) ∈ i.next p:=by
          unfold nextV at hin
          rw [if_neg (by rcases hs.kinds p i h1 with e | e | e <;> omega)] at hin
          exact hin
        have:=nextL_in hs.okf h1 hx
        omega
      rw [sM_row hlt]
      show rle _ (upd (insAt f.code p) (srow f p))
      rw [e]
      exact rle.refl _
theorem sM_ans {f:Fn7} (hs:Strt f):Ans f (sM f):=by
  refine ⟨sM_holds hs,fun N hN=>?_⟩
  have key:∀ p,p < f.code.length→rle (srow f p) (row N p):=by
    intro p
    induction p with
    | zero=>exact fun _=>hN.start
    | succ p ih =>
      intro hp
      have hle:=ih (by omega)
      have hi:=insAt_in (l:=f.code) (p:=p) (by omega)
      have hok:=hs.okf.at_ hi
      have hk:=srow_kn hs p (by omega)
      have l2:=(hN.shp.at_ (p:=p) (by omega)).1
      have hs1:=(setV_kn hs hi hk (srow_len f p)).1
      have hm:=setV_mono hok hk.ok (srow_len f p) hle hs1
      have okN:=hle.rok hk.ok (by rw [srow_len,l2])
      by_cases h13:(insAt f.code p).kind=13
      · exact absurd (hs.last p _ hi h13) (by omega)
      · have hn:((p + 1:Nat):Int) ∈ nextV (insAt f.code p) p (upd (insAt f.code p) (row N p)):=by
          rw [next_strt hs hi,if_neg h13]; simp
        exact (upd_mono hok hk.ok (srow_len f p) l2 hle hs1).trans (hN.edge p (p + 1) _ ⟨_,row N p,hi,row_in (by rw [hN.shp.len]; omega),okN,hm.1,hn,rfl⟩)
  intro p
  by_cases hp:p < f.code.length
  · rw [sM_row hp]; exact key p hp
  · rw [row_nil (by simp [sM]; omega)]
    intro r
    have h0:at_ ([]:List Vl) r=nv:=at_out (by simp)
    rw [h0]; exact Or.inl rfl
end Go.Proofs.Ytkcclefonmnpnaa
namespace Go.Proofs.Ytkcclefonmnpnaa
theorem setd_len (d v:Int)(ρ:List Int):(setd d v ρ).length=ρ.length:=by unfold setd; split <;> simp
end Go.Proofs.Ytkcclefonmnpnaa
/- What is folded stands for a function (plain). -/
