import Derived.Test.YtkcclefonmnpnaaZe1
namespace Go.Proofs.Ytkcclefonmnpnaa
structure SmallF (f:Fn7):Prop where
  ok:OkF f
  fr:f.Fr=0
  len:f.code.length≤12
  calls:∀ i ∈ f.code,i.kind≠8
  next:∀ (p:Nat) i,f.code[p]? = some i→∀ n ∈ i.next p,(p:Int) < n
def cpI (d a:Int):Ins:=⟨4,0,d,a,0,0,⟨#[]⟩,0,0,0,0,0,0,0,-1⟩
def k0I (d:Int):Ins:=⟨1,0,d,0,0,0,⟨#[]⟩,0,0,0,0,0,0,0,-1⟩
def jmpI (t:Int):Ins:=⟨11,0,-1,0,0,0,⟨#[]⟩,0,0,0,0,0,0,t,-1⟩
def preI1 (g:Fn7)(c:Ins)(b:Int)(r:Nat):Ins:=if (r:Int) < g.ps then cpI (b + r) (c.args.getD r 0) else k0I (b + r)
def preL (g:Fn7)(c:Ins)(b:Int):List Ins:=(List.range g.R.toNat).map (preI1 g c b)
def widI (d:Int)(i:Ins):Nat:=if i.kind=13∧0≤d then 2 else 1
def atL (g:Fn7)(d:Int)(k:Nat):Nat:=g.R.toNat + ((g.code.take k).map (widI d)).sum
def movedI (b:Int)(i:Ins):Ins:={ i with dst:=if 0≤i.sets then b + i.dst else i.dst,a:=if kA i.kind then b + i.a else i.a,b:=if kB i.kind then b + i.b else i.b }
def oneB (g:Fn7)(c:Ins)(b:Int)(i:Ins):List Ins :=
  if i.kind=13 then (if 0≤c.dst then [cpI c.dst (b + i.a)] else [])++[jmpI (atL g c.dst g.code.length)]
  else if i.kind=11 then [{ i with to_:=atL g c.dst i.to_.toNat }]
  else if i.kind=12 then [{ i with a:=b + i.a,to_:=atL g c.dst i.to_.toNat,els:=atL g c.dst i.els.toNat }]
  else [movedI b i]
def bodyL (g:Fn7)(c:Ins)(b:Int):List Ins:=preL g c b++g.code.flatMap (oneB g c b)
theorem oneB_len (g:Fn7)(c:Ins)(b:Int)(i:Ins):(oneB g c b i).length=widI c.dst i:=by
  unfold oneB widI
  by_cases h:i.kind=13
  · by_cases hd:0≤c.dst
    · simp [h,hd]
    · simp [h,hd]
  · simp only [h,if_false,false_and]
    split
    · rfl
    · split <;> rfl
theorem flat_len {α β:Type}(f:α→List β)(w:α→Nat)(h:∀ a,(f a).length=w a):∀ l:List α,(l.flatMap f).length=(l.map w).sum
  | []=>rfl
  | a::l=>by simp [h a,flat_len f w h l]
theorem bodyL_len (g:Fn7)(c:Ins)(b:Int):(bodyL g c b).length=atL g c.dst g.code.length:=by
  unfold bodyL preL atL
  rw [List.length_append,List.length_map,List.length_range,flat_len _ _ (oneB_len g c b),List.take_length]
theorem widI_pos (d:Int)(i:Ins):1≤widI d i:=by unfold widI; split <;> omega
theorem atL_succ (g:Fn7)(d:Int){k:Nat}{i:Ins}(h:g.code[k]? = some i):atL g d (k + 1)=atL g d k + widI d i:=by
  unfold atL
  rw [List.take_add_one,h]
  simp [Nat.add_assoc]
theorem atL_lt (g:Fn7)(d:Int):∀ (m k:Nat),k + m≤g.code.length→0 < m→atL g d k < atL g d (k + m)
  | 0,_,_,h=>absurd h (Nat.lt_irrefl 0)
  | m + 1,k,hk,_=>by
    have hlt:k + m < g.code.length:=by omega
    have h1:=atL_succ g d (List.getElem?_eq_getElem hlt)
    have h2:=widI_pos d (g.code[k + m]'hlt)
    rw [show k + (m + 1)=k + m + 1 by omega,h1]
    rcases Nat.eq_zero_or_pos m with h | h
    · subst h; simp only [Nat.add_zero] at h2 ⊢; omega
    · have:=atL_lt g d m k (by omega) h
      omega
def shT (p m:Nat)(n:Int):Int:=if (p:Int) < n then n + m - 1 else n
def shI (p m:Nat)(i:Ins):Ins:=if i.kind=11 then { i with to_:=shT p m i.to_ } else if i.kind=12 then { i with to_:=shT p m i.to_,els:=shT p m i.els } else i
def upI (p:Nat)(i:Ins):Ins:=if i.kind=11 then { i with to_:=i.to_ + p } else if i.kind=12 then { i with to_:=i.to_ + p,els:=i.els + p } else i
def placeL (C:List Ins)(p:Nat)(l:List Ins):List Ins:=(C.take p).map (shI p l.length)++(l.map (upI p)++(C.drop (p + 1)).map (shI p l.length))
theorem placeL_len {C:List Ins}{p:Nat}{l:List Ins}(h:p < C.length):(placeL C p l).length + 1=C.length + l.length:=by
  simp [placeL]
  omega
structure InS where
  C:List Ins
  p:Nat
  R:Int
  n:Nat
def smOf (sm:ByteArray→Option Fn7)(i:Ins):Option Fn7:=if i.kind=8 then sm i.text else none
def inStep (sm:ByteArray→Option Fn7) (s:InS):InS :=
  match s.C[s.p]? with
  | none=>s
  | some i=>match smOf sm i with
    | none=>{ s with p:=s.p + 1 }
    | some g=>if 8192 < s.C.length + (bodyL g i s.R).length∨4096 < s.R + g.R then { s with p:=s.p + 1 } else ⟨placeL s.C s.p (bodyL g i s.R),s.p + (bodyL g i s.R).length,s.R + g.R,s.n + 1⟩
def inRun (sm:ByteArray→Option Fn7)(s:InS):Nat→InS
  | 0=>s
  | k + 1=>inStep sm (inRun sm s k)
theorem shI_kind (p m:Nat)(i:Ins):(shI p m i).kind=i.kind:=by
  unfold shI
  split
  · rfl
  · split <;> rfl
theorem upI_kind (p:Nat)(i:Ins):(upI p i).kind=i.kind:=by
  unfold upI
  split
  · rfl
  · split <;> rfl
theorem shT_ok {p m L:Nat}{n:Int}(hp:p < L)(hm:0 < m)(h:0≤n∧n < L):0≤shT p m n∧shT p m n < (L + m - 1:Nat):=by
  unfold shT
  split <;> omega
theorem Ok.turn {i j:Ins} {R Fr R' Fr':Int} {L L':Nat} (h:Ok i R Fr L) (hR:R≤R') (hF:Fr≤Fr') (hj:j={ i with to_:=j.to_,els:=j.els })
    (ht:i.kind=11∨i.kind=12→0≤j.to_∧j.to_ < L') (he:i.kind=12→0≤j.els∧j.els < L') (ht0:¬ (i.kind=11∨i.kind=12)→j.to_=i.to_) (he0:¬ i.kind=12→j.els=i.els):Ok j R' Fr' L':=by
  have e1:j.kind=i.kind:=by rw [hj]
  have e2:j.uses=i.uses:=by rw [hj]; rfl
  have e3:j.dst=i.dst:=by rw [hj]
  have e4:j.n=i.n:=by rw [hj]
  have e5:j.op=i.op:=by rw [hj]
  have e6:j.text=i.text:=by rw [hj]
  refine ⟨by rw [e1]; exact h.kind,fun r hr=>?_,fun hk=>?_,fun hk=>?_,fun hk=>?_,fun hk=>?_,fun hk=>?_,fun hk=>?_,fun hk=>ht (by rw [← e1]; exact hk),fun hk=>he (by rw [← e1]; exact hk),?_⟩
  · rw [e2] at hr
    have:=h.uses r hr
    omega
  · rw [e1] at hk
    have:=h.dst hk
    rw [e1,e3]
    omega
  · rw [e1] at hk; rw [e4]; exact h.word hk
  · rw [e1] at hk; rw [e4]; have:=h.fr hk; omega
  · rw [e1] at hk; rw [e4,e6]; exact h.call hk
  · rw [e1] at hk; rw [e5]; exact h.one hk
  · rw [e1] at hk; rw [e5]; exact h.two hk
  · have hm:=h.mask
    have m1:¬ (i.kind=11∨i.kind=12)→i.to_=0:=fun hn=>by rw [hm]; simp [Ins.mask,hn]
    have m2:¬ i.kind=12→i.els=-1:=fun hn=>by rw [hm]; simp [Ins.mask,hn]
    rw [hj]
    have hm':i.mask=i:=hm.symm
    unfold Ins.mask at hm' ⊢
    cases i
    simp only [Ins.mk.injEq,true_and] at hm' ⊢
    obtain ⟨a2,a3,a4,a5,a6,a7,a8,a9,a10,a11,a12,a13,a14,a15⟩:=hm'
    refine ⟨a2.symm,a3.symm,a4.symm,a5.symm,a6.symm,a7.symm,a8.symm,a9.symm,a10.symm,a11.symm,a12.symm,a13.symm,?_,?_⟩
    · split
      · rfl
      · rename_i hn
        rw [ht0 hn,m1 hn]
    · split
      · rfl
      · rename_i hn
        rw [he0 hn,m2 hn]
theorem shI_ok {i:Ins}{R Fr R':Int}{L p m:Nat}(h:Ok i R Fr L)(hR:R≤R')(hp:p < L)(hm:0 < m):Ok (shI p m i) R' Fr (L + m - 1):=by
  refine h.turn hR (Int.le_refl _) ?_ (fun hk=>?_) (fun hk=>?_) (fun hk=>?_) (fun hk=>?_)
  · unfold shI
    split
    · rfl
    · split <;> rfl
  · have:=shT_ok hp hm (h.to_ hk)
    unfold shI
    rcases hk with hk | hk
    · rw [if_pos hk]; exact this
    · rw [if_neg (by omega),if_pos hk]; exact this
  · have:=shT_ok hp hm (h.els hk)
    unfold shI
    rw [if_neg (by omega),if_pos hk]; exact this
  · unfold shI; rw [if_neg (fun h=>hk (Or.inl h)),if_neg (fun h=>hk (Or.inr h))]
  · unfold shI
    split
    · rfl
    · first | rfl | rw [if_neg hk]
theorem upI_ok {i:Ins}{R Fr:Int}{N L p:Nat}(h:Ok i R Fr N)(hN:p + N≤L):Ok (upI p i) R Fr L:=by
  refine h.turn (Int.le_refl _) (Int.le_refl _) ?_ (fun hk=>?_) (fun hk=>?_) (fun hk=>?_) (fun hk=>?_)
  · unfold upI
    split
    · rfl
    · split <;> rfl
  · have:=h.to_ hk
    unfold upI
    rcases hk with hk | hk
    · rw [if_pos hk]; simp only; omega
    · rw [if_neg (by omega),if_pos hk]; simp only; omega
  · have:=h.els hk
    unfold upI
    rw [if_neg (by omega),if_pos hk]; simp only; omega
  · unfold upI; rw [if_neg (fun h=>hk (Or.inl h)),if_neg (fun h=>hk (Or.inr h))]
  · unfold upI
    split
    · rfl
    · first | rfl | rw [if_neg hk]
theorem cpI_ok {d a R Fr:Int}{L:Nat}(hd:0≤d∧d < R)(ha:0≤a∧a < R):Ok (cpI d a) R Fr L where
  kind:=by simp [cpI]
  uses:=by intro r hr; simp [cpI,Ins.uses,kA,kB] at hr; rw [hr]; exact ha
  dst:=fun _=>Or.inl hd
  word:=by simp [cpI]
  fr:=by simp [cpI]
  call:=by simp [cpI]
  one:=by simp [cpI]
  two:=by simp [cpI]
  to_:=by simp [cpI]
  els:=by simp [cpI]
  mask:=by simp [cpI,Ins.mask,kA,kB,kS]
theorem k0I_ok {d R Fr:Int}{L:Nat}(hd:0≤d∧d < R):Ok (k0I d) R Fr L where
  kind:=by simp [k0I]
  uses:=by intro r hr; simp [k0I,Ins.uses,kA,kB] at hr
  dst:=fun _=>Or.inl hd
  word:=by simp [k0I]
  fr:=by simp [k0I]
  call:=by simp [k0I]
  one:=by simp [k0I]
  two:=by simp [k0I]
  to_:=by simp [k0I]
  els:=by simp [k0I]
  mask:=by simp [k0I,Ins.mask,kA,kB,kS]
theorem jmpI_ok {t R Fr:Int}{L:Nat}(ht:0≤t∧t < L):Ok (jmpI t) R Fr L where
  kind:=by simp [jmpI]
  uses:=by intro r hr; simp [jmpI,Ins.uses,kA,kB] at hr
  dst:=by simp [jmpI,kS]
  word:=by simp [jmpI]
  fr:=by simp [jmpI]
  call:=by simp [jmpI]
  one:=by simp [jmpI]
  two:=by simp [jmpI]
  to_:=fun _=>ht
  els:=by simp [jmpI]
  mask:=by simp [jmpI,Ins.mask,kA,kB,kS]
theorem movedI_ok {i:Ins} {R R' Fr' b:Int} {L L':Nat} (h:Ok i R 0 L) (h8:i.kind≠8) (hb:0≤b) (hR:b + R≤R') (hF:0≤Fr') (h11:i.kind≠11) (h12:i.kind≠12):Ok (movedI b i) R' Fr' L':=by
  have hd:kS i.kind=true→0≤i.dst∧i.dst < R:=fun hk=>by
    rcases h.dst hk with h1 | h1
    · exact h1
    · exact absurd h1.1 h8
  have hm:=h.mask
  have huA:kA i.kind=true→0≤i.a∧i.a < R:=fun hk=>h.uses _ (by simp [Ins.uses,hk])
  have huB:kB i.kind=true→0≤i.b∧i.b < R:=fun hk=>h.uses _ (by simp [Ins.uses,hk])
  refine ⟨h.kind,fun r hr=>?_,fun hk=>?_,h.word,fun hk=>?_,fun hk=>absurd hk h8,h.one,h.two,fun hk=>?_,fun hk=>absurd hk h12,?_⟩
  · have e:(movedI b i).uses=(if kA i.kind then [if kA i.kind then b + i.a else i.a] else [])++((if kB i.kind then [if kB i.kind then b + i.b else i.b] else [])++[]):=by
      unfold Ins.uses
      rw [if_neg (show ¬ (movedI b i).kind=8 from h8)]
      rfl
    rw [e] at hr
    simp only [List.mem_append] at hr
    rcases hr with hr | hr | hr
    · split at hr
      · rename_i hk
        simp only [List.mem_singleton] at hr
        have:=huA hk
        omega
      · cases hr
    · split at hr
      · rename_i hk
        simp only [List.mem_singleton] at hr
        have:=huB hk
        omega
      · cases hr
    · cases hr
  · left
    have hk':kS i.kind=true:=hk
    have h1:=hd hk'
    have hs:i.sets=i.dst:=by simp [Ins.sets,hk']
    simp only [movedI,hs,if_pos h1.1]
    omega
  · have hk':i.kind=5:=hk
    have h1:=h.fr hk'
    show 0≤i.n∧i.n≤Fr'
    omega
  · exact absurd hk (by show ¬ (i.kind=11∨i.kind=12); omega)
  · have m2:¬ kS i.kind=true→i.dst=-1:=fun hn=>by rw [hm]; simp [Ins.mask,hn]
    have m3:¬ kA i.kind=true→i.a=0:=fun hn=>by rw [hm]; simp [Ins.mask,hn]
    have m4:¬ kB i.kind=true→i.b=0:=fun hn=>by rw [hm]; simp [Ins.mask,hn]
    have m5:¬ kS i.kind=true→i.sets=-1:=fun hn=>by simp [Ins.sets,hn]
    have hm':i.mask=i:=hm.symm
    unfold Ins.mask at hm'
    unfold movedI Ins.mask
    cases i
    simp only [Ins.mk.injEq,true_and] at hm' ⊢
    obtain ⟨a2,a3,a4,a5,a6,a7,a8,a9,a10,a11,a12,a13,a14,a15⟩:=hm'
    refine ⟨a2.symm,?_,?_,?_,a6.symm,a7.symm,a8.symm,a9.symm,a10.symm,a11.symm,a12.symm,a13.symm,a14.symm,a15.symm⟩
    · split
      · rename_i hs _
        split
        · rfl
        · rename_i hn
          have:=m5 hn
          omega
      · split
        · rfl
        · rename_i hn; exact m2 hn
    · split
      · rfl
      · rename_i hn; exact m3 hn
    · split
      · rfl
      · rename_i hn; exact m4 hn
theorem args_uses {c:Ins}(h8:c.kind=8){r:Nat}(hr:(r:Int) < c.n)(h6:c.n≤6):c.args.getD r 0 ∈ c.uses:=by
  have h1:r < 6:=by omega
  have hl:c.args.length=6:=rfl
  simp only [Ins.uses,List.mem_append,h8,if_true]
  right; right
  rw [List.getD_eq_getElem?_getD,List.getElem?_eq_getElem (by omega),Option.getD_some]
  exact List.mem_take_iff_getElem.2 ⟨r,by omega,rfl⟩
theorem bodyL_ok {g:Fn7} {c:Ins} {R Fr:Int} {L:Nat} (hg:SmallF g) (hc:Ok c R Fr L) (h8:c.kind=8) (hn:g.ps=c.n) (hF:0≤Fr) (hR0:0≤R) {N:Nat} (hN:(bodyL g c R).length < N) :
    ∀ o ∈ bodyL g c R,Ok o (R + g.R) Fr N:=by
  have hps:=hg.ok.ps
  have hgR:=hg.ok.R
  have hcc:=hc.call h8
  have hlen:=bodyL_len g c R
  intro o ho
  unfold bodyL preL at ho
  rcases List.mem_append.1 ho with ho | ho
  · obtain ⟨r,hr,rfl⟩:=List.mem_map.1 ho
    have hr':=List.mem_range.1 hr
    unfold preI1
    split
    · rename_i hlt
      have:=hc.uses _ (args_uses h8 (r:=r) (by omega) hcc.2.1)
      exact cpI_ok (by omega) (by omega)
    · exact k0I_ok (by omega)
  · obtain ⟨i,hi,ho⟩:=List.mem_flatMap.1 ho
    have hok:=hg.ok.ok i hi
    have h8':=hg.calls i hi
    unfold oneB at ho
    have hall:∀ k,k≤g.code.length→atL g c.dst k≤atL g c.dst g.code.length:=fun k hk=>by
      rcases Nat.eq_or_lt_of_le hk with h | h
      · rw [h]; exact Nat.le_refl _
      · have:=atL_lt g c.dst (g.code.length - k) k (by omega) (by omega)
        rw [show k + (g.code.length - k)=g.code.length by omega] at this
        omega
    by_cases h13:i.kind=13
    · rw [if_pos h13] at ho
      have ha:=hok.uses i.a (by simp [Ins.uses,kA,h13])
      rcases List.mem_append.1 ho with ho | ho
      · split at ho
        · rename_i hd
          rw [List.mem_singleton] at ho
          rw [ho]
          have hcd:0≤c.dst∧c.dst < R:=by
            have:=hc.dst (by rw [h8]; rfl)
            omega
          exact cpI_ok (by omega) (by omega)
        · cases ho
      · rw [List.mem_singleton] at ho
        rw [ho]
        exact jmpI_ok (by omega)
    · rw [if_neg h13] at ho
      by_cases h11:i.kind=11
      · rw [if_pos h11,List.mem_singleton] at ho
        rw [ho]
        have ht:=hok.to_ (Or.inl h11)
        have h1:=hall i.to_.toNat (by omega)
        exact hok.turn (by omega) (by rw [hg.fr]; exact hF) rfl (fun _=>by simp only; omega) (fun h=>by omega) (fun h=>absurd (Or.inl h11) h) (fun _=>rfl)
      · rw [if_neg h11] at ho
        by_cases h12:i.kind=12
        · rw [if_pos h12,List.mem_singleton] at ho
          rw [ho]
          have ht:=hok.to_ (Or.inr h12)
          have he:=hok.els h12
          have h1:=hall i.to_.toNat (by omega)
          have h2:=hall i.els.toNat (by omega)
          have ha:=hok.uses i.a (by simp [Ins.uses,kA,h12])
          have hm:=hok.mask
          refine ⟨hok.kind,fun r hr=>?_,fun hk=>?_,fun hk=>?_,fun hk=>?_,fun hk=>?_,fun hk=>?_,fun hk=>?_,fun _=>by simp only; omega,fun _=>by simp only; omega,?_⟩
          · simp [Ins.uses,kA,kB,h12] at hr
            omega
          · simp [kS,h12] at hk
          · simp [h12] at hk
          · simp [h12] at hk
          · simp [h12] at hk
          · simp [h12] at hk
          · simp [h12] at hk
          · have hm':i.mask=i:=hm.symm
            unfold Ins.mask at hm' ⊢
            cases i
            simp only at h12
            subst h12
            simp [kA,kB,kS] at hm' ⊢
            exact ⟨hm'.1.symm,hm'.2.1.symm,hm'.2.2.1.symm,hm'.2.2.2.1.symm,hm'.2.2.2.2.1.symm,hm'.2.2.2.2.2.1.symm,hm'.2.2.2.2.2.2.1.symm,hm'.2.2.2.2.2.2.2.1.symm,hm'.2.2.2.2.2.2.2.2.1.symm,hm'.2.2.2.2.2.2.2.2.2.1.symm,hm'.2.2.2.2.2.2.2.2.2.2.symm⟩
        · rw [if_neg h12,List.mem_singleton] at ho
          rw [ho]
          have hok0:Ok i g.R 0 g.code.length:=by rw [← hg.fr]; exact hok
          exact movedI_ok hok0 h8' hR0 (by omega) hF h11 h12
theorem place_ok {f:Fn7} (hf:OkF f) {p:Nat} {c:Ins} (hi:f.code[p]? = some c) (h8:c.kind=8) {g:Fn7} (hg:SmallF g) (hn:g.ps=c.n) (hR:f.R + g.R≤4096) (hL:f.code.length + (bodyL g c f.R).length≤8192) :
    OkF ⟨f.nm,f.ps,f.R + g.R,f.Fr,placeL f.code p (bodyL g c f.R)⟩:=by
  have hps:=hf.ps
  have hfR:=hf.R
  have hgR:=hg.ok.R
  have hgp:=hg.ok.ps
  have hlen:=hf.len
  obtain ⟨hp,hpe⟩:=List.getElem?_eq_some_iff.1 hi
  have hpl:p < f.code.length - 1:=by
    rcases Nat.lt_or_ge p (f.code.length - 1) with h | h
    · exact h
    · have e:f.code.length - 1=p:=by omega
      have:=hf.last c (by rw [e]; exact hi)
      omega
  have hbl:=bodyL_len g c f.R
  have hm1:0 < (bodyL g c f.R).length:=by
    have:=atL_lt g c.dst g.code.length 0 (by omega) (by have:=hg.ok.len; omega)
    rw [Nat.zero_add] at this
    omega
  have hplen:=placeL_len (l:=bodyL g c f.R) hp
  have hL':(placeL f.code p (bodyL g c f.R)).length=f.code.length + (bodyL g c f.R).length - 1:=by omega
  refine ⟨hf.nm,hf.ps,⟨by simp only; omega,hR⟩,hf.Fr,⟨by simp only; omega,by simp only; omega⟩,fun i hi'=>?_,fun i hi'=>?_⟩
  · simp only at hi' ⊢
    rw [hL']
    unfold placeL at hi'
    rcases List.mem_append.1 hi' with h | h
    · obtain ⟨j,hj,rfl⟩:=List.mem_map.1 h
      exact shI_ok (hf.ok j (List.mem_of_mem_take hj)) (by omega) hp hm1
    · rcases List.mem_append.1 h with h | h
      · obtain ⟨j,hj,rfl⟩:=List.mem_map.1 h
        have:=bodyL_ok hg (hf.ok c (List.mem_of_getElem? hi)) h8 hn hf.Fr.1 (by omega) (N:=(bodyL g c f.R).length + 1) (Nat.lt_succ_self _) j hj
        exact upI_ok this (by omega)
      · obtain ⟨j,hj,rfl⟩:=List.mem_map.1 h
        exact shI_ok (hf.ok j (List.mem_of_mem_drop hj)) (by omega) hp hm1
  · simp only at hi'
    rw [hL'] at hi'
    unfold placeL at hi'
    rw [List.getElem?_append_right (by simp; omega),List.getElem?_append_right (by simp; omega)] at hi'
    simp only [List.length_map,List.length_take,List.getElem?_map,List.getElem?_drop] at hi'
    rw [show p + 1 + (f.code.length + (bodyL g c f.R).length - 1 - 1 - min p f.code.length - (bodyL g c f.R).length)=f.code.length - 1 by omega] at hi'
    cases hj:f.code[f.code.length - 1]? with
    | none=>rw [hj] at hi'; cases hi'
    | some j =>
      rw [hj] at hi'
      simp only [Option.map_some,Option.some.injEq] at hi'
      rw [← hi',shI_kind]
      exact hf.last j hj
end Go.Proofs.Ytkcclefonmnpnaa

