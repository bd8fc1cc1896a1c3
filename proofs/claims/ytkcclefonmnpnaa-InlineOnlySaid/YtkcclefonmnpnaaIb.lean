import Derived.Test.YtkcclefonmnpnaaIa
namespace Go.Proofs.Ytkcclefonmnpnaa
def erI (i:Ins):Ins:={ i with to_:=0,els:=0 }
theorem erI_shI (p m:Nat)(i:Ins):erI (shI p m i)=erI i:=by
  unfold shI
  split
  · rfl
  · split <;> rfl
theorem smOf_er {sm:ByteArray→Option Fn7}{i j:Ins}(h:erI i=erI j):smOf sm i=smOf sm j:=by
  have h1:(erI i).kind=(erI j).kind:=by rw [h]
  have h2:(erI i).text=(erI j).text:=by rw [h]
  have h1:i.kind=j.kind:=h1
  have h2:i.text=j.text:=h2
  unfold smOf
  rw [h1,h2]
theorem erI_kind {i j:Ins}(h:erI i=erI j):i.kind=j.kind∧i.text=j.text∧i.n=j.n∧i.dst=j.dst:=by
  have h1:(erI i).kind=(erI j).kind:=by rw [h]
  have h2:(erI i).text=(erI j).text:=by rw [h]
  have h3:(erI i).n=(erI j).n:=by rw [h]
  have h4:(erI i).dst=(erI j).dst:=by rw [h]
  exact ⟨h1,h2,h3,h4⟩
def cntS (sm:ByteArray→Option Fn7)(l:List Ins):Nat:=(l.map fun i=>match smOf sm i with | some _=>1 | none=>0).sum
def regS' (sm:ByteArray→Option Fn7)(l:List Ins):Nat:=(l.map fun i=>match smOf sm i with | some g=>g.R.toNat | none=>0).sum
def linS (sm:ByteArray→Option Fn7)(l:List Ins):Nat:=(l.map fun i=>match smOf sm i with | some g=>atL g i.dst g.code.length - 1 | none=>0).sum
theorem placeL_done {C:List Ins}{p:Nat}{l:List Ins}(h:p < C.length)(q:Nat)(hq:q < p + l.length):(placeL C p l)[q]? = if q < p then (C[q]?).map (shI p l.length) else (l[q - p]?).map (upI p):=by
  unfold placeL
  have hl:((C.take p).map (shI p l.length)).length=p:=by simp; omega
  split
  · rename_i hqp
    rw [List.getElem?_append_left (by omega),List.getElem?_map,List.getElem?_take_of_lt hqp]
  · rename_i hqp
    rw [List.getElem?_append_right (by omega),hl,List.getElem?_append_left (by simp; omega),List.getElem?_map]
theorem placeL_rest {C:List Ins}{p:Nat}{l:List Ins}(h:p < C.length)(j:Nat):(placeL C p l)[p + l.length + j]? = (C[p + 1 + j]?).map (shI p l.length):=by
  unfold placeL
  have hl:((C.take p).map (shI p l.length)).length=p:=by simp; omega
  rw [List.getElem?_append_right (by omega),hl,List.getElem?_append_right (by simp; omega)]
  simp only [List.length_map,List.getElem?_map,List.getElem?_drop]
  rw [show p + 1 + (p + l.length + j - p - l.length)=p + 1 + j by omega]
structure InI (sm:ByteArray→Option Fn7)(f:Fn7)(k:Nat)(s:InS):Prop where
  ok:OkF ⟨f.nm,f.ps,s.R,f.Fr,s.C⟩
  le:s.p≤s.C.length
  rest:s.C.length - s.p=f.code.length - k
  sim:∀ j,(s.C[s.p + j]?).map erI=(f.code[k + j]?).map erI
  done:∀ q,q < s.p→∀ i,s.C[q]? = some i→smOf sm i=none
  from_:∀ i ∈ s.C,i.kind=8→∃ j ∈ f.code,erI j=erI i
  n:s.n=cntS sm (f.code.take k)
  R:s.R=f.R + regS' sm (f.code.take k)
  len:s.C.length=f.code.length + linS sm (f.code.take k)
theorem InI.start {sm:ByteArray→Option Fn7}{f:Fn7}(h:OkF f):InI sm f 0 ⟨f.code,0,f.R,0⟩ where
  ok:=h
  le:=Nat.zero_le _
  rest:=rfl
  sim:=fun j=>rfl
  done:=fun q hq=>absurd hq (Nat.not_lt_zero _)
  from_:=fun i hi _=>⟨i,hi,rfl⟩
  n:=rfl
  R:=by simp [regS']
  len:=by simp [linS]
theorem sum_step {α:Type}(w:α→Nat){l:List α}{k:Nat}{a:α}(h:l[k]? = some a):((l.take (k + 1)).map w).sum=((l.take k).map w).sum + w a:=by
  rw [List.take_add_one,h]
  simp
theorem oneB_kind {g:Fn7} (hg:SmallF g) {c:Ins} {b:Int}:∀ o ∈ bodyL g c b,o.kind≠8:=by
  intro o ho
  unfold bodyL preL at ho
  rcases List.mem_append.1 ho with ho | ho
  · obtain ⟨r,_,rfl⟩:=List.mem_map.1 ho
    unfold preI1
    split
    · simp [cpI]
    · simp [k0I]
  · obtain ⟨i,hi,ho⟩:=List.mem_flatMap.1 ho
    have h8:=hg.calls i hi
    unfold oneB at ho
    split at ho
    · rcases List.mem_append.1 ho with ho | ho
      · split at ho
        · rw [List.mem_singleton] at ho; rw [ho]; simp [cpI]
        · cases ho
      · rw [List.mem_singleton] at ho; rw [ho]; simp [jmpI]
    · split at ho
      · rw [List.mem_singleton] at ho; rw [ho]; exact h8
      · split at ho
        · rw [List.mem_singleton] at ho; rw [ho]; exact h8
        · rw [List.mem_singleton] at ho; rw [ho]; exact h8
theorem InI.step {sm:ByteArray→Option Fn7} {f:Fn7} {k:Nat} {s:InS} (h:InI sm f k s) (hk:k < f.code.length)
    (hsm:∀ i ∈ f.code,∀ g,smOf sm i=some g→SmallF g∧g.ps=i.n)
    (hcap:∀ i g,f.code[k]? = some i→smOf sm i=some g→s.C.length + atL g i.dst g.code.length≤8192∧s.R + g.R≤4096):InI sm f (k + 1) (inStep sm s):=by
  have hp:s.p < s.C.length:=by have:=h.rest; omega
  have hfk:f.code[k]? = some (f.code[k]'hk):=List.getElem?_eq_getElem hk
  have hsp:s.C[s.p]? = some (s.C[s.p]'hp):=List.getElem?_eq_getElem hp
  obtain ⟨i,hi⟩:∃ i,f.code[k]? = some i:=⟨_,hfk⟩
  obtain ⟨c,hc⟩:∃ c,s.C[s.p]? = some c:=⟨_,hsp⟩
  have hce:erI c=erI i:=by
    have:=h.sim 0
    simpa [hc,hi] using this
  have hso:=smOf_er (sm:=sm) hce
  have hsucc:∀ j,(s.C[s.p + 1 + j]?).map erI=(f.code[k + 1 + j]?).map erI:=fun j=>by
    have:=h.sim (1 + j)
    rw [show s.p + 1 + j=s.p + (1 + j) by omega,show k + 1 + j=k + (1 + j) by omega]
    exact this
  have hR':=h.rest
  unfold inStep
  rw [hc]
  simp only
  cases hs:smOf sm c with
  | none =>
    have hsi:smOf sm i=none:=by rw [← hso]; exact hs
    simp only
    exact {
      ok:=h.ok
      le:=hp
      rest:=by simp only; omega
      sim:=hsucc
      done:=fun q hq j hj=>by
        rcases Nat.lt_or_ge q s.p with hlt | hge
        · exact h.done q hlt j hj
        · obtain rfl:q=s.p:=by simp only at hq; omega
          rw [hc] at hj
          cases hj
          exact hs
      from_:=h.from_
      n:=by unfold cntS; rw [sum_step _ hi,hsi]; exact h.n
      R:=by unfold regS'; rw [sum_step _ hi,hsi]; exact h.R
      len:=by unfold linS; rw [sum_step _ hi,hsi]; exact h.len }
  | some g =>
    have hsi:smOf sm i=some g:=by rw [← hso]; exact hs
    obtain ⟨hG,hps⟩:=hsm i (List.mem_of_getElem? hi) g hsi
    obtain ⟨hc1,hc2⟩:=hcap i g hi hsi
    obtain ⟨k1,k2,k3,k4⟩:=erI_kind hce
    have hbl:=bodyL_len g c s.R
    rw [k4] at hbl
    have h8:c.kind=8:=by
      unfold smOf at hs
      split at hs
      · assumption
      · cases hs
    have hpos:0 < atL g i.dst g.code.length:=by
      have:=atL_lt g i.dst g.code.length 0 (by omega) (by have:=hG.ok.len; omega)
      rw [Nat.zero_add] at this
      omega
    have hpl:=placeL_len (l:=bodyL g c s.R) hp
    have hgR:=hG.ok.R
    have hgp:=hG.ok.ps
    simp only
    rw [if_neg (by omega)]
    exact {
      ok:=place_ok (f:=⟨f.nm,f.ps,s.R,f.Fr,s.C⟩) h.ok hc h8 hG (by rw [hps,k3]) hc2 (by simp only; omega)
      le:=by simp only; omega
      rest:=by simp only; omega
      sim:=fun j=>by
        simp only
        rw [placeL_rest hp,Option.map_map]
        rw [← hsucc j]
        congr 1
        funext x
        exact erI_shI _ _ x
      done:=fun q hq j hj=>by
        simp only at hq hj
        rw [placeL_done hp q hq] at hj
        split at hj
        · rename_i hqp
          cases hx:s.C[q]? with
          | none=>rw [hx] at hj; cases hj
          | some x =>
            rw [hx] at hj
            simp only [Option.map_some,Option.some.injEq] at hj
            rw [← hj,smOf_er (erI_shI _ _ x)]
            exact h.done q hqp x hx
        · cases hx:(bodyL g c s.R)[q - s.p]? with
          | none=>rw [hx] at hj; cases hj
          | some x =>
            rw [hx] at hj
            simp only [Option.map_some,Option.some.injEq] at hj
            have:=oneB_kind hG x (List.mem_of_getElem? hx)
            rw [← hj]
            unfold smOf
            rw [upI_kind,if_neg this]
      from_ := fun j hj h8'=>by
        simp only at hj
        unfold placeL at hj
        rcases List.mem_append.1 hj with hj | hj
        · obtain ⟨x,hx,rfl⟩:=List.mem_map.1 hj
          rw [shI_kind] at h8'
          obtain ⟨y,hy,e⟩:=h.from_ x (List.mem_of_mem_take hx) h8'
          exact ⟨y,hy,by rw [erI_shI]; exact e⟩
        · rcases List.mem_append.1 hj with hj | hj
          · obtain ⟨x,hx,rfl⟩:=List.mem_map.1 hj
            rw [upI_kind] at h8'
            exact absurd h8' (oneB_kind hG x hx)
          · obtain ⟨x,hx,rfl⟩:=List.mem_map.1 hj
            rw [shI_kind] at h8'
            obtain ⟨y,hy,e⟩:=h.from_ x (List.mem_of_mem_drop hx) h8'
            exact ⟨y,hy,by rw [erI_shI]; exact e⟩
      n:=by unfold cntS; rw [sum_step _ hi,hsi]; simp only; rw [h.n]; rfl
      R:=by
        unfold regS'
        rw [sum_step _ hi,hsi]
        simp only
        rw [h.R]
        unfold regS'
        omega
      len:=by
        unfold linS
        rw [sum_step _ hi,hsi]
        simp only
        have:=h.len
        unfold linS at this
        omega }
theorem sum_le {α:Type}(w:α→Nat)(b:Nat):∀ (l:List α),(∀ a ∈ l,w a≤b)→(l.map w).sum≤l.length * b
  | [],_=>by simp
  | a::l,h=>by
    have h1:=sum_le w b l fun x hx=>h x (List.mem_cons_of_mem _ hx)
    have h2:=h a (List.mem_cons_self ..)
    simp only [List.map_cons,List.sum_cons,List.length_cons,Nat.add_mul]
    omega
theorem atL_small {g:Fn7}(hg:SmallF g)(h40:g.R≤40)(d:Int):atL g d g.code.length≤64:=by
  unfold atL
  have h1:=sum_le (widI d) 2 (g.code.take g.code.length) fun i _=>by unfold widI; split <;> omega
  have h2:=hg.len
  rw [List.take_length] at h1
  have h3:=hg.ok.R
  rw [List.take_length]
  omega
theorem InI.all {sm:ByteArray→Option Fn7} {f:Fn7} (hf:OkF f) (h60:f.code.length≤60) (h40:f.R≤40) (hsm:∀ i ∈ f.code,∀ g,smOf sm i=some g→SmallF g∧g.ps=i.n∧g.R≤40) :
    ∀ k,k≤f.code.length→InI sm f k (inRun sm ⟨f.code,0,f.R,0⟩ k)
  | 0,_=>InI.start hf
  | k + 1,hk=>by
    have ih:=InI.all hf h60 h40 hsm k (by omega)
    refine ih.step (by omega) (fun i hi g hg=>⟨(hsm i hi g hg).1,(hsm i hi g hg).2.1⟩) fun i g hi hg=>?_
    obtain ⟨h1,h2,h3⟩:=hsm i (List.mem_of_getElem? hi) g hg
    have h4:=atL_small h1 h3 i.dst
    have hmem:∀ j ∈ f.code.take k,j ∈ f.code:=fun j hj=>List.mem_of_mem_take hj
    have e1:=ih.len
    have e2:=ih.R
    have b1:linS sm (f.code.take k)≤(f.code.take k).length * 64:=sum_le _ 64 _ fun j hj=>by
      split
      · rename_i g' hg'
        obtain ⟨q1,_,q3⟩:=hsm j (hmem j hj) g' hg'
        have:=atL_small q1 q3 j.dst
        show atL g' j.dst g'.code.length - 1≤64
        omega
      · omega
    have b2:regS' sm (f.code.take k)≤(f.code.take k).length * 40:=sum_le _ 40 _ fun j hj=>by
      split
      · rename_i g' hg'
        obtain ⟨q1,_,q3⟩:=hsm j (hmem j hj) g' hg'
        show g'.R.toNat≤40
        omega
      · omega
    have b3:(f.code.take k).length≤60:=by simp; omega
    constructor
    · rw [e1]
      have:(f.code.take k).length * 64≤60 * 64:=Nat.mul_le_mul_right _ b3
      omega
    · rw [e2]
      have:(f.code.take k).length * 40≤60 * 40:=Nat.mul_le_mul_right _ b3
      omega
end Go.Proofs.Ytkcclefonmnpnaa

