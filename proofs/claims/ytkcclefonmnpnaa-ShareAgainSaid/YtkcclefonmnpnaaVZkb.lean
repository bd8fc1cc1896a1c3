import Derived.Test.YtkcclefonmnpnaaVZka
import Derived.Test.YtkcclefonmnpnaaVZj
namespace Go.Proofs.Ytkcclefonmnpnaa
section
variable (i:Ins) (p:Nat) (base:Int) (ρ:List Int) (E:eX)
theorem LE (h:i.kind=1):aQ i p base ρ E = .go (p+1) (bB i.dst i.n ρ) E:=by unfold aQ;rw[if_pos h]
theorem IU (h:i.kind=2∨i.kind=3):aQ i p base ρ E=if (iN i.op (rg ρ i.a) (i.bv ρ)).2=true then .go (p+1) (bB i.dst (iN i.op (rg ρ i.a) (i.bv ρ)).1 ρ) E else .stop 2:=by unfold aQ;rw[if_neg (by omega),if_pos h]
theorem KE (h:i.kind=4):aQ i p base ρ E = .go (p+1) (bB i.dst (rg ρ i.a) ρ) E:=by unfold aQ;rw[if_neg (by omega),if_neg (by omega),if_pos h]
theorem LF (h:i.kind=5):aQ i p base ρ E = .go (p+1) (bB i.dst (base+i.n) ρ) E:=by unfold aQ;rw[if_neg (by omega),if_neg (by omega),if_neg (by omega),if_pos h]
theorem MV (h:i.kind=6):aQ i p base ρ E=if eJ (rg ρ i.a)<1∨4096≤eJ (rg ρ i.a) then .stop 1 else .go (p+1) (bB i.dst (E.mem.getD (eJ (rg ρ i.a)).toNat 0) ρ) E:=by
 unfold aQ;rw[if_neg (by omega),if_neg (by omega),if_neg (by omega),if_neg (by omega),if_pos h]
theorem MW (h:i.kind=7):aQ i p base ρ E=if eJ (rg ρ i.a)<1∨4096≤eJ (rg ρ i.a) then .stop 1 else .go (p+1) ρ { E with mem:=E.mem.set (eJ (rg ρ i.a)).toNat (rg ρ i.b) }:=by
 unfold aQ;rw[if_neg (by omega),if_neg (by omega),if_neg (by omega),if_neg (by omega),if_neg (by omega),if_pos h]
theorem MX (h:i.kind=8):aQ i p base ρ E = .call i.text ((i.args.take i.n.toNat).map (rg ρ)) i.dst:=by
 unfold aQ;rw[if_neg (by omega),if_neg (by omega),if_neg (by omega),if_neg (by omega),if_neg (by omega),if_neg (by omega),if_pos h]
theorem MY (h:i.kind=9):aQ i p base ρ E = .go (p+1) (bB i.dst (E.inp.headD (-1)) ρ) { E with inp:=E.inp.tail }:=by
 unfold aQ;rw[if_neg (by omega),if_neg (by omega),if_neg (by omega),if_neg (by omega),if_neg (by omega),if_neg (by omega),if_neg (by omega),if_pos h]
theorem KF (h:i.kind=10):aQ i p base ρ E = .go (p+1) ρ { E with out:=E.out++[eJ (rg ρ i.a) % 256] }:=by
 unfold aQ;rw[if_neg (by omega),if_neg (by omega),if_neg (by omega),if_neg (by omega),if_neg (by omega),if_neg (by omega),if_neg (by omega),if_neg (by omega),if_pos h]
theorem KG (h:i.kind=11):aQ i p base ρ E = .go i.to_.toNat ρ E:=by
 unfold aQ;rw[if_neg (by omega),if_neg (by omega),if_neg (by omega),if_neg (by omega),if_neg (by omega),if_neg (by omega),if_neg (by omega),if_neg (by omega),if_neg (by omega),if_pos h]
theorem KH (h:i.kind=12):aQ i p base ρ E = .go (if rg ρ i.a=0 then i.els.toNat else i.to_.toNat) ρ E:=by
 unfold aQ;rw[if_neg (by omega),if_neg (by omega),if_neg (by omega),if_neg (by omega),if_neg (by omega),if_neg (by omega),if_neg (by omega),if_neg (by omega),if_neg (by omega),if_neg (by omega),if_pos h]
theorem KI (h:¬ (1≤i.kind∧i.kind≤12)):aQ i p base ρ E = .ret (rg ρ i.a):=by
 unfold aQ;rw[if_neg (by omega),if_neg (by omega),if_neg (by omega),if_neg (by omega),if_neg (by omega),if_neg (by omega),if_neg (by omega),if_neg (by omega),if_neg (by omega),if_neg (by omega),if_neg (by omega)]
end
def BG (i:Ins)(v:Int)(ρ σ:List Int):Prop:=σ=if kS i.kind=true then bB i.dst v ρ else ρ
def nH (G:Nat→Bool)(i:Ins)(p p':Nat)(ρ ρ':List Int)(y:pY):pY→Prop
 | .go q σ E'=>(q:Int) ∈ i.next p∧∃ σ',y = .go (if i.kind<11 then p'+1 else cT G q) σ' E'∧∃ v,BG i v ρ σ∧BG i v ρ' σ'
 | x=>y=x
theorem jG {G:Nat→Bool}{i:Ins}{R Fr:Int}{L:Nat}(hok:Ok i R Fr L){ρ ρ':List Int}(h:∀ r ∈ i.uses,rg ρ r=rg ρ' r)(p p':Nat)(base:Int)(E:eX) :
  nH G i p p' ρ ρ' (aQ (cY G i) p' base ρ' E) (aQ i p base ρ E):=by
 have hA:kA i.kind=true→rg ρ i.a=rg ρ' i.a:=fun hk=>h _ (by simp[Ins.uses,hk])
 have hB:kB i.kind=true→rg ρ i.b=rg ρ' i.b:=fun hk=>h _ (by simp[Ins.uses,hk])
 have hk:=hok.kind
 have one:i.kind<11→((p+1:Nat):Int) ∈ i.next p:=fun hlt=>by
  rw[eC (by omega)];simp
 have put:∀ v,kS i.kind=true→∀ E':eX,nH G i p p' ρ ρ' (.go (p'+1) (bB i.dst v ρ') E') (.go (p+1) (bB i.dst v ρ) E'):=fun v hs E'=>by
  have hlt:i.kind<11:=by
   have:kS i.kind=true:=hs
   unfold kS at this
   simp at this
   omega
  exact⟨one hlt,_,by rw[if_pos hlt],v,by unfold BG;rw[if_pos hs],by unfold BG;rw[if_pos hs]⟩
 have keep:kS i.kind=false→i.kind<11→∀ E':eX,nH G i p p' ρ ρ' (.go (p'+1) ρ' E') (.go (p+1) ρ E'):=fun hs hlt E' =>
  ⟨one hlt,_,by rw[if_pos hlt],0,by unfold BG;rw[hs];rfl,by unfold BG;rw[hs];rfl⟩
 have cases:i.kind=1∨(i.kind=2∨i.kind=3)∨i.kind=4∨i.kind=5∨i.kind=6∨i.kind=7∨i.kind=8∨i.kind=9∨i.kind=10∨i.kind=11∨i.kind=12∨i.kind=13:=by omega
 rcases cases with k|k|k|k|k|k|k|k|k|k|k|k
 ·rw[LE i p base ρ E k,LE (cY G i) p' base ρ' E k]
  exact put _ (by rw[k];decide) _
 ·have e1:=hA (by rcases k with k | k <;> rw[k] <;> decide)
  have e2:(cY G i).bv ρ'=i.bv ρ:=by
   unfold Ins.bv
   show (if i.kind=3 then rg ρ' i.b else 0)=_
   by_cases h3:i.kind=3
   ·rw[if_pos h3,if_pos h3];exact (hB (by rw[h3];decide)).symm
   ·rw[if_neg h3,if_neg h3]
  rw[IU i p base ρ E k,IU (cY G i) p' base ρ' E k,e2]
  show nH G i p p' ρ ρ' (if (iN i.op (rg ρ' i.a) (i.bv ρ)).2=true then .go (p'+1) (bB i.dst (iN i.op (rg ρ' i.a) (i.bv ρ)).1 ρ') E else .stop 2) _
  rw[←e1]
  by_cases hd:(iN i.op (rg ρ i.a) (i.bv ρ)).2=true
  ·rw[if_pos hd,if_pos hd]
   exact put _ (by rcases k with k | k <;> rw[k] <;> decide) _
  ·rw[if_neg hd,if_neg hd]
   rfl
 ·rw[KE i p base ρ E k,KE (cY G i) p' base ρ' E k]
  show nH G i p p' ρ ρ' (.go (p'+1) (bB i.dst (rg ρ' i.a) ρ') E) _
  rw[←hA (by rw[k];decide)]
  exact put _ (by rw[k];decide) _
 ·rw[LF i p base ρ E k,LF (cY G i) p' base ρ' E k]
  exact put _ (by rw[k];decide) _
 ·rw[MV i p base ρ E k,MV (cY G i) p' base ρ' E k]
  show nH G i p p' ρ ρ' (if eJ (rg ρ' i.a)<1∨4096≤eJ (rg ρ' i.a) then _ else .go (p'+1) (bB i.dst (E.mem.getD (eJ (rg ρ' i.a)).toNat 0) ρ') E) _
  rw[←hA (by rw[k];decide)]
  by_cases hd:eJ (rg ρ i.a)<1∨4096≤eJ (rg ρ i.a)
  ·rw[if_pos hd,if_pos hd];rfl
  ·rw[if_neg hd,if_neg hd]
   exact put _ (by rw[k];decide) _
 ·rw[MW i p base ρ E k,MW (cY G i) p' base ρ' E k]
  show nH G i p p' ρ ρ' (if eJ (rg ρ' i.a)<1∨4096≤eJ (rg ρ' i.a) then _ else .go (p'+1) ρ' { E with mem:=E.mem.set (eJ (rg ρ' i.a)).toNat (rg ρ' i.b) }) _
  rw[←hA (by rw[k];decide),←hB (by rw[k];decide)]
  by_cases hd:eJ (rg ρ i.a)<1∨4096≤eJ (rg ρ i.a)
  ·rw[if_pos hd,if_pos hd];rfl
  ·rw[if_neg hd,if_neg hd]
   exact keep (by rw[k];decide) (by omega) _
 ·rw[MX i p base ρ E k,MX (cY G i) p' base ρ' E k]
  show pY.call i.text ((i.args.take i.n.toNat).map (rg ρ')) i.dst=_
  have:(i.args.take i.n.toNat).map (rg ρ')=(i.args.take i.n.toNat).map (rg ρ):=by
   apply List.map_congr_left
   intro r hr
   exact (h r (by simp[Ins.uses,k,hr])).symm
  rw[this]
 ·rw[MY i p base ρ E k,MY (cY G i) p' base ρ' E k]
  exact put _ (by rw[k];decide) _
 ·rw[KF i p base ρ E k,KF (cY G i) p' base ρ' E k]
  show nH G i p p' ρ ρ' (.go (p'+1) ρ' { E with out:=E.out++[eJ (rg ρ' i.a) % 256] }) _
  rw[←hA (by rw[k];decide)]
  exact keep (by rw[k];decide) (by omega) _
 ·rw[KG i p base ρ E k,KG (cY G i) p' base ρ' E k]
  have:=hok.to_ (Or.inl k)
  refine⟨by unfold Ins.next;rw[if_pos k];simp;omega,ρ',?_,0,by unfold BG;rw[k];rfl,by unfold BG;rw[k];rfl⟩
  rw[if_neg (by omega)]
  simp[cY,k]
 ·rw[KH i p base ρ E k,KH (cY G i) p' base ρ' E k]
  have h1:=hok.to_ (Or.inr k)
  have h2:=hok.els k
  have hnx:i.next p=[i.to_,i.els]:=by unfold Ins.next;rw[if_neg (by omega),if_pos k]
  refine⟨?_,ρ',?_,0,by unfold BG;rw[k];rfl,by unfold BG;rw[k];rfl⟩
  ·rw[hnx]
   by_cases h0:rg ρ i.a=0
   ·rw[if_pos h0];simp;omega
   ·rw[if_neg h0];simp;omega
  ·rw[if_neg (show ¬ i.kind<11 by omega)]
   show pY.go (if rg ρ' i.a=0 then (cY G i).els.toNat else (cY G i).to_.toNat) ρ' E=_
   rw[←hA (by rw[k];decide)]
   by_cases h0:rg ρ i.a=0
   ·rw[if_pos h0,if_pos h0];simp[cY,k]
   ·rw[if_neg h0,if_neg h0];simp[cY,k]
 ·rw[KI i p base ρ E (by omega),KI (cY G i) p' base ρ' E (by show ¬ (1≤i.kind∧i.kind≤12);omega)]
  show pY.ret (rg ρ' i.a)=pY.ret (rg ρ i.a)
  rw[←hA (by rw[k];decide)]
theorem lD {op:Int}(h:(20≤op∧op≤23)∨mG op=true)(a b:Int):(iN op a b).2=true:=by
 have h:(20≤op∧op≤23)∨(1≤op∧op≤23∧¬ (4≤op∧op≤7)):=by
  rcases h with h|h
  ·exact Or.inl h
  ·exact Or.inr (of_decide_eq_true h)
 have:op=1∨op=2∨op=3∨op=8∨op=9∨op=10∨op=11∨op=12∨op=13∨op=14∨op=15∨op=16∨op=17∨op=18∨op=19∨op=20∨op=21∨op=22∨op=23:=by omega
 rcases this with e|e|e|e|e|e|e|e|e|e|e|e|e|e|e|e|e|e|e <;> subst e <;> rfl
theorem lF {i:Ins}{R Fr:Int}{L:Nat}(hok:Ok i R Fr L)(hp:mH i=true)(p:Nat)(base:Int)(ρ:List Int)(E:eX):kS i.kind=true∧∃ v,aQ i p base ρ E = .go (p+1) (bB i.dst v ρ) E:=by
 unfold mH at hp
 simp only[Bool.or_eq_true,decide_eq_true_eq,Bool.and_eq_true] at hp
 have cases:i.kind=1∨i.kind=2∨(i.kind=3∧mG i.op=true)∨i.kind=4∨i.kind=5:=by
  rcases hp with (h|h|h|h)|h
  ·exact Or.inl h
  ·exact Or.inr (Or.inl h)
  ·exact Or.inr (Or.inr (Or.inr (Or.inl h)))
  ·exact Or.inr (Or.inr (Or.inr (Or.inr h)))
  ·exact Or.inr (Or.inr (Or.inl h))
 rcases cases with k|k|⟨k,hs⟩|k|k
 ·exact⟨by rw[k];decide,_,LE i p base ρ E k⟩
 ·exact⟨by rw[k];decide,_,by rw[IU i p base ρ E (Or.inl k),if_pos (lD (Or.inl (hok.one k)) _ _)]⟩
 ·exact⟨by rw[k];decide,_,by rw[IU i p base ρ E (Or.inr k),if_pos (lD (Or.inr hs) _ _)]⟩
 ·exact⟨by rw[k];decide,_,KE i p base ρ E k⟩
 ·exact⟨by rw[k];decide,_,LF i p base ρ E k⟩
theorem eT (d v:Int)(ρ:List Int):(bB d v ρ).length=ρ.length:=by unfold bB;split <;> simp
theorem gR {d r:Int}(v:Int)(ρ:List Int)(hr:0≤r)(h:d≠r):rg (bB d v ρ) r=rg ρ r:=by
 unfold rg bB
 by_cases hd:0≤d
 ·rw[if_pos hd,List.getD_eq_getElem?_getD,List.getElem?_set_ne (by omega),←List.getD_eq_getElem?_getD]
 ·rw[if_neg hd]
theorem xG {d:Int}(v:Int){ρ ρ':List Int}(hl:ρ.length=ρ'.length)(hd:0≤d):rg (bB d v ρ) d=rg (bB d v ρ') d:=by
 unfold rg bB
 rw[if_pos hd,if_pos hd,List.getD_eq_getElem?_getD,List.getD_eq_getElem?_getD,List.getElem?_set,List.getElem?_set]
 simp[hl]
def BH {G:Nat→Bool}{f:aR}(hf:OkF f)(hgone:∀ p i,f.code[p]? = some i→Rch f.code p→G p=true→mH i=true∧¬ Bh f.code p i.dst)
  (hlow:∀ p,Rch f.code p→cT G p<cT G f.code.length):Loc True f (wF G f) where
 R:=fun _ p ρ p' ρ'=>Rch f.code p∧p'=cT G p∧ρ.length=ρ'.length∧∀ r,Lv f.code p r→rg ρ r=rg ρ' r
 nm:=rfl
 ps:=rfl
 Rs:=rfl
 Fr:=rfl
 start:=fun _ args hargs=>⟨Rch.zero (by have:=hf.len;omega),rfl,rfl,fun _ _=>rfl⟩
 at_:=fun _ p ρ p' ρ' h=>by
  obtain⟨hr,rfl,_,_⟩:=h
  refine⟨_,_,cH (hr.lt hf),cH ?_⟩
  show cT G p<(cZ G f.code).length
  rw[dS]
  exact hlow p hr
 go:=fun p ρ p' ρ' i i' base E q σ E' h hi hi' hl=>by
  obtain⟨hr,rfl,hlen,hv⟩:=h
  have hok:=hf.ok i (Mz hi)
  cases hG:G p with
  | true =>
   obtain⟨h1,h2⟩:=hgone p i hi hr hG
   obtain⟨hs,v,h3⟩:=lF hok h1 p base ρ E
   rw[h3] at hl
   injection hl with e1 e2 e3
   subst e1 e2 e3
   have hlt:i.kind<11:=by
    unfold kS at hs
    simp at hs
    omega
   have hn:((p+1:Nat):Int) ∈ i.next p:=by rw[eC (by omega)];simp
   refine Or.inl ⟨trivial,rfl,by simpa using Rch.step hr hi hn,by rw[dH,hG];rfl,by rw[eT];exact hlen,fun r hrl=>?_⟩
   have hne:i.dst≠r:=fun e=>h2 ⟨i,hi,_,hn,by rw[e];simpa using hrl⟩
   have hb:=Lv.bound hf hrl
   rw[gR v ρ hb.1.1 hne]
   refine hv r (Lv.step hi hn ?_ (by simpa using hrl))
   unfold Ins.sets
   rw[if_pos hs]
   exact hne
  | false =>
   have hw:=jF hi hG
   have hi':(cZ G f.code)[cT G p]? = some i':=hi'
   rw[hw] at hi'
   injection hi' with hi'
   subst hi'
   have ha:=jG (G:=G) hok (ρ:=ρ) (ρ':=ρ') (fun r hr=>hv r (Lv.use hi hr)) p (cT G p) base E
   rw[hl] at ha
   obtain⟨hn,σ',he,v,hp1,hp2⟩:=ha
   refine Or.inr ⟨_,σ',he,by simpa using Rch.step hr hi hn,?_,?_,fun r hrl=>?_⟩
   ·split
    ·rename_i hk
     rw[eC (by omega)] at hn
     have:q=p+1:=by simp at hn;omega
     rw[this,dH,hG];rfl
    ·rfl
   ·rw[hp1,hp2]
    split
    ·rw[eT,eT];exact hlen
    ·exact hlen
   ·have hb:=Lv.bound hf hrl
    rw[hp1,hp2]
    by_cases hs:kS i.kind=true
    ·rw[if_pos hs,if_pos hs]
     by_cases hd:i.dst=r
     ·subst hd;exact xG v hlen hb.1.1
     ·rw[gR v ρ hb.1.1 hd,gR v ρ' hb.1.1 hd]
      exact hv r (Lv.step hi hn (by unfold Ins.sets;rw[if_pos hs];exact hd) (by simpa using hrl))
    ·rw[if_neg hs,if_neg hs]
     exact hv r (Lv.step hi hn (by unfold Ins.sets;rw[if_neg hs];omega) (by simpa using hrl))
 stop:=fun p ρ p' ρ' i i' base E c h hi hi' hl=>by
  obtain⟨hr,rfl,hlen,hv⟩:=h
  have hok:=hf.ok i (Mz hi)
  cases hG:G p with
  | true =>
   obtain⟨h1,h2⟩:=hgone p i hi hr hG
   obtain⟨hs,v,h3⟩:=lF hok h1 p base ρ E
   rw[h3] at hl
   cases hl
  | false =>
   have hw:=jF hi hG
   have hi':(cZ G f.code)[cT G p]? = some i':=hi'
   rw[hw] at hi'
   injection hi' with hi'
   subst hi'
   have ha:=jG (G:=G) hok (ρ:=ρ) (ρ':=ρ') (fun r hr=>hv r (Lv.use hi hr)) p (cT G p) base E
   rw[hl] at ha
   exact ha
 call:=fun p ρ p' ρ' i i' base E nm args d h hi hi' hl=>by
  obtain⟨hr,rfl,hlen,hv⟩:=h
  have hok:=hf.ok i (Mz hi)
  cases hG:G p with
  | true =>
   obtain⟨h1,h2⟩:=hgone p i hi hr hG
   obtain⟨hs,v,h3⟩:=lF hok h1 p base ρ E
   rw[h3] at hl
   cases hl
  | false =>
   have hw:=jF hi hG
   have hi':(cZ G f.code)[cT G p]? = some i':=hi'
   rw[hw] at hi'
   injection hi' with hi'
   subst hi'
   have ha:=jG (G:=G) hok (ρ:=ρ) (ρ':=ρ') (fun r hr=>hv r (Lv.use hi hr)) p (cT G p) base E
   rw[hl] at ha
   obtain⟨q1,_,_,q4⟩:=fS hl
   have hn:((p+1:Nat):Int) ∈ i.next p:=by rw[eC (by omega)];simp
   have hs:kS i.kind=true:=by rw[q1];decide
   refine⟨ha,fun v=>⟨by simpa using Rch.step hr hi hn,by rw[dH,hG];rfl,by rw[eT,eT];exact hlen,fun r hrl=>?_⟩⟩
   have hb:=Lv.bound hf hrl
   by_cases hd:d=r
   ·subst hd;exact xG v hlen hb.1.1
   ·rw[gR v ρ hb.1.1 hd,gR v ρ' hb.1.1 hd]
    exact hv r (Lv.step hi hn (by unfold Ins.sets;rw[if_pos hs,←q4];exact hd) (by simpa using hrl))
 ret:=fun p ρ p' ρ' i i' base E v h hi hi' hl=>by
  obtain⟨hr,rfl,hlen,hv⟩:=h
  have hok:=hf.ok i (Mz hi)
  cases hG:G p with
  | true =>
   obtain⟨h1,h2⟩:=hgone p i hi hr hG
   obtain⟨hs,v,h3⟩:=lF hok h1 p base ρ E
   rw[h3] at hl
   cases hl
  | false =>
   have hw:=jF hi hG
   have hi':(cZ G f.code)[cT G p]? = some i':=hi'
   rw[hw] at hi'
   injection hi' with hi'
   subst hi'
   have ha:=jG (G:=G) hok (ρ:=ρ) (ρ':=ρ') (fun r hr=>hv r (Lv.use hi hr)) p (cT G p) base E
   rw[hl] at ha
   exact ha
theorem rY {G:Nat→Bool}{f:aR}(hf:OkF f)(hgone:∀ p i,f.code[p]? = some i→Rch f.code p→G p=true→¬ 11≤i.kind):∀ (n p:Nat),f.code.length-p=n→Rch f.code p→cT G p<cT G f.code.length
 | n,p,hn,hr=>by
  have hp:=hr.lt hf
  cases hG:G p with
  | false=>exact mJ G hp hG
  | true =>
   have hi:=cH hp
   have hk:=hgone p _ hi hr hG
   have h2:=Rch.step hr hi (n:=(p:Int)+1) (by rw[eC hk];simp)
   have h2:Rch f.code (p+1):=by simpa using h2
   have:=rY hf hgone (f.code.length-(p+1)) (p+1) rfl h2
   rw[dH,hG] at this
   exact this
termination_by n _=>n
decreasing_by omega
noncomputable def GW {f:aR}(hf:OkF f):Loc True f (uF f) :=
 BH hf (fun _ _ _ hr hG=>by rw[eD.2 hr] at hG;cases hG) (fun p hr=>rY hf (fun _ _ _ hr hG=>by rw[eD.2 hr] at hG;cases hG) _ p rfl hr)
noncomputable def GX {f:aR}(hf:OkF f):Loc True f (dF f) :=
 BH hf (fun _ _ hi _ hG=>(mI hi).1 hG) (fun p hr=>rY hf (fun _ _ hi _ hG=>BB hi hG) _ p rfl hr)
structure ShS where
 am:Int→Option Int
 has:Ins→Option Int
def ShS.none:ShS:=⟨fun _=>.none,fun _=>.none⟩
def ShS.thr (x:ShS)(r:Int):Int:=(x.am r).getD r
def ShS.read (x:ShS)(i:Ins):Ins :=
 { i with
  a:=if kA i.kind=true then x.thr i.a else i.a,b:=if kB i.kind=true then x.thr i.b else i.b,
  r0:=if i.kind=8∧0<i.n then x.thr i.r0 else i.r0,r1:=if i.kind=8∧1<i.n then x.thr i.r1 else i.r1,r2:=if i.kind=8∧2<i.n then x.thr i.r2 else i.r2,
  r3:=if i.kind=8∧3<i.n then x.thr i.r3 else i.r3,r4:=if i.kind=8∧4<i.n then x.thr i.r4 else i.r4,r5:=if i.kind=8∧5<i.n then x.thr i.r5 else i.r5 }
def ShS.forget (x:ShS)(r:Int):ShS :=
 ⟨fun k=>if k=r∨x.am k=some r then .none else x.am k,fun i=>if x.has i=some r∨r ∈ i.uses then .none else x.has i⟩
def fA (i:Ins):Ins:={ i with dst:=0 }
def tU (d a:Int):Ins:=⟨4,0,d,a,0,0,⟨#[]⟩,0,0,0,0,0,0,0,-1⟩
def more (i:Ins):Bool:=mH i && decide (1<i.kind) && decide (i.kind≠4)
def ShS.new (x:ShS)(i:Ins):Ins :=
 match x.has (fA (x.read i)) with
 | some r=>if more (x.read i)=true then tU i.dst r else x.read i
 | .none=>x.read i
def ShS.step (x:ShS)(i:Ins):ShS :=
 let o:=x.new i
 let r:=o.sets
 if r<0 then x
 else
  let y:=x.forget r
  if o.kind=4∧o.a≠r then ⟨fun k=>if k=r then some (y.thr o.a) else y.am k,y.has⟩
  else if more o=true∧r ∉ o.uses then ⟨y.am,fun k=>if k=fA (x.read i) then some r else y.has k⟩
  else y
def first (l:List Ins)(p:Nat):Bool :=
 decide (p=0) || (List.range l.length).any fun q=>decide (11≤(bA l q).kind) && (decide (q+1=p) || decide ((p:Int) ∈ (bA l q).next q))
def lG (l:List Ins):Nat→ShS
 | 0=>ShS.none
 | p+1=>(if first l p=true then ShS.none else lG l p).step (bA l p)
def fI (l:List Ins)(p:Nat):ShS:=if first l p=true then ShS.none else lG l p
theorem iC (l:List Ins)(p:Nat):lG l (p+1)=(fI l p).step (bA l p):=rfl
def pZ (l:List Ins):List Ins:=(List.range l.length).map fun p=>(fI l p).new (bA l p)
def kP (l:List Ins)(k:Nat):Nat:=((List.range k).filter fun p=>decide ((fI l p).new (bA l p)≠bA l p)).length
def iP (f:aR):aR:={ f with code:=pZ f.code }
theorem fJ (l:List Ins):(pZ l).length=l.length:=by simp[pZ]
theorem iD {l:List Ins}{p:Nat}{i:Ins}(h:l[p]? = some i):(pZ l)[p]? = some ((fI l p).new i):=by
 have hp:=(Lz h).1
 simp[pZ,hp,gQ h]
structure ShI (R:Int)(x:ShS):Prop where
 am:∀ r a,x.am r=some a→(0≤r∧r<R)∧0≤a∧a<R
 has:∀ k r,x.has k=some r→(0≤r∧r<R)∧more k=true∧∀ u ∈ k.uses,0≤u∧u<R
theorem ShI.none (R:Int):ShI R ShS.none:=⟨fun _ _ h=>(by simp[ShS.none] at h),fun _ _ h=>(by simp[ShS.none] at h)⟩
theorem ShI.thr {R:Int}{x:ShS}(h:ShI R x){r:Int}(h0:0≤r∧r<R):0≤x.thr r∧x.thr r<R:=by
 unfold ShS.thr
 cases ha:x.am r with
 | none=>exact h0
 | some a=>exact (h.am r a ha).2
theorem yZ {x:ShS}{i:Ins}(hk:i.kind=8→0≤i.n∧i.n≤6):(x.read i).uses=i.uses.map x.thr:=by
 obtain⟨k,op,dst,a,b,n,text,r0,r1,r2,r3,r4,r5,to_,els⟩:=i
 unfold Ins.uses ShS.read
 simp only[List.map_append]
 by_cases h8:k=8
 ·subst h8
  obtain⟨h0,h6⟩:=hk rfl
  simp only at h0 h6
  have:n=0∨n=1∨n=2∨n=3∨n=4∨n=5∨n=6:=by omega
  rcases this with e|e|e|e|e|e|e <;> subst e <;> simp[Ins.args,kA,kB]
 ·simp only[h8,if_false]
  cases hA:kA k <;> cases hB:kB k <;> simp
theorem lH {x:ShS}{i:Ins}{R Fr:Int}{L:Nat}(hx:ShI R x)(h:Ok i R Fr L):Ok (x.read i) R Fr L:=by
 have hu:=yZ (x:=x) (i:=i) (fun hk=>by have:=h.call hk;omega)
 refine⟨h.kind,fun r hr=>?_,h.dst,h.word,h.fr,h.call,h.one,h.two,h.to_,h.els,?_⟩
 ·rw[hu] at hr
  obtain⟨u,hu',rfl⟩:=List.mem_map.1 hr
  exact hx.thr (h.uses u hu')
 ·have hm:=h.mask
  obtain⟨k,op,dst,a,b,n,text,r0,r1,r2,r3,r4,r5,to_,els⟩:=i
  unfold Ins.mask at hm ⊢
  unfold ShS.read
  simp only[Ins.mk.injEq,true_and] at hm ⊢
  obtain⟨m1,m2,m3,m4,m5,m6,m7,m8,m9,m10,m11,m12,m13,m14⟩:=hm
  refine⟨m1,m2,?_,?_,m5,m6,?_,?_,?_,?_,?_,?_,m13,m14⟩
  ·cases hA:kA k <;> simp only[hA,if_true,Bool.false_eq_true,if_false] at m3 ⊢
   exact m3
  ·cases hB:kB k <;> simp only[hB,if_true,Bool.false_eq_true,if_false] at m4 ⊢
   exact m4
  ·by_cases e:k=8∧0<n <;> simp only[e,if_false] at m7 ⊢;all_goals first | exact m7 | trivial
  ·by_cases e:k=8∧1<n <;> simp only[e,if_false] at m8 ⊢;all_goals first | exact m8 | trivial
  ·by_cases e:k=8∧2<n <;> simp only[e,if_false] at m9 ⊢;all_goals first | exact m9 | trivial
  ·by_cases e:k=8∧3<n <;> simp only[e,if_false] at m10 ⊢;all_goals first | exact m10 | trivial
  ·by_cases e:k=8∧4<n <;> simp only[e,if_false] at m11 ⊢;all_goals first | exact m11 | trivial
  ·by_cases e:k=8∧5<n <;> simp only[e,if_false] at m12 ⊢;all_goals first | exact m12 | trivial
theorem dI {i:Ins}(h:more i=true):mH i=true∧1<i.kind∧i.kind≠4:=by
 unfold more at h
 simpa[Bool.and_eq_true,and_assoc] using h
theorem jH {i:Ins}(h:mH i=true):1≤i.kind∧i.kind≤5:=by
 unfold mH at h
 simp only[Bool.or_eq_true,decide_eq_true_eq,Bool.and_eq_true] at h
 rcases h with (h|h|h|h)|h <;> omega
theorem eA (x:ShS)(i:Ins):x.new i=x.read i∨∃ r,x.has (fA (x.read i))=some r∧more (x.read i)=true∧x.new i=tU i.dst r:=by
 unfold ShS.new
 cases h:x.has (fA (x.read i)) with
 | none=>exact Or.inl rfl
 | some r =>
  simp only
  by_cases hm:more (x.read i)=true
  ·rw[if_pos hm];exact Or.inr ⟨r,rfl,hm,rfl⟩
  ·rw[if_neg hm];exact Or.inl rfl
theorem pB {k:Int}(h:1≤k∧k≤6):kS k=true:=by unfold kS;simp;omega
theorem wA {x:ShS}{i:Ins}{R Fr:Int}{L:Nat}(hx:ShI R x)(h:Ok i R Fr L):Ok (x.new i) R Fr L:=by
 rcases eA x i with e|⟨r,hr,hm,e⟩
 ·rw[e];exact lH hx h
 ·rw[e]
  obtain⟨hp,h1,h4⟩:=dI hm
  have hk:=jH hp
  have hk:1≤i.kind∧i.kind≤5:=hk
  have hd:=h.dst (pB (by omega))
  have hr':=(hx.has _ _ hr).1
  refine⟨⟨by show (1:Int)≤4;decide,by show (4:Int)≤13;decide⟩,fun u hu=>?_,fun _=>Or.inl ?_,fun e=>(by cases e),fun e=>(by cases e),fun e=>(by cases e),fun e=>(by cases e),fun e=>(by cases e),fun e=>(by rcases e with e | e <;> cases e),fun e=>(by cases e),rfl⟩
  ·have:u=r:=by simpa[tU,Ins.uses,kA,kB] using hu
   rw[this];exact hr'
  ·show 0≤i.dst∧i.dst<R
   rcases hd with hd|hd
   ·exact hd
   ·omega
theorem BI {x:ShS}{i:Ins}:(x.new i).sets=i.sets:=by
 rcases eA x i with e|⟨r,hr,hm,e⟩
 ·rw[e];rfl
 ·rw[e]
  have hk:1≤i.kind∧i.kind≤5:=jH (dI hm).1
  unfold Ins.sets
  rw[pB (k:=i.kind) (by omega)]
  rfl
theorem BJ {x:ShS}{i:Ins}{R Fr:Int}{L:Nat}(hx:ShI R x)(h:Ok i R Fr L):ShI R (x.step i):=by
 have ho:=wA hx h
 unfold ShS.step
 simp only
 by_cases hr:(x.new i).sets<0
 ·rw[if_pos hr];exact hx
 rw[if_neg hr]
 have hset:0≤(x.new i).sets∧(x.new i).sets<R:=by
  have hs:kS (x.new i).kind=true:=by
   cases e:kS (x.new i).kind with
   | true=>rfl
   | false =>
    exfalso
    apply hr
    unfold Ins.sets
    rw[e]
    simp
  have hd:=ho.dst hs
  have:(x.new i).sets=(x.new i).dst:=by unfold Ins.sets;rw[hs];rfl
  rw[this] at hr ⊢
  rcases hd with hd|hd <;> omega
 generalize hrr:(x.new i).sets=r at *
 have hy:ShI R (x.forget r):=by
  refine⟨fun k a ha=>?_,fun k q hq=>?_⟩
  ·unfold ShS.forget at ha
   simp only at ha
   split at ha
   ·cases ha
   ·exact hx.am k a ha
  ·unfold ShS.forget at hq
   simp only at hq
   split at hq
   ·cases hq
   ·exact hx.has k q hq
 split
 ·rename_i h4
  refine⟨fun k a ha=>?_,hy.has⟩
  simp only at ha
  split at ha
  ·rename_i hk
   injection ha with ha
   subst hk ha
   exact⟨hset,hy.thr (ho.uses _ (by unfold Ins.uses;rw[h4.1];simp[kA]))⟩
  ·exact hy.am k a ha
 ·split
  ·rename_i h4 hm
   refine⟨hy.am,fun k q hq=>?_⟩
   simp only at hq
   split at hq
   ·rename_i hk
    injection hq with hq
    subst hk hq
    have hor:=lH hx h
    refine⟨hset,?_,hor.uses⟩
    have:x.new i=x.read i:=by
     rcases eA x i with e|⟨r',hr',hm',e⟩
     ·exact e
     ·rw[e] at hm
      have:=dI hm.1
      exact absurd rfl this.2.2
    rw[this] at hm
    exact hm.1
   ·exact hy.has k q hq
  ·exact hy
theorem tV {f:aR}(hf:OkF f):∀ p,p≤f.code.length→ShI f.R (lG f.code p)
 | 0,_=>ShI.none _
 | p+1,hp=>by
  rw[iC]
  refine BJ ?_ (hf.ok _ (Mz (cH (by omega))))
  unfold fI
  split
  ·exact ShI.none _
  ·exact tV hf p (by omega)
theorem fN {f:aR}(hf:OkF f){p:Nat}(hp:p≤f.code.length):ShI f.R (fI f.code p):=by
 unfold fI
 split
 ·exact ShI.none _
 ·exact tV hf p hp
theorem pC {f:aR}(hf:OkF f):OkF (iP f):=by
 have hl:(iP f).code.length=f.code.length:=fJ _
 refine⟨hf.nm,hf.ps,hf.R,hf.Fr,by rw[hl];exact hf.len,fun i hi=>?_,fun i hi=>?_⟩
 ·obtain⟨p,hp⟩:=List.mem_iff_getElem?.1 hi
  have hlt:p<f.code.length:=by
   have:=(Lz hp).1
   rw[hl] at this;exact this
  have h1:=cH hlt
  have h2:(pZ f.code)[p]? = some i:=hp
  rw[iD h1] at h2
  injection h2 with h2
  rw[←h2,hl]
  exact wA (fN hf (by omega)) (hf.ok _ (Mz h1))
 ·have hlt:f.code.length-1<f.code.length:=by have:=hf.len;omega
  rw[hl] at hi
  have h1:=cH hlt
  have h2:(pZ f.code)[f.code.length-1]? = some i:=hi
  rw[iD h1] at h2
  injection h2 with h2
  have hk:=hf.last _ h1
  rcases eA (fI f.code (f.code.length-1)) (bA f.code (f.code.length-1)) with e|⟨r,hr,hm,e⟩
  ·rw[←h2,e];exact hk
  ·have:=jH (dI hm).1
   have:(bA f.code (f.code.length-1)).kind≤5:=this.2
   omega
def mL (i:Ins)(base:Int)(ρ:List Int):Int :=
 if i.kind=1 then i.n else if i.kind=2∨i.kind=3 then (iN i.op (rg ρ i.a) (i.bv ρ)).1 else if i.kind=4 then rg ρ i.a else base+i.n
theorem rZ {i:Ins}{R Fr:Int}{L:Nat}(hok:Ok i R Fr L)(hp:mH i=true)(p:Nat)(base:Int)(ρ:List Int)(E:eX):aQ i p base ρ E = .go (p+1) (bB i.dst (mL i base ρ) ρ) E:=by
 have hp0:=hp
 unfold mH at hp
 simp only[Bool.or_eq_true,decide_eq_true_eq,Bool.and_eq_true] at hp
 have cases:i.kind=1∨i.kind=2∨(i.kind=3∧mG i.op=true)∨i.kind=4∨i.kind=5:=by
  rcases hp with (h|h|h|h)|h
  ·exact Or.inl h
  ·exact Or.inr (Or.inl h)
  ·exact Or.inr (Or.inr (Or.inr (Or.inl h)))
  ·exact Or.inr (Or.inr (Or.inr (Or.inr h)))
  ·exact Or.inr (Or.inr (Or.inl h))
 unfold mL
 rcases cases with k|k|⟨k,hs⟩|k|k
 ·rw[if_pos k,LE i p base ρ E k]
 ·rw[if_neg (by omega),if_pos (Or.inl k),IU i p base ρ E (Or.inl k),if_pos (lD (Or.inl (hok.one k)) _ _)]
 ·rw[if_neg (by omega),if_pos (Or.inr k),IU i p base ρ E (Or.inr k),if_pos (lD (Or.inr hs) _ _)]
 ·rw[if_neg (by omega),if_neg (by omega),if_pos k,KE i p base ρ E k]
 ·rw[if_neg (by omega),if_neg (by omega),if_neg (by omega),LF i p base ρ E k]
theorem iE {i j:Ins}(hk:i.kind=j.kind)(ho:i.op=j.op)(hn:i.n=j.n)(base:Int)(ρ ρ':List Int)(ha:kA i.kind=true→rg ρ i.a=rg ρ' j.a)(hb:kB i.kind=true→rg ρ i.b=rg ρ' j.b):mL i base ρ=mL j base ρ':=by
 unfold mL Ins.bv
 rw[←hk,←ho,←hn]
 by_cases h1:i.kind=1
 ·rw[if_pos h1,if_pos h1]
 rw[if_neg h1,if_neg h1]
 by_cases h2:i.kind=2∨i.kind=3
 ·rw[if_pos h2,if_pos h2,ha (by rcases h2 with e | e <;> rw[e] <;> decide)]
  by_cases h3:i.kind=3
  ·rw[if_pos h3,if_pos h3,hb (by rw[h3];decide)]
  ·rw[if_neg h3,if_neg h3]
 rw[if_neg h2,if_neg h2]
 by_cases h4:i.kind=4
 ·rw[if_pos h4,if_pos h4,ha (by rw[h4];decide)]
 rw[if_neg h4,if_neg h4]
structure ShV (base:Int)(x:ShS)(ρ:List Int):Prop where
 am:∀ r a,x.am r=some a→rg ρ r=rg ρ a
 has:∀ k r,x.has k=some r→mL k base ρ=rg ρ r
theorem ShV.none (base:Int)(ρ:List Int):ShV base ShS.none ρ:=⟨fun _ _ h=>(by simp[ShS.none] at h),fun _ _ h=>(by simp[ShS.none] at h)⟩
theorem ShV.thr {base:Int}{x:ShS}{ρ:List Int}(h:ShV base x ρ)(r:Int):rg ρ (x.thr r)=rg ρ r:=by
 unfold ShS.thr
 cases ha:x.am r with
 | none=>rfl
 | some a=>exact (h.am r a ha).symm
theorem ShV.read {base:Int}{x:ShS}{ρ:List Int}(h:ShV base x ρ)(i:Ins)(p:Nat)(E:eX):aQ (x.read i) p base ρ E=aQ i p base ρ E:=by
 have ha:rg ρ (x.read i).a=rg ρ i.a:=by
  show rg ρ (if kA i.kind=true then x.thr i.a else i.a)=_
  split
  ·exact h.thr _
  ·rfl
 have hb:rg ρ (x.read i).b=rg ρ i.b:=by
  show rg ρ (if kB i.kind=true then x.thr i.b else i.b)=_
  split
  ·exact h.thr _
  ·rfl
 have hargs:((x.read i).args.take i.n.toNat).map (rg ρ)=(i.args.take i.n.toNat).map (rg ρ):=by
  have e:∀ (c:Prop) [Decidable c] (r:Int),rg ρ (if c then x.thr r else r)=rg ρ r:=fun c _ r=>by
   split
   ·exact h.thr _
   ·rfl
  rw[List.map_take,List.map_take]
  congr 1
  unfold Ins.args ShS.read
  simp only[List.map_cons,List.map_nil,e]
 unfold aQ Ins.bv
 rw[ha,hb,show (x.read i).kind=i.kind from rfl,show (x.read i).n=i.n from rfl,hargs]
 rfl
theorem ShV.new {base:Int}{x:ShS}{ρ:List Int}(h:ShV base x ρ){i:Ins}{R Fr:Int}{L:Nat}(hx:ShI R x)(hok:Ok i R Fr L)(p:Nat)(E:eX):aQ (x.new i) p base ρ E=aQ i p base ρ E:=by
 rcases eA x i with e|⟨r,hr,hm,e⟩
 ·rw[e];exact h.read i p E
 ·rw[e,←h.read i p E,rZ (lH hx hok) (dI hm).1 p base ρ E]
  rw[KE (tU i.dst r) p base ρ E rfl]
  show pY.go (p+1) (bB i.dst (rg ρ r) ρ) E=pY.go (p+1) (bB i.dst (mL (x.read i) base ρ) ρ) E
  rw[←h.has _ _ hr]
  rw[iE (i:=fA (x.read i)) (j:=x.read i) rfl rfl rfl base ρ ρ (fun _=>rfl) (fun _=>rfl)]
theorem ShV.step {base:Int}{x:ShS}{ρ:List Int}(h:ShV base x ρ){i:Ins}{R Fr:Int}{L:Nat}(hx:ShI R x)(hok:Ok i R Fr L)(hl:ρ.length=R.toNat)(v:Int)
  (hv:mH i=true→v=mL (x.read i) base ρ):ShV base (x.step i) (if kS i.kind=true then bB i.dst v ρ else ρ):=by
 have ho:=wA hx hok
 unfold ShS.step
 simp only
 have hse:(x.new i).sets=i.sets:=BI
 by_cases hr:(x.new i).sets<0
 ·rw[if_pos hr]
  rw[hse] at hr
  have:(if kS i.kind=true then bB i.dst v ρ else ρ)=ρ:=by
   split
   ·rename_i hs
    have:i.sets=i.dst:=by unfold Ins.sets;rw[if_pos hs]
    unfold bB
    rw[if_neg (by omega)]
   ·rfl
  rw[this]
  exact h
 rw[if_neg hr]
 have hs:kS i.kind=true:=by
  cases e:kS i.kind with
  | true=>rfl
  | false =>
   exfalso
   apply hr
   rw[hse]
   unfold Ins.sets
   rw[e]
   simp
 have hd:i.sets=i.dst:=by unfold Ins.sets;rw[if_pos hs]
 rw[if_pos hs]
 rw[hse,hd] at hr ⊢
 have hdR:0≤i.dst∧i.dst<R:=by rcases hok.dst hs with e | e <;> omega
 generalize hrr:i.dst=r at *
 have hval:rg (bB r v ρ) r=v:=by
  unfold rg bB
  rw[if_pos hdR.1,List.getD_eq_getElem?_getD,List.getElem?_set_self (by omega)]
  rfl
 have hoth:∀ q,0≤q→q≠r→rg (bB r v ρ) q=rg ρ q:=fun q hq hne=>gR v ρ hq (Ne.symm hne)
 have hlv:∀ k,(∀ u ∈ k.uses,0≤u∧u<R)→r ∉ k.uses→mL k base (bB r v ρ)=mL k base ρ:=fun k hku hnr =>
  iE rfl rfl rfl base _ _ (fun hA=>hoth _ (hku _ (by simp[Ins.uses,hA])).1 (fun e=>hnr (by simp[Ins.uses,hA,e]))) (fun hB=>hoth _ (hku _ (by simp[Ins.uses,hB])).1 (fun e=>hnr (by simp[Ins.uses,hB,e])))
 have hy:ShV base (x.forget r) (bB r v ρ):=by
  refine⟨fun k a ha=>?_,fun k q hq=>?_⟩
  ·unfold ShS.forget at ha
   simp only at ha
   split at ha
   ·cases ha
   ·rename_i hn
    have hi:=hx.am k a ha
    rw[hoth k hi.1.1 (fun e=>hn (Or.inl e)),hoth a hi.2.1 (fun e=>hn (Or.inr (by rw[ha,e])))]
    exact h.am k a ha
  ·unfold ShS.forget at hq
   simp only at hq
   split at hq
   ·cases hq
   ·rename_i hn
    have hi:=hx.has k q hq
    rw[hoth q hi.1.1 (fun e=>hn (Or.inl (by rw[hq,e]))),hlv k hi.2.2 (fun e=>hn (Or.inr e))]
    exact h.has k q hq
 split
 ·rename_i h4
  refine⟨fun k a ha=>?_,hy.has⟩
  simp only at ha
  split at ha
  ·rename_i hk
   injection ha with ha
   subst ha
   rw[hk,hval,hy.thr]
   have hoa:=ho.uses (x.new i).a (by unfold Ins.uses;rw[h4.1];simp[kA])
   rw[hoth _ hoa.1 h4.2]
   -- a copy's value
   have e0:=rZ ho (show mH (x.new i)=true by unfold mH;simp[h4.1]) 0 base ρ ⟨[],[],[]⟩
   rcases eA x i with e|⟨q,hq,hm,e⟩
   ·have hpi:mH i=true:=by
     have:(x.read i).kind=4:=by rw[←e];exact h4.1
     have:i.kind=4:=this
     unfold mH;simp[this]
    rw[hv hpi,e]
    have hk4:(x.read i).kind=4:=by rw[←e];exact h4.1
    unfold mL
    rw[if_neg (by omega),if_neg (by omega),if_pos hk4]
   ·have hpi:mH i=true:=by
     have:=(dI hm).1
     exact this
    rw[hv hpi,e]
    show mL (x.read i) base ρ=rg ρ q
    rw[←h.has _ _ hq]
    exact (iE (i:=fA (x.read i)) (j:=x.read i) rfl rfl rfl base ρ ρ (fun _=>rfl) (fun _=>rfl)).symm
  ·exact hy.am k a ha
 ·split
  ·rename_i h4 hm
   refine⟨hy.am,fun k q hq=>?_⟩
   simp only at hq
   split at hq
   ·rename_i hk
    injection hq with hq
    subst hq
    have e:x.new i=x.read i:=by
     rcases eA x i with e|⟨r',hr',hm',e⟩
     ·exact e
     ·rw[e] at hm
      have:=dI hm.1
      exact absurd rfl this.2.2
    rw[e] at hm
    have hor:=lH hx hok
    rw[hk,hval,hlv (fA (x.read i)) hor.uses hm.2]
    have hpi:mH i=true:=(dI hm.1).1
    rw[hv hpi]
    exact iE (i:=fA (x.read i)) (j:=x.read i) rfl rfl rfl base ρ ρ (fun _=>rfl) (fun _=>rfl)
   ·exact hy.has k q hq
  ·exact hy
theorem wC {i:Ins}{R Fr:Int}{L:Nat}(hok:Ok i R Fr L){p:Nat}{base:Int}{ρ:List Int}{E E':eX}{q:Nat}{σ:List Int}(h:aQ i p base ρ E = .go q σ E'):(q:Int) ∈ i.next p∧∃ v,BG i v ρ σ:=by
 have:=jG (G:=fun _=>false) hok (ρ:=ρ) (ρ':=ρ) (fun _ _=>rfl) p p base E
 rw[h] at this
 obtain⟨h1,_,_,v,h2,_⟩:=this
 exact⟨h1,v,h2⟩
def GY {f:aR}(hf:OkF f):Loc False f (iP f) where
 R:=fun base p ρ p' ρ'=>p'=p∧ρ'=ρ∧p<f.code.length∧ρ.length=f.R.toNat∧ShV base (fI f.code p) ρ
 nm:=rfl
 ps:=rfl
 Rs:=rfl
 Fr:=rfl
 start:=fun base args hargs=>by
  have hR:=hf.R
  refine⟨rfl,rfl,by have:=hf.len;omega,by simp;omega,?_⟩
  unfold fI
  rw[if_pos (by unfold first;simp)]
  exact ShV.none _ _
 at_:=fun base p ρ p' ρ' h=>by
  obtain⟨rfl,rfl,hp,_⟩:=h
  have hi:=cH hp
  exact⟨_,_,hi,iD hi⟩
 go:=fun p ρ p' ρ' i i' base E q σ E' h hi hi' hl=>by
  obtain⟨rfl,rfl,hp,hlen,hv⟩:=h
  have hi2:(pZ f.code)[p']? = some i':=hi'
  rw[iD hi] at hi2
  injection hi2 with hi2
  subst hi2
  have hok:=hf.ok i (Mz hi)
  have hx:=fN hf (p:=p') (by omega)
  obtain⟨hn,v,hput⟩:=wC hok hl
  have hq:=hf.next hi q hn
  refine Or.inr ⟨q,σ,by rw[hv.new hx hok];exact hl,rfl,rfl,by simpa using hq.2,?_,?_⟩
  ·rw[hput];split
   ·rw[eT];exact hlen
   ·exact hlen
  ·unfold fI
   cases hfq:first f.code q with
   | true=>exact ShV.none _ _
   | false =>
    -- then the step was to the next one
    have hk:¬ 11≤i.kind:=fun hk=>by
     have:first f.code q=true:=by
      unfold first
      rw[Bool.or_eq_true]
      refine Or.inr (List.any_eq_true.2 ⟨p',List.mem_range.2 hp,?_⟩)
      rw[gQ hi]
      simp[hk,hn]
     rw[this] at hfq
     cases hfq
    rw[eC hk] at hn
    have hq1:q=p'+1:=by simp at hn;omega
    subst hq1
    simp only[Bool.false_eq_true,if_false]
    rw[iC,gQ hi,hput]
    by_cases hp2:mH i=true
    ·have e:=rZ (lH hx hok) (show mH ((fI f.code p').read i)=true from hp2) p' base ρ' E
     rw[hv.read i,hl] at e
     have hs:kS i.kind=true:=pB (by have:=jH hp2;omega)
     have hst:=hv.step hx hok hlen (mL ((fI f.code p').read i) base ρ') (fun _=>rfl)
     injection e with _ e2 _
     have e3:(if kS i.kind=true then bB i.dst v ρ' else ρ')=σ:=hput.symm
     rw[e3,e2]
     rw[if_pos hs] at hst
     exact hst
    ·exact hv.step hx hok hlen v (fun h=>absurd h hp2)
 stop:=fun p ρ p' ρ' i i' base E c h hi hi' hl=>by
  obtain⟨rfl,rfl,hp,hlen,hv⟩:=h
  have hi2:(pZ f.code)[p']? = some i':=hi'
  rw[iD hi] at hi2
  injection hi2 with hi2
  subst hi2
  rw[hv.new (fN hf (p:=p') (by omega)) (hf.ok i (Mz hi))]
  exact hl
 call:=fun p ρ p' ρ' i i' base E nm args d h hi hi' hl=>by
  obtain⟨rfl,rfl,hp,hlen,hv⟩:=h
  have hi2:(pZ f.code)[p']? = some i':=hi'
  rw[iD hi] at hi2
  injection hi2 with hi2
  subst hi2
  have hok:=hf.ok i (Mz hi)
  have hx:=fN hf (p:=p') (by omega)
  obtain⟨q1,_,_,q4⟩:=fS hl
  refine⟨by rw[hv.new hx hok];exact hl,fun v=>⟨rfl,rfl,?_,by rw[eT];exact hlen,?_⟩⟩
  ·have:=hf.next hi ((p'+1:Nat):Int) (by rw[eC (by omega)];simp)
   simpa using this.2
  ·unfold fI
   cases hfq:first f.code (p'+1) with
   | true=>exact ShV.none _ _
   | false =>
    simp only[Bool.false_eq_true,if_false]
    rw[iC,gQ hi]
    have hst:=hv.step hx hok hlen v (fun h=>by have:=jH h;omega)
    rw[if_pos (by rw[q1];decide),←q4] at hst
    exact hst
 ret:=fun p ρ p' ρ' i i' base E v h hi hi' hl=>by
  obtain⟨rfl,rfl,hp,hlen,hv⟩:=h
  have hi2:(pZ f.code)[p']? = some i':=hi'
  rw[iD hi] at hi2
  injection hi2 with hi2
  subst hi2
  rw[hv.new (fN hf (p:=p') (by omega)) (hf.ok i (Mz hi))]
  exact hl
theorem KJ {f:aR}(hf:OkF f):Tr False f (iP f):=by
 refine⟨⟨GY hf⟩,pC hf,fun j hj hk=>?_⟩
 obtain⟨p,hp⟩:=List.mem_iff_getElem?.1 hj
 have hlt:p<f.code.length:=by
  have:=(Lz hp).1
  rw[show (iP f).code.length=f.code.length from fJ _] at this
  exact this
 have h1:=cH hlt
 have h2:(pZ f.code)[p]? = some j:=hp
 rw[iD h1] at h2
 injection h2 with h2
 refine⟨_,Mz h1,?_⟩
 rcases eA (fI f.code p) (bA f.code p) with e|⟨r,_,_,e⟩
 ·rw[e] at h2
  rw[←h2] at hk ⊢
  exact⟨hk,rfl,rfl⟩
 ·rw[e] at h2
  rw[←h2] at hk
  cases hk
theorem tW {G:Nat→Bool}{f:aR}:∀ i ∈ (wF G f).code,i.kind=8→∃ j ∈ f.code,j.kind=8∧j.text=i.text∧j.n=i.n:=fun i hi hk=>by
 obtain⟨q,hq⟩:=List.mem_iff_getElem?.1 hi
 obtain⟨p,j,h1,_,_,rfl⟩:=lC (show (cZ G f.code)[q]? = some i from hq)
 exact⟨j,Mz h1,hk,rfl,rfl⟩
theorem FB {f:aR}(hf:OkF f):Tr True f (uF f):=⟨⟨GW hf⟩,qW hf,tW⟩
theorem KK {f:aR}(hf:OkF f):Tr True f (dF f):=⟨⟨GX hf⟩,BD hf,tW⟩
theorem Swp.tr {f g:aR}(h:Swp f g)(hf:OkF f):TrS True f g:=by
 induction h with
 | @done f h=>exact .one (FB hf)
 | @more f g h hs ih=>exact .step (FB hf) (.step (KK (qW hf)) (ih (BD (qW hf))))
end Go.Proofs.Ytkcclefonmnpnaa
