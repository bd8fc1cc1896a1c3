import Derived.Test.YtkcclefonmnpnaaVZm
import Derived.Test.YtkcclefonmnpnaaVZp2
import Derived.Test.YtkcclefonmnpnaaVZq
import Derived.Test.YtkcclefonmnpnaaVRs
set_option maxRecDepth 1000000
set_option maxHeartbeats 16000000
namespace Go.Proofs.Ytkcclefonmnpnaa
open Go.RowKit Go.BigFrame
theorem RdI.keepS {w w':World}{A:Option Addr}{l:List Ins}(h:RdI w A l)(hs:w.heap.size≤w'.heap.size)(hk:∀ b o,A=some ⟨b,o,none⟩→b<w.heap.size→w'.heap[b]? = w.heap[b]?):RdI w' A l:=fun j i hi=>by
 obtain⟨b,o,e1,e2,e3⟩:=h j i hi
 exact⟨b,o,e1,by omega,fun k hk'=>by rw[←e3 k hk'];simp only[World.cell?,hk b o e1 e2]⟩
abbrev wc (f:aR)(l:List Ins):aR:=⟨f.nm,f.ps,f.R,f.Fr,l⟩
def MI (f:aR)(e:Ending)(w:World):Prop:=∃ l C cap,ShR 20 f (wc f l)∧OkF (wc f l)∧e = .returned (aH f.nm f.ps f.R f.Fr C l.length cap)∧RdI w C l∧∃ nb,C=some ⟨nb,0,none⟩∧PreI w nb l
def KU (f:aR)(w wr:World)(k:Nat):Prop:=∃ l C cap,OkF (wc f l)∧l.length≤f.code.length∧wr.heap[w.heap.size]? = some (.cells #[.string f.nm,.int .i64 f.ps,.int .i64 f.R,.int .i64 f.Fr,.slice C l.length cap] 24)∧wr.heap[w.heap.size+1]? = some (.cells #[.string ⟨#[]⟩,.int .i64 0,.int .i64 0,.int .i64 0,.slice none 0 0] 24)∧RdI wr C l∧(∀ b o,C=some ⟨b,o,none⟩→b≠w.heap.size∧b≠w.heap.size+1)∧Below w.heap.size w wr∧(∀ g,ShR (20-k) (wc f l) g→ShR 20 f g)∧(0<k→∃ nb,C=some ⟨nb,0,none⟩∧PreI wr nb l)
theorem IL {f F:aR}{G:aR}(h:Swp F G)(hF:OkF F)(h1:F.nm=f.nm)(h2:F.ps=f.ps)(h3:F.R=f.R)(h4:F.Fr=f.Fr):G=wc f G.code∧OkF G∧G.code.length≤F.code.length:=by
 obtain⟨a,_,_,b,c,d,e,g⟩:=h.end_ hF
 refine⟨?_,a,g⟩
 obtain⟨n,p,R,Fr,l⟩:=G
 simp only at b c d e
 simp only[wc,aR.mk.injEq]
 exact⟨b.trans h1,c.trans h2,d.trans h3,e.trans h4,trivial⟩
theorem sK (f:aR)(hf:OkF f)(hsz:f.code.length*(f.R.toNat+1)≤65536)(C:Option Addr)(cap:Nat)(w:World)(hC:RdI w C f.code) :
  Calls Try.prog 24 #[aH f.nm f.ps f.R f.Fr C f.code.length cap] w fun e w'=>MI f e w'∧Below w.heap.size w w':=by
 obtain⟨b0,b1,hB⟩:=tY w (aD f.nm f.ps f.R f.Fr C f.code.length cap) (.cells #[.string ⟨#[]⟩,.int .i64 0,.int .i64 0,.int .i64 0,.slice none 0 0] 24)
 have HL0:Hid (KU f w ((w.alloc (aD f.nm f.ps f.R f.Fr C f.code.length cap)).alloc (.cells #[.string ⟨#[]⟩,.int .i64 0,.int .i64 0,.int .i64 0,.slice none 0 0] 24)) 0):=Hz ⟨f.code,C,cap,hf,Nat.le_refl _,b0,b1,hC.below hB,fun b o h=>by
  obtain⟨b',o',e1,e2,_⟩:=hC 0 _ (List.getElem?_eq_getElem (show 0<f.code.length by have:=hf.len;omega))
  rw[e1] at h
  injection h with h
  injection h with h1 h2
  omega,hB,fun g h=>h,fun h=>absurd h (Nat.lt_irrefl 0)⟩
 have HSZ:=Hz hsz
 have hN2:f.code.length≤8192:=hf.len.2
 simp only[aD,aH] at HL0 ⊢
 obtain⟨N,hN⟩:∃ N,f.code.length=N:=⟨_,rfl⟩
 rw[hN] at HL0 hN2 ⊢
 have HN:=Hz hN
 clear hf hC hB b0 b1 hN hsz
 go_enter Try.func24,Try.ntmps24
 go_wp2_with fail
 go_loopw [9] (fun ix wr=>∃ k:Nat,k≤20∧ix = .int .i64 k∧KU f w wr k) (fun ix _=>20-(intOf ix).toNat)
 case atStart=>exact⟨0,by omega,rfl,HL0.out⟩
 case round =>
  obtain⟨k,hk,rfl,l,C',cap',hok,hlen,hx0,hx1,hrd,hoff,hbw,hR,hPk⟩:=hrel
  clear HL0
  obtain⟨L,hL⟩:∃ L,l.length=L:=⟨_,rfl⟩
  have hL2:L≤8192:=by have:=HN.out;omega
  by_cases hlt:k<20
  ·have h1:∀ W (_:RdI W C' l),Calls Try.prog 20 #[.agg #[.string f.nm,.int .i64 f.ps,.int .i64 f.R,.int .i64 f.Fr,.slice C' L cap']] W fun e w'=>(∃ cb,e = .returned (.tuple #[.agg #[.string f.nm,.int .i64 f.ps,.int .i64 f.R,.int .i64 f.Fr,.slice (some ⟨cb,0,none⟩) L L],.int .i64 (kP l L:Int)])∧W.heap.size≤cb∧PreI w' cb (pZ l))∧Below W.heap.size W w':=fun W h=>by
    have h1:=BV (wc f l) hok C' cap' W h
    unfold NC at h1
    simp only[aH,hL] at h1
    exact h1
   have hsl:(pZ l).length=L:=by rw[fJ,hL]
   have hokS:=pC hok
   have h2:∀ cb W (_:RdI W (some ⟨cb,0,none⟩) (pZ l)),Calls Try.prog 37 #[.agg #[.string f.nm,.int .i64 f.ps,.int .i64 f.R,.int .i64 f.Fr,.slice (some ⟨cb,0,none⟩) L L]] W fun e w'=>(∃ nb M,Ans (iP (wc f l)) M∧e = .returned (.tuple #[.agg #[.string f.nm,.int .i64 f.ps,.int .i64 f.R,.int .i64 f.Fr,.slice (some ⟨nb,0,none⟩) L L],.int .i64 (aU (iP (wc f l)) M L:Int)])∧W.heap.size≤nb∧PreI w' nb (iJ (iP (wc f l)) M))∧Below W.heap.size W w':=fun cb W h=>by
    have hz:(iP (wc f l)).code.length*((iP (wc f l)).R.toNat+1)≤65536:=by
     show (pZ l).length*(f.R.toNat+1)≤65536
     rw[hsl]
     exact Nat.le_trans (Nat.mul_le_mul_right _ (show L≤f.code.length by omega)) HSZ.out
    have h2:=CA (iP (wc f l)) hokS hz (some ⟨cb,0,none⟩) L W h
    unfold BZ at h2
    rw[show (iP (wc f l)).code.length=L from hsl] at h2
    exact h2
   have hfl:∀ M,(eE (iP (wc f l)) M).code.length=L:=fun M=>(dU _ _).trans hsl
   have h3:∀ M nb,Ans (iP (wc f l)) M→∀ W (_:RdI W (some ⟨nb,0,none⟩) (iJ (iP (wc f l)) M)),Calls Try.prog 34 #[.agg #[.string f.nm,.int .i64 f.ps,.int .i64 f.R,.int .i64 f.Fr,.slice (some ⟨nb,0,none⟩) L L]] W fun e w'=>(∃ G gb cp,Swp (eE (iP (wc f l)) M) G∧e = .returned (.tuple #[.agg #[.string f.nm,.int .i64 f.ps,.int .i64 f.R,.int .i64 f.Fr,.slice (some ⟨gb,0,none⟩) G.code.length cp],.int .i64 ((L:Int)-G.code.length)])∧W.heap.size≤gb∧PreI w' gb G.code)∧Below W.heap.size W w':=fun M nb hA W h=>by
    have h3:=zK (eE (iP (wc f l)) M) (mM hokS hA) (some ⟨nb,0,none⟩) L W h
    unfold CE at h3
    rw[hfl M] at h3
    exact h3
   have hGw:∀ M G,Ans (iP (wc f l)) M→Swp (eE (iP (wc f l)) M) G→G=wc f G.code∧OkF G∧G.code.length≤L:=fun M G hA h=>by
    have h4:=IL (f:=f) h (mM hokS hA) rfl rfl rfl rfl
    rw[hfl M] at h4
    exact h4
   have HO:=Hz h1
   have HFo:=Hz h2
   have HSw:=Hz h3
   have HGW:=Hz hGw
   have HRR:=Hz hR
   have HLL:=Hz hL
   have HSL:=Hz hsl
   have hN20:kP l L≤8192:=by
    have:kP l L≤(List.range L).length:=List.length_filter_le _ _
    simp at this
    omega
   rw[hL] at hx0
   have HLEN:=Hz hlen
   clear hPk hoff h1 h2 h3 hGw hR hok hL hokS hsl hfl hlen
   have g0:=aA hx0 0 (.string f.nm) rfl
   have g1:=aA hx0 1 (.int .i64 f.ps) rfl
   have g2:=aA hx0 2 (.int .i64 f.R) rfl
   have g3:=aA hx0 3 (.int .i64 f.Fr) rfl
   have g4:=aA hx0 4 (.slice C' L cap') rfl
   have HX:=Hz hx0
   have HY:=Hz hx1
   have HRD:=Hz hrd
   have HBW:=Hz hbw
   clear hx0 hx1 hrd hbw
   go_wp2_with fail
   refine (HO.out _ HRD.out).mono ?_
   rintro e w1 ⟨⟨cb,rfl,hcb,hP1⟩,hb1⟩
   obtain⟨w2,hw2⟩:∃ w2,w1.alloc (.cells #[.string f.nm,.int .i64 f.ps,.int .i64 f.R,.int .i64 f.Fr,.slice (some ⟨cb,0,none⟩) L L] 24)=w2:=⟨_,rfl⟩
   have hb2:Below w1.heap.size w1 w2:=by rw[←hw2];exact Below.one _ _
   have hg2:w2.heap[w1.heap.size]? = some (.cells #[.string f.nm,.int .i64 f.ps,.int .i64 f.R,.int .i64 f.Fr,.slice (some ⟨cb,0,none⟩) L L] 24):=by rw[←hw2];exact heap_alloc_new _ _
   have hl2:=(Az hg2).1
   have k0:=aA hg2 0 (.string f.nm) rfl
   have k1:=aA hg2 1 (.int .i64 f.ps) rfl
   have k2:=aA hg2 2 (.int .i64 f.R) rfl
   have k3:=aA hg2 3 (.int .i64 f.Fr) rfl
   have k4:=aA hg2 4 (.slice (some ⟨cb,0,none⟩) L L) rfl
   have HB2:=Hz (hb1.trans (hb2.mono hb1.size))
   have HP2:=Hz (Pre.later hP1 hb2)
   clear g0 g1 g2 g3 g4 hb1 hb2 hg2 hP1
   go_wp2_with fail
   refine (HFo.out cb _ (PreI.read HP2.out)).mono ?_
   rintro e w3 ⟨⟨nb,M,hA,rfl,hnb,hP3⟩,hb3⟩
   obtain⟨w4,hw4⟩:∃ w4,w3.alloc (.cells #[.string f.nm,.int .i64 f.ps,.int .i64 f.R,.int .i64 f.Fr,.slice (some ⟨nb,0,none⟩) L L] 24)=w4:=⟨_,rfl⟩
   have hb4:Below w3.heap.size w3 w4:=by rw[←hw4];exact Below.one _ _
   have hg4:w4.heap[w3.heap.size]? = some (.cells #[.string f.nm,.int .i64 f.ps,.int .i64 f.R,.int .i64 f.Fr,.slice (some ⟨nb,0,none⟩) L L] 24):=by rw[←hw4];exact heap_alloc_new _ _
   have hl4:=(Az hg4).1
   have m0:=aA hg4 0 (.string f.nm) rfl
   have m1:=aA hg4 1 (.int .i64 f.ps) rfl
   have m2:=aA hg4 2 (.int .i64 f.R) rfl
   have m3:=aA hg4 3 (.int .i64 f.Fr) rfl
   have m4:=aA hg4 4 (.slice (some ⟨nb,0,none⟩) L L) rfl
   have HB4:=Hz (HB2.out.trans ((hb3.trans (hb4.mono hb3.size)).mono HB2.out.size))
   have HP4:=Hz (Pre.later hP3 hb4)
   have HA:=Hz hA
   clear k0 k1 k2 k3 k4 hb3 hb4 hg4 hw2 hP3 hA
   go_wp2_with fail
   refine (HSw.out M nb HA.out _ (PreI.read HP4.out)).mono ?_
   rintro e w5 ⟨⟨G,gb,cp,hsw,rfl,hgb,hP5⟩,hb5⟩
   obtain⟨w6,hw6⟩:∃ w6,w5.alloc (.cells #[.string f.nm,.int .i64 f.ps,.int .i64 f.R,.int .i64 f.Fr,.slice (some ⟨gb,0,none⟩) G.code.length cp] 24)=w6:=⟨_,rfl⟩
   have hb6:Below w5.heap.size w5 w6:=by rw[←hw6];exact Below.one _ _
   have hg6:w6.heap[w5.heap.size]? = some (.cells #[.string f.nm,.int .i64 f.ps,.int .i64 f.R,.int .i64 f.Fr,.slice (some ⟨gb,0,none⟩) G.code.length cp] 24):=by rw[←hw6];exact heap_alloc_new _ _
   have hl6:=(Az hg6).1
   have n0:=aA hg6 0 (.string f.nm) rfl
   have n1:=aA hg6 1 (.int .i64 f.ps) rfl
   have n2:=aA hg6 2 (.int .i64 f.R) rfl
   have n3:=aA hg6 3 (.int .i64 f.Fr) rfl
   have n4:=aA hg6 4 (.slice (some ⟨gb,0,none⟩) G.code.length cp) rfl
   have HB6:=Hz (HB4.out.trans ((hb5.trans (hb6.mono hb5.size)).mono HB4.out.size))
   have hx6:=(HB6.out.block _ (Az HX.out).1).trans HX.out
   have hr6:=(HB6.out.block _ (Az HY.out).1).trans HY.out
   have hst:=setRow_heap _ _ _ #[.string f.nm,.int .i64 f.ps,.int .i64 f.R,.int .i64 f.Fr,.slice (some ⟨gb,0,none⟩) G.code.length cp] _ _ hx6
   have q0:=aA hst 0 (.string f.nm) rfl
   have q1:=aA hst 1 (.int .i64 f.ps) rfl
   have q2:=aA hst 2 (.int .i64 f.R) rfl
   have q3:=aA hst 3 (.int .i64 f.Fr) rfl
   have q4:=aA hst 4 (.slice (some ⟨gb,0,none⟩) G.code.length cp) rfl
   have hrt:=(setRow_other w6 w.heap.size (w.heap.size+1) #[.string f.nm,.int .i64 f.ps,.int .i64 f.R,.int .i64 f.Fr,.slice (some ⟨gb,0,none⟩) G.code.length cp] (by omega)).trans hr6
   obtain⟨hGe,hGok,hGl⟩:=HGW.out M G HA.out hsw
   have hf2:aU (iP (wc f l)) M L≤8192:=by
    have:=cO (iP (wc f l)) M L
    omega
   have hcn:LH (wc f l) M G=kP l L+aU (iP (wc f l)) M L+(L-G.code.length):=by
    unfold LH
    show kP l l.length+aU (iP (wc f l)) M l.length+(l.length-G.code.length)=_
    rw[HLL.out]
   have hsb:=HBW.out.size
   have hsb6:=HB6.out.size
   have HP6:=Hz (Pre.later hP5 hb6)
   have hgbn:w.heap.size+2≤gb:=by
    have h1:=(Az HY.out).1
    have h2:=HB4.out.size
    omega
   have HRF:=Hz (Pre.of_heap HP6.out (setRow_other w6 w.heap.size gb #[.string f.nm,.int .i64 f.ps,.int .i64 f.R,.int .i64 f.Fr,.slice (some ⟨gb,0,none⟩) G.code.length cp] (by omega)))
   have HBF:Hid (Below w.heap.size w (w6.setRow w.heap.size #[.string f.nm,.int .i64 f.ps,.int .i64 f.R,.int .i64 f.Fr,.slice (some ⟨gb,0,none⟩) G.code.length cp])):=Hz (below_setRow (HBW.out.trans (HB6.out.mono HBW.out.size)) (Nat.le_refl _) _)
   have HST:=Hz hst
   have HRT:=Hz hrt
   have HSWP:=Hz hsw
   have HGE:=Hz hGe
   have HGOK:=Hz hGok
   have HCN:=Hz hcn
   by_cases hz:kP l L+aU (iP (wc f l)) M L+(L-G.code.length)=0
   ·have qz:decide ((kP l L:Int)+(aU (iP (wc f l)) M L:Int)+((L:Int)-G.code.length)=0)=true:=by rw[decide_eq_true_eq];omega
    have hfi:=setRow_heap _ _ _ #[.string f.nm,.int .i64 f.ps,.int .i64 f.R,.int .i64 f.Fr,.slice (some ⟨gb,0,none⟩) G.code.length cp] _ _ hrt
    have e0:=aA hfi 0 (.string f.nm) rfl
    have e1:=aA hfi 1 (.int .i64 f.ps) rfl
    have e2:=aA hfi 2 (.int .i64 f.R) rfl
    have e3:=aA hfi 3 (.int .i64 f.Fr) rfl
    have e4:=aA hfi 4 (.slice (some ⟨gb,0,none⟩) G.code.length cp) rfl
    have HBF2:Hid (Below w.heap.size w ((w6.setRow w.heap.size #[.string f.nm,.int .i64 f.ps,.int .i64 f.R,.int .i64 f.Fr,.slice (some ⟨gb,0,none⟩) G.code.length cp]).setRow (w.heap.size+1) #[.string f.nm,.int .i64 f.ps,.int .i64 f.R,.int .i64 f.Fr,.slice (some ⟨gb,0,none⟩) G.code.length cp])):=Hz (below_setRow HBF.out (by omega) _)
    have HRF2:=Hz (Pre.of_heap HRF.out (setRow_other (w6.setRow w.heap.size #[.string f.nm,.int .i64 f.ps,.int .i64 f.R,.int .i64 f.Fr,.slice (some ⟨gb,0,none⟩) G.code.length cp]) (w.heap.size+1) gb #[.string f.nm,.int .i64 f.ps,.int .i64 f.R,.int .i64 f.Fr,.slice (some ⟨gb,0,none⟩) G.code.length cp] (by omega)))
    clear m0 m1 m2 m3 m4 hb5 hb6 hg6 hw4 hP5 hsw hGe hGok hcn hst
    go_wp2_with (first
     |(show wpList Try.prog _ _ (⟨none,.store _ (.tmp 1) _,_,_,_,_⟩::_) _ _;refine wpList_store_row rfl 24 (.tmp 1) (.tmp 26) rfl w.heap.size #[.string f.nm,.int .i64 f.ps,.int .i64 f.R,.int .i64 f.Fr,.slice (some ⟨gb,0,none⟩) G.code.length cp] rfl rfl 24 _ hx6 sF rfl (cS _ _ _ _ _ _ _) ?_)
     |(show wpList Try.prog _ _ (⟨none,.store _ (.tmp 2) _,_,_,_,_⟩::_) _ _;refine wpList_store_row rfl 24 (.tmp 2) (.tmp 34) rfl (w.heap.size+1) #[.string f.nm,.int .i64 f.ps,.int .i64 f.R,.int .i64 f.Fr,.slice (some ⟨gb,0,none⟩) G.code.length cp] rfl rfl 24 _ hrt sF rfl (cS _ _ _ _ _ _ _) ?_))
    (try simp only[Exit.inBlock,Exit.then])
    refine bodyPost_ret (by simp[results,Try.results24,go_sem,e0,e1,e2,e3,e4];try rfl) rfl ?_
    refine⟨⟨G.code,some ⟨gb,0,none⟩,cp,?_,?_,rfl,PreI.read HRF2.out,gb,rfl,HRF2.out⟩,HBF2.out⟩
    ·have h:=HRR.out G (by rw[show 20-k=(19-k)+1 by omega];exact .stop HA.out HSWP.out (by rw[HCN.out];exact hz))
     rw[HGE.out] at h
     exact h
    ·have h:=HGOK.out
     rw[HGE.out] at h
     exact h
   ·have qz:decide ((kP l L:Int)+(aU (iP (wc f l)) M L:Int)+((L:Int)-G.code.length)=0)=false:=by rw[decide_eq_false_iff_not];omega
    have qz2:(((kP l L:Int)+(aU (iP (wc f l)) M L:Int)+((L:Int)-G.code.length))==0)=false:=by rw[beq_eq_false_iff_ne];omega
    clear m0 m1 m2 m3 m4 hb5 hb6 hg6 hw4 hP5 hsw hGe hGok hcn hst hrt q0 q1 q2 q3 q4
    go_wp2_with (first
     |(show wpList Try.prog _ _ (⟨none,.store _ (.tmp 1) _,_,_,_,_⟩::_) _ _;refine wpList_store_row rfl 24 (.tmp 1) (.tmp 26) rfl w.heap.size #[.string f.nm,.int .i64 f.ps,.int .i64 f.R,.int .i64 f.Fr,.slice (some ⟨gb,0,none⟩) G.code.length cp] rfl rfl 24 _ hx6 sF rfl (cS _ _ _ _ _ _ _) ?_))
    refine⟨⟨k+1,by omega,by go_num,G.code,some ⟨gb,0,none⟩,cp,?_,by have:=HLEN.out;have:=HLL.out;omega,HST.out,HRT.out,PreI.read HRF.out,fun b o h=>by injection h with h;injection h with h1 h2;omega,HBF.out,fun g hg=>HRR.out g ?_,fun _=>⟨gb,rfl,HRF.out⟩⟩,by simp[intOf];omega⟩
    ·have h:=HGOK.out
     rw[HGE.out] at h
     exact h
    ·rw[show 20-k=(20-(k+1))+1 by omega]
     refine .more HA.out HSWP.out (by rw[HCN.out];exact hz) ?_
     rw[HGE.out]
     exact hg
  ·obtain rfl:k=20:=by omega
   have h:=hR (wc f l) (.zero _)
   have HRR:=Hz h
   have HOK:=Hz hok
   obtain⟨nb,hCn,hPn⟩:=hPk (by omega)
   have HPN:=Hz (⟨nb,hCn,Pre.of_heap hPn (setRow_other wr (w.heap.size+1) nb #[.string f.nm,.int .i64 f.ps,.int .i64 f.R,.int .i64 f.Fr,.slice C' L cap'] (hoff nb 0 hCn).2)⟩:∃ nb,C'=some ⟨nb,0,none⟩∧PreI (wr.setRow (w.heap.size+1) #[.string f.nm,.int .i64 f.ps,.int .i64 f.R,.int .i64 f.Fr,.slice C' L cap']) nb l)
   clear hPk hPn hCn
   have hfi:=setRow_heap _ _ _ #[.string f.nm,.int .i64 f.ps,.int .i64 f.R,.int .i64 f.Fr,.slice C' L cap'] _ _ hx1
   have hx0':=hx0
   rw[hL] at hx0'
   have g0:=aA hx0' 0 (.string f.nm) rfl
   have g1:=aA hx0' 1 (.int .i64 f.ps) rfl
   have g2:=aA hx0' 2 (.int .i64 f.R) rfl
   have g3:=aA hx0' 3 (.int .i64 f.Fr) rfl
   have g4:=aA hx0' 4 (.slice C' L cap') rfl
   have e0:=aA hfi 0 (.string f.nm) rfl
   have e1:=aA hfi 1 (.int .i64 f.ps) rfl
   have e2:=aA hfi 2 (.int .i64 f.R) rfl
   have e3:=aA hfi 3 (.int .i64 f.Fr) rfl
   have e4:=aA hfi 4 (.slice C' L cap') rfl
   have HRD2:=Hz (hrd.keepS (w':=wr.setRow (w.heap.size+1) #[.string f.nm,.int .i64 f.ps,.int .i64 f.R,.int .i64 f.Fr,.slice C' L cap']) (by simp) (fun b o hA _=>setRow_other _ _ _ _ (fun e=>(hoff b o hA).2 e)))
   have HBF2:Hid (Below w.heap.size w (wr.setRow (w.heap.size+1) #[.string f.nm,.int .i64 f.ps,.int .i64 f.R,.int .i64 f.Fr,.slice C' L cap'])):=Hz (below_setRow hbw (by omega) _)
   have HLL:=Hz hL
   clear hR h hok hrd hbw hoff hx0 hx0' hL
   go_wp2_with (first
    |(show wpList Try.prog _ _ (⟨none,.store _ (.tmp 2) _,_,_,_,_⟩::_) _ _;refine wpList_store_row rfl 24 (.tmp 2) (.tmp 34) rfl (w.heap.size+1) #[.string f.nm,.int .i64 f.ps,.int .i64 f.R,.int .i64 f.Fr,.slice C' L cap'] rfl rfl 24 _ hx1 sF rfl (cS _ _ _ _ _ _ _) ?_))
   (try simp only[Exit.inBlock,Exit.then])
   refine bodyPost_ret (by simp[results,Try.results24,go_sem,e0,e1,e2,e3,e4];try rfl) rfl ?_
   exact⟨⟨l,C',cap',HRR.out,HOK.out,by rw[HLL.out],HRD2.out,HPN.out⟩,HBF2.out⟩
end Go.Proofs.Ytkcclefonmnpnaa
/- code.Clone of any code. -/
