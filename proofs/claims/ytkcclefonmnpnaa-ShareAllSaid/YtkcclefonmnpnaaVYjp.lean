import Derived.Test.YtkcclefonmnpnaaVYj
import Derived.Test.YtkcclefonmnpnaaVZr
import Derived.Test.YtkcclefonmnpnaaVXb
import Derived.Test.YtkcclefonmnpnaaVYc
import Derived.Test.YtkcclefonmnpnaaVYe
import Derived.Test.YtkcclefonmnpnaaVXr
import Derived.Test.YtkcclefonmnpnaaVYd
set_option maxRecDepth 1000000
set_option maxHeartbeats 32000000
namespace Go.Proofs.Ytkcclefonmnpnaa
open Go.RowKit Go.BigFrame
theorem uH (u:eH)(F G:Option Addr)(cF cG:Nat)(I:Option Addr)(Li icap:Nat)(n:Int)(w:World)(h:RdU w F G u)(hl0:u.funcs.length≤9223372036854775807)(hl1:u.globs.length≤9223372036854775807)(hlc:∀ f ∈ u.funcs,f.code.length≤9223372036854775807)(hLi:Li≤9223372036854775807)
  (hno:¬ (nL u∧Li≤200∧n≤5000∧OkU u)) :
  Calls Try.prog 7 #[cK u F G cF cG,.slice I Li icap,.int .i64 n] w fun e w'=>e = .returned (.bool true)∧Below w.heap.size w w':=by
 have hB:=Below.one w (bD u F G cF cG)
 have hx:=heap_alloc_new w (bD u F G cF cG)
 have h1:=h.below hB
 have hfew:=kZ u F G cF cG _ h1 hl0 hl1 hlc
 have hri:=fun W h h6 h10=>eP u F G cF cG W h h6 h10
 have hawk:=fun W=>gH W
 obtain⟨W,hW⟩:∃ W,w.alloc (bD u F G cF cG)=W:=⟨_,rfl⟩
 rw[hW] at hB hx h1 hfew
 obtain⟨N,hN⟩:∃ N,u.funcs.length=N:=⟨_,rfl⟩
 obtain⟨M,hM⟩:∃ M,u.globs.length=M:=⟨_,rfl⟩
 simp only[bD,cK] at hx hW hfew hri ⊢
 simp only[hN,hM] at hx hW hfew hri ⊢
 have HN:=Hz hN
 have HM:=Hz hM
 have HB:=Hz hB
 have HX:=Hz hx
 have H1:=Hz h1
 have HAWK:=Hz hawk
 have HRI:=Hz hri
 have g0:=aA hx 0 (.slice F N cF) rfl
 have g1:=aA hx 1 (.slice G M cG) rfl
 have g2:=aA hx 2 (.int .i64 u.top) rfl
 clear h hB hx h1 hawk hri hN hM hl0 hl1 hlc
 by_cases c1:nL u
 case neg =>
  have hf:=hfew.mono fun e w' h=>(⟨sM h.1 c1,h.2⟩:e = .returned (.bool false)∧Below W.heap.size W w')
  have HF:=Hz hf
  clear hfew hf c1 hno
  go_enter Try.func7,Try.ntmps7
  go_wp2_with fail
  refine HF.out.mono ?_
  rintro e w1 ⟨rfl,hb1⟩
  go_wp2_with (first
   |(refine (HAWK.out _).mono ?_;rintro e w2 ⟨rfl,hb2⟩))
  go_returns
  exact⟨rfl,HB.out.trans ((hb1.trans (hb2.mono hb1.size)).mono HB.out.size)⟩
 have hf:=hfew.mono fun e w' h=>(⟨jL h.1 c1,h.2⟩:e = .returned (.bool true)∧Below W.heap.size W w')
 have HF:=Hz hf
 have C1:=Hz c1
 clear hfew hf c1
 by_cases c2:Li≤200
 case neg =>
  have t1:decide ((Li:Int)>200)=true:=by simp;omega
  have t2:decide ((200:Int)<Li)=true:=by simp;omega
  clear c2 hno
  go_enter Try.func7,Try.ntmps7
  go_wp2_with fail
  refine HF.out.mono ?_
  rintro e w1 ⟨rfl,hb1⟩
  go_wp2_with (first
   |(refine (HAWK.out _).mono ?_;rintro e w2 ⟨rfl,hb2⟩))
  go_returns
  exact⟨rfl,HB.out.trans ((hb1.trans (hb2.mono hb1.size)).mono HB.out.size)⟩
 have t1:decide ((Li:Int)>200)=false:=by simp;omega
 have t2:decide ((200:Int)<Li)=false:=by simp;omega
 have C2:=Hz c2
 clear c2
 by_cases c3:n≤5000
 case neg =>
  have t3:decide (n>5000)=true:=by simp;omega
  have t4:decide (5000<n)=true:=by simp;omega
  clear c3 hno
  go_enter Try.func7,Try.ntmps7
  go_wp2_with fail
  refine HF.out.mono ?_
  rintro e w1 ⟨rfl,hb1⟩
  go_wp2_with (first
   |(refine (HAWK.out _).mono ?_;rintro e w2 ⟨rfl,hb2⟩))
  go_returns
  exact⟨rfl,HB.out.trans ((hb1.trans (hb2.mono hb1.size)).mono HB.out.size)⟩
 have t3:decide (n>5000)=false:=by simp;omega
 have t4:decide (5000<n)=false:=by simp;omega
 have c4:¬ OkU u:=fun h=>hno ⟨C1.out,C2.out,c3,h⟩
 have hr:=fun W h=>(HRI.out W h (by rw[←HN.out];have:=C1.out.1;omega) (by rw[←HM.out];have:=C1.out.2.1;omega)).mono fun e w' h=>(⟨sM h.1 c4,h.2⟩:e = .returned (.bool false)∧Below W.heap.size W w')
 have HR:=Hz hr
 clear c3 c4 hno hr
 go_enter Try.func7,Try.ntmps7
 go_wp2_with fail
 refine HF.out.mono ?_
 rintro e w1 ⟨rfl,hb1⟩
 have hx1:=(hb1.block _ (Az HX.out).1).trans HX.out
 have k0:=aA hx1 0 (.slice F N cF) rfl
 have k1:=aA hx1 1 (.slice G M cG) rfl
 have k2:=aA hx1 2 (.int .i64 u.top) rfl
 have HB1:=Hz hb1
 clear g0 g1 g2 hx1 hb1
 go_wp2_with fail
 refine (HR.out _ (H1.out.below HB1.out)).mono ?_
 rintro e w3 ⟨rfl,hb3⟩
 go_wp2_with (first
  |(refine (HAWK.out _).mono ?_;rintro e w2 ⟨rfl,hb2⟩))
 go_returns
 exact⟨rfl,HB.out.trans ((HB1.out.trans ((hb3.trans (hb2.mono hb3.size)).mono HB1.out.size)).mono HB.out.size)⟩
theorem sN (stay:Prop)(R:aR→List Ins→Prop)(u:eH)(F G:Option Addr)(cF cG:Nat)(I:Option Addr)(inp:List Int)(icap:Nat)(n:Int)(w:World)(h:RdU w F G u)(hI:RdB w I inp)(hic:inp.length≤icap)(hby:∀ a ∈ inp,0≤a∧a≤255)
  (hlc:∀ f ∈ u.funcs,f.code.length≤9223372036854775807) (c1:nL u) (c2:inp.length≤200) (c3:n≤5000) (c4:OkU u) (hTr:∀ f ∈ u.funcs,∀ l,R f l→TrS stay f (uJ f l))
  (hT:∀ f ∈ u.funcs,∀ C cap W,RdI W C f.code→Calls Try.prog 24 #[aH f.nm f.ps f.R f.Fr C f.code.length cap] W fun e w'=>(∃ l nb cap',R f l∧e = .returned (aH f.nm f.ps f.R f.Fr (some ⟨nb,0,none⟩) l.length cap')∧PreI w' nb l)∧Below W.heap.size W w')
  (hLn:∀ f ∈ u.funcs,∀ l,R f l→l.length≤f.code.length) :
  Calls Try.prog 7 #[cK u F G cF cG,.slice I inp.length icap,.int .i64 n] w fun e w'=>e = .returned (.bool true)∧Below w.heap.size w w':=by
 have hB:=Below.one w (bD u F G cF cG)
 have hx:=heap_alloc_new w (bD u F G cF cG)
 have h1:=h.below hB
 have hI1:=hI.below hB
 have hlg:u.globs.length≤100000:=by have:=c1.2.1;omega
 have hfew:=(kZ u F G cF cG _ h1 (by have:=c1.1;omega) (by omega) hlc).mono fun e w' h=>(⟨jL h.1 c1,h.2⟩:e = .returned (.bool true)∧Below (w.alloc (bD u F G cF cG)).heap.size (w.alloc (bD u F G cF cG)) w')
 have hri:=fun W h=>(eP u F G cF cG W h (by have:=c1.1;omega) hlg).mono fun e w' h=>(⟨jL h.1 c4,h.2⟩:e = .returned (.bool true)∧Below W.heap.size W w')
 have hsw:=fun W h=>jK 24 R u F G cF cG c4.len (kN Try.func24 (by kernel_rfl) rfl) hT W h
 have hawk:=fun W=>gH W
 have hrun:=fun W (h:RdU W F G u) hI=>nZ u F G cF cG I icap inp n W h c4 hlg hI hic hby c3
 have hrunv:=fun (gs:List aR) (A:Option Addr) (cap:Nat) (hv:OkU { u with funcs:=gs }) W (h:RdU W A G { u with funcs:=gs }) hI=>nZ { u with funcs:=gs } A G cap cG I icap inp n W h hv hlg hI hic hby c3
 have hriv:=fun (gs:List aR) (A:Option Addr) (cap:Nat) (hv:OkU { u with funcs:=gs }) W (h:RdU W A G { u with funcs:=gs })=>(eP { u with funcs:=gs } A G cap cG W h (by have:=hv.len;simp only at this ⊢;omega) hlg).mono fun e w' h=>(⟨jL h.1 hv,h.2⟩:e = .returned (.bool true)∧Below W.heap.size W w')
 obtain⟨W,hW⟩:∃ W,w.alloc (bD u F G cF cG)=W:=⟨_,rfl⟩
 rw[hW] at hB hx h1 hfew hI1
 have t1:decide ((inp.length:Int)>200)=false:=by simp;omega
 have t2:decide ((200:Int)<inp.length)=false:=by simp;omega
 have t3:decide (n>5000)=false:=by simp;omega
 have t4:decide (5000<n)=false:=by simp;omega
 have hul:=c4.len
 obtain⟨N,hN⟩:∃ N,u.funcs.length=N:=⟨_,rfl⟩
 obtain⟨M,hM⟩:∃ M,u.globs.length=M:=⟨_,rfl⟩
 obtain⟨Li,hLi⟩:∃ Li,inp.length=Li:=⟨_,rfl⟩
 simp only[bD,cK] at hx hW hfew hri hsw hrun hrunv hriv ⊢
 simp only[hN,hM,hLi] at hx hW hfew hri hsw hrun hrunv hriv t1 t2 ⊢
 have HN:=Hz hN
 have HM:=Hz hM
 have HB:=Hz hB
 have HX:=Hz hx
 have H1:=Hz h1
 have HI1:=Hz hI1
 have HF:=Hz hfew
 have HRI:=Hz hri
 have HSW:=Hz hsw
 have HAWK:=Hz hawk
 have HRUN:=Hz hrun
 have HRUNV:=Hz hrunv
 have HRIV:=Hz hriv
 have C3:=Hz c3
 have C4:=Hz c4
 have HTR:=Hz hTr
 have HLN0:=Hz hLn
 have g0:=aA hx 0 (.slice F N cF) rfl
 have g1:=aA hx 1 (.slice G M cG) rfl
 have g2:=aA hx 2 (.int .i64 u.top) rfl
 have hblx:=(Az hx).1
 clear hLn h hI hB hx h1 hI1 hfew hri hsw hrun hrunv hriv hawk hN hM hLi hlc c1 c2 c3 c4 hTr hT hlg hul
 go_enter Try.func7,Try.ntmps7
 go_wp2_with fail
 refine HF.out.mono ?_
 rintro e w1 ⟨rfl,hb1⟩
 dsimp only
 have hx1:=(hb1.block _ hblx).trans HX.out
 have k0:=aA hx1 0 (.slice F N cF) rfl
 have k1:=aA hx1 1 (.slice G M cG) rfl
 have k2:=aA hx1 2 (.int .i64 u.top) rfl
 have HB1:=Hz hb1
 clear g0 g1 g2 hx1 hb1
 go_wp2_with fail
 refine (HRI.out _ (H1.out.below HB1.out)).mono ?_
 rintro e w2 ⟨rfl,hb2⟩
 dsimp only
 have hb12:=HB1.out.trans (hb2.mono HB1.out.size)
 have hx2:=(hb12.block _ hblx).trans HX.out
 have m0:=aA hx2 0 (.slice F N cF) rfl
 have m1:=aA hx2 1 (.slice G M cG) rfl
 have m2:=aA hx2 2 (.int .i64 u.top) rfl
 have HB2:=Hz hb12
 clear k0 k1 k2 hx2 hb2 hb12
 go_wp2_with fail
 refine (HSW.out _ (H1.out.below HB2.out)).mono ?_
 rintro e w3 ⟨⟨gs,A,capA,rfl,hrF,hlen,hrel⟩,hb3⟩
 dsimp only
 obtain⟨ngs,hngs⟩:∃ ngs,gs.length=ngs:=⟨_,rfl⟩
 rw[hngs,HM.out]
 have HNGS:=Hz hngs
 clear hngs
 have hb13:=HB2.out.trans (hb3.mono HB2.out.size)
 have htr:∀ (k:Nat) f g,u.funcs[k]? = some f→gs[k]? = some g→TrS stay f g:=fun k f g hf hg=>by
  obtain⟨l,rfl,hR⟩:=hrel k f g hf hg
  exact HTR.out f (Mz hf) l hR
 have HLN:Hid (∀ (k:Nat) f g,u.funcs[k]? = some f→gs[k]? = some g→g.code.length≤f.code.length):=Hz fun k f g hf hg=>by
  obtain⟨l,rfl,hR⟩:=hrel k f g hf hg
  exact HLN0.out f (Mz hf) l hR
 have hv:=C4.out.swap gs hlen htr
 have hres:=tH C4.out.okC gs hlen htr inp n.toNat
 have hb4:=hb13.alloc hb13.size (.cells #[.slice A ngs capA,.slice G M cG,.int .i64 u.top] 43)
 have hy4:=heap_alloc_new w3 (.cells #[.slice A ngs capA,.slice G M cG,.int .i64 u.top] 43)
 have hrU:RdU (w3.alloc (.cells #[.slice A ngs capA,.slice G M cG,.int .i64 u.top] 43)) A G { u with funcs:=gs }:=⟨hrF.below (Below.one _ _),(H1.out.gs.below hb4)⟩
 obtain⟨w4,hw4⟩:∃ w4,w3.alloc (.cells #[.slice A ngs capA,.slice G M cG,.int .i64 u.top] 43)=w4:=⟨_,rfl⟩
 rw[hw4] at hb4 hy4 hrU
 have hx4:=(hb4.block _ hblx).trans HX.out
 have p0:=aA hx4 0 (.slice F N cF) rfl
 have p1:=aA hx4 1 (.slice G M cG) rfl
 have p2:=aA hx4 2 (.int .i64 u.top) rfl
 have q0:=aA hy4 0 (.slice A ngs capA) rfl
 have q1:=aA hy4 1 (.slice G M cG) rfl
 have q2:=aA hy4 2 (.int .i64 u.top) rfl
 have hlx:=(Az hx4).1
 have hly:=(Az hy4).1
 have HB4:=Hz hb4
 have HV:=Hz hv
 have HRES:=Hz hres
 have HRU:=Hz (H1.out.below hb4)
 have HRV:=Hz hrU
 have HI4:=Hz (HI1.out.below hb4)
 have HGL:Hid (ngs=N):=Hz (by rw[←HNGS.out,hlen,HN.out])
 clear m0 m1 m2 hb3 hb13 htr hv hres hb4 hrU hrF hlen hrel
 have HLENS:=HLN
 have HX4:=Hz hx4
 have HY4:=Hz hy4
 have hn64:N≤64:=by have:=C4.out.len;rw[HN.out] at this;exact this
 go_wp2_with fail
 clear p0 p1 p2 q0 q1 q2 hx4 hy4
 go_loopw [32] (fun ix wr=>∃ k:Nat,k≤N∧ix = .int .i64 k∧Below w4.heap.size w4 wr) (fun ix _=>N-(intOf ix).toNat)
 case atStart=>exact⟨0,by omega,rfl,Below.refl _ _⟩
 case round =>
  obtain⟨k,hk,rfl,hbw⟩:=hrel
  have hx4:=(hbw.block _ hlx).trans HX4.out
  have hy4:=(hbw.block _ hly).trans HY4.out
  have p0:=aA hx4 0 (.slice F N cF) rfl
  have p1:=aA hx4 1 (.slice G M cG) rfl
  have p2:=aA hx4 2 (.int .i64 u.top) rfl
  have q0:=aA hy4 0 (.slice A ngs capA) rfl
  have q1:=aA hy4 1 (.slice G M cG) rfl
  have q2:=aA hy4 2 (.int .i64 u.top) rfl
  have hlx:=(Az hx4).1
  have hly:=(Az hy4).1
  have HBW:=Hz hbw
  by_cases hlt:k<N
  ·obtain⟨f,hf⟩:∃ f,u.funcs[k]? = some f:=⟨_,List.getElem?_eq_getElem (by rw[HN.out];exact hlt)⟩
   obtain⟨g,hg⟩:∃ g,gs[k]? = some g:=⟨_,List.getElem?_eq_getElem (by rw[HNGS.out,HGL.out];exact hlt)⟩
   have hle:=HLENS.out k f g hf hg
   obtain⟨b,o,C,cap,rfl,hbl,hcs,_⟩:=(HRU.out.below hbw).fs k f hf
   obtain⟨b',o',C',cap',rfl,hbl',hcs',_⟩:=(HRV.out.below hbw).fs k g hg
   obtain⟨x0,x1,x2,x3,x4⟩:=cX hcs
   obtain⟨y0,y1,y2,y3,y4⟩:=cX hcs'
   have t5:decide ((g.code.length:Int)>f.code.length)=false:=by simp;omega
   have t6:decide ((f.code.length:Int)<g.code.length)=false:=by simp;omega
   have hlt2:k<ngs:=by rw[HGL.out];exact hlt
   clear hcs hcs' hf hg x0 x1 x2 x3 y0 y1 y2 y3 hbw hx4 hy4
   go_upto_region 7 with fail
   go_quiet (fail)
   go_wp2
   exact⟨⟨k+1,by omega,by go_num,⟨HBW.out.os,HBW.out.tape,HBW.out.output,HBW.out.size,HBW.out.block⟩⟩,by simp[intOf];omega⟩
  ·obtain rfl:N=k:=by omega
   have HRU':=Hz (HRU.out.below hbw)
   have HRV':=Hz (HRV.out.below hbw)
   have HI4':=Hz (HI4.out.below hbw)
   have hb4':=HB4.out.trans (hbw.mono HB4.out.size)
   have HB4':=Hz hb4'
   clear HRU HRV HI4 HB4 HX4 HY4 hbw HBW hb4'
   have HRU:=HRU'
   have HRV:=HRV'
   have HI4:=HI4'
   have HB4:=HB4'
   clear HRU' HRV' HI4' HB4'
   have hrv:=HRIV.out gs A capA HV.out
   have hrnv:=HRUNV.out gs A capA HV.out
   simp only[HNGS.out] at hrv hrnv
   have ho1:=lR u inp n.toNat
   have ho2:=lR { u with funcs:=gs } inp n.toNat
   have hdo:=fun W' (hb:Below wr.heap.size wr W')=>uG (dY u inp n.toNat) (dY { u with funcs:=gs } inp n.toNat) HRES.out.fast.does (by have:=C3.out;omega) (by have:=C3.out;omega) u { u with funcs:=gs } F G A G cF cG capA cG I Li icap n W'
    (fun W hW=>by
     have h:=HRUN.out W (HRU.out.below (hb.trans (hW.mono hb.size))) (HI4.out.below (hb.trans (hW.mono hb.size)))
     simp only[cK,HN.out,HM.out]
     exact h) (fun W hW=>by
     have h:=hrnv W (HRV.out.below (hb.trans (hW.mono hb.size))) (HI4.out.below (hb.trans (hW.mono hb.size)))
     simp only[cK,HNGS.out,HM.out]
     exact h)
   simp only[cK,HN.out,HM.out,HNGS.out] at hdo
   have HRRV:=Hz hrv
   have HDO:=Hz hdo
   have HY4:=Hz hy4
   have HX4:=Hz hx4
   clear hrv hrnv ho1 ho2 hdo hy4 hx4
   go_wp2_with fail
   refine (HRRV.out _ HRV.out).mono ?_
   rintro e w5 ⟨rfl,hb5⟩
   dsimp only
   have hx5:=(hb5.block _ hlx).trans HX4.out
   have hy5:=(hb5.block _ hly).trans HY4.out
   have r0:=aA hx5 0 (.slice F N cF) rfl
   have r1:=aA hx5 1 (.slice G M cG) rfl
   have r2:=aA hx5 2 (.int .i64 u.top) rfl
   have s0:=aA hy5 0 (.slice A ngs capA) rfl
   have s1:=aA hy5 1 (.slice G M cG) rfl
   have s2:=aA hy5 2 (.int .i64 u.top) rfl
   have HB5:=Hz hb5
   clear hx5 hy5 hb5 p0 p1 p2 q0 q1 q2 hw4
   go_wp2_with fail
   refine (HDO.out _ HB5.out).mono ?_
   rintro e w6 ⟨rfl,hb6⟩
   dsimp only
   go_wp2_with (first
    |(refine (HAWK.out _).mono ?_;rintro e w7 ⟨rfl,hb7⟩))
   go_returns
   have hbb:=HB5.out.trans ((hb6.trans (hb7.mono hb6.size)).mono HB5.out.size)
   exact⟨rfl,HB.out.trans ((HB4.out.trans (hbb.mono HB4.out.size)).mono HB.out.size)⟩
theorem ShareAll_any (u:eH)(F G:Option Addr)(cF cG:Nat)(I:Option Addr)(inp:List Int)(icap:Nat)(n:Int)(w:World)(h:RdU w F G u)(hI:RdB w I inp)(hic:inp.length≤icap)(hby:∀ a ∈ inp,0≤a∧a≤255)
  (hl0:u.funcs.length≤9223372036854775807) (hl1:u.globs.length≤9223372036854775807) (hlc:∀ f ∈ u.funcs,f.code.length≤9223372036854775807) (hLi:inp.length≤9223372036854775807) :
  Calls Try.prog 7 #[cK u F G cF cG,.slice I inp.length icap,.int .i64 n] w fun e w'=>e = .returned (.bool true)∧Below w.heap.size w w':=by
 by_cases hc:nL u∧inp.length≤200∧n≤5000∧OkU u
 ·refine sN True (fun f l=>ShR 20 f (wc f l)) u F G cF cG I inp icap n w h hI hic hby hlc hc.1 hc.2.1 hc.2.2.1 hc.2.2.2 (fun f hf l hl=>?_) (fun f hf C cap W hC=>?_) (fun f hf l hl=>?_)
  ·exact hl.tr (hc.2.2.2.ok f hf)
  ·exact (sK f (hc.2.2.2.ok f hf) (pQ (hc.1.2.2.1 f hf) (hc.2.2.2.ok f hf)) C cap W hC).mono fun e w' ⟨⟨l,A',c',h1,h2,h3,h4,nb,h5,h6⟩,hb⟩=>⟨⟨l,nb,c',h1,by rw[←h5];exact h3,h6⟩,hb⟩
  ·exact hl.len (hc.2.2.2.ok f hf)
 ·exact uH u F G cF cG I inp.length icap n w h hl0 hl1 hlc hLi hc
end Go.Proofs.Ytkcclefonmnpnaa
