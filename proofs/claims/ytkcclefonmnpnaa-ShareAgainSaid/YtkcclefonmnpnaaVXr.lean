import Derived.Test.YtkcclefonmnpnaaVXq
set_option maxRecDepth 1000000
set_option maxHeartbeats 32000000
namespace Go.Proofs.Ytkcclefonmnpnaa
open Go.RowKit Go.BigFrame
abbrev pN:Obj:=.cells #[.int .i64 0,.int .i64 0,.slice none 0 0] 49
def dZ (l:List Gl)(k:Nat):List Int:=(l.take k).foldl (fun m g=>if g.at_<4096 then m.set g.at_.toNat g.init else m) (List.replicate 4096 0)
theorem wN (l:List Gl):dZ l l.length=vI l:=by unfold dZ vI;rw[List.take_length]
theorem uD {l:List Gl}{k:Nat}{g:Gl}(h:l[k]? = some g):dZ l (k+1)=if g.at_<4096 then (dZ l k).set g.at_.toNat g.init else dZ l k:=by
 unfold dZ
 rw[List.take_add_one,h,List.foldl_append]
 rfl
theorem wO (l:List Gl):∀ k,(dZ l k).length=4096:=by
 have key:∀ (l:List Gl) (m:List Int),(l.foldl (fun m g=>if g.at_<4096 then m.set g.at_.toNat g.init else m) m).length=m.length:=by
  intro l
  induction l with
  | nil=>intro m;rfl
  | cons g l ih =>
   intro m
   rw[List.foldl_cons,ih]
   split <;> simp
 intro k
 unfold dZ
 rw[key]
 exact List.length_replicate ..
theorem zL (W:World):(Instr.makeSlice 33 (.int .i64 4096) (.int .i64 4096)).run Try.prog W = .ok (.slice (some ⟨W.heap.size,0,none⟩) 4096 4096) (W.alloc (.cells (madeCells #[.int .i64 0] 4096) 3)):=mA 4096 (by omega) W
theorem RnS.first {w0 w w':World}{E:eX}{mb rb:Nat}{iv ov sv:Value}(h:RnS w0 w [] E mb rb iv ov sv)(hb:Below w.heap.size w w')(t:cU)(hr:w'.heap[w.heap.size]? = some (lY t.ρ))(hf:w'.heap[w.heap.size+1]? = some (jA t w.heap.size t.ρ.length)):RnS w0 w' [(t,w.heap.size)] E mb rb iv ov (.slice (some ⟨w.heap.size+1,0,none⟩) 1 1):=by
 have h1:=h.later hb
 exact {
  b:=h1.b
  mem:=h1.mem
  ml:=h1.ml
  mB:=h1.mB
  res:=h1.res
  rB:=h1.rB
  inp:=h1.inp
  out:=h1.out
  stk:=⟨rfl,Or.inr ⟨w.heap.size+1,1,_,rfl,Nat.le_succ_of_le h.b.size,hf,Nat.le_refl _,by decide,rfl,rfl⟩⟩
  regs:=fun x hx=>by
   obtain rfl:=List.mem_singleton.1 hx
   exact⟨h.b.size,Ne.symm h.fresh.1,hr⟩
  nd:=by simp }
theorem nZ (u:eH)(F G:Option Addr)(cF cG:Nat)(I:Option Addr)(icap:Nat)(inp:List Int)(n:Int)(w:World)(h:RdU w F G u)(hU:OkU u)(hlg:u.globs.length≤100000)(hI:RdB w I inp)(hic:inp.length≤icap)(hby:∀ a ∈ inp,0≤a∧a≤255)(hn:n≤5000) :
  Calls Try.prog 30 #[cK u F G cF cG,.slice I inp.length icap,.int .i64 n] w fun e w'=>DI (dY u inp n.toNat) e w'∧Below w.heap.size w w':=by
 have hul:=hU.len
 have hB:=Below.one w (bD u F G cF cG)
 have hx:=heap_alloc_new w (bD u F G cF cG)
 have h1:=h.below hB
 have hI1:=hI.below hB
 have hfind:=fun W h=>oQ u F G cF cG gJ (by omega) W h
 have hright:=fun W (h:RdU W F G u)=>(eP u F G cF cG W h (by omega) hlg).mono fun e w' h=>(⟨by obtain⟨⟨bb,h1,h2⟩,_⟩:=h;rw[h1,h2.2 hU],h.2⟩:e = .returned (.bool true)∧Below W.heap.size W w')
 have hzW:(w.alloc (bD u F G cF cG)).heap.size=w.heap.size+1:=by simp
 obtain⟨W,hW⟩:∃ W,w.alloc (bD u F G cF cG)=W:=⟨_,rfl⟩
 rw[hW] at hB hx h1 hI1 hzW
 obtain⟨ub,hub⟩:∃ ub,w.heap.size=ub:=⟨_,rfl⟩
 rw[hub] at hx hzW hB
 have hB1:=Below.one W pN
 have hr1:=heap_alloc_new W pN
 have hx1:=(hB1.block _ (Az hx).1).trans hx
 have hz1:(W.alloc pN).heap.size=W.heap.size+1:=by simp
 obtain⟨W1,hW1⟩:∃ W1,W.alloc pN=W1:=⟨_,rfl⟩
 rw[hW1] at hB1 hr1 hx1 hz1
 obtain⟨N,hN⟩:∃ N,u.funcs.length=N:=⟨_,rfl⟩
 obtain⟨M,hM⟩:∃ M,u.globs.length=M:=⟨_,rfl⟩
 simp only[bD,cK,pN] at hx hx1 hr1 hW hW1 hfind hright ⊢
 simp only[hN,hM] at hx hx1 hW hfind hright ⊢
 simp only[gJ] at hfind
 have hM9:M≤100000:=by rw[←hM];exact hlg
 have HN:=Hz hN
 have HM:=Hz hM
 have HB:=Hz hB
 have HX:=Hz hx
 have HX1:=Hz hx1
 have HR1:=Hz hr1
 have H1:=Hz h1
 have HI1:=Hz hI1
 have HB1:=Hz hB1
 have HFIND:=Hz hfind
 have HRIGHT:=Hz hright
 have HU:=Hz hU
 have HBY:=Hz hby
 have HZW:=Hz hzW
 have HZ1:=Hz hz1
 have g0:=aA hx1 0 (.slice F N cF) rfl
 have g1:=aA hx1 1 (.slice G M cG) rfl
 have g2:=aA hx1 2 (.int .i64 u.top) rfl
 clear h hI hB hx h1 hI1 hfind hright hB1 hr1 hx1 hU hby hN hM hzW hz1
 go_enter Try.func30,Try.ntmps30
 go_wp2_with fail
 refine (HFIND.out _ (H1.out.fs.below HB1.out)).mono ?_
 rintro e w2 ⟨rfl,hb2⟩
 dsimp only
 have HX2:=Hz ((hb2.block _ (Az HX1.out).1).trans HX1.out)
 have HR2:=Hz ((hb2.block _ (Az HR1.out).1).trans HR1.out)
 have HB2:=Hz (HB1.out.trans (hb2.mono HB1.out.size))
 have k0:=aA HX2.out 0 (.slice F N cF) rfl
 have k1:=aA HX2.out 1 (.slice G M cG) rfl
 have k2:=aA HX2.out 2 (.int .i64 u.top) rfl
 clear hb2 g0 g1 g2
 go_wp2_with fail
 refine (HRIGHT.out _ (H1.out.below HB2.out)).mono ?_
 rintro e w3 ⟨rfl,hb3⟩
 dsimp only
 have HX3:=Hz ((hb3.block _ (Az HX2.out).1).trans HX2.out)
 have HR3:=Hz ((hb3.block _ (Az HR2.out).1).trans HR2.out)
 have HB3:=Hz (HB2.out.trans (hb3.mono HB2.out.size))
 have H3:=Hz (H1.out.below HB3.out)
 have m0:=aA HX3.out 0 (.slice F N cF) rfl
 have m1:=aA HX3.out 1 (.slice G M cG) rfl
 have m2:=aA HX3.out 2 (.int .i64 u.top) rfl
 clear hb3 k0 k1 k2
 have hend:∀ e:Int,IT W (w3.setRow W.heap.size #[.int .i64 e,.int .i64 0,.slice none 0 0]) W.heap.size ⟨e,0,[]⟩:=fun e=>⟨none,0,setRow_heap _ _ _ _ _ _ HR3.out,⟨fun j n hj=>by simp at hj,Nat.le_refl _⟩,below_setRow HB3.out (Nat.le_refl _) _⟩
 have HEND:=Hz hend
 clear hend
 cases hfu:bV u.funcs ⟨#[109,97,105,110]⟩ with
 | none=>as_aux_lemma =>
  rw[kL hfu]
  have HRU:Hid (dY u inp n.toNat=⟨4,0,[]⟩):=Hz (by unfold dY gJ;rw[hfu])
  obtain⟨A,cap,hc,hrd,hbb⟩:=HEND.out 4
  have e0:=aA hc 0 _ rfl
  have e1:=aA hc 1 _ rfl
  have e2:=aA hc 2 _ rfl
  have HRD:=Hz hrd
  have HBB:=Hz hbb
  clear hc hrd hbb hfu
  go_wp2_with (first
   |(show wpList Try.prog _ _ (⟨none,.store _ (.tmp 6) _,_,_,_,_⟩::_) _ _;refine wpList_store_row rfl 49 (.tmp 6) (.tmp 43) rfl W.heap.size #[.int .i64 4,.int .i64 0,.slice none 0 0] rfl rfl 49 _ HR3.out zO rfl (eB _ _ _ _ _) ?_))
  (try simp only[Exit.inBlock,Exit.then])
  refine bodyPost_ret (by simp[results,Try.results30,go_sem,e0,e1,e2];try rfl) rfl ?_
  rw[HRU.out]
  exact⟨⟨A,cap,rfl,HRD.out⟩,HB.out.trans (HBB.out.mono (by rw[←hub];exact HB.out.size))⟩
 | some km =>
  rw[iB hfu]
  obtain⟨f,hfk,hfn⟩:=tI hfu
  have hOf:=HU.out.ok f (Mz hfk)
  have hkN:km<N:=by rw[←HN.out];exact (Lz hfk).1
  obtain⟨bF,oF,C,cap,rfl,hbl,hcs,_⟩:=H3.out.fs km f hfk
  obtain⟨q0,q1,q2,q3,q4⟩:=cX hcs
  have HFK:=Hz hfk
  have HFU:=Hz hfu
  have HOF:=Hz hOf
  clear hcs hfk hfu hfn
  by_cases hps:0<f.ps
  ·as_aux_lemma =>
   have t1:decide (f.ps>0)=true:=by simpa using hps
   have t2:decide (0<f.ps)=true:=by simpa using hps
   have HRU:Hid (dY u inp n.toNat=⟨4,0,[]⟩):=Hz (by unfold dY gJ;rw[HFU.out];simp only[HFK.out];rw[if_pos hps])
   obtain⟨A,cap',hc,hrd,hbb⟩:=HEND.out 4
   have e0:=aA hc 0 _ rfl
   have e1:=aA hc 1 _ rfl
   have e2:=aA hc 2 _ rfl
   have HRD:=Hz hrd
   have HBB:=Hz hbb
   clear hc hrd hbb hOf hps
   go_wp2_with (first
    |(show wpList Try.prog _ _ (⟨none,.store _ (.tmp 6) _,_,_,_,_⟩::_) _ _;refine wpList_store_row rfl 49 (.tmp 6) (.tmp 43) rfl W.heap.size #[.int .i64 4,.int .i64 0,.slice none 0 0] rfl rfl 49 _ HR3.out zO rfl (eB _ _ _ _ _) ?_))
   (try simp only[Exit.inBlock,Exit.then])
   refine bodyPost_ret (by simp[results,Try.results30,go_sem,e0,e1,e2];try rfl) rfl ?_
   rw[HRU.out]
   exact⟨⟨A,cap',rfl,HRD.out⟩,HB.out.trans (HBB.out.mono (by rw[←hub];exact HB.out.size))⟩
  have t1:decide (f.ps>0)=false:=by simpa using hps
  have t2:decide (0<f.ps)=false:=by simpa using hps
  have HRU:Hid (dY u inp n.toNat=if 4096<u.top+f.Fr then ⟨3,0,[]⟩ else gO u n.toNat (iX u km f) ⟨vI u.globs,inp,[]⟩):=Hz (by unfold dY gJ;rw[HFU.out];simp only[HFK.out];rw[if_neg hps])
  have hmk:=fun W=>zL W
  clear hOf hps
  go_wp2
  have HS0:Hid (RnS W (w3.alloc (.cells (madeCells #[.int .i64 0] 4096) 3)) [] ⟨dZ u.globs 0,inp,[]⟩ w3.heap.size W.heap.size (.slice I inp.length icap) (.slice none 0 0) (.slice none 0 0)):=Hz {
   b:=HB3.out.trans ((Below.one w3 _).mono HB3.out.size)
   mem:=(heap_alloc_new w3 _).trans (congrArg some (mC 4096))
   ml:=wO _ _
   mB:=HB3.out.size
   res:=⟨_,aC HR3.out _,rfl⟩
   rB:=Nat.le_refl _
   inp:=⟨I,icap,rfl,HI1.out,hic,HBY.out⟩
   out:=World.ownsRow_nil _ _ _ _
   stk:=World.ownsRow_nil _ _ _ _
   regs:=fun x hx=>nomatch hx
   nd:=List.nodup_nil }
  obtain⟨rb,hrb⟩:∃ rb,W.heap.size=rb:=⟨_,rfl⟩
  obtain⟨mb,hmb⟩:∃ mb,w3.heap.size=mb:=⟨_,rfl⟩
  rw[hrb,hmb] at HS0
  rw[hrb,hmb]
  have HHX:=Hz HX.out
  clear hmk m0 m1 m2 q0 q1 q2 q3 q4
  go_loopw [9] (fun ix wr=>∃ k:Nat,k≤M∧ix = .int .i64 k∧RnS W wr [] ⟨dZ u.globs k,inp,[]⟩ mb rb (.slice I inp.length icap) (.slice none 0 0) (.slice none 0 0)) (fun ix _=>M-(intOf ix).toNat)
  case atStart=>exact⟨0,by omega,rfl,HS0.out⟩
  case round =>
   obtain⟨k,hk,rfl,hs⟩:=hrel
   have HSr:=Hz hs
   have hxr:=(hs.b.block _ (Az HX.out).1).trans HX.out
   have m0:=aA hxr 0 (.slice (some ⟨bF,oF,none⟩) N cF) rfl
   have m1:=aA hxr 1 (.slice G M cG) rfl
   have m2:=aA hxr 2 (.int .i64 u.top) rfl
   clear hs
   by_cases hlt:k<M
   ·as_aux_lemma =>
    have HLT:=Hz hlt
    obtain⟨g,hg⟩:∃ g,u.globs[k]? = some g:=⟨_,List.getElem?_eq_getElem (by rw[HM.out];exact hlt)⟩
    obtain⟨bG,oG,rfl,hbG,hcg⟩:=(H1.out.gs.below HSr.out.b) k g hg
    obtain⟨z0,z1,z2,z3⟩:=oP hcg
    have hok:=HU.out.gl g (Mz hg)
    have hsu:=uD hg
    obtain⟨a,ha⟩:∃ a:Nat,g.at_=a:=⟨g.at_.toNat,by have:=hok.1;omega⟩
    rw[ha] at z1 hsu
    have HSU:=Hz hsu
    clear hcg hok hsu ha
    by_cases h4:a<4096
    ·have t3:decide ((a:Int)<4096)=true:=by simp;omega
     have mc:=bZ HSr.out.mem (r:=a) (by rw[HSr.out.ml];exact h4)
     have mf:=aK HSr.out.mem a
     have HE:Hid (dZ u.globs (k+1)=(dZ u.globs k).set a g.init):=Hz (by rw[HSU.out,if_pos (by omega)];rfl)
     go_wp2
     go_region
     go_wp2
     exact⟨⟨k+1,Nat.succ_le_of_lt HLT.out,by go_num,by rw[HE.out];exact (HSr.out.mem_set a g.init).later (Below.refl _ _).drew⟩,by have:=HLT.out;simp[intOf];omega⟩
    ·have t3:decide ((a:Int)<4096)=false:=by simp;omega
     have HE:Hid (dZ u.globs (k+1)=dZ u.globs k):=Hz (by rw[HSU.out,if_neg (by omega)])
     go_wp2
     exact⟨⟨k+1,Nat.succ_le_of_lt HLT.out,by go_num,by rw[HE.out];exact HSr.out⟩,by have:=HLT.out;simp[intOf];omega⟩
   ·obtain rfl:k=M:=by omega
    have hE:dZ u.globs k=vI u.globs:=by rw[←HM.out];exact wN _
    have HSe:Hid (RnS W wr [] ⟨vI u.globs,inp,[]⟩ mb rb (.slice I inp.length icap) (.slice none 0 0) (.slice none 0 0)):=Hz (by rw[←hE];exact HSr.out)
    obtain⟨b2,o2,C2,cap2,hF2,hbl2,hcs2,_⟩:=(H1.out.fs.below HSr.out.b) km f HFK.out
    injection hF2 with hF2
    injection hF2 with h1 h2
    subst h1 h2
    obtain⟨q0,q1,q2,q3,q4⟩:=cX hcs2
    have hFr:=HOF.out.Fr
    have hR:=HOF.out.R
    have hps0:=HOF.out.ps
    have htop:=HU.out.top
    clear hE hcs2
    by_cases hov:4096<u.top+f.Fr
    ·as_aux_lemma =>
     have t3:decide (u.top+f.Fr>4096)=true:=by simpa using hov
     have t4:decide (4096<u.top+f.Fr)=true:=by simpa using hov
     have HR0:Hid (dY u inp n.toNat=⟨3,0,[]⟩):=Hz (by rw[HRU.out,if_pos hov])
     clear hov
     go_wp2
     go_quiet (fail)
     have HSq:=Hz (HSe.out.later (w':=wr.drewN nq) ⟨rfl,rfl,rfl,Nat.le_refl _,fun _ _=>rfl⟩)
     generalize wr.drewN nq=wq at *
     obtain⟨A,cap',hov2,A',cap2',hc,hrd,hbb⟩:=HSq.out.told 3 0
     obtain⟨cs,hres,hsz⟩:=HSq.out.res
     have e0:=aA hc 0 _ rfl
     have e1:=aA hc 1 _ rfl
     have e2:=aA hc 2 _ rfl
     have HRD:=Hz hrd
     have HBB:=Hz hbb
     clear hc hrd hbb hov2
     go_wp2_with (first
      |(show wpList Try.prog _ _ (⟨none,.store _ (.tmp 6) _,_,_,_,_⟩::_) _ _;refine wpList_store_row rfl 49 (.tmp 6) (.tmp 83) rfl rb #[.int .i64 3,.int .i64 0,.slice none 0 0] rfl rfl 49 _ hres zO hsz (eB _ _ _ _ _) ?_))
     (try simp only[Exit.inBlock,Exit.then])
     refine bodyPost_ret (by simp[results,Try.results30,go_sem,e0,e1,e2];try rfl) rfl ?_
     rw[HR0.out]
     exact⟨⟨A',cap2',rfl,HRD.out⟩,HB.out.trans (HBB.out.mono (by rw[←hub];exact HB.out.size))⟩
    ·have t3:decide (u.top+f.Fr>4096)=false:=by simpa using hov
     have t4:decide (4096<u.top+f.Fr)=false:=by simpa using hov
     have HR0:Hid (dY u inp n.toNat=gO u n.toNat (iX u km f) ⟨vI u.globs,inp,[]⟩):=Hz (by rw[HRU.out,if_neg hov])
     have HOV:=Hz hov
     clear hov
     go_wp2
     go_quiet (fail)
     have HSq:=Hz (HSe.out.later (w':=wr.drewN nq) ⟨rfl,rfl,rfl,Nat.le_refl _,fun _ _=>rfl⟩)
     generalize wr.drewN nq=wq at *
     obtain⟨b2,o2,C3,cap3,hF2,hbl3,hcs3,_⟩:=(H1.out.fs.below HSq.out.b) km f HFK.out
     injection hF2 with hF2
     injection hF2 with h1 h2
     subst h1 h2
     obtain⟨p0,p1,p2,p3,p4⟩:=cX hcs3
     obtain⟨gr,hgr⟩:∃ gr:Nat,f.R=gr:=⟨f.R.toNat,by omega⟩
     rw[hgr] at p2
     have hmk2:=fun W=>mA gr (by omega) W
     have hxq:=(HSq.out.b.block _ (Az HX.out).1).trans HX.out
     have i0:=aA hxq 0 (.slice (some ⟨bF,oF,none⟩) N cF) rfl
     have i2:=aA hxq 2 (.int .i64 u.top) rfl
     have hubq:ub<wq.heap.size:=(Az hxq).1
     have HGR:=Hz hgr
     clear hcs3 hxq m0 m1 m2 q0 q1 q2 q3 q4 t1 t2 t3 t4
     go_wp2
     go_region_held3 (fun w'=>∀ (q o:Nat),q<wq.heap.size→w'.cell? ⟨q,o,none⟩=wq.cell? ⟨q,o,none⟩)
      (first
      | with_reducible exact fun q o h=>rfl
      | exact fun q o h=>(Below.one wq _).cell (p:=⟨q,o,none⟩) h
      | exact fun q o h=>((Below.one wq _).alloc (by simp) _).cell (p:=⟨q,o,none⟩) h
      | exact fun q o h=>rfl)
      (fail)
     have HL0:Hid (LOk u [(⟨km,u.top,0,-1,List.replicate f.R.toNat 0⟩,wq.heap.size)]):=Hz ⟨fun x hx=>by
      obtain rfl:=List.mem_singleton.1 hx
      exact⟨f,HFK.out,by simp,by simp only;omega,by have:=HOV.out;simp only;omega,by have:=HOF.out.len;simp only;omega⟩,fun l1 x y l2 e=>by
       have:=congrArg List.length e
       simp only[List.length_append,List.length_cons,List.length_nil] at this
       omega⟩
     have hrg:∀ o:Obj,((wq.alloc (.cells (madeCells #[.int .i64 0] gr) 3)).alloc o).drew.heap[wq.heap.size]? = some (lY (List.replicate gr 0)):=fun o=>by
      have h:=(iZ wq (.cells (madeCells #[.int .i64 0] gr) 3) o).1
      exact h.trans (congrArg some (mC gr))
     have hfg:=fun o:Obj=>(iZ wq (.cells (madeCells #[.int .i64 0] gr) 3) o).2.1
     have hbg:=fun o:Obj=>(iZ wq (.cells (madeCells #[.int .i64 0] gr) 3) o).2.2
     go_wp2
     clear hmk2 p0 p1 p2 p3 p4 i0 i2
     go_loopw [1,2,10,11] (fun iv fv ov sv wr=>∃ (l:List (cU × Nat)) (E:eX) (j:Int),fv = .int .i64 j∧j≤5000∧RnS W wr l E mb rb iv ov sv∧LOk u l∧l≠[]∧l.length+j.toNat≤5001∧E.out.length+j.toNat≤5000∧gO u j.toNat (stk l) E=dY u inp n.toNat) (fun iv fv ov sv _=>(intOf fv).toNat)
     case atStart =>
      refine⟨_,_,n,rfl,hn,HSq.out.first (w':=_) ?_ ⟨km,u.top,0,-1,List.replicate gr 0⟩ (hrg _) ?_,?_,by simp,?_,?_,?_⟩
      ·exact (hbg _).drew
      ·simp only[List.length_replicate]
       exact hfg _
      ·have h:=HL0.out
       rw[HGR.out] at h
       exact h
      ·simp only[List.length_singleton];omega
      ·simp only[List.length_nil];omega
      ·rw[HR0.out]
       unfold iX stk
       rw[HGR.out]
       rfl
     case round =>
      obtain⟨l,E,j,rfl,hj,hs,hlo,hne,hll,hoo,hrun⟩:=hrel
      clear hrg hfg hbg
      by_cases hj0:0<j
      ·as_aux_lemma =>
       have t3:decide (j>0)=true:=by simpa using hj0
       have t4:decide (0<j)=true:=by simpa using hj0
       rcases List.eq_nil_or_concat l with h|⟨l1,⟨t,b⟩,hl⟩
       ·exact absurd h hne
       rw[List.concat_eq_append] at hl
       subst hl
       obtain⟨sb,scap,cur,e1,_⟩:=nV hs.stk
       subst e1
       have hll2:l1.length+1+j.toNat≤5001:=by simpa using hll
       have hub2:W.heap[ub]? = some (bD u (some ⟨bF,oF,none⟩) G cF cG):=by
        have h:=HX.out
        rw[←HN.out,←HM.out] at h
        exact h
       have HRUN:=Hz hrun
       have HS:=Hz hs
       have HLO:=Hz hlo
       have HJ:Hid (0<j∧j≤5000∧l1.length+1+j.toNat≤5001∧E.out.length+j.toNat≤5000):=Hz ⟨hj0,hj,hll2,hoo⟩
       clear hs hlo hrun hne hll
       go_upto_block 3 with fail
       refine wp_block ?_
       refine CF u (some ⟨bF,oF,none⟩) G cF cG W wr l1 t b l1.length scap sb mb rb ub E _ _ HU.out hub2 H1.out.fs rfl (by omega) (by omega) HLO.out HS.out _ ?_ ?_
       ·intro x hx
        intros
        rename_i w' iv' ov' sv' l2 E' hst hl2 hne2 hlen hout hs2
        have hr2:=HRUN.out
        obtain⟨a1,a2,a3,a4⟩:=HJ.out
        rw[show j.toNat=(j-1).toNat+1 by omega] at hr2
        unfold gO at hr2
        rw[hst] at hr2
        simp only at hr2
        have HFIN:Hid ((∃ (l:List (cU × Nat)) (E:eX) (i:Int),Value.int .i64 (j-1) = .int .i64 i∧i≤5000∧RnS W w' l E mb rb iv' ov' sv'∧LOk u l∧l≠[]∧l.length+i.toNat≤5001∧E.out.length+i.toNat≤5000∧gO u i.toNat (stk l) E=dY u inp n.toNat)∧(intOf (.int .i64 (j-1))).toNat<(intOf (.int .i64 j)).toNat):=Hz ⟨⟨l2,E',j-1,rfl,by omega,hs2,hl2,hne2,by omega,by omega,hr2⟩,by simp only[intOf];omega⟩
        clear hr2 hst hl2 hne2 hlen hout hs2
        rcases hx with rfl|rfl
        all_goals
         (try simp only[Exit.inBlock,Exit.then])
         go_wp2
         exact HFIN.out
       ·intros
        rename_i iv' ov' sv' w' r hst hfin
        have hr2:=HRUN.out
        obtain⟨a1,a2,a3,a4⟩:=HJ.out
        rw[show j.toNat=(j-1).toNat+1 by omega] at hr2
        unfold gO at hr2
        rw[hst] at hr2
        simp only at hr2
        obtain⟨A,cap',hc,hrd,hbb⟩:=hfin
        have e0:=aA hc 0 _ rfl
        have e1:=aA hc 1 _ rfl
        have e2:=aA hc 2 _ rfl
        show bodyPost Try.prog Try.f30 (fun e w'=>DI (dY u inp n.toNat) e w'∧Below w.heap.size w w') .ret _ _
        refine bodyPost_ret (by simp[results,Try.results30,go_sem,e0,e1,e2];try rfl) rfl ?_
        rw[←hr2]
        refine⟨⟨A,cap',rfl,hrd⟩,?_⟩
        rw[hub]
        exact HB.out.trans (hbb.mono (by rw[←hub];exact HB.out.size))
      ·as_aux_lemma =>
       have t3:decide (j>0)=false:=by simpa using hj0
       have t4:decide (0<j)=false:=by simpa using hj0
       have HRUN:=Hz hrun
       have HJ:=Hz hj0
       obtain⟨A,cap',hov2,A',cap2',hc,hrd,hbb⟩:=hs.told 4 0
       subst hov2
       obtain⟨cs,hres,hsz⟩:=hs.res
       have e0:=aA hc 0 _ rfl
       have e1:=aA hc 1 _ rfl
       have e2:=aA hc 2 _ rfl
       have HRD:=Hz hrd
       have HBB:=Hz hbb
       clear hc hrd hbb hs hlo hrun hj0
       go_wp2_with (first
        |(show wpList Try.prog _ _ (⟨none,.store _ (.tmp 6) _,_,_,_,_⟩::_) _ _;refine wpList_store_row rfl 49 (.tmp 6) (.tmp 377) rfl rb #[.int .i64 4,.int .i64 0,.slice A E.out.length cap'] rfl rfl 49 _ hres zO hsz (eB _ _ _ _ _) ?_))
       (try simp only[Exit.inBlock,Exit.then])
       refine bodyPost_ret (by simp[results,Try.results30,go_sem,e0,e1,e2];try rfl) rfl ?_
       have hr2:=HRUN.out
       rw[show j.toNat=0 by have:=HJ.out;omega] at hr2
       rw[←hr2]
       exact⟨⟨A',cap2',rfl,HRD.out⟩,HB.out.trans (HBB.out.mono (by rw[←hub];exact HB.out.size))⟩
end Go.Proofs.Ytkcclefonmnpnaa
