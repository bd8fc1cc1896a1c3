import Derived.Deep.CutRange
import Derived.StillTailTactics
import Derived.Test.YtkcclefonmnpnaaVYa
import Derived.Test.YtkcclefonmnpnaaVYf
import Derived.Test.YtkcclefonmnpnaaVCw
set_option maxRecDepth 1000000
set_option maxHeartbeats 32000000
namespace Go.Proofs.Ytkcclefonmnpnaa
open Go.RowKit Go.BigFrame
theorem NF:Try.prog.underlying 43=some (.struct (Try.prog.fieldsOf 43)):=by kernel_rfl
theorem KW:(Try.prog.info? 43).map (·.size)=some 3:=by kernel_rfl
theorem KX:(Try.prog.info? 49).map (·.size)=some 3:=by kernel_rfl
def MJ (W:World)(x y:jQ)(s t:Value)(wx:World):Prop:=∃ (b1 b2:Nat) (A1:Option Addr) (c1:Nat) (A2:Option Addr) (c2:Nat),s = .pointer (some ⟨b1,0,none⟩)∧t = .pointer (some ⟨b2,0,none⟩)∧wx.heap[b1]? = some (kY x A1 c1)∧wx.heap[b2]? = some (kY y A2 c2)∧RdBc wx A1 x.out c1∧RdBc wx A2 y.out c2∧Below W.heap.size W wx
theorem IR {W wB F:World}{x y:jQ}{A1 A2:Option Addr}{c1 c2:Nat}(hb:Below W.heap.size W wB)(hr1:RdBc wB A1 x.out c1)(hr2:RdBc wB A2 y.out c2)(b1 b2:Nat)(h1:Zn wB b1)(h2:Zn wB b2)(hW1:W.heap.size≤b1)(hW2:W.heap.size≤b2)
  (e1:F.heap[b1]? = some (kY x A1 c1)) (e2:F.heap[b2]? = some (kY y A2 c2)) (ho:F.os=wB.os) (ht:F.tape=wB.tape) (hu:F.output=wB.output) (hs:wB.heap.size≤F.heap.size) (hk:∀ q,q<wB.heap.size→q≠b1→q≠b2→F.heap[q]? = wB.heap[q]?) :
  MJ W x y (.pointer (some ⟨b1,0,none⟩)) (.pointer (some ⟨b2,0,none⟩)) F :=
 ⟨b1,b2,A1,c1,A2,c2,rfl,rfl,e1,e2,⟨hr1.1.zn h1 h2 hs hk,hr1.2⟩,⟨hr2.1.zn h1 h2 hs hk,hr2.2⟩,ho.trans hb.os,ht.trans hb.tape,hu.trans hb.output,Nat.le_trans hb.size hs,fun k hk'=>(hk k (Nat.lt_of_lt_of_le hk' hb.size) (by omega) (by omega)).trans (hb.block k hk')⟩
theorem cV {v:Option Value}(h:v.isSome=true):∃ u,v=some u:=Option.isSome_iff_exists.1 h
section
variable {W:World} {x y:jQ} {V0 VI VN V4:Value}
def G1 (W:World)(x y:jQ)(V0 VI VN V4:Value):Nat→Value→World→Prop
 | 0,v,_=>v=V0
 | 1,v,_=>v=VI
 | 2,v,_=>v=VN
 | 3,v,w=>∃ A c,v=oR x A c∧RdBc w A x.out c
 | 4,v,_=>v=V4
 | 5,v,_=>v=VI
 | 6,v,_=>v=VN
 | 7,v,w=>∃ A c,v=oR y A c∧RdBc w A y.out c
 | 8,v,w=>∃ b,v = .pointer (some ⟨b,0,none⟩)∧W.heap.size≤b∧w.heap[b]? = some LI
 | 9,v,w=>∃ b,v = .pointer (some ⟨b,0,none⟩)∧W.heap.size≤b∧w.heap[b]? = some LI
 | _,_,_=>True
theorem G1.grow {w w':World}(hb:Below w.heap.size w w'):∀ {i:Nat} {v:Value},G1 W x y V0 VI VN V4 i v w→G1 W x y V0 VI VN V4 i v w'
 | 0,_,h=>h
 | 1,_,h=>h
 | 2,_,h=>h
 | 3,_,⟨A,c,h1,h2⟩=>⟨A,c,h1,h2.below hb⟩
 | 4,_,h=>h
 | 5,_,h=>h
 | 6,_,h=>h
 | 7,_,⟨A,c,h1,h2⟩=>⟨A,c,h1,h2.below hb⟩
 | 8,_,⟨b,h1,h2,h3⟩=>⟨b,h1,h2,(hb.block b (Az h3).1).trans h3⟩
 | 9,_,⟨b,h1,h2,h3⟩=>⟨b,h1,h2,(hb.block b (Az h3).1).trans h3⟩
 | _+10,_,_=>trivial
structure I1 (W:World)(x y:jQ)(V0 VI VN V4:Value)(s:Nat→Option Value)(w:World):Prop where
 b:Below W.heap.size W w
 g:∀ i v,s i=some v→G1 W x y V0 VI VN V4 i v w
 ne:∀ b b',s 8=some (.pointer (some ⟨b,0,none⟩))→s 9=some (.pointer (some ⟨b',0,none⟩))→b≠b'
theorem I1.step {s:Nat→Option Value}{w w':World}(h:I1 W x y V0 VI VN V4 s w)(hb:Below w.heap.size w w')(i:Nat)(v:Value)(hg:G1 W x y V0 VI VN V4 i v w')(hn:i=8∨i=9→v = .pointer (some ⟨w.heap.size,0,none⟩)):I1 W x y V0 VI VN V4 (fE s i v) w' where
 b:=h.b.trans (hb.mono h.b.size)
 g:=fun j u hj=>by
  by_cases hji:j=i
  ·subst hji
   simp only[fE,if_true,Option.some.injEq] at hj
   rw[←hj];exact hg
  ·simp only[fE,hji,if_false] at hj
   exact (h.g j u hj).grow hb
 ne:=fun b b' h8 h9=>by
  by_cases h1:i=8
  ·subst h1
   have e:=hn (Or.inl rfl)
   simp only[fE,if_true,Option.some.injEq] at h8
   rw[e] at h8
   have hb8:w.heap.size=b:=by cases h8;rfl
   simp only[fE,if_neg (show ¬ (9:Nat)=8 by decide)] at h9
   obtain⟨c,e1,_,e3⟩:=h.g 9 _ h9
   have hc:b'=c:=by cases e1;rfl
   subst hc
   have:=(Az e3).1
   omega
  ·by_cases h2:i=9
   ·subst h2
    have e:=hn (Or.inr rfl)
    simp only[fE,if_true,Option.some.injEq] at h9
    rw[e] at h9
    have hb9:w.heap.size=b':=by cases h9;rfl
    simp only[fE,if_neg (show ¬ (8:Nat)=9 by decide)] at h8
    obtain⟨c,e1,_,e3⟩:=h.g 8 _ h8
    have hc:b=c:=by cases e1;rfl
    subst hc
    have:=(Az e3).1
    omega
   ·simp only[fE,if_neg (Ne.symm h1),if_neg (Ne.symm h2)] at h8 h9
    exact h.ne b b' h8 h9
end
theorem uG (x y:jQ)(hd:uE x y)(hx9:x.out.length≤1000000)(hy9:y.out.length≤1000000)(u v:eH)(F G F' G':Option Addr)(cF cG cF' cG':Nat)(I:Option Addr)(Li icap:Nat)(n:Int)(w:World)
  (hA:∀ W,Below w.heap.size w W→Calls Try.prog 30 #[cK u F G cF cG,.slice I Li icap,.int .i64 n] W fun e w'=>DI x e w'∧Below W.heap.size W w')
  (hB:∀ W,Below w.heap.size w W→Calls Try.prog 30 #[cK v F' G' cF' cG',.slice I Li icap,.int .i64 n] W fun e w'=>DI y e w'∧Below W.heap.size W w') :
  Calls Try.prog 31 #[cK u F G cF cG,cK v F' G' cF' cG',.slice I Li icap,.int .i64 n] w fun e w'=>e = .returned (.bool true)∧Below w.heap.size w w':=by
 obtain⟨b0,b1,hBW⟩:=iZ w (bD u F G cF cG) (bD v F' G' cF' cG')
 have hR7:=fun (x y:jQ) hx hy A B ca cb W h1 h2=>(tK x y A B ca cb hx hy W h1 h2)
 obtain⟨W,hW⟩:∃ W,(w.alloc (bD u F G cF cG)).alloc (bD v F' G' cF' cG')=W:=⟨_,rfl⟩
 rw[hW] at b0 b1 hBW
 simp only[bD,cK] at b0 b1 hW hA hB ⊢
 obtain⟨N,hN⟩:∃ N,u.funcs.length=N:=⟨_,rfl⟩
 obtain⟨M,hM⟩:∃ M,u.globs.length=M:=⟨_,rfl⟩
 obtain⟨N',hN'⟩:∃ N,v.funcs.length=N:=⟨_,rfl⟩
 obtain⟨M',hM'⟩:∃ M,v.globs.length=M:=⟨_,rfl⟩
 rw[hN,hM] at b0 hW
 rw[hN',hM'] at b1 hW
 simp only[hN,hM] at hA ⊢
 simp only[hN',hM'] at hB ⊢
 have HB0:=Hz b0
 have HB1:=Hz b1
 have HA:=Hz hA
 have HB:=Hz hB
 have HBW:=Hz hBW
 have HR7:=Hz hR7
 have HD:=Hz hd
 have HX9:=Hz hx9
 have HY9:=Hz hy9
 clear hA hB hBW hR7 hd hx9 hy9 hN hM hN' hM' b0 b1
 go_enter Try.func31,Try.ntmps31
 go_upto_region 1 with fail
 clear hW
 go_cut [9,10] from 12 to 19 (fun s t wx=>MJ W x y s t wx)
 case first =>
  refine nQ 10 (I1 W x y (.agg #[.slice F N cF,.slice G M cG,.int .i64 u.top]) (.slice I Li icap) (.int .i64 n) (.agg #[.slice F' N' cF',.slice G' M' cG',.int .i64 v.top])) (by kernel_rfl) (by kernel_rfl) ?_ ?_ ?_
  ·exact⟨(Below.refl _ _).drew,fun i v h=>(by cases h),fun b b' h=>(by cases h)⟩
  ·intro i o s wr hi ho hI hsi hdep
   have hb:=hI.b
   have c0:=(hb.block _ (Az HB0.out).1).trans HB0.out
   have c1:=(hb.block _ (Az HB1.out).1).trans HB1.out
   have hr:=Below.refl wr.heap.size wr
   rcases (by omega:i=0∨i=1∨i=2∨i=3∨i=4∨i=5∨i=6∨i=7∨i=8∨i=9) with rfl|rfl|rfl|rfl|rfl|rfl|rfl|rfl|rfl|rfl
   all_goals (simp only[List.getElem?_cons_zero,List.getElem?_cons_succ] at ho;obtain rfl:=Option.some.inj ho)
   ·exact Or.inl ⟨_,_,rG 43 (.tmp 4) rfl _ rfl _ _ _ _ c0 NF rfl KW,hI.step hr 0 _ rfl (by omega)⟩
   ·exact Or.inl ⟨_,_,jT (.tmp 2) rfl,hI.step hr 1 _ rfl (by omega)⟩
   ·exact Or.inl ⟨_,_,jT (.tmp 3) rfl,hI.step hr 2 _ rfl (by omega)⟩
   ·obtain⟨v0,e0⟩:=cV (hdep ⟨0,.data⟩ (by simp) rfl)
    obtain⟨v1,e1⟩:=cV (hdep ⟨1,.data⟩ (by simp) rfl)
    obtain⟨v2,e2⟩:=cV (hdep ⟨2,.data⟩ (by simp) rfl)
    obtain rfl:=hI.g 0 _ e0
    obtain rfl:=hI.g 1 _ e1
    obtain rfl:=hI.g 2 _ e2
    refine Or.inr ⟨30,#[.agg #[.slice F N cF,.slice G M cG,.int .i64 u.top],.slice I Li icap,.int .i64 n],rH 30 _ _ rfl rfl _ ?_ Try.func30 (by kernel_rfl) rfl,?_⟩
    ·simp only[List.map_toArray,List.map_cons,List.map_nil]
     rw[eV 0 (by kernel_rfl) e0,eV 1 (by kernel_rfl) e1,eV 2 (by kernel_rfl) e2]
    ·exact (HA.out wr (HBW.out.trans (hb.mono HBW.out.size))).mono fun e w' ⟨⟨A1,c1,he,hr1⟩,hb'⟩=>⟨_,he,hI.step hb' 3 _ ⟨A1,c1,rfl,hr1⟩ (by omega)⟩
   ·exact Or.inl ⟨_,_,rG 43 (.tmp 5) rfl _ rfl _ _ _ _ c1 NF rfl KW,hI.step hr 4 _ rfl (by omega)⟩
   ·exact Or.inl ⟨_,_,jT (.tmp 2) rfl,hI.step hr 5 _ rfl (by omega)⟩
   ·exact Or.inl ⟨_,_,jT (.tmp 3) rfl,hI.step hr 6 _ rfl (by omega)⟩
   ·obtain⟨v0,e0⟩:=cV (hdep ⟨4,.data⟩ (by simp) rfl)
    obtain⟨v1,e1⟩:=cV (hdep ⟨5,.data⟩ (by simp) rfl)
    obtain⟨v2,e2⟩:=cV (hdep ⟨6,.data⟩ (by simp) rfl)
    obtain rfl:=hI.g 4 _ e0
    obtain rfl:=hI.g 5 _ e1
    obtain rfl:=hI.g 6 _ e2
    refine Or.inr ⟨30,#[.agg #[.slice F' N' cF',.slice G' M' cG',.int .i64 v.top],.slice I Li icap,.int .i64 n],rH 30 _ _ rfl rfl _ ?_ Try.func30 (by kernel_rfl) rfl,?_⟩
    ·simp only[List.map_toArray,List.map_cons,List.map_nil]
     rw[eV 4 (by kernel_rfl) e0,eV 5 (by kernel_rfl) e1,eV 6 (by kernel_rfl) e2]
    ·exact (HB.out wr (HBW.out.trans (hb.mono HBW.out.size))).mono fun e w' ⟨⟨A1,c1,he,hr1⟩,hb'⟩=>⟨_,he,hI.step hb' 7 _ ⟨A1,c1,rfl,hr1⟩ (by omega)⟩
   ·exact Or.inl ⟨_,_,pM 49 rfl _ rI,hI.step (Below.one wr _) 8 _ ⟨_,rfl,hb.size,heap_alloc_new _ _⟩ (fun _=>rfl)⟩
   ·exact Or.inl ⟨_,_,pM 49 rfl _ rI,hI.step (Below.one wr _) 9 _ ⟨_,rfl,hb.size,heap_alloc_new _ _⟩ (fun _=>rfl)⟩
  ·intro s wr hI hsome
   obtain⟨v0,e0⟩:=cV (hsome 0 (by omega))
   obtain⟨v1,e1⟩:=cV (hsome 1 (by omega))
   obtain⟨v2,e2⟩:=cV (hsome 2 (by omega))
   obtain⟨v3,e3⟩:=cV (hsome 3 (by omega))
   obtain⟨v4,e4⟩:=cV (hsome 4 (by omega))
   obtain⟨v5,e5⟩:=cV (hsome 5 (by omega))
   obtain⟨v6,e6⟩:=cV (hsome 6 (by omega))
   obtain⟨v7,e7⟩:=cV (hsome 7 (by omega))
   obtain⟨v8,e8⟩:=cV (hsome 8 (by omega))
   obtain⟨v9,e9⟩:=cV (hsome 9 (by omega))
   obtain⟨A1,c1,rfl,hr1⟩:=hI.g 3 _ e3
   obtain⟨A2,c2,rfl,hr2⟩:=hI.g 7 _ e7
   obtain⟨b1,rfl,hW1,z1⟩:=hI.g 8 _ e8
   obtain⟨b2,rfl,hW2,z2⟩:=hI.g 9 _ e9
   have hne:=hI.ne b1 b2 e8 e9
   simp only[List.take_succ_cons,List.take_zero,List.drop_succ_cons,List.drop_zero,pK,e0,e1,e2,e3,e4,e5,e6,e7,e8,e9,Option.getD_some]
   go_frame
   refine wpList_store_row rfl 49 (.tmp 9) (.tmp 15) rfl b1 #[.int .i64 x.e,.int .i64 x.c,.slice A1 x.out.length c1] rfl rfl _ _ z1 KX rfl (eB _ _ _ _ _) ?_
   refine wpList_store_row rfl 49 (.tmp 10) (.tmp 19) rfl b2 #[.int .i64 y.e,.int .i64 y.c,.slice A2 y.out.length c2] rfl rfl _ _ ((setRow_other _ _ _ _ (Ne.symm hne)).trans z2) KX rfl (eB _ _ _ _ _) ?_
   go_wp2_with fail
   have hfin:MJ W x y (.pointer (some ⟨b1,0,none⟩)) (.pointer (some ⟨b2,0,none⟩)) ((wr.setRow b1 #[.int .i64 x.e,.int .i64 x.c,.slice A1 x.out.length c1]).setRow b2 #[.int .i64 y.e,.int .i64 y.c,.slice A2 y.out.length c2]) :=
    IR hI.b hr1 hr2 b1 b2 (Or.inr z1) (Or.inr z2) hW1 hW2 ((setRow_other _ _ _ _ hne).trans (setRow_heap _ _ _ _ _ _ z1)) (setRow_heap _ _ _ _ _ _ ((setRow_other _ _ _ _ (Ne.symm hne)).trans z2)) rfl rfl rfl (by simp) (fun q _ h1 h2=>(setRow_other _ _ _ _ h2).trans (setRow_other _ _ _ _ h1))
   go_meet
   exact hfin
 case rest =>
  obtain⟨b1,b2,A1,c1,A2,c2,rfl,rfl,hm1,hm2,⟨hr1,hcp1⟩,⟨hr2,hcp2⟩,hb⟩:=hcut
  have q0:=aA hm1 0 (.int .i64 x.e) rfl
  have q1:=aA hm1 1 (.int .i64 x.c) rfl
  have q2:=aA hm1 2 (.slice A1 x.out.length c1) rfl
  have p0:=aA hm2 0 (.int .i64 y.e) rfl
  have p1:=aA hm2 1 (.int .i64 y.c) rfl
  have p2:=aA hm2 2 (.slice A2 y.out.length c2) rfl
  have HB2:=Hz (HBW.out.trans (hb.mono HBW.out.size))
  clear hm1 hm2 hb HB0 HB1 HBW HA HB
  by_cases hne:x.e≠4∧y.e≠4
  ·have hxy:x=y:=by
    have:=HD.out
    unfold uE at this
    rw[if_pos hne] at this
    exact this
   subst hxy
   have e1:decide (x.e=4)=false:=by simp;exact hne.1
   have e2:¬ x.e=4:=hne.1
   have e3:(x.e==4)=false:=by simp;exact hne.1
   have HR1:=Hz hr1
   have HR2:=Hz hr2
   clear hne hr1 hr2 HD
   go_wp2_with fail
   refine (HR7.out x x HX9.out HY9.out A1 A2 c1 c2 _ HR1.out HR2.out).mono ?_
   rintro e w3 ⟨rfl,hb3⟩
   go_wp2
   go_returns
   exact⟨by simp,HB2.out.trans (hb3.mono HB2.out.size)⟩
  ·have hd2:¬ (x.e≠4∧x.out.length<y.out.length)∧¬ (y.e≠4∧y.out.length<x.out.length)∧x.out.take (min x.out.length y.out.length)=y.out.take (min x.out.length y.out.length):=by
    have:=HD.out
    unfold uE at this
    rw[if_neg hne] at this
    exact this
   obtain⟨d1,d2,d3⟩:=hd2
   obtain⟨m,hm⟩:∃ m:Nat,min x.out.length y.out.length=m:=⟨_,rfl⟩
   rw[hm] at d3
   have hv:(if y.out.length<x.out.length then (y.out.length:Int) else (x.out.length:Int))=(m:Int):=by
    split <;> omega
   have l1:m≤c1:=by omega
   have l2:m≤c2:=by omega
   have l3:m≤x.out.length:=by omega
   have l4:m≤y.out.length:=by omega
   have hall:(decide (x.e=4)=true∧decide (y.e=4)=true∧x.e=4∧y.e=4)∨(decide (x.e=4)=true∧decide (y.e=4)=false∧x.e=4∧¬ y.e=4∧decide ((x.out.length:Int)>m)=false∧decide ((m:Int)<x.out.length)=false∧x.out.length≤m∧¬ m<x.out.length)∨(decide (x.e=4)=false∧decide (y.e=4)=true∧¬ x.e=4∧y.e=4∧decide ((y.out.length:Int)>m)=false∧decide ((m:Int)<y.out.length)=false∧y.out.length≤m∧¬ m<y.out.length):=by
    by_cases hx4:x.e=4
    ·by_cases hy4:y.e=4
     ·exact Or.inl ⟨by simp[hx4],by simp[hy4],hx4,hy4⟩
     ·have:¬ y.out.length<x.out.length:=fun h=>d2 ⟨hy4,h⟩
      exact Or.inr (Or.inl ⟨by simp[hx4],by simp[hy4],hx4,hy4,by simp;omega,by simp;omega,by omega,by omega⟩)
    ·have hy4:y.e=4:=Classical.byContradiction fun h=>hne ⟨hx4,h⟩
     have:¬ x.out.length<y.out.length:=fun h=>d1 ⟨hx4,h⟩
     exact Or.inr (Or.inr ⟨by simp[hx4],by simp[hy4],hx4,hy4,by simp;omega,by simp;omega,by omega,by omega⟩)
   have hr7:=fun W (h1:RdB W A1 (x.out.take m)) (h2:RdB W A2 (y.out.take m))=>HR7.out ⟨0,0,x.out.take m⟩ ⟨0,0,y.out.take m⟩ (by simp;have:=HX9.out;omega) (by simp;have:=HY9.out;omega) A1 A2 c1 c2 W h1 h2 |>.mono fun e w' h=>(⟨by rw[h.1,decide_eq_true (by rw[d3])],h.2⟩:e = .returned (.bool true)∧Below W.heap.size W w')
   have n1:(x.out.take m).length=m:=by simp;omega
   have n2:(y.out.take m).length=m:=by simp;omega
   simp only[oR,n1,n2] at hr7
   have H7:=Hz hr7
   have HR1:Hid (RdB wc A1 (x.out.take m)):=Hz fun j a ha=>hr1 j a (by
    rw[List.getElem?_take] at ha
    split at ha
    ·exact ha
    ·cases ha)
   have HR2:Hid (RdB wc A2 (y.out.take m)):=Hz fun j a ha=>hr2 j a (by
    rw[List.getElem?_take] at ha
    split at ha
    ·exact ha
    ·cases ha)
   clear hr7 hr1 hr2 HD HR7 d1 d2 d3 hne hm n1 n2
   rcases hall with ⟨e1,e2,e3,e4⟩|⟨e1,e2,e3,e4,t1,t2,t3,t4⟩|⟨e1,e2,e3,e4,t1,t2,t3,t4⟩
   rotate_left
   ·obtain rfl:m=x.out.length:=by omega
    clear l3 l4 t3 t4
    go_upto_region 5 with fail
    (try simp only[hv])
    go_upto_region 7 with fail
    go_still_tail 10,(by kernel_rfl)
    go_wp2_with fail
    have hdw:Below wc.heap.size wc wc.drew:=(Below.refl _ _).drew
    refine (H7.out _ (HR1.out.below hdw) (HR2.out.below hdw)).mono ?_
    rintro e w3 ⟨rfl,hb3⟩
    go_wp2
    go_returns
    exact⟨rfl,HB2.out.trans ((hdw.trans (hb3.mono hdw.size)).mono HB2.out.size)⟩
   ·obtain rfl:m=y.out.length:=by omega
    clear l3 l4 t3 t4
    go_upto_region 5 with fail
    (try simp only[hv])
    go_upto_region 7 with fail
    go_still_tail 10,(by kernel_rfl)
    go_wp2_with fail
    have hdw:Below wc.heap.size wc wc.drew:=(Below.refl _ _).drew
    refine (H7.out _ (HR1.out.below hdw) (HR2.out.below hdw)).mono ?_
    rintro e w3 ⟨rfl,hb3⟩
    go_wp2
    go_returns
    exact⟨rfl,HB2.out.trans ((hdw.trans (hb3.mono hdw.size)).mono HB2.out.size)⟩
   ·clear l3 l4
    go_upto_region 5 with fail
    (try simp only[hv])
    go_upto_region 7 with fail
    go_still_tail 10,(by kernel_rfl)
    go_wp2_with fail
    have hdw:Below wc.heap.size wc wc.drew:=(Below.refl _ _).drew
    refine (H7.out _ (HR1.out.below hdw) (HR2.out.below hdw)).mono ?_
    rintro e w3 ⟨rfl,hb3⟩
    go_wp2
    go_returns
    exact⟨rfl,HB2.out.trans ((hdw.trans (hb3.mono hdw.size)).mono HB2.out.size)⟩
end Go.Proofs.Ytkcclefonmnpnaa
