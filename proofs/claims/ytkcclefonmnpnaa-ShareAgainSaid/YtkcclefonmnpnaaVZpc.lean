import Derived.Test.YtkcclefonmnpnaaVZh
set_option maxRecDepth 1000000
set_option maxHeartbeats 8000000
namespace Go.Proofs.Ytkcclefonmnpnaa
open Go.RowKit Go.BigFrame
theorem mW:gD (fun f M p=>(aY M p).any (fun x=>x.k==0)=false∧(aN f.code p).kind=4∧(bL (aN f.code p) (aY M p)).2=true∧(bL (aN f.code p) (aY M p)).1.k=1):=by
 intro f M L Rn ob cb B0 p pb hpl hL hL8 hR4 wr y4 hd hpv hvl hC hok hh
 intros
 rename_i K Q hK
 obtain⟨hnv,hkk,hof⟩:=hh
 conv=>arg 2;whnf
 have hlt:p<L:=by omega
 obtain⟨c0,c1,c2,c3,c4,c5,c6,c7,c8,c9,c10,c11,c12,c13,c14⟩:=PreI.cells hC (cL hpl)
 have hcl:=Pre.lt hC
 have hyl:=World.block_lt_of_cell? wr ⟨B0,4,none⟩ y4
 have hol:=World.block_lt_of_cell? wr ⟨ob,p,none⟩ hd
 have hfn:=cO f M p
 have HT:=Hz (cD (M:=M) hpl)
 have HSM:=Hz (cB (M:=M) hpl)
 have HTL:=Hz (bX (f:=f) (M:=M) (p:=p) (by omega))
 have HFN:Hid (aU f M (p+1)=aU f M p+(if aP (aN f.code p) p (aY M p)=aN f.code p then 0 else 1)):=Hz rfl
 have HC:=Hz hC
 have HV:=Hz hvl
 have HOK:=Hz hok
 have HPV:=Hz hpv
 have HL:=Hz hL
 generalize aN f.code p=i at *
 generalize aY M p=v at *
 have hbi:=heap_alloc_new wr i.obj
 have hBi:=Below.one wr i.obj
 obtain⟨k,op,dst,a,b,n,text,r0,r1,r2,r3,r4,r5,to_,els⟩:=i
 simp only at c0 c1 c2 c3 c4 c5 c6 c7 c8 c9 c10 c11 c12 c13 c14 hkk
 simp only[Ins.obj] at hbi hBi
 clear hvl hok hC hpl hL
 have hct:=bO (pb p) Rn v Rn HV.out hR4 (wr.alloc (.cells #[.int .i64 k,.int .i64 op,.int .i64 dst,.int .i64 a,.int .i64 b,.int .i64 n,.string text,.int .i64 r0,.int .i64 r1,.int .i64 r2,.int .i64 r3,.int .i64 r4,.int .i64 r5,.int .i64 to_,.int .i64 els] 32)) (Pre.later HPV.out hBi)
 have hne:=fun (x:Ins) W=>bQ x ⟨k,op,dst,a,b,n,text,r0,r1,r2,r3,r4,r5,to_,els⟩ W
 have HFO:Hid (v.any (fun x=>x.k==0)=true∨(¬ (k=4∨k=2∨k=3)∧k≠12)→aP ⟨k,op,dst,a,b,n,text,r0,r1,r2,r3,r4,r5,to_,els⟩ p v=⟨k,op,dst,a,b,n,text,r0,r1,r2,r3,r4,r5,to_,els⟩):=Hz fun h=>by
  unfold aP
  rcases h with h|⟨h,h'⟩
  ·rw[if_pos h]
  ·by_cases hc:v.any (fun x=>x.k==0)=true
   ·rw[if_pos hc]
   ·rw[if_neg hc,if_neg h,if_neg h']
 have HSTAY:Hid (aP ⟨k,op,dst,a,b,n,text,r0,r1,r2,r3,r4,r5,to_,els⟩ p v=⟨k,op,dst,a,b,n,text,r0,r1,r2,r3,r4,r5,to_,els⟩→aX f M (p+1)=aX f M p∧aU f M (p+1)=aU f M p):=Hz fun h=>⟨HSM.out h,by rw[HFN.out,if_pos h];rfl⟩
 obtain⟨⟨⟨xk,xn⟩,on⟩,hx⟩:∃ x,bL ⟨k,op,dst,a,b,n,text,r0,r1,r2,r3,r4,r5,to_,els⟩ v=x:=⟨_,rfl⟩
 rw[hx] at hof
 obtain⟨rfl,rfl⟩:on=true∧xk=1:=hof
 have HFX:Hid (aP ⟨k,op,dst,a,b,n,text,r0,r1,r2,r3,r4,r5,to_,els⟩ p v=⟨1,0,dst,0,0,xn,⟨#[]⟩,0,0,0,0,0,0,0,-1⟩):=Hz (by unfold aP;rw[if_neg (by rw[hnv];decide),if_pos (by simp only;omega),hx];exact if_pos ⟨rfl,rfl⟩)
 have hOI:¬ (⟨1,0,dst,0,0,xn,⟨#[]⟩,0,0,0,0,0,0,0,-1⟩:Ins)=⟨k,op,dst,a,b,n,text,r0,r1,r2,r3,r4,r5,to_,els⟩:=by intro h;injection h with h;omega
 have HNEW:Hid (aX f M (p+1)=(aX f M p).set p ⟨1,0,dst,0,0,xn,⟨#[]⟩,0,0,0,0,0,0,0,-1⟩∧aU f M (p+1)=aU f M p+1):=Hz ⟨by rw[←HT.out,HFX.out],by rw[HFN.out,HFX.out,if_neg hOI]⟩
 have HEX:Hid (¬ ∃ x ∈ v,x.k=0):=Hz (by
  rintro ⟨x,hx,h0⟩
  have h:v.any (fun x=>x.k==0)=true:=List.any_eq_true.2 ⟨x,hx,by simpa using h0⟩
  rw[hnv] at h
  cases h)
 have hneq:=hne ⟨1,0,dst,0,0,xn,⟨#[]⟩,0,0,0,0,0,0,0,-1⟩
 rw[show decide ((⟨1,0,dst,0,0,xn,⟨#[]⟩,0,0,0,0,0,0,0,-1⟩:Ins)=⟨k,op,dst,a,b,n,text,r0,r1,r2,r3,r4,r5,to_,els⟩)=false by simpa using hOI] at hneq
 simp only[Ins.agg,Bool.not_false] at hneq
 rw[HNEW.out.1,HNEW.out.2] at hK
 have HX:=Hz hx
 have q4:(k==4)=true:=by simp;omega
 clear hne hkk hnv hx hOI HFO HSTAY HT HSM HFN
 have hpla:=fun W=>bN 1 W
 simp only[Ins.agg] at hpla
 go_upto_region 19 with (first
  |(go_at_call 66;refine hct.mono ?_;rintro e w1 ⟨⟨bv,rfl,hbv⟩,hb1⟩;obtain rfl:bv=false:=(by cases bv with | false=>rfl | true=>exact absurd (hbv.1 rfl) HEX.out);clear hbv;have hib:=(hb1.block _ (by simp)).trans hbi;have hil:=(Az hib).1;have hBw:Below wr.heap.size wr w1:=hBi.trans (hb1.mono hBi.size);have ⟨d0,d1,d2,d3,d4,d5,d6,d7,d8,d9,d10,d11,d12,d13,d14⟩:=Ins.cells (i:=⟨k,op,dst,a,b,n,text,r0,r1,r2,r3,r4,r5,to_,els⟩) hib;simp only at d0 d1 d2 d3 d4 d5 d6 d7 d8 d9 d10 d11 d12 d13 d14;clear c0 c1 c2 c3 c4 c5 c6 c7 c8 c9 c10 c11 c12 c13 c14;have hset:=eW ⟨k,op,dst,a,b,n,text,r0,r1,r2,r3,r4,r5,to_,els⟩ v HOK.out HV.out (some ⟨pb p,0,none⟩) Rn (w1.alloc (Ins.obj ⟨k,op,dst,a,b,n,text,r0,r1,r2,r3,r4,r5,to_,els⟩)) (PreV.read (Pre.later HPV.out (hBw.alloc hBw.size (Ins.obj ⟨k,op,dst,a,b,n,text,r0,r1,r2,r3,r4,r5,to_,els⟩))));unfold nK at hset;simp only[HX.out,Ins.agg,Vl.agg] at hset;have hbo:=heap_alloc_new w1 (Ins.obj ⟨k,op,dst,a,b,n,text,r0,r1,r2,r3,r4,r5,to_,els⟩);have hib2:=aC hib (Ins.obj ⟨k,op,dst,a,b,n,text,r0,r1,r2,r3,r4,r5,to_,els⟩);have hBo:=Below.one w1 (Ins.obj ⟨k,op,dst,a,b,n,text,r0,r1,r2,r3,r4,r5,to_,els⟩))
  |(go_at_call 68;refine hset.mono ?_;rintro e w3 ⟨rfl,hb3⟩;have hBx:Below wr.heap.size wr w3:=hBw.trans ((hBo.trans (hb3.mono hBo.size)).mono hBw.size);have hob3:=(hb3.block _ (Az hbo).1).trans hbo;have hib3:=(hb3.block _ (Az hib2).1).trans hib2;have hob4:=aC hob3 (Vl.obj ⟨1,xn⟩);have hib4:=aC hib3 (Vl.obj ⟨1,xn⟩);have hxb4:=heap_alloc_new w3 (Vl.obj ⟨1,xn⟩);have hBx4:=hBx.alloc hBx.size (Vl.obj ⟨1,xn⟩);clear d0 d1 d2 d3 d4 d5 d6 d7 d8 d9 d10 d11 d12 d13 d14)
  |(go_at_call 45;refine (hpla _).mono ?_;rintro e w5 ⟨rfl,hb5⟩;have hob5:=(hb5.block _ (Az hob4).1).trans hob4;have hib5:=(hb5.block _ (Az hib4).1).trans hib4;have hxb5:=(hb5.block _ (Az hxb4).1).trans hxb4;have hBx5:=hBx4.trans (hb5.mono hBx4.size))
  |(show wpList Try.prog _ _ (⟨none,.store _ (.tmp 9) _,_,_,_,_⟩::_) _ _;refine wpList_store_row rfl 32 (.tmp 9) (.tmp 53) rfl w1.heap.size (Ins.l ⟨1,0,-1,0,0,0,⟨#[]⟩,0,0,0,0,0,0,0,-1⟩).toArray rfl rfl 32 _ hob5 sI rfl (kW ⟨1,0,-1,0,0,0,⟨#[]⟩,0,0,0,0,0,0,0,-1⟩) ?_))
 have hR6:=setRow_heap w5 w1.heap.size _ (Ins.l ⟨1,0,-1,0,0,0,⟨#[]⟩,0,0,0,0,0,0,0,-1⟩).toArray _ _ hob5
 have hib6:=(setRow_other w5 w1.heap.size wr.heap.size (Ins.l ⟨1,0,-1,0,0,0,⟨#[]⟩,0,0,0,0,0,0,0,-1⟩).toArray (Nat.ne_of_lt hil)).trans hib5
 have hxb6:=(setRow_other w5 w1.heap.size w3.heap.size (Ins.l ⟨1,0,-1,0,0,0,⟨#[]⟩,0,0,0,0,0,0,0,-1⟩).toArray (by have:=(Az hob3).1;omega)).trans hxb5
 have hBx6:=below_setRow hBx5 (Nat.le_of_lt (Nat.lt_of_lt_of_le hil (Nat.le_refl _))) (Ins.l ⟨1,0,-1,0,0,0,⟨#[]⟩,0,0,0,0,0,0,0,-1⟩).toArray
 generalize w5.setRow w1.heap.size (Ins.l ⟨1,0,-1,0,0,0,⟨#[]⟩,0,0,0,0,0,0,0,-1⟩).toArray=w6 at *
 have d2:=aA hib6 2 (.int .i64 dst) rfl
 have hx1:=aA hxb6 1 (.int .i64 xn) rfl
 have o2:=aA hR6 2 (.int .i64 (-1)) rfl
 have o5:=aA hR6 5 (.int .i64 0) rfl
 have f2:=aK hR6 2
 have f5:=aK hR6 5
 simp only[Act.put]
 go_region
 have hR7:((w6.setCell ⟨w1.heap.size,2,none⟩ (.int .i64 dst)).setCell ⟨w1.heap.size,5,none⟩ (.int .i64 xn)).drew.heap[w1.heap.size]? = some (.cells (Ins.l ⟨1,0,dst,0,0,xn,⟨#[]⟩,0,0,0,0,0,0,0,-1⟩).toArray 32 (0,0)):=heap_setCell (heap_setCell hR6 (j:=2) (.int .i64 dst)) (j:=5) (.int .i64 xn)
 have hib7:((w6.setCell ⟨w1.heap.size,2,none⟩ (.int .i64 dst)).setCell ⟨w1.heap.size,5,none⟩ (.int .i64 xn)).drew.heap[wr.heap.size]? = _:=((heap_setCell_other _ _ wr.heap.size _ (Nat.ne_of_lt hil)).trans (heap_setCell_other _ _ wr.heap.size _ (Nat.ne_of_lt hil))).trans hib6
 have hBx7:Below wr.heap.size wr ((w6.setCell ⟨w1.heap.size,2,none⟩ (.int .i64 dst)).setCell ⟨w1.heap.size,5,none⟩ (.int .i64 xn)).drew:=(((hBx6.setCell (p:=⟨w1.heap.size,2,none⟩) (Nat.le_of_lt hil) _).setCell (p:=⟨w1.heap.size,5,none⟩) (Nat.le_of_lt hil) _).trans ((Below.refl _ _).drew))
 clear d2 hx1 o2 o5 f2 f5 hR6 hib6 hxb6 hBx6
 generalize ((w6.setCell ⟨w1.heap.size,2,none⟩ (.int .i64 dst)).setCell ⟨w1.heap.size,5,none⟩ (.int .i64 xn)).drew=w7 at *
 have ⟨d0,d1,d2,d3,d4,d5,d6,d7,d8,d9,d10,d11,d12,d13,d14⟩:=Ins.cells (i:=⟨k,op,dst,a,b,n,text,r0,r1,r2,r3,r4,r5,to_,els⟩) hib7
 have ⟨o0,o1,o2,o3,o4,o5,o6,o7,o8,o9,o10,o11,o12,o13,o14⟩:=Ins.cells (i:=⟨1,0,dst,0,0,xn,⟨#[]⟩,0,0,0,0,0,0,0,-1⟩) hR7
 simp only at d0 d1 d2 d3 d4 d5 d6 d7 d8 d9 d10 d11 d12 d13 d14 o0 o1 o2 o3 o4 o5 o6 o7 o8 o9 o10 o11 o12 o13 o14
 have z4:=(hBx7.cell (p:=⟨B0,4,none⟩) hyl).trans y4
 obtain⟨cs,hcb,hcs⟩:=Pre.later HC.out hBx7
 have hfit:=PreI.setRow hcb hcs (p:=p) (by rw[HTL.out,HL.out];exact hlt) ⟨1,0,dst,0,0,xn,⟨#[]⟩,0,0,0,0,0,0,0,-1⟩
 have hB8:=below_setRow (hBx7.mono (Nat.le_of_lt hcl)) (Nat.le_refl cb) (cs.toList.take (p*15)++Ins.l ⟨1,0,dst,0,0,xn,⟨#[]⟩,0,0,0,0,0,0,0,-1⟩++cs.toList.drop (p*15+15)).toArray
 obtain⟨w8,hw8⟩:∃ w8,w7.setRow cb (cs.toList.take (p*15)++Ins.l ⟨1,0,dst,0,0,xn,⟨#[]⟩,0,0,0,0,0,0,0,-1⟩++cs.toList.drop (p*15+15)).toArray=w8:=⟨_,rfl⟩
 rw[hw8] at hfit hB8
 have HW8:=Hz hw8
 clear hw8
 have HP:=Hz hfit.2
 have hfit:=Hz hfit.1
 have HB:=Hz hB8
 clear hcs hR7 hib7 hB8
 rw[Int.natCast_add (aU f M p) 1,Int.natCast_one] at hK
 go_wp2_with (first
  |(show wpList Try.prog _ _ (⟨none,.store _ (.tmp 81) _,_,_,_,_⟩::_) _ _;refine dE rfl 32 (.tmp 81) (.tmp 80) rfl cb (p*15) (Ins.l ⟨1,0,dst,0,0,xn,⟨#[]⟩,0,0,0,0,0,0,0,-1⟩) rfl rfl 32 cs hcb sI hfit.out (fL ⟨1,0,dst,0,0,xn,⟨#[]⟩,0,0,0,0,0,0,0,-1⟩) ?_;rw[show (cs.toList.take (p*15)++Ins.l ⟨1,0,dst,0,0,xn,⟨#[]⟩,0,0,0,0,0,0,0,-1⟩++cs.toList.drop (p*15+(Ins.l ⟨1,0,dst,0,0,xn,⟨#[]⟩,0,0,0,0,0,0,0,-1⟩).length)).toArray=(cs.toList.take (p*15)++Ins.l ⟨1,0,dst,0,0,xn,⟨#[]⟩,0,0,0,0,0,0,0,-1⟩++cs.toList.drop (p*15+15)).toArray from rfl,HW8.out]))
 exact hK _ HB.out HP.out
end Go.Proofs.Ytkcclefonmnpnaa
