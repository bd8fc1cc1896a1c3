import Derived.Test.YthbcdckonaljiaaZh
namespace Go.Proofs.Ythbcdckonaljiaa
open Go.RowKit Go.BigFrame
set_option maxRecDepth 1000000 in
set_option maxHeartbeats 8000000 in
theorem foldRound_known4:FoldR (fun f M p=>(row M p).any (fun x=>x.k == 0)=false∧(insAt f.code p).kind=4∧(setV (insAt f.code p) (row M p)).2=true∧(setV (insAt f.code p) (row M p)).1.k=1):=by
  intro f M L Rn ob cb B0 p pb hpl hL hL8 hR4 wr y4 hd hpv hvl hC hok hh
  intros
  rename_i K Q hK
  obtain ⟨hnv,hkk,hof⟩:=hh
  conv=>arg 2; whnf
  have hlt:p < L:=by omega
  obtain ⟨c0,c1,c2,c3,c4,c5,c6,c7,c8,c9,c10,c11,c12,c13,c14⟩:=PreI.cells hC (foldTo_at hpl)
  have hcl:=Pre.lt hC
  have hyl:=World.block_lt_of_cell? wr ⟨B0,4,none⟩ y4
  have hol:=World.block_lt_of_cell? wr ⟨ob,p,none⟩ hd
  have hfn:=foldN_le f M p
  have HT:=Lib.hid (foldTo_set (M:=M) hpl)
  have HSM:=Lib.hid (foldTo_same (M:=M) hpl)
  have HTL:=Lib.hid (foldTo_len (f:=f) (M:=M) (p:=p) (by omega))
  have HFN:Hid (foldN f M (p + 1)=foldN f M p + (if foldI (insAt f.code p) p (row M p)=insAt f.code p then 0 else 1)):=Lib.hid rfl
  have HC:=Lib.hid hC
  have HV:=Lib.hid hvl
  have HOK:=Lib.hid hok
  have HPV:=Lib.hid hpv
  have HL:=Lib.hid hL
  generalize insAt f.code p=i at *
  generalize row M p=v at *
  have hbi:=heap_alloc_new wr i.obj
  have hBi:=Below.one wr i.obj
  obtain ⟨k,op,dst,a,b,n,text,r0,r1,r2,r3,r4,r5,to_,els⟩:=i
  simp only at c0 c1 c2 c3 c4 c5 c6 c7 c8 c9 c10 c11 c12 c13 c14 hkk
  simp only [Ins.obj] at hbi hBi
  clear hvl hok hC hpl hL
  have hct:=ContainsV_any (pb p) Rn v Rn HV.out hR4 (wr.alloc (.cells #[.int .i64 k,.int .i64 op,.int .i64 dst,.int .i64 a,.int .i64 b,.int .i64 n,.string text,.int .i64 r0,.int .i64 r1,.int .i64 r2,.int .i64 r3,.int .i64 r4,.int .i64 r5,.int .i64 to_,.int .i64 els] 31)) (Pre.later HPV.out hBi)
  have hne:=fun (x:Ins) W=>neq_ins x ⟨k,op,dst,a,b,n,text,r0,r1,r2,r3,r4,r5,to_,els⟩ W
  have HFO:Hid (v.any (fun x=>x.k == 0)=true∨(¬ (k=4∨k=2∨k=3)∧k≠12)→foldI ⟨k,op,dst,a,b,n,text,r0,r1,r2,r3,r4,r5,to_,els⟩ p v=⟨k,op,dst,a,b,n,text,r0,r1,r2,r3,r4,r5,to_,els⟩):=Lib.hid fun h=>by
    unfold foldI
    rcases h with h | ⟨h,h'⟩
    · rw [if_pos h]
    · by_cases hc:v.any (fun x=>x.k == 0)=true
      · rw [if_pos hc]
      · rw [if_neg hc,if_neg h,if_neg h']
  have HSTAY:Hid (foldI ⟨k,op,dst,a,b,n,text,r0,r1,r2,r3,r4,r5,to_,els⟩ p v=⟨k,op,dst,a,b,n,text,r0,r1,r2,r3,r4,r5,to_,els⟩→foldTo f M (p + 1)=foldTo f M p∧foldN f M (p + 1)=foldN f M p):=Lib.hid fun h=>⟨HSM.out h,by rw [HFN.out,if_pos h]; rfl⟩
  obtain ⟨⟨⟨xk,xn⟩,on⟩,hx⟩:∃ x,setV ⟨k,op,dst,a,b,n,text,r0,r1,r2,r3,r4,r5,to_,els⟩ v=x:=⟨_,rfl⟩
  rw [hx] at hof
  obtain ⟨rfl,rfl⟩:on=true∧xk=1:=hof
  have HFX:Hid (foldI ⟨k,op,dst,a,b,n,text,r0,r1,r2,r3,r4,r5,to_,els⟩ p v=⟨1,0,dst,0,0,xn,⟨#[]⟩,0,0,0,0,0,0,0,-1⟩):=Lib.hid (by unfold foldI; rw [if_neg (by rw [hnv]; decide),if_pos (by simp only; omega),hx]; exact if_pos ⟨rfl,rfl⟩)
  have hOI:¬ (⟨1,0,dst,0,0,xn,⟨#[]⟩,0,0,0,0,0,0,0,-1⟩:Ins)=⟨k,op,dst,a,b,n,text,r0,r1,r2,r3,r4,r5,to_,els⟩:=by intro h; injection h with h; omega
  have HNEW:Hid (foldTo f M (p + 1)=(foldTo f M p).set p ⟨1,0,dst,0,0,xn,⟨#[]⟩,0,0,0,0,0,0,0,-1⟩∧foldN f M (p + 1)=foldN f M p + 1):=Lib.hid ⟨by rw [← HT.out,HFX.out],by rw [HFN.out,HFX.out,if_neg hOI]⟩
  have HEX:Hid (¬ ∃ x ∈ v,x.k=0):=Lib.hid (by
    rintro ⟨x,hx,h0⟩
    have h:v.any (fun x=>x.k == 0)=true:=List.any_eq_true.2 ⟨x,hx,by simpa using h0⟩
    rw [hnv] at h
    cases h)
  have hneq:=hne ⟨1,0,dst,0,0,xn,⟨#[]⟩,0,0,0,0,0,0,0,-1⟩
  rw [show decide ((⟨1,0,dst,0,0,xn,⟨#[]⟩,0,0,0,0,0,0,0,-1⟩:Ins)=⟨k,op,dst,a,b,n,text,r0,r1,r2,r3,r4,r5,to_,els⟩)=false by simpa using hOI] at hneq
  simp only [Ins.agg,Bool.not_false] at hneq
  rw [HNEW.out.1,HNEW.out.2] at hK
  have HX:=Lib.hid hx
  have q4:(k == 4)=true:=by simp; omega
  clear hne hkk hnv hx hOI HFO HSTAY HT HSM HFN
  have hpla:=fun W=>Plain_any 1 W
  simp only [Ins.agg] at hpla
  go_upto_region 19 with (first
    | (go_at_call 34; refine hct.mono ?_; rintro e w1 ⟨⟨bv,rfl,hbv⟩,hb1⟩; obtain rfl:bv=false:=(by cases bv with | false=>rfl | true=>exact absurd (hbv.1 rfl) HEX.out); clear hbv; have hib:=(hb1.block _ (by simp)).trans hbi; have hil:=(Array.getElem?_eq_some_iff.1 hib).1; have hBw:Below wr.heap.size wr w1:=hBi.trans (hb1.mono hBi.size); have ⟨d0,d1,d2,d3,d4,d5,d6,d7,d8,d9,d10,d11,d12,d13,d14⟩:=Ins.cells (i:=⟨k,op,dst,a,b,n,text,r0,r1,r2,r3,r4,r5,to_,els⟩) hib; simp only at d0 d1 d2 d3 d4 d5 d6 d7 d8 d9 d10 d11 d12 d13 d14; clear c0 c1 c2 c3 c4 c5 c6 c7 c8 c9 c10 c11 c12 c13 c14; have hset:=set_any ⟨k,op,dst,a,b,n,text,r0,r1,r2,r3,r4,r5,to_,els⟩ v HOK.out HV.out (some ⟨pb p,0,none⟩) Rn (w1.alloc (Ins.obj ⟨k,op,dst,a,b,n,text,r0,r1,r2,r3,r4,r5,to_,els⟩)) (PreV.read (Pre.later HPV.out (hBw.alloc hBw.size (Ins.obj ⟨k,op,dst,a,b,n,text,r0,r1,r2,r3,r4,r5,to_,els⟩)))); unfold SetT at hset; simp only [HX.out,Ins.agg,Vl.agg] at hset; have hbo:=heap_alloc_new w1 (Ins.obj ⟨k,op,dst,a,b,n,text,r0,r1,r2,r3,r4,r5,to_,els⟩); have hib2:=alloc_keeps hib (Ins.obj ⟨k,op,dst,a,b,n,text,r0,r1,r2,r3,r4,r5,to_,els⟩); have hBo:=Below.one w1 (Ins.obj ⟨k,op,dst,a,b,n,text,r0,r1,r2,r3,r4,r5,to_,els⟩))
    | (go_at_call 30; refine hset.mono ?_; rintro e w3 ⟨rfl,hb3⟩; have hBx:Below wr.heap.size wr w3:=hBw.trans ((hBo.trans (hb3.mono hBo.size)).mono hBw.size); have hob3:=(hb3.block _ (Array.getElem?_eq_some_iff.1 hbo).1).trans hbo; have hib3:=(hb3.block _ (Array.getElem?_eq_some_iff.1 hib2).1).trans hib2; have hob4:=alloc_keeps hob3 (Vl.obj ⟨1,xn⟩); have hib4:=alloc_keeps hib3 (Vl.obj ⟨1,xn⟩); have hxb4:=heap_alloc_new w3 (Vl.obj ⟨1,xn⟩); have hBx4:=hBx.alloc hBx.size (Vl.obj ⟨1,xn⟩); clear d0 d1 d2 d3 d4 d5 d6 d7 d8 d9 d10 d11 d12 d13 d14)
    | (go_at_call 7; refine (hpla _).mono ?_; rintro e w5 ⟨rfl,hb5⟩; have hob5:=(hb5.block _ (Array.getElem?_eq_some_iff.1 hob4).1).trans hob4; have hib5:=(hb5.block _ (Array.getElem?_eq_some_iff.1 hib4).1).trans hib4; have hxb5:=(hb5.block _ (Array.getElem?_eq_some_iff.1 hxb4).1).trans hxb4; have hBx5:=hBx4.trans (hb5.mono hBx4.size))
    | (show wpList Try.prog _ _ (⟨none,.store _ (.tmp 9) _,_,_,_,_⟩::_) _ _; refine wpList_store_row rfl 31 (.tmp 9) (.tmp 53) rfl w1.heap.size (Ins.l ⟨1,0,-1,0,0,0,⟨#[]⟩,0,0,0,0,0,0,0,-1⟩).toArray rfl rfl 31 _ hob5 sI rfl (ins_one ⟨1,0,-1,0,0,0,⟨#[]⟩,0,0,0,0,0,0,0,-1⟩) ?_))
  have hR6:=setRow_heap w5 w1.heap.size _ (Ins.l ⟨1,0,-1,0,0,0,⟨#[]⟩,0,0,0,0,0,0,0,-1⟩).toArray _ _ hob5
  have hib6:=(setRow_other w5 w1.heap.size wr.heap.size (Ins.l ⟨1,0,-1,0,0,0,⟨#[]⟩,0,0,0,0,0,0,0,-1⟩).toArray (Nat.ne_of_lt hil)).trans hib5
  have hxb6:=(setRow_other w5 w1.heap.size w3.heap.size (Ins.l ⟨1,0,-1,0,0,0,⟨#[]⟩,0,0,0,0,0,0,0,-1⟩).toArray (by have:=(Array.getElem?_eq_some_iff.1 hob3).1; omega)).trans hxb5
  have hBx6:=below_setRow hBx5 (Nat.le_of_lt (Nat.lt_of_lt_of_le hil (Nat.le_refl _))) (Ins.l ⟨1,0,-1,0,0,0,⟨#[]⟩,0,0,0,0,0,0,0,-1⟩).toArray
  generalize w5.setRow w1.heap.size (Ins.l ⟨1,0,-1,0,0,0,⟨#[]⟩,0,0,0,0,0,0,0,-1⟩).toArray=w6 at *
  have d2:=cell_of_heap hib6 2 (.int .i64 dst) rfl
  have hx1:=cell_of_heap hxb6 1 (.int .i64 xn) rfl
  have o2:=cell_of_heap hR6 2 (.int .i64 (-1)) rfl
  have o5:=cell_of_heap hR6 5 (.int .i64 0) rfl
  have f2:=free_of_heap hR6 2
  have f5:=free_of_heap hR6 5
  simp only [Act.put]
  go_region
  have hR7:((w6.setCell ⟨w1.heap.size,2,none⟩ (.int .i64 dst)).setCell ⟨w1.heap.size,5,none⟩ (.int .i64 xn)).drew.heap[w1.heap.size]? = some (.cells (Ins.l ⟨1,0,dst,0,0,xn,⟨#[]⟩,0,0,0,0,0,0,0,-1⟩).toArray 31 (0,0)):=heap_setCell (heap_setCell hR6 (j:=2) (.int .i64 dst)) (j:=5) (.int .i64 xn)
  have hib7:((w6.setCell ⟨w1.heap.size,2,none⟩ (.int .i64 dst)).setCell ⟨w1.heap.size,5,none⟩ (.int .i64 xn)).drew.heap[wr.heap.size]? = _:=((heap_setCell_other _ _ wr.heap.size _ (Nat.ne_of_lt hil)).trans (heap_setCell_other _ _ wr.heap.size _ (Nat.ne_of_lt hil))).trans hib6
  have hBx7:Below wr.heap.size wr ((w6.setCell ⟨w1.heap.size,2,none⟩ (.int .i64 dst)).setCell ⟨w1.heap.size,5,none⟩ (.int .i64 xn)).drew:=(((hBx6.setCell (p:=⟨w1.heap.size,2,none⟩) (Nat.le_of_lt hil) _).setCell (p:=⟨w1.heap.size,5,none⟩) (Nat.le_of_lt hil) _).trans ((Below.refl _ _).drew))
  clear d2 hx1 o2 o5 f2 f5 hR6 hib6 hxb6 hBx6
  generalize ((w6.setCell ⟨w1.heap.size,2,none⟩ (.int .i64 dst)).setCell ⟨w1.heap.size,5,none⟩ (.int .i64 xn)).drew=w7 at *
  have ⟨d0,d1,d2,d3,d4,d5,d6,d7,d8,d9,d10,d11,d12,d13,d14⟩:=Ins.cells (i:=⟨k,op,dst,a,b,n,text,r0,r1,r2,r3,r4,r5,to_,els⟩) hib7
  have ⟨o0,o1,o2,o3,o4,o5,o6,o7,o8,o9,o10,o11,o12,o13,o14⟩:=Ins.cells (i:=⟨1,0,dst,0,0,xn,⟨#[]⟩,0,0,0,0,0,0,0,-1⟩) hR7
  simp only at d0 d1 d2 d3 d4 d5 d6 d7 d8 d9 d10 d11 d12 d13 d14 o0 o1 o2 o3 o4 o5 o6 o7 o8 o9 o10 o11 o12 o13 o14
  have z4:=(hBx7.cell (p:=⟨B0,4,none⟩) hyl).trans y4
  obtain ⟨cs,hcb,hcs⟩:=Pre.later HC.out hBx7
  have hfit:=PreI.setRow hcb hcs (p:=p) (by rw [HTL.out,HL.out]; exact hlt) ⟨1,0,dst,0,0,xn,⟨#[]⟩,0,0,0,0,0,0,0,-1⟩
  have hB8:=below_setRow (hBx7.mono (Nat.le_of_lt hcl)) (Nat.le_refl cb) (cs.toList.take (p * 15)++Ins.l ⟨1,0,dst,0,0,xn,⟨#[]⟩,0,0,0,0,0,0,0,-1⟩++cs.toList.drop (p * 15 + 15)).toArray
  obtain ⟨w8,hw8⟩:∃ w8,w7.setRow cb (cs.toList.take (p * 15)++Ins.l ⟨1,0,dst,0,0,xn,⟨#[]⟩,0,0,0,0,0,0,0,-1⟩++cs.toList.drop (p * 15 + 15)).toArray=w8:=⟨_,rfl⟩
  rw [hw8] at hfit hB8
  have HW8:=Lib.hid hw8
  clear hw8
  have HP:=Lib.hid hfit.2
  have hfit:=Lib.hid hfit.1
  have HB:=Lib.hid hB8
  clear hcs hR7 hib7 hB8
  rw [Int.natCast_add (foldN f M p) 1,Int.natCast_one] at hK
  go_wp2_with (first
    | (show wpList Try.prog _ _ (⟨none,.store _ (.tmp 81) _,_,_,_,_⟩::_) _ _; refine wpList_store_at rfl 31 (.tmp 81) (.tmp 80) rfl cb (p * 15) (Ins.l ⟨1,0,dst,0,0,xn,⟨#[]⟩,0,0,0,0,0,0,0,-1⟩) rfl rfl 31 cs hcb sI hfit.out (ins_one_l ⟨1,0,dst,0,0,xn,⟨#[]⟩,0,0,0,0,0,0,0,-1⟩) ?_; rw [show (cs.toList.take (p * 15)++Ins.l ⟨1,0,dst,0,0,xn,⟨#[]⟩,0,0,0,0,0,0,0,-1⟩++cs.toList.drop (p * 15 + (Ins.l ⟨1,0,dst,0,0,xn,⟨#[]⟩,0,0,0,0,0,0,0,-1⟩).length)).toArray=(cs.toList.take (p * 15)++Ins.l ⟨1,0,dst,0,0,xn,⟨#[]⟩,0,0,0,0,0,0,0,-1⟩++cs.toList.drop (p * 15 + 15)).toArray from rfl,HW8.out]))
  exact hK _ HB.out HP.out
end Go.Proofs.Ythbcdckonaljiaa

