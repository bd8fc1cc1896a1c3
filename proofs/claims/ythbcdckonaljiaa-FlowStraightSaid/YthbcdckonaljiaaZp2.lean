import Derived.Test.YthbcdckonaljiaaZp
import Derived.Test.YthbcdckonaljiaaZpb
import Derived.Test.YthbcdckonaljiaaZpc
import Derived.Test.YthbcdckonaljiaaZf
namespace Go.Proofs.Ythbcdckonaljiaa
open Go.RowKit Go.BigFrame
set_option maxRecDepth 1000000 in
set_option maxHeartbeats 8000000 in
theorem foldRound_known2:FoldR (fun f M p=>(row M p).any (fun x=>x.k == 0)=false∧(insAt f.code p).kind=2∧(setV (insAt f.code p) (row M p)).2=true∧(setV (insAt f.code p) (row M p)).1.k=1):=by
  intro f M L Rn ob cb B0 p pb hpl hL hL8 hR4 wr y4 hd hpv hvl hC hok hh
  intros
  rename_i K Q hK
  obtain ⟨hnv,hkk,hof⟩:=hh
  conv=>arg 2; whnf
  have hlt:p < L:=by omega
  obtain ⟨c0,c1,c2,c3,c4,c5,c6,c7,c8,c9,c10,c11,c12,c13,c14⟩:=PreI.cells hC (foldTo_at hpl)
  have hcl:=Pre.lt hC
  have hyl:=World.block_lt_of_cell? wr ⟨B0,4,none⟩ y4
  have hol:=World.block_lt_of_cell? wr ⟨ob,p,none⟩ hd
  have hfn:=foldN_le f M p
  have HT:=Lib.hid (foldTo_set (M:=M) hpl)
  have HSM:=Lib.hid (foldTo_same (M:=M) hpl)
  have HTL:=Lib.hid (foldTo_len (f:=f) (M:=M) (p:=p) (by omega))
  have HFN:Hid (foldN f M (p + 1)=foldN f M p + (if foldI (insAt f.code p) p (row M p)=insAt f.code p then 0 else 1)):=Lib.hid rfl
  have HC:=Lib.hid hC
  have HV:=Lib.hid hvl
  have HOK:=Lib.hid hok
  have HPV:=Lib.hid hpv
  have HL:=Lib.hid hL
  generalize insAt f.code p=i at *
  generalize row M p=v at *
  have hbi:=heap_alloc_new wr i.obj
  have hBi:=Below.one wr i.obj
  obtain ⟨k,op,dst,a,b,n,text,r0,r1,r2,r3,r4,r5,to_,els⟩:=i
  simp only at c0 c1 c2 c3 c4 c5 c6 c7 c8 c9 c10 c11 c12 c13 c14 hkk
  simp only [Ins.obj] at hbi hBi
  clear hvl hok hC hpl hL
  have hct:=ContainsV_any (pb p) Rn v Rn HV.out hR4 (wr.alloc (.cells #[.int .i64 k,.int .i64 op,.int .i64 dst,.int .i64 a,.int .i64 b,.int .i64 n,.string text,.int .i64 r0,.int .i64 r1,.int .i64 r2,.int .i64 r3,.int .i64 r4,.int .i64 r5,.int .i64 to_,.int .i64 els] 31)) (Pre.later HPV.out hBi)
  have hne:=fun (x:Ins) W=>neq_ins x ⟨k,op,dst,a,b,n,text,r0,r1,r2,r3,r4,r5,to_,els⟩ W
  have HFO:Hid (v.any (fun x=>x.k == 0)=true∨(¬ (k=4∨k=2∨k=3)∧k≠12)→foldI ⟨k,op,dst,a,b,n,text,r0,r1,r2,r3,r4,r5,to_,els⟩ p v=⟨k,op,dst,a,b,n,text,r0,r1,r2,r3,r4,r5,to_,els⟩):=Lib.hid fun h=>by
    unfold foldI
    rcases h with h | ⟨h,h'⟩
    · rw [if_pos h]
    · by_cases hc:v.any (fun x=>x.k == 0)=true
      · rw [if_pos hc]
      · rw [if_neg hc,if_neg h,if_neg h']
  have HSTAY:Hid (foldI ⟨k,op,dst,a,b,n,text,r0,r1,r2,r3,r4,r5,to_,els⟩ p v=⟨k,op,dst,a,b,n,text,r0,r1,r2,r3,r4,r5,to_,els⟩→foldTo f M (p + 1)=foldTo f M p∧foldN f M (p + 1)=foldN f M p):=Lib.hid fun h=>⟨HSM.out h,by rw [HFN.out,if_pos h]; rfl⟩
  obtain ⟨⟨⟨xk,xn⟩,on⟩,hx⟩:∃ x,setV ⟨k,op,dst,a,b,n,text,r0,r1,r2,r3,r4,r5,to_,els⟩ v=x:=⟨_,rfl⟩
  rw [hx] at hof
  obtain ⟨rfl,rfl⟩:on=true∧xk=1:=hof
  have HFX:Hid (foldI ⟨k,op,dst,a,b,n,text,r0,r1,r2,r3,r4,r5,to_,els⟩ p v=⟨1,0,dst,0,0,xn,⟨#[]⟩,0,0,0,0,0,0,0,-1⟩):=Lib.hid (by unfold foldI; rw [if_neg (by rw [hnv]; decide),if_pos (by simp only; omega),hx]; exact if_pos ⟨rfl,rfl⟩)
  have hOI:¬ (⟨1,0,dst,0,0,xn,⟨#[]⟩,0,0,0,0,0,0,0,-1⟩:Ins)=⟨k,op,dst,a,b,n,text,r0,r1,r2,r3,r4,r5,to_,els⟩:=by intro h; injection h with h; omega
  have HNEW:Hid (foldTo f M (p + 1)=(foldTo f M p).set p ⟨1,0,dst,0,0,xn,⟨#[]⟩,0,0,0,0,0,0,0,-1⟩∧foldN f M (p + 1)=foldN f M p + 1):=Lib.hid ⟨by rw [← HT.out,HFX.out],by rw [HFN.out,HFX.out,if_neg hOI]⟩
  have HEX:Hid (¬ ∃ x ∈ v,x.k=0):=Lib.hid (by
    rintro ⟨x,hx,h0⟩
    have h:v.any (fun x=>x.k == 0)=true:=List.any_eq_true.2 ⟨x,hx,by simpa using h0⟩
    rw [hnv] at h
    cases h)
  have hneq:=hne ⟨1,0,dst,0,0,xn,⟨#[]⟩,0,0,0,0,0,0,0,-1⟩
  rw [show decide ((⟨1,0,dst,0,0,xn,⟨#[]⟩,0,0,0,0,0,0,0,-1⟩:Ins)=⟨k,op,dst,a,b,n,text,r0,r1,r2,r3,r4,r5,to_,els⟩)=false by simpa using hOI] at hneq
  simp only [Ins.agg,Bool.not_false] at hneq
  rw [HNEW.out.1,HNEW.out.2] at hK
  have HX:=Lib.hid hx
  have q4:(k == 4)=false:=by simp; omega
  have q2:(k == 2)=true:=by simp; omega
  clear hne hkk hnv hx hOI HFO HSTAY HT HSM HFN
  have hpla:=fun W=>Plain_any 1 W
  simp only [Ins.agg] at hpla
  go_upto_region 19 with (first
    | (go_at_call 34; refine hct.mono ?_; rintro e w1 ⟨⟨bv,rfl,hbv⟩,hb1⟩; obtain rfl:bv=false:=(by cases bv with | false=>rfl | true=>exact absurd (hbv.1 rfl) HEX.out); clear hbv; have hib:=(hb1.block _ (by simp)).trans hbi; have hil:=(Array.getElem?_eq_some_iff.1 hib).1; have hBw:Below wr.heap.size wr w1:=hBi.trans (hb1.mono hBi.size); have ⟨d0,d1,d2,d3,d4,d5,d6,d7,d8,d9,d10,d11,d12,d13,d14⟩:=Ins.cells (i:=⟨k,op,dst,a,b,n,text,r0,r1,r2,r3,r4,r5,to_,els⟩) hib; simp only at d0 d1 d2 d3 d4 d5 d6 d7 d8 d9 d10 d11 d12 d13 d14; clear c0 c1 c2 c3 c4 c5 c6 c7 c8 c9 c10 c11 c12 c13 c14; have hset:=set_any ⟨k,op,dst,a,b,n,text,r0,r1,r2,r3,r4,r5,to_,els⟩ v HOK.out HV.out (some ⟨pb p,0,none⟩) Rn (w1.alloc (Ins.obj ⟨k,op,dst,a,b,n,text,r0,r1,r2,r3,r4,r5,to_,els⟩)) (PreV.read (Pre.later HPV.out (hBw.alloc hBw.size (Ins.obj ⟨k,op,dst,a,b,n,text,r0,r1,r2,r3,r4,r5,to_,els⟩)))); unfold SetT at hset; simp only [HX.out,Ins.agg,Vl.agg] at hset; have hbo:=heap_alloc_new w1 (Ins.obj ⟨k,op,dst,a,b,n,text,r0,r1,r2,r3,r4,r5,to_,els⟩); have hib2:=alloc_keeps hib (Ins.obj ⟨k,op,dst,a,b,n,text,r0,r1,r2,r3,r4,r5,to_,els⟩); have hBo:=Below.one w1 (Ins.obj ⟨k,op,dst,a,b,n,text,r0,r1,r2,r3,r4,r5,to_,els⟩))
    | (go_at_call 30; refine hset.mono ?_; rintro e w3 ⟨rfl,hb3⟩; have hBx:Below wr.heap.size wr w3:=hBw.trans ((hBo.trans (hb3.mono hBo.size)).mono hBw.size); have hob3:=(hb3.block _ (Array.getElem?_eq_some_iff.1 hbo).1).trans hbo; have hib3:=(hb3.block _ (Array.getElem?_eq_some_iff.1 hib2).1).trans hib2; have hob4:=alloc_keeps hob3 (Vl.obj ⟨1,xn⟩); have hib4:=alloc_keeps hib3 (Vl.obj ⟨1,xn⟩); have hxb4:=heap_alloc_new w3 (Vl.obj ⟨1,xn⟩); have hBx4:=hBx.alloc hBx.size (Vl.obj ⟨1,xn⟩); clear d0 d1 d2 d3 d4 d5 d6 d7 d8 d9 d10 d11 d12 d13 d14)
    | (go_at_call 7; refine (hpla _).mono ?_; rintro e w5 ⟨rfl,hb5⟩; have hob5:=(hb5.block _ (Array.getElem?_eq_some_iff.1 hob4).1).trans hob4; have hib5:=(hb5.block _ (Array.getElem?_eq_some_iff.1 hib4).1).trans hib4; have hxb5:=(hb5.block _ (Array.getElem?_eq_some_iff.1 hxb4).1).trans hxb4; have hBx5:=hBx4.trans (hb5.mono hBx4.size))
    | (show wpList Try.prog _ _ (⟨none,.store _ (.tmp 9) _,_,_,_,_⟩::_) _ _; refine wpList_store_row rfl 31 (.tmp 9) (.tmp 53) rfl w1.heap.size (Ins.l ⟨1,0,-1,0,0,0,⟨#[]⟩,0,0,0,0,0,0,0,-1⟩).toArray rfl rfl 31 _ hob5 sI rfl (ins_one ⟨1,0,-1,0,0,0,⟨#[]⟩,0,0,0,0,0,0,0,-1⟩) ?_))
  have hR6:=setRow_heap w5 w1.heap.size _ (Ins.l ⟨1,0,-1,0,0,0,⟨#[]⟩,0,0,0,0,0,0,0,-1⟩).toArray _ _ hob5
  have hib6:=(setRow_other w5 w1.heap.size wr.heap.size (Ins.l ⟨1,0,-1,0,0,0,⟨#[]⟩,0,0,0,0,0,0,0,-1⟩).toArray (Nat.ne_of_lt hil)).trans hib5
  have hxb6:=(setRow_other w5 w1.heap.size w3.heap.size (Ins.l ⟨1,0,-1,0,0,0,⟨#[]⟩,0,0,0,0,0,0,0,-1⟩).toArray (by have:=(Array.getElem?_eq_some_iff.1 hob3).1; omega)).trans hxb5
  have hBx6:=below_setRow hBx5 (Nat.le_of_lt (Nat.lt_of_lt_of_le hil (Nat.le_refl _))) (Ins.l ⟨1,0,-1,0,0,0,⟨#[]⟩,0,0,0,0,0,0,0,-1⟩).toArray
  generalize w5.setRow w1.heap.size (Ins.l ⟨1,0,-1,0,0,0,⟨#[]⟩,0,0,0,0,0,0,0,-1⟩).toArray=w6 at *
  have d2:=cell_of_heap hib6 2 (.int .i64 dst) rfl
  have hx1:=cell_of_heap hxb6 1 (.int .i64 xn) rfl
  have o2:=cell_of_heap hR6 2 (.int .i64 (-1)) rfl
  have o5:=cell_of_heap hR6 5 (.int .i64 0) rfl
  have f2:=free_of_heap hR6 2
  have f5:=free_of_heap hR6 5
  simp only [Act.put]
  go_region
  have hR7:((w6.setCell ⟨w1.heap.size,2,none⟩ (.int .i64 dst)).setCell ⟨w1.heap.size,5,none⟩ (.int .i64 xn)).drew.heap[w1.heap.size]? = some (.cells (Ins.l ⟨1,0,dst,0,0,xn,⟨#[]⟩,0,0,0,0,0,0,0,-1⟩).toArray 31 (0,0)):=heap_setCell (heap_setCell hR6 (j:=2) (.int .i64 dst)) (j:=5) (.int .i64 xn)
  have hib7:((w6.setCell ⟨w1.heap.size,2,none⟩ (.int .i64 dst)).setCell ⟨w1.heap.size,5,none⟩ (.int .i64 xn)).drew.heap[wr.heap.size]? = _:=((heap_setCell_other _ _ wr.heap.size _ (Nat.ne_of_lt hil)).trans (heap_setCell_other _ _ wr.heap.size _ (Nat.ne_of_lt hil))).trans hib6
  have hBx7:Below wr.heap.size wr ((w6.setCell ⟨w1.heap.size,2,none⟩ (.int .i64 dst)).setCell ⟨w1.heap.size,5,none⟩ (.int .i64 xn)).drew:=(((hBx6.setCell (p:=⟨w1.heap.size,2,none⟩) (Nat.le_of_lt hil) _).setCell (p:=⟨w1.heap.size,5,none⟩) (Nat.le_of_lt hil) _).trans ((Below.refl _ _).drew))
  clear d2 hx1 o2 o5 f2 f5 hR6 hib6 hxb6 hBx6
  generalize ((w6.setCell ⟨w1.heap.size,2,none⟩ (.int .i64 dst)).setCell ⟨w1.heap.size,5,none⟩ (.int .i64 xn)).drew=w7 at *
  have ⟨d0,d1,d2,d3,d4,d5,d6,d7,d8,d9,d10,d11,d12,d13,d14⟩:=Ins.cells (i:=⟨k,op,dst,a,b,n,text,r0,r1,r2,r3,r4,r5,to_,els⟩) hib7
  have ⟨o0,o1,o2,o3,o4,o5,o6,o7,o8,o9,o10,o11,o12,o13,o14⟩:=Ins.cells (i:=⟨1,0,dst,0,0,xn,⟨#[]⟩,0,0,0,0,0,0,0,-1⟩) hR7
  simp only at d0 d1 d2 d3 d4 d5 d6 d7 d8 d9 d10 d11 d12 d13 d14 o0 o1 o2 o3 o4 o5 o6 o7 o8 o9 o10 o11 o12 o13 o14
  have z4:=(hBx7.cell (p:=⟨B0,4,none⟩) hyl).trans y4
  obtain ⟨cs,hcb,hcs⟩:=Pre.later HC.out hBx7
  have hfit:=PreI.setRow hcb hcs (p:=p) (by rw [HTL.out,HL.out]; exact hlt) ⟨1,0,dst,0,0,xn,⟨#[]⟩,0,0,0,0,0,0,0,-1⟩
  have hB8:=below_setRow (hBx7.mono (Nat.le_of_lt hcl)) (Nat.le_refl cb) (cs.toList.take (p * 15)++Ins.l ⟨1,0,dst,0,0,xn,⟨#[]⟩,0,0,0,0,0,0,0,-1⟩++cs.toList.drop (p * 15 + 15)).toArray
  obtain ⟨w8,hw8⟩:∃ w8,w7.setRow cb (cs.toList.take (p * 15)++Ins.l ⟨1,0,dst,0,0,xn,⟨#[]⟩,0,0,0,0,0,0,0,-1⟩++cs.toList.drop (p * 15 + 15)).toArray=w8:=⟨_,rfl⟩
  rw [hw8] at hfit hB8
  have HW8:=Lib.hid hw8
  clear hw8
  have HP:=Lib.hid hfit.2
  have hfit:=Lib.hid hfit.1
  have HB:=Lib.hid hB8
  clear hcs hR7 hib7 hB8
  rw [Int.natCast_add (foldN f M p) 1,Int.natCast_one] at hK
  go_wp2_with (first
    | (show wpList Try.prog _ _ (⟨none,.store _ (.tmp 81) _,_,_,_,_⟩::_) _ _; refine wpList_store_at rfl 31 (.tmp 81) (.tmp 80) rfl cb (p * 15) (Ins.l ⟨1,0,dst,0,0,xn,⟨#[]⟩,0,0,0,0,0,0,0,-1⟩) rfl rfl 31 cs hcb sI hfit.out (ins_one_l ⟨1,0,dst,0,0,xn,⟨#[]⟩,0,0,0,0,0,0,0,-1⟩) ?_; rw [show (cs.toList.take (p * 15)++Ins.l ⟨1,0,dst,0,0,xn,⟨#[]⟩,0,0,0,0,0,0,0,-1⟩++cs.toList.drop (p * 15 + (Ins.l ⟨1,0,dst,0,0,xn,⟨#[]⟩,0,0,0,0,0,0,0,-1⟩).length)).toArray=(cs.toList.take (p * 15)++Ins.l ⟨1,0,dst,0,0,xn,⟨#[]⟩,0,0,0,0,0,0,0,-1⟩++cs.toList.drop (p * 15 + 15)).toArray from rfl,HW8.out]))
  exact hK _ HB.out HP.out
end Go.Proofs.Ythbcdckonaljiaa
namespace Go.Proofs.Ythbcdckonaljiaa
open Go.RowKit Go.BigFrame
set_option maxRecDepth 1000000 in
set_option maxHeartbeats 8000000 in
theorem foldRound_known3:FoldR (fun f M p=>(row M p).any (fun x=>x.k == 0)=false∧(insAt f.code p).kind=3∧(setV (insAt f.code p) (row M p)).2=true∧(setV (insAt f.code p) (row M p)).1.k=1):=by
  intro f M L Rn ob cb B0 p pb hpl hL hL8 hR4 wr y4 hd hpv hvl hC hok hh
  intros
  rename_i K Q hK
  obtain ⟨hnv,hkk,hof⟩:=hh
  conv=>arg 2; whnf
  have hlt:p < L:=by omega
  obtain ⟨c0,c1,c2,c3,c4,c5,c6,c7,c8,c9,c10,c11,c12,c13,c14⟩:=PreI.cells hC (foldTo_at hpl)
  have hcl:=Pre.lt hC
  have hyl:=World.block_lt_of_cell? wr ⟨B0,4,none⟩ y4
  have hol:=World.block_lt_of_cell? wr ⟨ob,p,none⟩ hd
  have hfn:=foldN_le f M p
  have HT:=Lib.hid (foldTo_set (M:=M) hpl)
  have HSM:=Lib.hid (foldTo_same (M:=M) hpl)
  have HTL:=Lib.hid (foldTo_len (f:=f) (M:=M) (p:=p) (by omega))
  have HFN:Hid (foldN f M (p + 1)=foldN f M p + (if foldI (insAt f.code p) p (row M p)=insAt f.code p then 0 else 1)):=Lib.hid rfl
  have HC:=Lib.hid hC
  have HV:=Lib.hid hvl
  have HOK:=Lib.hid hok
  have HPV:=Lib.hid hpv
  have HL:=Lib.hid hL
  generalize insAt f.code p=i at *
  generalize row M p=v at *
  have hbi:=heap_alloc_new wr i.obj
  have hBi:=Below.one wr i.obj
  obtain ⟨k,op,dst,a,b,n,text,r0,r1,r2,r3,r4,r5,to_,els⟩:=i
  simp only at c0 c1 c2 c3 c4 c5 c6 c7 c8 c9 c10 c11 c12 c13 c14 hkk
  simp only [Ins.obj] at hbi hBi
  clear hvl hok hC hpl hL
  have hct:=ContainsV_any (pb p) Rn v Rn HV.out hR4 (wr.alloc (.cells #[.int .i64 k,.int .i64 op,.int .i64 dst,.int .i64 a,.int .i64 b,.int .i64 n,.string text,.int .i64 r0,.int .i64 r1,.int .i64 r2,.int .i64 r3,.int .i64 r4,.int .i64 r5,.int .i64 to_,.int .i64 els] 31)) (Pre.later HPV.out hBi)
  have hne:=fun (x:Ins) W=>neq_ins x ⟨k,op,dst,a,b,n,text,r0,r1,r2,r3,r4,r5,to_,els⟩ W
  have HFO:Hid (v.any (fun x=>x.k == 0)=true∨(¬ (k=4∨k=2∨k=3)∧k≠12)→foldI ⟨k,op,dst,a,b,n,text,r0,r1,r2,r3,r4,r5,to_,els⟩ p v=⟨k,op,dst,a,b,n,text,r0,r1,r2,r3,r4,r5,to_,els⟩):=Lib.hid fun h=>by
    unfold foldI
    rcases h with h | ⟨h,h'⟩
    · rw [if_pos h]
    · by_cases hc:v.any (fun x=>x.k == 0)=true
      · rw [if_pos hc]
      · rw [if_neg hc,if_neg h,if_neg h']
  have HSTAY:Hid (foldI ⟨k,op,dst,a,b,n,text,r0,r1,r2,r3,r4,r5,to_,els⟩ p v=⟨k,op,dst,a,b,n,text,r0,r1,r2,r3,r4,r5,to_,els⟩→foldTo f M (p + 1)=foldTo f M p∧foldN f M (p + 1)=foldN f M p):=Lib.hid fun h=>⟨HSM.out h,by rw [HFN.out,if_pos h]; rfl⟩
  obtain ⟨⟨⟨xk,xn⟩,on⟩,hx⟩:∃ x,setV ⟨k,op,dst,a,b,n,text,r0,r1,r2,r3,r4,r5,to_,els⟩ v=x:=⟨_,rfl⟩
  rw [hx] at hof
  obtain ⟨rfl,rfl⟩:on=true∧xk=1:=hof
  have HFX:Hid (foldI ⟨k,op,dst,a,b,n,text,r0,r1,r2,r3,r4,r5,to_,els⟩ p v=⟨1,0,dst,0,0,xn,⟨#[]⟩,0,0,0,0,0,0,0,-1⟩):=Lib.hid (by unfold foldI; rw [if_neg (by rw [hnv]; decide),if_pos (by simp only; omega),hx]; exact if_pos ⟨rfl,rfl⟩)
  have hOI:¬ (⟨1,0,dst,0,0,xn,⟨#[]⟩,0,0,0,0,0,0,0,-1⟩:Ins)=⟨k,op,dst,a,b,n,text,r0,r1,r2,r3,r4,r5,to_,els⟩:=by intro h; injection h with h; omega
  have HNEW:Hid (foldTo f M (p + 1)=(foldTo f M p).set p ⟨1,0,dst,0,0,xn,⟨#[]⟩,0,0,0,0,0,0,0,-1⟩∧foldN f M (p + 1)=foldN f M p + 1):=Lib.hid ⟨by rw [← HT.out,HFX.out],by rw [HFN.out,HFX.out,if_neg hOI]⟩
  have HEX:Hid (¬ ∃ x ∈ v,x.k=0):=Lib.hid (by
    rintro ⟨x,hx,h0⟩
    have h:v.any (fun x=>x.k == 0)=true:=List.any_eq_true.2 ⟨x,hx,by simpa using h0⟩
    rw [hnv] at h
    cases h)
  have hneq:=hne ⟨1,0,dst,0,0,xn,⟨#[]⟩,0,0,0,0,0,0,0,-1⟩
  rw [show decide ((⟨1,0,dst,0,0,xn,⟨#[]⟩,0,0,0,0,0,0,0,-1⟩:Ins)=⟨k,op,dst,a,b,n,text,r0,r1,r2,r3,r4,r5,to_,els⟩)=false by simpa using hOI] at hneq
  simp only [Ins.agg,Bool.not_false] at hneq
  rw [HNEW.out.1,HNEW.out.2] at hK
  have HX:=Lib.hid hx
  have q4:(k == 4)=false:=by simp; omega
  have q2:(k == 2)=false:=by simp; omega
  have q3:(k == 3)=true:=by simp; omega
  clear hne hkk hnv hx hOI HFO HSTAY HT HSM HFN
  have hpla:=fun W=>Plain_any 1 W
  simp only [Ins.agg] at hpla
  go_upto_region 19 with (first
    | (go_at_call 34; refine hct.mono ?_; rintro e w1 ⟨⟨bv,rfl,hbv⟩,hb1⟩; obtain rfl:bv=false:=(by cases bv with | false=>rfl | true=>exact absurd (hbv.1 rfl) HEX.out); clear hbv; have hib:=(hb1.block _ (by simp)).trans hbi; have hil:=(Array.getElem?_eq_some_iff.1 hib).1; have hBw:Below wr.heap.size wr w1:=hBi.trans (hb1.mono hBi.size); have ⟨d0,d1,d2,d3,d4,d5,d6,d7,d8,d9,d10,d11,d12,d13,d14⟩:=Ins.cells (i:=⟨k,op,dst,a,b,n,text,r0,r1,r2,r3,r4,r5,to_,els⟩) hib; simp only at d0 d1 d2 d3 d4 d5 d6 d7 d8 d9 d10 d11 d12 d13 d14; clear c0 c1 c2 c3 c4 c5 c6 c7 c8 c9 c10 c11 c12 c13 c14; have hset:=set_any ⟨k,op,dst,a,b,n,text,r0,r1,r2,r3,r4,r5,to_,els⟩ v HOK.out HV.out (some ⟨pb p,0,none⟩) Rn (w1.alloc (Ins.obj ⟨k,op,dst,a,b,n,text,r0,r1,r2,r3,r4,r5,to_,els⟩)) (PreV.read (Pre.later HPV.out (hBw.alloc hBw.size (Ins.obj ⟨k,op,dst,a,b,n,text,r0,r1,r2,r3,r4,r5,to_,els⟩)))); unfold SetT at hset; simp only [HX.out,Ins.agg,Vl.agg] at hset; have hbo:=heap_alloc_new w1 (Ins.obj ⟨k,op,dst,a,b,n,text,r0,r1,r2,r3,r4,r5,to_,els⟩); have hib2:=alloc_keeps hib (Ins.obj ⟨k,op,dst,a,b,n,text,r0,r1,r2,r3,r4,r5,to_,els⟩); have hBo:=Below.one w1 (Ins.obj ⟨k,op,dst,a,b,n,text,r0,r1,r2,r3,r4,r5,to_,els⟩))
    | (go_at_call 30; refine hset.mono ?_; rintro e w3 ⟨rfl,hb3⟩; have hBx:Below wr.heap.size wr w3:=hBw.trans ((hBo.trans (hb3.mono hBo.size)).mono hBw.size); have hob3:=(hb3.block _ (Array.getElem?_eq_some_iff.1 hbo).1).trans hbo; have hib3:=(hb3.block _ (Array.getElem?_eq_some_iff.1 hib2).1).trans hib2; have hob4:=alloc_keeps hob3 (Vl.obj ⟨1,xn⟩); have hib4:=alloc_keeps hib3 (Vl.obj ⟨1,xn⟩); have hxb4:=heap_alloc_new w3 (Vl.obj ⟨1,xn⟩); have hBx4:=hBx.alloc hBx.size (Vl.obj ⟨1,xn⟩); clear d0 d1 d2 d3 d4 d5 d6 d7 d8 d9 d10 d11 d12 d13 d14)
    | (go_at_call 7; refine (hpla _).mono ?_; rintro e w5 ⟨rfl,hb5⟩; have hob5:=(hb5.block _ (Array.getElem?_eq_some_iff.1 hob4).1).trans hob4; have hib5:=(hb5.block _ (Array.getElem?_eq_some_iff.1 hib4).1).trans hib4; have hxb5:=(hb5.block _ (Array.getElem?_eq_some_iff.1 hxb4).1).trans hxb4; have hBx5:=hBx4.trans (hb5.mono hBx4.size))
    | (show wpList Try.prog _ _ (⟨none,.store _ (.tmp 9) _,_,_,_,_⟩::_) _ _; refine wpList_store_row rfl 31 (.tmp 9) (.tmp 53) rfl w1.heap.size (Ins.l ⟨1,0,-1,0,0,0,⟨#[]⟩,0,0,0,0,0,0,0,-1⟩).toArray rfl rfl 31 _ hob5 sI rfl (ins_one ⟨1,0,-1,0,0,0,⟨#[]⟩,0,0,0,0,0,0,0,-1⟩) ?_))
  have hR6:=setRow_heap w5 w1.heap.size _ (Ins.l ⟨1,0,-1,0,0,0,⟨#[]⟩,0,0,0,0,0,0,0,-1⟩).toArray _ _ hob5
  have hib6:=(setRow_other w5 w1.heap.size wr.heap.size (Ins.l ⟨1,0,-1,0,0,0,⟨#[]⟩,0,0,0,0,0,0,0,-1⟩).toArray (Nat.ne_of_lt hil)).trans hib5
  have hxb6:=(setRow_other w5 w1.heap.size w3.heap.size (Ins.l ⟨1,0,-1,0,0,0,⟨#[]⟩,0,0,0,0,0,0,0,-1⟩).toArray (by have:=(Array.getElem?_eq_some_iff.1 hob3).1; omega)).trans hxb5
  have hBx6:=below_setRow hBx5 (Nat.le_of_lt (Nat.lt_of_lt_of_le hil (Nat.le_refl _))) (Ins.l ⟨1,0,-1,0,0,0,⟨#[]⟩,0,0,0,0,0,0,0,-1⟩).toArray
  generalize w5.setRow w1.heap.size (Ins.l ⟨1,0,-1,0,0,0,⟨#[]⟩,0,0,0,0,0,0,0,-1⟩).toArray=w6 at *
  have d2:=cell_of_heap hib6 2 (.int .i64 dst) rfl
  have hx1:=cell_of_heap hxb6 1 (.int .i64 xn) rfl
  have o2:=cell_of_heap hR6 2 (.int .i64 (-1)) rfl
  have o5:=cell_of_heap hR6 5 (.int .i64 0) rfl
  have f2:=free_of_heap hR6 2
  have f5:=free_of_heap hR6 5
  simp only [Act.put]
  go_region
  have hR7:((w6.setCell ⟨w1.heap.size,2,none⟩ (.int .i64 dst)).setCell ⟨w1.heap.size,5,none⟩ (.int .i64 xn)).drew.heap[w1.heap.size]? = some (.cells (Ins.l ⟨1,0,dst,0,0,xn,⟨#[]⟩,0,0,0,0,0,0,0,-1⟩).toArray 31 (0,0)):=heap_setCell (heap_setCell hR6 (j:=2) (.int .i64 dst)) (j:=5) (.int .i64 xn)
  have hib7:((w6.setCell ⟨w1.heap.size,2,none⟩ (.int .i64 dst)).setCell ⟨w1.heap.size,5,none⟩ (.int .i64 xn)).drew.heap[wr.heap.size]? = _:=((heap_setCell_other _ _ wr.heap.size _ (Nat.ne_of_lt hil)).trans (heap_setCell_other _ _ wr.heap.size _ (Nat.ne_of_lt hil))).trans hib6
  have hBx7:Below wr.heap.size wr ((w6.setCell ⟨w1.heap.size,2,none⟩ (.int .i64 dst)).setCell ⟨w1.heap.size,5,none⟩ (.int .i64 xn)).drew:=(((hBx6.setCell (p:=⟨w1.heap.size,2,none⟩) (Nat.le_of_lt hil) _).setCell (p:=⟨w1.heap.size,5,none⟩) (Nat.le_of_lt hil) _).trans ((Below.refl _ _).drew))
  clear d2 hx1 o2 o5 f2 f5 hR6 hib6 hxb6 hBx6
  generalize ((w6.setCell ⟨w1.heap.size,2,none⟩ (.int .i64 dst)).setCell ⟨w1.heap.size,5,none⟩ (.int .i64 xn)).drew=w7 at *
  have ⟨d0,d1,d2,d3,d4,d5,d6,d7,d8,d9,d10,d11,d12,d13,d14⟩:=Ins.cells (i:=⟨k,op,dst,a,b,n,text,r0,r1,r2,r3,r4,r5,to_,els⟩) hib7
  have ⟨o0,o1,o2,o3,o4,o5,o6,o7,o8,o9,o10,o11,o12,o13,o14⟩:=Ins.cells (i:=⟨1,0,dst,0,0,xn,⟨#[]⟩,0,0,0,0,0,0,0,-1⟩) hR7
  simp only at d0 d1 d2 d3 d4 d5 d6 d7 d8 d9 d10 d11 d12 d13 d14 o0 o1 o2 o3 o4 o5 o6 o7 o8 o9 o10 o11 o12 o13 o14
  have z4:=(hBx7.cell (p:=⟨B0,4,none⟩) hyl).trans y4
  obtain ⟨cs,hcb,hcs⟩:=Pre.later HC.out hBx7
  have hfit:=PreI.setRow hcb hcs (p:=p) (by rw [HTL.out,HL.out]; exact hlt) ⟨1,0,dst,0,0,xn,⟨#[]⟩,0,0,0,0,0,0,0,-1⟩
  have hB8:=below_setRow (hBx7.mono (Nat.le_of_lt hcl)) (Nat.le_refl cb) (cs.toList.take (p * 15)++Ins.l ⟨1,0,dst,0,0,xn,⟨#[]⟩,0,0,0,0,0,0,0,-1⟩++cs.toList.drop (p * 15 + 15)).toArray
  obtain ⟨w8,hw8⟩:∃ w8,w7.setRow cb (cs.toList.take (p * 15)++Ins.l ⟨1,0,dst,0,0,xn,⟨#[]⟩,0,0,0,0,0,0,0,-1⟩++cs.toList.drop (p * 15 + 15)).toArray=w8:=⟨_,rfl⟩
  rw [hw8] at hfit hB8
  have HW8:=Lib.hid hw8
  clear hw8
  have HP:=Lib.hid hfit.2
  have hfit:=Lib.hid hfit.1
  have HB:=Lib.hid hB8
  clear hcs hR7 hib7 hB8
  rw [Int.natCast_add (foldN f M p) 1,Int.natCast_one] at hK
  go_wp2_with (first
    | (show wpList Try.prog _ _ (⟨none,.store _ (.tmp 81) _,_,_,_,_⟩::_) _ _; refine wpList_store_at rfl 31 (.tmp 81) (.tmp 80) rfl cb (p * 15) (Ins.l ⟨1,0,dst,0,0,xn,⟨#[]⟩,0,0,0,0,0,0,0,-1⟩) rfl rfl 31 cs hcb sI hfit.out (ins_one_l ⟨1,0,dst,0,0,xn,⟨#[]⟩,0,0,0,0,0,0,0,-1⟩) ?_; rw [show (cs.toList.take (p * 15)++Ins.l ⟨1,0,dst,0,0,xn,⟨#[]⟩,0,0,0,0,0,0,0,-1⟩++cs.toList.drop (p * 15 + (Ins.l ⟨1,0,dst,0,0,xn,⟨#[]⟩,0,0,0,0,0,0,0,-1⟩).length)).toArray=(cs.toList.take (p * 15)++Ins.l ⟨1,0,dst,0,0,xn,⟨#[]⟩,0,0,0,0,0,0,0,-1⟩++cs.toList.drop (p * 15 + 15)).toArray from rfl,HW8.out]))
  exact hK _ HB.out HP.out
end Go.Proofs.Ythbcdckonaljiaa
namespace Go.Proofs.Ythbcdckonaljiaa
open Go.RowKit Go.BigFrame
set_option maxRecDepth 1000000 in
set_option maxHeartbeats 8000000 in
theorem foldRound_branch1:FoldR (fun f M p=>(row M p).any (fun x=>x.k == 0)=false∧(insAt f.code p).kind=12∧∃ nn:Int,nextV (insAt f.code p) p (row M p)=[nn]):=by
  intro f M L Rn ob cb B0 p pb hpl hL hL8 hR4 wr y4 hd hpv hvl hC hok hh
  intros
  rename_i K Q hK
  obtain ⟨hnv,hkk,nn,hof⟩:=hh
  conv=>arg 2; whnf
  have hlt:p < L:=by omega
  obtain ⟨c0,c1,c2,c3,c4,c5,c6,c7,c8,c9,c10,c11,c12,c13,c14⟩:=PreI.cells hC (foldTo_at hpl)
  have hcl:=Pre.lt hC
  have hyl:=World.block_lt_of_cell? wr ⟨B0,4,none⟩ y4
  have hol:=World.block_lt_of_cell? wr ⟨ob,p,none⟩ hd
  have hfn:=foldN_le f M p
  have HT:=Lib.hid (foldTo_set (M:=M) hpl)
  have HSM:=Lib.hid (foldTo_same (M:=M) hpl)
  have HTL:=Lib.hid (foldTo_len (f:=f) (M:=M) (p:=p) (by omega))
  have HFN:Hid (foldN f M (p + 1)=foldN f M p + (if foldI (insAt f.code p) p (row M p)=insAt f.code p then 0 else 1)):=Lib.hid rfl
  have HC:=Lib.hid hC
  have HV:=Lib.hid hvl
  have HOK:=Lib.hid hok
  have HPV:=Lib.hid hpv
  have HL:=Lib.hid hL
  generalize insAt f.code p=i at *
  generalize row M p=v at *
  have hbi:=heap_alloc_new wr i.obj
  have hBi:=Below.one wr i.obj
  obtain ⟨k,op,dst,a,b,n,text,r0,r1,r2,r3,r4,r5,to_,els⟩:=i
  simp only at c0 c1 c2 c3 c4 c5 c6 c7 c8 c9 c10 c11 c12 c13 c14 hkk
  simp only [Ins.obj] at hbi hBi
  clear hvl hok hC hpl hL
  have hct:=ContainsV_any (pb p) Rn v Rn HV.out hR4 (wr.alloc (.cells #[.int .i64 k,.int .i64 op,.int .i64 dst,.int .i64 a,.int .i64 b,.int .i64 n,.string text,.int .i64 r0,.int .i64 r1,.int .i64 r2,.int .i64 r3,.int .i64 r4,.int .i64 r5,.int .i64 to_,.int .i64 els] 31)) (Pre.later HPV.out hBi)
  have hne:=fun (x:Ins) W=>neq_ins x ⟨k,op,dst,a,b,n,text,r0,r1,r2,r3,r4,r5,to_,els⟩ W
  have HFO:Hid (v.any (fun x=>x.k == 0)=true∨(¬ (k=4∨k=2∨k=3)∧k≠12)→foldI ⟨k,op,dst,a,b,n,text,r0,r1,r2,r3,r4,r5,to_,els⟩ p v=⟨k,op,dst,a,b,n,text,r0,r1,r2,r3,r4,r5,to_,els⟩):=Lib.hid fun h=>by
    unfold foldI
    rcases h with h | ⟨h,h'⟩
    · rw [if_pos h]
    · by_cases hc:v.any (fun x=>x.k == 0)=true
      · rw [if_pos hc]
      · rw [if_neg hc,if_neg h,if_neg h']
  have HSTAY:Hid (foldI ⟨k,op,dst,a,b,n,text,r0,r1,r2,r3,r4,r5,to_,els⟩ p v=⟨k,op,dst,a,b,n,text,r0,r1,r2,r3,r4,r5,to_,els⟩→foldTo f M (p + 1)=foldTo f M p∧foldN f M (p + 1)=foldN f M p):=Lib.hid fun h=>⟨HSM.out h,by rw [HFN.out,if_pos h]; rfl⟩
  have HFX:Hid (foldI ⟨k,op,dst,a,b,n,text,r0,r1,r2,r3,r4,r5,to_,els⟩ p v=⟨11,0,-1,0,0,0,⟨#[]⟩,0,0,0,0,0,0,nn,-1⟩):=Lib.hid (by unfold foldI; rw [if_neg (by rw [hnv]; decide),if_neg (by simp only; omega),if_pos hkk,hof])
  have hOI:¬ (⟨11,0,-1,0,0,0,⟨#[]⟩,0,0,0,0,0,0,nn,-1⟩:Ins)=⟨k,op,dst,a,b,n,text,r0,r1,r2,r3,r4,r5,to_,els⟩:=by intro h; injection h with h; omega
  have HNEW:Hid (foldTo f M (p + 1)=(foldTo f M p).set p ⟨11,0,-1,0,0,0,⟨#[]⟩,0,0,0,0,0,0,nn,-1⟩∧foldN f M (p + 1)=foldN f M p + 1):=Lib.hid ⟨by rw [← HT.out,HFX.out],by rw [HFN.out,HFX.out,if_neg hOI]⟩
  have HEX:Hid (¬ ∃ x ∈ v,x.k=0):=Lib.hid (by
    rintro ⟨x,hx,h0⟩
    have h:v.any (fun x=>x.k == 0)=true:=List.any_eq_true.2 ⟨x,hx,by simpa using h0⟩
    rw [hnv] at h
    cases h)
  have hneq:=hne ⟨11,0,-1,0,0,0,⟨#[]⟩,0,0,0,0,0,0,nn,-1⟩
  rw [show decide ((⟨11,0,-1,0,0,0,⟨#[]⟩,0,0,0,0,0,0,nn,-1⟩:Ins)=⟨k,op,dst,a,b,n,text,r0,r1,r2,r3,r4,r5,to_,els⟩)=false by simpa using hOI] at hneq
  simp only [Ins.agg,Bool.not_false] at hneq
  rw [HNEW.out.1,HNEW.out.2] at hK
  have HN:=Lib.hid hof
  have q4:(k == 4)=false:=by simp; omega
  have q2:(k == 2)=false:=by simp; omega
  have q3:(k == 3)=false:=by simp; omega
  have q12:(k == 12)=true:=by simp; omega
  clear hne hkk hnv hof hOI HFO HSTAY HT HSM HFN
  have hpla:=fun W=>Plain_any 11 W
  simp only [Ins.agg] at hpla
  go_upto_region 24 with (first
    | (go_at_call 34; refine hct.mono ?_; rintro e w1 ⟨⟨bv,rfl,hbv⟩,hb1⟩; obtain rfl:bv=false:=(by cases bv with | false=>rfl | true=>exact absurd (hbv.1 rfl) HEX.out); clear hbv; have hib:=(hb1.block _ (by simp)).trans hbi; have hil:=(Array.getElem?_eq_some_iff.1 hib).1; have hBw:Below wr.heap.size wr w1:=hBi.trans (hb1.mono hBi.size); have ⟨d0,d1,d2,d3,d4,d5,d6,d7,d8,d9,d10,d11,d12,d13,d14⟩:=Ins.cells (i:=⟨k,op,dst,a,b,n,text,r0,r1,r2,r3,r4,r5,to_,els⟩) hib; simp only at d0 d1 d2 d3 d4 d5 d6 d7 d8 d9 d10 d11 d12 d13 d14; clear c0 c1 c2 c3 c4 c5 c6 c7 c8 c9 c10 c11 c12 c13 c14; have hnx:=next_any ⟨k,op,dst,a,b,n,text,r0,r1,r2,r3,r4,r5,to_,els⟩ v HOK.out HV.out (some ⟨pb p,0,none⟩) Rn p (by omega) (w1.alloc (Ins.obj ⟨k,op,dst,a,b,n,text,r0,r1,r2,r3,r4,r5,to_,els⟩)) (PreV.read (Pre.later HPV.out (hBw.alloc hBw.size (Ins.obj ⟨k,op,dst,a,b,n,text,r0,r1,r2,r3,r4,r5,to_,els⟩)))); unfold SlF at hnx; rw [HN.out,show ([nn]:List Int).length=1 from rfl] at hnx; simp only [Ins.agg] at hnx; have hbo:=heap_alloc_new w1 (Ins.obj ⟨k,op,dst,a,b,n,text,r0,r1,r2,r3,r4,r5,to_,els⟩); have hib2:=alloc_keeps hib (Ins.obj ⟨k,op,dst,a,b,n,text,r0,r1,r2,r3,r4,r5,to_,els⟩); have hBo:=Below.one w1 (Ins.obj ⟨k,op,dst,a,b,n,text,r0,r1,r2,r3,r4,r5,to_,els⟩))
    | (go_at_call 32; refine hnx.mono ?_; rintro e w3 ⟨⟨A3,c3,rfl,hRN,hbase⟩,hb3⟩; obtain ⟨b3,o3,rfl,hlt3,hc3⟩:=hRN 0 nn rfl; have hb3s:w1.heap.size < b3:=(by have h:=hbase b3 o3 rfl; simp at h; omega); have hBx:Below wr.heap.size wr w3:=hBw.trans ((hBo.trans (hb3.mono hBo.size)).mono hBw.size); have hob3:=(hb3.block _ (Array.getElem?_eq_some_iff.1 hbo).1).trans hbo; have hib3:=(hb3.block _ (Array.getElem?_eq_some_iff.1 hib2).1).trans hib2; clear d0 d1 d2 d3 d4 d5 d6 d7 d8 d9 d10 d11 d12 d13 d14 hbase hRN; rw [Nat.add_zero] at hc3)
    | (go_at_call 7; refine (hpla _).mono ?_; rintro e w5 ⟨rfl,hb5⟩; have hob5:=(hb5.block _ (Array.getElem?_eq_some_iff.1 hob3).1).trans hob3; have hib5:=(hb5.block _ (Array.getElem?_eq_some_iff.1 hib3).1).trans hib3; have hc5:=(hb5.cell (p:=⟨b3,o3,none⟩) hlt3).trans hc3; have hBx5:=hBx.trans (hb5.mono hBx.size))
    | (show wpList Try.prog _ _ (⟨none,.store _ (.tmp 9) (.tmp 69),_,_,_,_⟩::_) _ _; refine wpList_store_row rfl 31 (.tmp 9) (.tmp 69) rfl w1.heap.size (Ins.l ⟨11,0,-1,0,0,0,⟨#[]⟩,0,0,0,0,0,0,0,-1⟩).toArray rfl rfl 31 _ hob5 sI rfl (ins_one ⟨11,0,-1,0,0,0,⟨#[]⟩,0,0,0,0,0,0,0,-1⟩) ?_))
  have hR6:=setRow_heap w5 w1.heap.size _ (Ins.l ⟨11,0,-1,0,0,0,⟨#[]⟩,0,0,0,0,0,0,0,-1⟩).toArray _ _ hob5
  have hib6:=(setRow_other w5 w1.heap.size wr.heap.size (Ins.l ⟨11,0,-1,0,0,0,⟨#[]⟩,0,0,0,0,0,0,0,-1⟩).toArray (Nat.ne_of_lt hil)).trans hib5
  have hc6:=(World.cell?_of_block (w:=w5) (a:=⟨b3,o3,none⟩) (setRow_other w5 w1.heap.size b3 (Ins.l ⟨11,0,-1,0,0,0,⟨#[]⟩,0,0,0,0,0,0,0,-1⟩).toArray (by omega))).trans hc5
  have hBx6:=below_setRow hBx5 (Nat.le_of_lt hil) (Ins.l ⟨11,0,-1,0,0,0,⟨#[]⟩,0,0,0,0,0,0,0,-1⟩).toArray
  generalize w5.setRow w1.heap.size (Ins.l ⟨11,0,-1,0,0,0,⟨#[]⟩,0,0,0,0,0,0,0,-1⟩).toArray=w6 at *
  have o13:=cell_of_heap hR6 13 (.int .i64 0) rfl
  have f13:=free_of_heap hR6 13
  have hR7:(w6.setCell ⟨w1.heap.size,13,none⟩ (.int .i64 nn)).heap[w1.heap.size]? = some (.cells (Ins.l ⟨11,0,-1,0,0,0,⟨#[]⟩,0,0,0,0,0,0,nn,-1⟩).toArray 31 (0,0)):=heap_setCell hR6 (j:=13) (.int .i64 nn)
  have hib7:=(heap_setCell_other w6 ⟨w1.heap.size,13,none⟩ wr.heap.size (.int .i64 nn) (Nat.ne_of_lt hil)).trans hib6
  have hBx7:=hBx6.setCell (p:=⟨w1.heap.size,13,none⟩) (Nat.le_of_lt hil) (.int .i64 nn)
  simp only [Act.put]
  go_upto_region 25 with fail
  clear o13 f13 hR6 hib6 hBx6 hc6 hc3 hc5
  generalize w6.setCell ⟨w1.heap.size,13,none⟩ (.int .i64 nn)=w7 at *
  have ⟨d0,d1,d2,d3,d4,d5,d6,d7,d8,d9,d10,d11,d12,d13,d14⟩:=Ins.cells (i:=⟨k,op,dst,a,b,n,text,r0,r1,r2,r3,r4,r5,to_,els⟩) hib7
  have ⟨o0,o1,o2,o3',o4,o5,o6,o7,o8,o9,o10,o11,o12,o13,o14⟩:=Ins.cells (i:=⟨11,0,-1,0,0,0,⟨#[]⟩,0,0,0,0,0,0,nn,-1⟩) hR7
  simp only at d0 d1 d2 d3 d4 d5 d6 d7 d8 d9 d10 d11 d12 d13 d14 o0 o1 o2 o3' o4 o5 o6 o7 o8 o9 o10 o11 o12 o13 o14
  have z4:=(hBx7.cell (p:=⟨B0,4,none⟩) hyl).trans y4
  obtain ⟨cs,hcb,hcs⟩:=Pre.later HC.out hBx7
  have hfit:=PreI.setRow hcb hcs (p:=p) (by rw [HTL.out,HL.out]; exact hlt) ⟨11,0,-1,0,0,0,⟨#[]⟩,0,0,0,0,0,0,nn,-1⟩
  have hB8:=below_setRow (hBx7.mono (Nat.le_of_lt hcl)) (Nat.le_refl cb) (cs.toList.take (p * 15)++Ins.l ⟨11,0,-1,0,0,0,⟨#[]⟩,0,0,0,0,0,0,nn,-1⟩++cs.toList.drop (p * 15 + 15)).toArray
  obtain ⟨w8,hw8⟩:∃ w8,w7.setRow cb (cs.toList.take (p * 15)++Ins.l ⟨11,0,-1,0,0,0,⟨#[]⟩,0,0,0,0,0,0,nn,-1⟩++cs.toList.drop (p * 15 + 15)).toArray=w8:=⟨_,rfl⟩
  rw [hw8] at hfit hB8
  have HW8:=Lib.hid hw8
  clear hw8
  have HP:=Lib.hid hfit.2
  have hfit:=Lib.hid hfit.1
  have HB:=Lib.hid hB8
  clear hcs hR7 hib7 hB8
  rw [Int.natCast_add (foldN f M p) 1,Int.natCast_one] at hK
  go_wp2_with (first
    | (show wpList Try.prog _ _ (⟨none,.store _ (.tmp 81) _,_,_,_,_⟩::_) _ _; refine wpList_store_at rfl 31 (.tmp 81) (.tmp 80) rfl cb (p * 15) (Ins.l ⟨11,0,-1,0,0,0,⟨#[]⟩,0,0,0,0,0,0,nn,-1⟩) rfl rfl 31 cs hcb sI hfit.out (ins_one_l ⟨11,0,-1,0,0,0,⟨#[]⟩,0,0,0,0,0,0,nn,-1⟩) ?_; rw [show (cs.toList.take (p * 15)++Ins.l ⟨11,0,-1,0,0,0,⟨#[]⟩,0,0,0,0,0,0,nn,-1⟩++cs.toList.drop (p * 15 + (Ins.l ⟨11,0,-1,0,0,0,⟨#[]⟩,0,0,0,0,0,0,nn,-1⟩).length)).toArray=(cs.toList.take (p * 15)++Ins.l ⟨11,0,-1,0,0,0,⟨#[]⟩,0,0,0,0,0,0,nn,-1⟩++cs.toList.drop (p * 15 + 15)).toArray from rfl,HW8.out]))
  exact hK _ HB.out HP.out
end Go.Proofs.Ythbcdckonaljiaa
namespace Go.Proofs.Ythbcdckonaljiaa
open Go.RowKit Go.BigFrame
set_option maxRecDepth 1000000 in
set_option maxHeartbeats 8000000 in
theorem foldRound_branch2:FoldR (fun f M p=>(row M p).any (fun x=>x.k == 0)=false∧(insAt f.code p).kind=12∧∃ n1 n2:Int,nextV (insAt f.code p) p (row M p)=[n1,n2]):=by
  intro f M L Rn ob cb B0 p pb hpl hL hL8 hR4 wr y4 hd hpv hvl hC hok hh
  intros
  rename_i K Q hK
  obtain ⟨hnv,hkk,n1,n2,hof⟩:=hh
  conv=>arg 2; whnf
  have hlt:p < L:=by omega
  obtain ⟨c0,c1,c2,c3,c4,c5,c6,c7,c8,c9,c10,c11,c12,c13,c14⟩:=PreI.cells hC (foldTo_at hpl)
  have hcl:=Pre.lt hC
  have hyl:=World.block_lt_of_cell? wr ⟨B0,4,none⟩ y4
  have hol:=World.block_lt_of_cell? wr ⟨ob,p,none⟩ hd
  have hfn:=foldN_le f M p
  have HT:=Lib.hid (foldTo_set (M:=M) hpl)
  have HSM:=Lib.hid (foldTo_same (M:=M) hpl)
  have HTL:=Lib.hid (foldTo_len (f:=f) (M:=M) (p:=p) (by omega))
  have HFN:Hid (foldN f M (p + 1)=foldN f M p + (if foldI (insAt f.code p) p (row M p)=insAt f.code p then 0 else 1)):=Lib.hid rfl
  have HC:=Lib.hid hC
  have HV:=Lib.hid hvl
  have HOK:=Lib.hid hok
  have HPV:=Lib.hid hpv
  have HL:=Lib.hid hL
  generalize insAt f.code p=i at *
  generalize row M p=v at *
  have hbi:=heap_alloc_new wr i.obj
  have hBi:=Below.one wr i.obj
  obtain ⟨k,op,dst,a,b,n,text,r0,r1,r2,r3,r4,r5,to_,els⟩:=i
  simp only at c0 c1 c2 c3 c4 c5 c6 c7 c8 c9 c10 c11 c12 c13 c14 hkk
  simp only [Ins.obj] at hbi hBi
  clear hvl hok hC hpl hL
  have hct:=ContainsV_any (pb p) Rn v Rn HV.out hR4 (wr.alloc (.cells #[.int .i64 k,.int .i64 op,.int .i64 dst,.int .i64 a,.int .i64 b,.int .i64 n,.string text,.int .i64 r0,.int .i64 r1,.int .i64 r2,.int .i64 r3,.int .i64 r4,.int .i64 r5,.int .i64 to_,.int .i64 els] 31)) (Pre.later HPV.out hBi)
  have hne:=fun (x:Ins) W=>neq_ins x ⟨k,op,dst,a,b,n,text,r0,r1,r2,r3,r4,r5,to_,els⟩ W
  have HFO:Hid (v.any (fun x=>x.k == 0)=true∨(¬ (k=4∨k=2∨k=3)∧k≠12)→foldI ⟨k,op,dst,a,b,n,text,r0,r1,r2,r3,r4,r5,to_,els⟩ p v=⟨k,op,dst,a,b,n,text,r0,r1,r2,r3,r4,r5,to_,els⟩):=Lib.hid fun h=>by
    unfold foldI
    rcases h with h | ⟨h,h'⟩
    · rw [if_pos h]
    · by_cases hc:v.any (fun x=>x.k == 0)=true
      · rw [if_pos hc]
      · rw [if_neg hc,if_neg h,if_neg h']
  have HSTAY:Hid (foldI ⟨k,op,dst,a,b,n,text,r0,r1,r2,r3,r4,r5,to_,els⟩ p v=⟨k,op,dst,a,b,n,text,r0,r1,r2,r3,r4,r5,to_,els⟩→foldTo f M (p + 1)=foldTo f M p∧foldN f M (p + 1)=foldN f M p):=Lib.hid fun h=>⟨HSM.out h,by rw [HFN.out,if_pos h]; rfl⟩
  have HFX:Hid (foldI ⟨k,op,dst,a,b,n,text,r0,r1,r2,r3,r4,r5,to_,els⟩ p v=⟨k,op,dst,a,b,n,text,r0,r1,r2,r3,r4,r5,to_,els⟩):=Lib.hid (by unfold foldI; rw [if_neg (by rw [hnv]; decide),if_neg (by simp only; omega),if_pos hkk,hof])
  have HEX:Hid (¬ ∃ x ∈ v,x.k=0):=Lib.hid (by
    rintro ⟨x,hx,h0⟩
    have h:v.any (fun x=>x.k == 0)=true:=List.any_eq_true.2 ⟨x,hx,by simpa using h0⟩
    rw [hnv] at h
    cases h)
  have HS:=Lib.hid (HSTAY.out HFX.out)
  have hneq:=hne ⟨k,op,dst,a,b,n,text,r0,r1,r2,r3,r4,r5,to_,els⟩
  simp only [Ins.agg,decide_true,Bool.not_true] at hneq
  rw [HS.out.1,HS.out.2] at hK
  have HN:=Lib.hid hof
  have q4:(k == 4)=false:=by simp; omega
  have q2:(k == 2)=false:=by simp; omega
  have q3:(k == 3)=false:=by simp; omega
  have q12:(k == 12)=true:=by simp; omega
  clear hne hkk hnv hof HFO HSTAY HT HSM HFN
  go_wp2_with (first
    | (go_at_call 34; refine hct.mono ?_; rintro e w1 ⟨⟨bv,rfl,hbv⟩,hb1⟩; obtain rfl:bv=false:=(by cases bv with | false=>rfl | true=>exact absurd (hbv.1 rfl) HEX.out); clear hbv; have hib:=(hb1.block _ (by simp)).trans hbi; have hil:=(Array.getElem?_eq_some_iff.1 hib).1; have hBw:Below wr.heap.size wr w1:=hBi.trans (hb1.mono hBi.size); have ⟨d0,d1,d2,d3,d4,d5,d6,d7,d8,d9,d10,d11,d12,d13,d14⟩:=Ins.cells (i:=⟨k,op,dst,a,b,n,text,r0,r1,r2,r3,r4,r5,to_,els⟩) hib; simp only at d0 d1 d2 d3 d4 d5 d6 d7 d8 d9 d10 d11 d12 d13 d14; clear c0 c1 c2 c3 c4 c5 c6 c7 c8 c9 c10 c11 c12 c13 c14; have hnx:=next_any ⟨k,op,dst,a,b,n,text,r0,r1,r2,r3,r4,r5,to_,els⟩ v HOK.out HV.out (some ⟨pb p,0,none⟩) Rn p (by omega) (w1.alloc (Ins.obj ⟨k,op,dst,a,b,n,text,r0,r1,r2,r3,r4,r5,to_,els⟩)) (PreV.read (Pre.later HPV.out (hBw.alloc hBw.size (Ins.obj ⟨k,op,dst,a,b,n,text,r0,r1,r2,r3,r4,r5,to_,els⟩)))); unfold SlF at hnx; rw [HN.out,show ([n1,n2]:List Int).length=2 from rfl] at hnx; simp only [Ins.agg] at hnx; have hbo:=heap_alloc_new w1 (Ins.obj ⟨k,op,dst,a,b,n,text,r0,r1,r2,r3,r4,r5,to_,els⟩); have hib2:=alloc_keeps hib (Ins.obj ⟨k,op,dst,a,b,n,text,r0,r1,r2,r3,r4,r5,to_,els⟩); have hBo:=Below.one w1 (Ins.obj ⟨k,op,dst,a,b,n,text,r0,r1,r2,r3,r4,r5,to_,els⟩))
    | (go_at_call 32; refine hnx.mono ?_; rintro e w3 ⟨⟨A3,c3,rfl,_,_⟩,hb3⟩; have hBx:Below wr.heap.size wr w3:=hBw.trans ((hBo.trans (hb3.mono hBo.size)).mono hBw.size); have hlx1:=Nat.lt_of_lt_of_le (Array.getElem?_eq_some_iff.1 hbo).1 hb3.size; have hlx2:=Nat.lt_of_lt_of_le (Array.getElem?_eq_some_iff.1 hib2).1 hb3.size; have ⟨g0,g1,g2,g3,g4,g5,g6,g7,g8,g9,g10,g11,g12,g13,g14⟩:=Ins.cells (i:=⟨k,op,dst,a,b,n,text,r0,r1,r2,r3,r4,r5,to_,els⟩) ((hb3.block _ (Array.getElem?_eq_some_iff.1 hbo).1).trans hbo); have ⟨e0,e1,e2,e3,e4,e5,e6,e7,e8,e9,e10,e11,e12,e13,e14⟩:=Ins.cells (i:=⟨k,op,dst,a,b,n,text,r0,r1,r2,r3,r4,r5,to_,els⟩) ((hb3.block _ (Array.getElem?_eq_some_iff.1 hib2).1).trans hib2); simp only at g0 g1 g2 g3 g4 g5 g6 g7 g8 g9 g10 g11 g12 g13 g14 e0 e1 e2 e3 e4 e5 e6 e7 e8 e9 e10 e11 e12 e13 e14; clear d0 d1 d2 d3 d4 d5 d6 d7 d8 d9 d10 d11 d12 d13 d14))
  exact hK _ (hBx.mono (Nat.le_of_lt hcl)) (Pre.later HC.out hBx)
end Go.Proofs.Ythbcdckonaljiaa
namespace Go.Proofs.Ythbcdckonaljiaa
open Go.RowKit Go.BigFrame
theorem foldRound_any:FoldR (fun _ _ _=>True):=by
  intro f M L Rn ob cb B0 p pb hpl hL hL8 hR4 wr y4 hd hpv hvl hC hok hh
  intros
  rename_i K Q hK
  clear hh
  by_cases hnv:(row M p).any (fun x=>x.k == 0)=true
  · exact foldRound_never f M L Rn ob cb B0 p pb hpl hL hL8 hR4 wr y4 hd hpv hvl hC hok hnv K Q hK
  have hnv:(row M p).any (fun x=>x.k == 0)=false:=by simpa using hnv
  by_cases h4:(insAt f.code p).kind=4
  · cases ho:(setV (insAt f.code p) (row M p)).2
    · exact foldRound_off_a4 f M L Rn ob cb B0 p pb hpl hL hL8 hR4 wr y4 hd hpv hvl hC hok ⟨hnv,h4,ho⟩ K Q hK
    · by_cases h1:(setV (insAt f.code p) (row M p)).1.k=1
      · exact foldRound_known4 f M L Rn ob cb B0 p pb hpl hL hL8 hR4 wr y4 hd hpv hvl hC hok ⟨hnv,h4,⟨ho,h1⟩⟩ K Q hK
      · exact foldRound_off_b4 f M L Rn ob cb B0 p pb hpl hL hL8 hR4 wr y4 hd hpv hvl hC hok ⟨hnv,h4,⟨ho,h1⟩⟩ K Q hK
  by_cases h2:(insAt f.code p).kind=2
  · cases ho:(setV (insAt f.code p) (row M p)).2
    · exact foldRound_off_a2 f M L Rn ob cb B0 p pb hpl hL hL8 hR4 wr y4 hd hpv hvl hC hok ⟨hnv,h2,ho⟩ K Q hK
    · by_cases h1:(setV (insAt f.code p) (row M p)).1.k=1
      · exact foldRound_known2 f M L Rn ob cb B0 p pb hpl hL hL8 hR4 wr y4 hd hpv hvl hC hok ⟨hnv,h2,⟨ho,h1⟩⟩ K Q hK
      · exact foldRound_off_b2 f M L Rn ob cb B0 p pb hpl hL hL8 hR4 wr y4 hd hpv hvl hC hok ⟨hnv,h2,⟨ho,h1⟩⟩ K Q hK
  by_cases h3:(insAt f.code p).kind=3
  · cases ho:(setV (insAt f.code p) (row M p)).2
    · exact foldRound_off_a3 f M L Rn ob cb B0 p pb hpl hL hL8 hR4 wr y4 hd hpv hvl hC hok ⟨hnv,h3,ho⟩ K Q hK
    · by_cases h1:(setV (insAt f.code p) (row M p)).1.k=1
      · exact foldRound_known3 f M L Rn ob cb B0 p pb hpl hL hL8 hR4 wr y4 hd hpv hvl hC hok ⟨hnv,h3,⟨ho,h1⟩⟩ K Q hK
      · exact foldRound_off_b3 f M L Rn ob cb B0 p pb hpl hL hL8 hR4 wr y4 hd hpv hvl hC hok ⟨hnv,h3,⟨ho,h1⟩⟩ K Q hK
  by_cases h12:(insAt f.code p).kind=12
  · have hn:(∃ n,nextV (insAt f.code p) p (row M p)=[n])∨∃ n m,nextV (insAt f.code p) p (row M p)=[n,m]:=by
      unfold nextV
      rw [if_pos h12]
      split
      · split
        · exact Or.inl ⟨_,rfl⟩
        · exact Or.inl ⟨_,rfl⟩
      · exact Or.inr ⟨_,_,rfl⟩
    rcases hn with ⟨n,hn⟩ | ⟨n,m,hn⟩
    · exact foldRound_branch1 f M L Rn ob cb B0 p pb hpl hL hL8 hR4 wr y4 hd hpv hvl hC hok ⟨hnv,h12,n,hn⟩ K Q hK
    · exact foldRound_branch2 f M L Rn ob cb B0 p pb hpl hL hL8 hR4 wr y4 hd hpv hvl hC hok ⟨hnv,h12,n,m,hn⟩ K Q hK
  · exact foldRound_stay f M L Rn ob cb B0 p pb hpl hL hL8 hR4 wr y4 hd hpv hvl hC hok ⟨by rintro (h | h | h); exact h4 h; exact h2 h; exact h3 h,h12⟩ K Q hK
set_option maxRecDepth 1000000 in
set_option maxHeartbeats 8000000 in
theorem foldLoop_any (f:Fn7)(hf:OkF f)(M:List (List Vl))(hM:Shp f M)(L Rn ob cb B0:Nat)(pb:Nat→Nat)(hL:f.code.length=L)(hRt:f.R.toNat=Rn)(hR4:Rn≤4096)(hRn:f.R=Rn)(W0:World)(hbf:W0.heap[B0]? = some (funcObj f.nm f.ps f.R f.Fr (some ⟨cb,0,none⟩) L L))(hBc:B0 < cb)(hob:ob < cb)
    (hrows:∀ q v,M[q]? = some v→W0.cell? ⟨ob,q,none⟩=some (.slice (some ⟨pb q,0,none⟩) Rn Rn)∧PreV W0 (pb q) v∧pb q < cb) (hcode:PreI W0 cb f.code)
    {x0 x2 x3 x4 x6 x7 x8 x9 x10 x11 x12 x13 x14 x15 x16 x17 x18 x19 x23 x24 x25 x26 x27 x28 x29 x30 x31 x32 x33 x34 x35 x36 x37 x38 x39 x40 x41 x42 x43 x44 x45 x46 x47 x48 x49 x50 x51 x52 x53 x54 x55 x56 x57 x58 x59 x60 x61 x62 x63 x64 x65 x66 x67 x68 x69 x70 x71 x72 x73 x74 x75 x76 x77 x78 x79 x80 x81 x82 x83 x84 x85 x86:Value} (Q:Exit→Act→World→Prop)
    (hexit:∀ (y6 y7 y8 y9 y10 y11 y12 y23 y24 y25 y26 y27 y28 y29 y30 y31 y32 y33 y34 y35 y36 y37 y38 y39 y40 y41 y42 y43 y44 y45 y46 y47 y48 y49 y50 y51 y52 y53 y54 y55 y56 y57 y58 y59 y60 y61 y62 y63 y64 y65 y66 y67 y68 y69 y70 y71 y72 y73 y74 y75 y76 y77 y78 y79 y80 y81 y82 y83 y84:Value) (w':World),Below cb W0 w'→PreI w' cb (foldL f M)→Q (.exit 0) ⟨(x0::.pointer (some ⟨B0,0,none⟩)::x2::x3::x4::.int .i64 (foldN f M L:Int)::y6::y7::y8::y9::y10::y11::y12::x13::x14::x15::x16::x17::x18::x19::.slice (some ⟨ob,0,none⟩) L L::.int .i64 (L:Int)::.int .i64 (L:Int)::y23::y24::y25::y26::y27::y28::y29::y30::y31::y32::y33::y34::y35::y36::y37::y38::y39::y40::y41::y42::y43::y44::y45::y46::y47::y48::y49::y50::y51::y52::y53::y54::y55::y56::y57::y58::y59::y60::y61::y62::y63::y64::y65::y66::y67::y68::y69::y70::y71::y72::y73::y74::y75::y76::y77::y78::y79::y80::y81::y82::y83::y84::x85::x86::[]).toArray,[]⟩ w') :
    Code.wp Try.prog foldLoop Q ⟨(x0::.pointer (some ⟨B0,0,none⟩)::x2::x3::x4::.int .i64 0::x6::x7::x8::x9::x10::x11::x12::x13::x14::x15::x16::x17::x18::x19::.slice (some ⟨ob,0,none⟩) L L::.int .i64 (L:Int)::.int .i64 0::x23::x24::x25::x26::x27::x28::x29::x30::x31::x32::x33::x34::x35::x36::x37::x38::x39::x40::x41::x42::x43::x44::x45::x46::x47::x48::x49::x50::x51::x52::x53::x54::x55::x56::x57::x58::x59::x60::x61::x62::x63::x64::x65::x66::x67::x68::x69::x70::x71::x72::x73::x74::x75::x76::x77::x78::x79::x80::x81::x82::x83::x84::x85::x86::[]).toArray,[]⟩ W0:=by
  conv=>arg 2; whnf
  have HL:=Lib.hid hL
  have HRT:=Lib.hid hRt
  have HRN:=Lib.hid hRn
  have HF:=Lib.hid hf
  have HR:=Lib.hid hrows
  have hL8:L≤8192:=by have:=hf.len; omega
  clear hL hRt hRn hf hrows
  go_loopg [5,22] L (fun g c ix wr=>∃ p:Nat,g=L - p∧p≤L∧ix = .int .i64 p∧c = .int .i64 (foldN f M p:Int)∧Below cb W0 wr∧PreI wr cb (foldTo f M p))
  case atStart=>exact ⟨0,rfl,by omega,rfl,rfl,Below.refl _ _,by rw [foldTo_zero]; exact hcode⟩
  case round =>
    obtain ⟨p,hg,hp,rfl,rfl,hB,hC⟩:=hrel
    have HG:=Lib.hid hg
    clear hg
    by_cases hlt:p < L
    · have hpl:p < f.code.length:=by rw [HL.out]; exact hlt
      have hi:=insAt_in hpl
      have hv:M[p]? = some (row M p):=row_in (by rw [hM.len]; exact hpl)
      obtain ⟨h1,h2,h3⟩:=HR.out p _ hv
      have hvl:(row M p).length=Rn:=by have:=(hM.at_ hpl).1; rw [HRT.out] at this; exact this
      have hok:Ok (insAt f.code p) (Rn:Int) f.Fr L:=by have h:=HF.out.ok _ (List.mem_of_getElem? hi); rw [HL.out,HRN.out] at h; exact h
      have hd:=(hB.cell (p:=⟨ob,p,none⟩) hob).trans h1
      have hpv:=Pre.of_heap h2 (hB.block _ h3)
      have hbf1:=(hB.block _ hBc).trans hbf
      have y4:=cell_of_heap hbf1 4 (.slice (some ⟨cb,0,none⟩) L L) rfl
      have hyl:=(Array.getElem?_eq_some_iff.1 hbf1).1
      clear hbf1
      rename_i hKK
      refine foldRound_any f M L Rn ob cb B0 p pb hpl HL.out hL8 hR4 wr y4 hd hpv hvl hC hok trivial _ _ ?_
      intro y6 y7 y8 y9 y10 y11 y12 y23 y24 y25 y26 y27 y28 y29 y30 y31 y32 y33 y34 y35 y36 y37 y38 y39 y40 y41 y42 y43 y44 y45 y46 y47 y48 y49 y50 y51 y52 y53 y54 y55 y56 y57 y58 y59 y60 y61 y62 y63 y64 y65 y66 y67 y68 y69 y70 y71 y72 y73 y74 y75 y76 y77 y78 y79 y80 y81 y82 y83 y84 w' hB' hC'
      have HB:=Lib.hid (hB.trans hB')
      have HC:=Lib.hid hC'
      clear hB' hC' hi hv h1 h2 h3 hvl hok hC hB hpl hpv hd y4
      refine hKK _ _ ?_
      go_roundg (L - (p + 1))
      case measure=>have:=HG.out; omega
      case rel=>exact ⟨p + 1,rfl,by omega,by go_num,rfl,HB.out,HC.out⟩
    · obtain rfl:L=p:=by omega
      have HE:=fun y6 y7 y8 y9 y10 y11 y12 y23 y24 y25 y26 y27 y28 y29 y30 y31 y32 y33 y34 y35 y36 y37 y38 y39 y40 y41 y42 y43 y44 y45 y46 y47 y48 y49 y50 y51 y52 y53 y54 y55 y56 y57 y58 y59 y60 y61 y62 y63 y64 y65 y66 y67 y68 y69 y70 y71 y72 y73 y74 y75 y76 y77 y78 y79 y80 y81 y82 y83 y84=>Lib.hid (hexit y6 y7 y8 y9 y10 y11 y12 y23 y24 y25 y26 y27 y28 y29 y30 y31 y32 y33 y34 y35 y36 y37 y38 y39 y40 y41 y42 y43 y44 y45 y46 y47 y48 y49 y50 y51 y52 y53 y54 y55 y56 y57 y58 y59 y60 y61 y62 y63 y64 y65 y66 y67 y68 y69 y70 y71 y72 y73 y74 y75 y76 y77 y78 y79 y80 y81 y82 y83 y84 wr hB (by have h:=hC; rw [← HL.out,foldTo_all] at h; exact h))
      clear hexit hC hB hlt hp
      go_wp2
      exact (HE _ _ _ _ _ _ _ _ _ _ _ _ _ _ _ _ _ _ _ _ _ _ _ _ _ _ _ _ _ _ _ _ _ _ _ _ _ _ _ _ _ _ _ _ _ _ _ _ _ _ _ _ _ _ _ _ _ _ _ _ _ _ _ _ _ _ _ _ _).out
end Go.Proofs.Ythbcdckonaljiaa
namespace Go.Proofs.Ythbcdckonaljiaa
open Go.RowKit Go.BigFrame
def FoldT (base:Nat)(f:Fn7)(e:Ending)(w:World):Prop:=∃ nb M,Ans f M∧e = .returned (.tuple #[funcAgg f.nm f.ps f.R f.Fr (some ⟨nb,0,none⟩) f.code.length f.code.length,.int .i64 (foldN f M f.code.length:Int)])∧base≤nb∧PreI w nb (foldL f M)
theorem two_boxes (w:World)(a b:Obj):((w.alloc a).alloc b).heap[w.heap.size]? = some a∧((w.alloc a).alloc b).heap[w.heap.size + 1]? = some b∧Below w.heap.size w ((w.alloc a).alloc b):=by
  have h1:=heap_alloc_new (w.alloc a) b
  rw [show (w.alloc a).heap.size=w.heap.size + 1 by simp] at h1
  exact ⟨alloc_keeps (heap_alloc_new w a) b,h1,(Below.one w a).alloc (by simp) b⟩
theorem eql_rows_nil (ob n c:Nat)(W:World):(binOp .eql 36 (.slice (some ⟨ob,0,none⟩) n c) (.slice none 0 0)).run Try.prog W = .ok (.bool false) W:=by
  rw [show false=(some (⟨ob,0,none⟩:Addr)).isNone from rfl]
  exact Lib.run_eql_slice_nil W 36 42 _ n c 0 0 (by kernel_rfl)
set_option maxRecDepth 1000000 in
set_option maxHeartbeats 8000000 in
theorem fold_yes (f:Fn7)(hf:OkF f)(hsz:f.code.length * (f.R.toNat + 1)≤65536)(C:Option Addr)(cap:Nat)(w:World)(hC:RdI w C f.code) :
    Calls Try.prog 10 #[funcAgg f.nm f.ps f.R f.Fr C f.code.length cap] w fun e w'=>FoldT w.heap.size f e w'∧Below w.heap.size w w':=by
  obtain ⟨b0,b1,hB0⟩:=two_boxes w (funcObj f.nm f.ps f.R f.Fr C f.code.length cap) (.cells #[.string ⟨#[]⟩,.int .i64 0,.int .i64 0,.int .i64 0,.slice none 0 0] 26)
  have hs2:((w.alloc (funcObj f.nm f.ps f.R f.Fr C f.code.length cap)).alloc (.cells #[.string ⟨#[]⟩,.int .i64 0,.int .i64 0,.int .i64 0,.slice none 0 0] 26)).heap.size=w.heap.size + 2:=by simp
  have hC0:=hC.below hB0
  have ha:=ahead_yes f hf hsz C cap _ hC0 (fun W h=>RightFunc_any f C cap W h)
  have hL1:=hf.len
  have hR0:0≤f.R:=by have:=hf.ps; have:=hf.R; omega
  have hR4:f.R.toNat≤4096:=by have:=hf.R; omega
  have hcl:=fun W h=>clone_code f hL1 C cap W h
  obtain ⟨Rn,hRn⟩:∃ Rn:Nat,f.R=Rn:=⟨f.R.toNat,by omega⟩
  have hRt:f.R.toNat=Rn:=by omega
  obtain ⟨L,hL⟩:∃ L,f.code.length=L:=⟨_,rfl⟩
  unfold AheadT at ha
  unfold ClonedF at hcl
  unfold FoldT
  rw [hRt] at hR4 ha
  rw [hL] at hL1 ha hcl b0 b1 hB0 hs2 hC0 ⊢
  have HL:=Lib.hid hL
  have HF:=Lib.hid hf
  have HRN:=Lib.hid hRn
  have HRT:=Lib.hid hRt
  have HS2:=Lib.hid hs2
  simp only [funcObj,funcAgg] at b0 b1 hB0 ha hcl hC0 ⊢
  have HC0:=Lib.hid hC0
  have HCL:=Lib.hid hcl
  clear hL hf hRn hRt hs2 hC hC0 hcl hR0
  have hnil:=fun (ob:Nat) (W:World)=>eql_rows_nil ob L L W
  go_enter Try.func10,Try.ntmps10
  go_wp2_with (first
    | (go_at_call 9; refine ha.mono ?_; rintro e w1 ⟨⟨ob,M,rfl,hM,hRM,hob⟩,hb1⟩; have HM:=Lib.hid hM; have HRM:=Lib.hid hRM; clear hM hRM; have k0:=(hb1.block _ (Array.getElem?_eq_some_iff.1 b0).1).trans b0; have k1:=(hb1.block _ (Array.getElem?_eq_some_iff.1 b1).1).trans b1; have y0:=cell_of_heap k0 0 (.string f.nm) rfl; have y1:=cell_of_heap k0 1 (.int .i64 f.ps) rfl; have y2:=cell_of_heap k0 2 (.int .i64 f.R) rfl; have y3:=cell_of_heap k0 3 (.int .i64 f.Fr) rfl; have y4:=cell_of_heap k0 4 (.slice C L cap) rfl; have hlt1:=(Array.getElem?_eq_some_iff.1 k1).1; have hcl1:=HCL.out w1 (HC0.out.below hb1))
    | (go_at_call 21; refine hcl1.mono ?_; rintro e w2 ⟨⟨nb,rfl,hnb,hnc⟩,hb2⟩; have HNC:=Lib.hid hnc; clear hnc y0 y1 y2 y3 y4 hcl1; have k2:=(hb2.block _ (Array.getElem?_eq_some_iff.1 k0).1).trans k0; have k3:=(hb2.block _ (Array.getElem?_eq_some_iff.1 k1).1).trans k1; have hlt2:=(Array.getElem?_eq_some_iff.1 k3).1)
    | (show wpList Try.prog _ _ (⟨none,.store _ (.tmp 1) (.tmp 19),_,_,_,_⟩::_) _ _; refine wpList_store_row rfl 26 (.tmp 1) (.tmp 19) rfl w.heap.size #[.string f.nm,.int .i64 f.ps,.int .i64 f.R,.int .i64 f.Fr,.slice (some ⟨nb,0,none⟩) L L] rfl rfl 26 _ k2 sF rfl (func_one _ _ _ _ _ _ _) ?_))
  have hRw:=setRow_heap _ _ _ #[.string f.nm,.int .i64 f.ps,.int .i64 f.R,.int .i64 f.Fr,.slice (some ⟨nb,0,none⟩) L L] _ _ k2
  have hk3:=(setRow_other w2 w.heap.size (w.heap.size + 1) #[.string f.nm,.int .i64 f.ps,.int .i64 f.R,.int .i64 f.Fr,.slice (some ⟨nb,0,none⟩) L L] (by omega)).trans k3
  have hnb1:w.heap.size + 2≤w1.heap.size:=by have:=HS2.out; have:=hb1.size; omega
  have hb2o:∀ q,q < w1.heap.size→q≠w.heap.size→(w2.setRow w.heap.size #[.string f.nm,.int .i64 f.ps,.int .i64 f.R,.int .i64 f.Fr,.slice (some ⟨nb,0,none⟩) L L]).heap[q]? = w1.heap[q]?:=fun q h1 h2=>(setRow_other w2 w.heap.size q _ h2).trans (hb2.block q h1)
  have hpc:=Pre.of_heap HNC.out (setRow_other w2 w.heap.size nb #[.string f.nm,.int .i64 f.ps,.int .i64 f.R,.int .i64 f.Fr,.slice (some ⟨nb,0,none⟩) L L] (by omega))
  have hB3:=below_setRow ((hB0.trans (hb1.mono hB0.size)).trans (hb2.mono (Nat.le_trans hB0.size hb1.size))) (Nat.le_refl w.heap.size) #[.string f.nm,.int .i64 f.ps,.int .i64 f.R,.int .i64 f.Fr,.slice (some ⟨nb,0,none⟩) L L]
  have hob2:ob≠w.heap.size:=by
    rintro rfl
    obtain ⟨pb,hpb⟩:=HRM.out
    have h0:M[0]? = some (row M 0):=row_in (by rw [HM.out.holds.shp.len,HL.out]; omega)
    have h:=(hpb 0 _ h0).1
    rw [cell_of_heap k0 0 (.string f.nm) rfl] at h
    injection h with h
    cases h
  have K0:=Lib.hid k0
  clear k0 k1 k2 k3 hb2
  generalize w2.setRow w.heap.size #[.string f.nm,.int .i64 f.ps,.int .i64 f.R,.int .i64 f.Fr,.slice (some ⟨nb,0,none⟩) L L]=w3 at *
  obtain ⟨pb,hpb⟩:=HRM.out
  refine foldLoop_any f HF.out M HM.out.holds.shp L Rn ob nb w.heap.size pb HL.out HRT.out hR4 HRN.out w3 hRw (by omega) (by omega) ?_ hpc _ ?_
  · intro q v hv
    obtain ⟨h1,h2⟩:=hpb q v hv
    have hne:pb q≠w.heap.size:=by
      intro e
      obtain ⟨cs,h3,_⟩:=h2
      rw [e,K0.out] at h3
      injection h3 with h3
      injection h3 with _ h3 _
      exact absurd h3 (by decide)
    exact ⟨(World.cell?_of_block (w:=w1) (a:=⟨ob,q,none⟩) (hb2o ob hob hob2)).trans h1,Pre.of_heap h2 (hb2o _ (Pre.lt h2) hne),Nat.lt_of_lt_of_le (Pre.lt h2) hnb⟩
  intro y6 y7 y8 y9 y10 y11 y12 y23 y24 y25 y26 y27 y28 y29 y30 y31 y32 y33 y34 y35 y36 y37 y38 y39 y40 y41 y42 y43 y44 y45 y46 y47 y48 y49 y50 y51 y52 y53 y54 y55 y56 y57 y58 y59 y60 y61 y62 y63 y64 y65 y66 y67 y68 y69 y70 y71 y72 y73 y74 y75 y76 y77 y78 y79 y80 y81 y82 y83 y84 w4 hb4 hp4
  clear hb2o hpc hob2 K0 hpb HRM
  have k4:=(hb4.block _ (by omega)).trans hRw
  have k5:=(hb4.block _ (by omega)).trans hk3
  have y0:=cell_of_heap k4 0 (.string f.nm) rfl
  have y1:=cell_of_heap k4 1 (.int .i64 f.ps) rfl
  have y2:=cell_of_heap k4 2 (.int .i64 f.R) rfl
  have y3:=cell_of_heap k4 3 (.int .i64 f.Fr) rfl
  have y4:=cell_of_heap k4 4 (.slice (some ⟨nb,0,none⟩) L L) rfl
  have hR:=setRow_heap _ _ _ #[.string f.nm,.int .i64 f.ps,.int .i64 f.R,.int .i64 f.Fr,.slice (some ⟨nb,0,none⟩) L L] _ _ k5
  have r0:=cell_of_heap hR 0 (.string f.nm) rfl
  have r1:=cell_of_heap hR 1 (.int .i64 f.ps) rfl
  have r2:=cell_of_heap hR 2 (.int .i64 f.R) rfl
  have r3:=cell_of_heap hR 3 (.int .i64 f.Fr) rfl
  have r4:=cell_of_heap hR 4 (.slice (some ⟨nb,0,none⟩) L L) rfl
  have HP:=Lib.hid (Pre.of_heap hp4 (setRow_other w4 (w.heap.size + 1) nb #[.string f.nm,.int .i64 f.ps,.int .i64 f.R,.int .i64 f.Fr,.slice (some ⟨nb,0,none⟩) L L] (by omega)))
  have HB:=Lib.hid (below_setRow (hB3.trans (hb4.mono (by omega))) (Nat.le_succ w.heap.size) #[.string f.nm,.int .i64 f.ps,.int .i64 f.R,.int .i64 f.Fr,.slice (some ⟨nb,0,none⟩) L L])
  clear hR hp4 hb4 hB3 hRw hk3 k4 hnil
  go_wp2_with (first
    | (show wpList Try.prog _ _ (⟨none,.store _ (.tmp 2) (.tmp 85),_,_,_,_⟩::_) _ _; refine wpList_store_row rfl 26 (.tmp 2) (.tmp 85) rfl (w.heap.size + 1) #[.string f.nm,.int .i64 f.ps,.int .i64 f.R,.int .i64 f.Fr,.slice (some ⟨nb,0,none⟩) L L] rfl rfl 26 _ k5 sF rfl (func_one _ _ _ _ _ _ _) ?_))
  (try simp only [Exit.inBlock,Exit.then])
  refine bodyPost_ret (by simp [results,Try.results10,go_sem,r0,r1,r2,r3,r4]; try rfl) rfl ?_
  exact ⟨⟨nb,M,HM.out,rfl,by omega,HP.out⟩,HB.out⟩
end Go.Proofs.Ythbcdckonaljiaa

