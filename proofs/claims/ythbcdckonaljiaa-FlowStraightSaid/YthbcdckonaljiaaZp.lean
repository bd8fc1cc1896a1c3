import Derived.Test.YthbcdckonaljiaaZh
namespace Go.Proofs.Ythbcdckonaljiaa
open Go.RowKit Go.BigFrame
set_option maxRecDepth 1000000 in
set_option maxHeartbeats 8000000 in
theorem foldRound_off_a4:FoldR (fun f M p=>(row M p).any (fun x=>x.k == 0)=false∧(insAt f.code p).kind=4∧(setV (insAt f.code p) (row M p)).2=false):=by
  intro f M L Rn ob cb B0 p pb hpl hL hL8 hR4 wr y4 hd hpv hvl hC hok hh
  intros
  rename_i K Q hK
  obtain ⟨hnv,hkk,hof⟩:=hh
  conv=>arg 2; whnf
  have hlt:p < L:=by omega
  obtain ⟨c0,c1,c2,c3,c4,c5,c6,c7,c8,c9,c10,c11,c12,c13,c14⟩:=PreI.cells hC (foldTo_at hpl)
  have hcl:=Pre.lt hC
  have hyl:=World.block_lt_of_cell? wr ⟨B0,4,none⟩ y4
  have hol:=World.block_lt_of_cell? wr ⟨ob,p,none⟩ hd
  have hfn:=foldN_le f M p
  have HT:=Lib.hid (foldTo_set (M:=M) hpl)
  have HSM:=Lib.hid (foldTo_same (M:=M) hpl)
  have HTL:=Lib.hid (foldTo_len (f:=f) (M:=M) (p:=p) (by omega))
  have HFN:Hid (foldN f M (p + 1)=foldN f M p + (if foldI (insAt f.code p) p (row M p)=insAt f.code p then 0 else 1)):=Lib.hid rfl
  have HC:=Lib.hid hC
  have HV:=Lib.hid hvl
  have HOK:=Lib.hid hok
  have HPV:=Lib.hid hpv
  have HL:=Lib.hid hL
  generalize insAt f.code p=i at *
  generalize row M p=v at *
  have hbi:=heap_alloc_new wr i.obj
  have hBi:=Below.one wr i.obj
  obtain ⟨k,op,dst,a,b,n,text,r0,r1,r2,r3,r4,r5,to_,els⟩:=i
  simp only at c0 c1 c2 c3 c4 c5 c6 c7 c8 c9 c10 c11 c12 c13 c14 hkk
  simp only [Ins.obj] at hbi hBi
  clear hvl hok hC hpl hL
  have hct:=ContainsV_any (pb p) Rn v Rn HV.out hR4 (wr.alloc (.cells #[.int .i64 k,.int .i64 op,.int .i64 dst,.int .i64 a,.int .i64 b,.int .i64 n,.string text,.int .i64 r0,.int .i64 r1,.int .i64 r2,.int .i64 r3,.int .i64 r4,.int .i64 r5,.int .i64 to_,.int .i64 els] 31)) (Pre.later HPV.out hBi)
  have hne:=fun (x:Ins) W=>neq_ins x ⟨k,op,dst,a,b,n,text,r0,r1,r2,r3,r4,r5,to_,els⟩ W
  have HFO:Hid (v.any (fun x=>x.k == 0)=true∨(¬ (k=4∨k=2∨k=3)∧k≠12)→foldI ⟨k,op,dst,a,b,n,text,r0,r1,r2,r3,r4,r5,to_,els⟩ p v=⟨k,op,dst,a,b,n,text,r0,r1,r2,r3,r4,r5,to_,els⟩):=Lib.hid fun h=>by
    unfold foldI
    rcases h with h | ⟨h,h'⟩
    · rw [if_pos h]
    · by_cases hc:v.any (fun x=>x.k == 0)=true
      · rw [if_pos hc]
      · rw [if_neg hc,if_neg h,if_neg h']
  have HSTAY:Hid (foldI ⟨k,op,dst,a,b,n,text,r0,r1,r2,r3,r4,r5,to_,els⟩ p v=⟨k,op,dst,a,b,n,text,r0,r1,r2,r3,r4,r5,to_,els⟩→foldTo f M (p + 1)=foldTo f M p∧foldN f M (p + 1)=foldN f M p):=Lib.hid fun h=>⟨HSM.out h,by rw [HFN.out,if_pos h]; rfl⟩
  have HFX:Hid (foldI ⟨k,op,dst,a,b,n,text,r0,r1,r2,r3,r4,r5,to_,els⟩ p v=⟨k,op,dst,a,b,n,text,r0,r1,r2,r3,r4,r5,to_,els⟩):=Lib.hid (by unfold foldI; rw [if_neg (by rw [hnv]; decide),if_pos (by simp only; omega),if_neg (by rintro ⟨h1,h2⟩; rw [hof] at h1; cases h1)])
  have HEX:Hid (¬ ∃ x ∈ v,x.k=0):=Lib.hid (by
    rintro ⟨x,hx,h0⟩
    have h:v.any (fun x=>x.k == 0)=true:=List.any_eq_true.2 ⟨x,hx,by simpa using h0⟩
    rw [hnv] at h
    cases h)
  have HS:=Lib.hid (HSTAY.out HFX.out)
  have hneq:=hne ⟨k,op,dst,a,b,n,text,r0,r1,r2,r3,r4,r5,to_,els⟩
  simp only [Ins.agg,decide_true,Bool.not_true] at hneq
  rw [HS.out.1,HS.out.2] at hK
  obtain ⟨⟨⟨xk,xn⟩,on⟩,hx⟩:∃ x,setV ⟨k,op,dst,a,b,n,text,r0,r1,r2,r3,r4,r5,to_,els⟩ v=x:=⟨_,rfl⟩
  rw [hx] at hof
  obtain rfl:on=false:=hof
  have HX:=Lib.hid hx
  have q4:(k == 4)=true:=by simp; omega
  clear hne hkk hnv hx HFO HSTAY HT HSM HFN
  go_wp2_with (first
    | (go_at_call 34; refine hct.mono ?_; rintro e w1 ⟨⟨bv,rfl,hbv⟩,hb1⟩; obtain rfl:bv=false:=(by cases bv with | false=>rfl | true=>exact absurd (hbv.1 rfl) HEX.out); clear hbv; have hib:=(hb1.block _ (by simp)).trans hbi; have hil:=(Array.getElem?_eq_some_iff.1 hib).1; have hBw:Below wr.heap.size wr w1:=hBi.trans (hb1.mono hBi.size); have ⟨d0,d1,d2,d3,d4,d5,d6,d7,d8,d9,d10,d11,d12,d13,d14⟩:=Ins.cells (i:=⟨k,op,dst,a,b,n,text,r0,r1,r2,r3,r4,r5,to_,els⟩) hib; simp only at d0 d1 d2 d3 d4 d5 d6 d7 d8 d9 d10 d11 d12 d13 d14; clear c0 c1 c2 c3 c4 c5 c6 c7 c8 c9 c10 c11 c12 c13 c14; have hset:=set_any ⟨k,op,dst,a,b,n,text,r0,r1,r2,r3,r4,r5,to_,els⟩ v HOK.out HV.out (some ⟨pb p,0,none⟩) Rn (w1.alloc (Ins.obj ⟨k,op,dst,a,b,n,text,r0,r1,r2,r3,r4,r5,to_,els⟩)) (PreV.read (Pre.later HPV.out (hBw.alloc hBw.size (Ins.obj ⟨k,op,dst,a,b,n,text,r0,r1,r2,r3,r4,r5,to_,els⟩)))); unfold SetT at hset; simp only [HX.out,Ins.agg,Vl.agg] at hset; have hbo:=heap_alloc_new w1 (Ins.obj ⟨k,op,dst,a,b,n,text,r0,r1,r2,r3,r4,r5,to_,els⟩); have hib2:=alloc_keeps hib (Ins.obj ⟨k,op,dst,a,b,n,text,r0,r1,r2,r3,r4,r5,to_,els⟩); have hBo:=Below.one w1 (Ins.obj ⟨k,op,dst,a,b,n,text,r0,r1,r2,r3,r4,r5,to_,els⟩))
    | (go_at_call 30; refine hset.mono ?_; rintro e w3 ⟨rfl,hb3⟩; have hBx:Below wr.heap.size wr w3:=hBw.trans ((hBo.trans (hb3.mono hBo.size)).mono hBw.size); have hlx1:=Nat.lt_of_lt_of_le (Array.getElem?_eq_some_iff.1 hbo).1 hb3.size; have hlx2:=Nat.lt_of_lt_of_le (Array.getElem?_eq_some_iff.1 hib2).1 hb3.size; have ⟨g0,g1,g2,g3,g4,g5,g6,g7,g8,g9,g10,g11,g12,g13,g14⟩:=Ins.cells (i:=⟨k,op,dst,a,b,n,text,r0,r1,r2,r3,r4,r5,to_,els⟩) ((hb3.block _ (Array.getElem?_eq_some_iff.1 hbo).1).trans hbo); have ⟨e0,e1,e2,e3,e4,e5,e6,e7,e8,e9,e10,e11,e12,e13,e14⟩:=Ins.cells (i:=⟨k,op,dst,a,b,n,text,r0,r1,r2,r3,r4,r5,to_,els⟩) ((hb3.block _ (Array.getElem?_eq_some_iff.1 hib2).1).trans hib2); simp only at g0 g1 g2 g3 g4 g5 g6 g7 g8 g9 g10 g11 g12 g13 g14 e0 e1 e2 e3 e4 e5 e6 e7 e8 e9 e10 e11 e12 e13 e14; clear d0 d1 d2 d3 d4 d5 d6 d7 d8 d9 d10 d11 d12 d13 d14))
  exact hK _ ((hBx.alloc hBx.size _).mono (Nat.le_of_lt hcl)) (Pre.later HC.out (hBx.alloc hBx.size _))
set_option maxRecDepth 1000000 in
set_option maxHeartbeats 8000000 in
theorem foldRound_off_a2:FoldR (fun f M p=>(row M p).any (fun x=>x.k == 0)=false∧(insAt f.code p).kind=2∧(setV (insAt f.code p) (row M p)).2=false):=by
  intro f M L Rn ob cb B0 p pb hpl hL hL8 hR4 wr y4 hd hpv hvl hC hok hh
  intros
  rename_i K Q hK
  obtain ⟨hnv,hkk,hof⟩:=hh
  conv=>arg 2; whnf
  have hlt:p < L:=by omega
  obtain ⟨c0,c1,c2,c3,c4,c5,c6,c7,c8,c9,c10,c11,c12,c13,c14⟩:=PreI.cells hC (foldTo_at hpl)
  have hcl:=Pre.lt hC
  have hyl:=World.block_lt_of_cell? wr ⟨B0,4,none⟩ y4
  have hol:=World.block_lt_of_cell? wr ⟨ob,p,none⟩ hd
  have hfn:=foldN_le f M p
  have HT:=Lib.hid (foldTo_set (M:=M) hpl)
  have HSM:=Lib.hid (foldTo_same (M:=M) hpl)
  have HTL:=Lib.hid (foldTo_len (f:=f) (M:=M) (p:=p) (by omega))
  have HFN:Hid (foldN f M (p + 1)=foldN f M p + (if foldI (insAt f.code p) p (row M p)=insAt f.code p then 0 else 1)):=Lib.hid rfl
  have HC:=Lib.hid hC
  have HV:=Lib.hid hvl
  have HOK:=Lib.hid hok
  have HPV:=Lib.hid hpv
  have HL:=Lib.hid hL
  generalize insAt f.code p=i at *
  generalize row M p=v at *
  have hbi:=heap_alloc_new wr i.obj
  have hBi:=Below.one wr i.obj
  obtain ⟨k,op,dst,a,b,n,text,r0,r1,r2,r3,r4,r5,to_,els⟩:=i
  simp only at c0 c1 c2 c3 c4 c5 c6 c7 c8 c9 c10 c11 c12 c13 c14 hkk
  simp only [Ins.obj] at hbi hBi
  clear hvl hok hC hpl hL
  have hct:=ContainsV_any (pb p) Rn v Rn HV.out hR4 (wr.alloc (.cells #[.int .i64 k,.int .i64 op,.int .i64 dst,.int .i64 a,.int .i64 b,.int .i64 n,.string text,.int .i64 r0,.int .i64 r1,.int .i64 r2,.int .i64 r3,.int .i64 r4,.int .i64 r5,.int .i64 to_,.int .i64 els] 31)) (Pre.later HPV.out hBi)
  have hne:=fun (x:Ins) W=>neq_ins x ⟨k,op,dst,a,b,n,text,r0,r1,r2,r3,r4,r5,to_,els⟩ W
  have HFO:Hid (v.any (fun x=>x.k == 0)=true∨(¬ (k=4∨k=2∨k=3)∧k≠12)→foldI ⟨k,op,dst,a,b,n,text,r0,r1,r2,r3,r4,r5,to_,els⟩ p v=⟨k,op,dst,a,b,n,text,r0,r1,r2,r3,r4,r5,to_,els⟩):=Lib.hid fun h=>by
    unfold foldI
    rcases h with h | ⟨h,h'⟩
    · rw [if_pos h]
    · by_cases hc:v.any (fun x=>x.k == 0)=true
      · rw [if_pos hc]
      · rw [if_neg hc,if_neg h,if_neg h']
  have HSTAY:Hid (foldI ⟨k,op,dst,a,b,n,text,r0,r1,r2,r3,r4,r5,to_,els⟩ p v=⟨k,op,dst,a,b,n,text,r0,r1,r2,r3,r4,r5,to_,els⟩→foldTo f M (p + 1)=foldTo f M p∧foldN f M (p + 1)=foldN f M p):=Lib.hid fun h=>⟨HSM.out h,by rw [HFN.out,if_pos h]; rfl⟩
  have HFX:Hid (foldI ⟨k,op,dst,a,b,n,text,r0,r1,r2,r3,r4,r5,to_,els⟩ p v=⟨k,op,dst,a,b,n,text,r0,r1,r2,r3,r4,r5,to_,els⟩):=Lib.hid (by unfold foldI; rw [if_neg (by rw [hnv]; decide),if_pos (by simp only; omega),if_neg (by rintro ⟨h1,h2⟩; rw [hof] at h1; cases h1)])
  have HEX:Hid (¬ ∃ x ∈ v,x.k=0):=Lib.hid (by
    rintro ⟨x,hx,h0⟩
    have h:v.any (fun x=>x.k == 0)=true:=List.any_eq_true.2 ⟨x,hx,by simpa using h0⟩
    rw [hnv] at h
    cases h)
  have HS:=Lib.hid (HSTAY.out HFX.out)
  have hneq:=hne ⟨k,op,dst,a,b,n,text,r0,r1,r2,r3,r4,r5,to_,els⟩
  simp only [Ins.agg,decide_true,Bool.not_true] at hneq
  rw [HS.out.1,HS.out.2] at hK
  obtain ⟨⟨⟨xk,xn⟩,on⟩,hx⟩:∃ x,setV ⟨k,op,dst,a,b,n,text,r0,r1,r2,r3,r4,r5,to_,els⟩ v=x:=⟨_,rfl⟩
  rw [hx] at hof
  obtain rfl:on=false:=hof
  have HX:=Lib.hid hx
  have q4:(k == 4)=false:=by simp; omega
  have q2:(k == 2)=true:=by simp; omega
  clear hne hkk hnv hx HFO HSTAY HT HSM HFN
  go_wp2_with (first
    | (go_at_call 34; refine hct.mono ?_; rintro e w1 ⟨⟨bv,rfl,hbv⟩,hb1⟩; obtain rfl:bv=false:=(by cases bv with | false=>rfl | true=>exact absurd (hbv.1 rfl) HEX.out); clear hbv; have hib:=(hb1.block _ (by simp)).trans hbi; have hil:=(Array.getElem?_eq_some_iff.1 hib).1; have hBw:Below wr.heap.size wr w1:=hBi.trans (hb1.mono hBi.size); have ⟨d0,d1,d2,d3,d4,d5,d6,d7,d8,d9,d10,d11,d12,d13,d14⟩:=Ins.cells (i:=⟨k,op,dst,a,b,n,text,r0,r1,r2,r3,r4,r5,to_,els⟩) hib; simp only at d0 d1 d2 d3 d4 d5 d6 d7 d8 d9 d10 d11 d12 d13 d14; clear c0 c1 c2 c3 c4 c5 c6 c7 c8 c9 c10 c11 c12 c13 c14; have hset:=set_any ⟨k,op,dst,a,b,n,text,r0,r1,r2,r3,r4,r5,to_,els⟩ v HOK.out HV.out (some ⟨pb p,0,none⟩) Rn (w1.alloc (Ins.obj ⟨k,op,dst,a,b,n,text,r0,r1,r2,r3,r4,r5,to_,els⟩)) (PreV.read (Pre.later HPV.out (hBw.alloc hBw.size (Ins.obj ⟨k,op,dst,a,b,n,text,r0,r1,r2,r3,r4,r5,to_,els⟩)))); unfold SetT at hset; simp only [HX.out,Ins.agg,Vl.agg] at hset; have hbo:=heap_alloc_new w1 (Ins.obj ⟨k,op,dst,a,b,n,text,r0,r1,r2,r3,r4,r5,to_,els⟩); have hib2:=alloc_keeps hib (Ins.obj ⟨k,op,dst,a,b,n,text,r0,r1,r2,r3,r4,r5,to_,els⟩); have hBo:=Below.one w1 (Ins.obj ⟨k,op,dst,a,b,n,text,r0,r1,r2,r3,r4,r5,to_,els⟩))
    | (go_at_call 30; refine hset.mono ?_; rintro e w3 ⟨rfl,hb3⟩; have hBx:Below wr.heap.size wr w3:=hBw.trans ((hBo.trans (hb3.mono hBo.size)).mono hBw.size); have hlx1:=Nat.lt_of_lt_of_le (Array.getElem?_eq_some_iff.1 hbo).1 hb3.size; have hlx2:=Nat.lt_of_lt_of_le (Array.getElem?_eq_some_iff.1 hib2).1 hb3.size; have ⟨g0,g1,g2,g3,g4,g5,g6,g7,g8,g9,g10,g11,g12,g13,g14⟩:=Ins.cells (i:=⟨k,op,dst,a,b,n,text,r0,r1,r2,r3,r4,r5,to_,els⟩) ((hb3.block _ (Array.getElem?_eq_some_iff.1 hbo).1).trans hbo); have ⟨e0,e1,e2,e3,e4,e5,e6,e7,e8,e9,e10,e11,e12,e13,e14⟩:=Ins.cells (i:=⟨k,op,dst,a,b,n,text,r0,r1,r2,r3,r4,r5,to_,els⟩) ((hb3.block _ (Array.getElem?_eq_some_iff.1 hib2).1).trans hib2); simp only at g0 g1 g2 g3 g4 g5 g6 g7 g8 g9 g10 g11 g12 g13 g14 e0 e1 e2 e3 e4 e5 e6 e7 e8 e9 e10 e11 e12 e13 e14; clear d0 d1 d2 d3 d4 d5 d6 d7 d8 d9 d10 d11 d12 d13 d14))
  exact hK _ ((hBx.alloc hBx.size _).mono (Nat.le_of_lt hcl)) (Pre.later HC.out (hBx.alloc hBx.size _))
set_option maxRecDepth 1000000 in
set_option maxHeartbeats 8000000 in
theorem foldRound_off_a3:FoldR (fun f M p=>(row M p).any (fun x=>x.k == 0)=false∧(insAt f.code p).kind=3∧(setV (insAt f.code p) (row M p)).2=false):=by
  intro f M L Rn ob cb B0 p pb hpl hL hL8 hR4 wr y4 hd hpv hvl hC hok hh
  intros
  rename_i K Q hK
  obtain ⟨hnv,hkk,hof⟩:=hh
  conv=>arg 2; whnf
  have hlt:p < L:=by omega
  obtain ⟨c0,c1,c2,c3,c4,c5,c6,c7,c8,c9,c10,c11,c12,c13,c14⟩:=PreI.cells hC (foldTo_at hpl)
  have hcl:=Pre.lt hC
  have hyl:=World.block_lt_of_cell? wr ⟨B0,4,none⟩ y4
  have hol:=World.block_lt_of_cell? wr ⟨ob,p,none⟩ hd
  have hfn:=foldN_le f M p
  have HT:=Lib.hid (foldTo_set (M:=M) hpl)
  have HSM:=Lib.hid (foldTo_same (M:=M) hpl)
  have HTL:=Lib.hid (foldTo_len (f:=f) (M:=M) (p:=p) (by omega))
  have HFN:Hid (foldN f M (p + 1)=foldN f M p + (if foldI (insAt f.code p) p (row M p)=insAt f.code p then 0 else 1)):=Lib.hid rfl
  have HC:=Lib.hid hC
  have HV:=Lib.hid hvl
  have HOK:=Lib.hid hok
  have HPV:=Lib.hid hpv
  have HL:=Lib.hid hL
  generalize insAt f.code p=i at *
  generalize row M p=v at *
  have hbi:=heap_alloc_new wr i.obj
  have hBi:=Below.one wr i.obj
  obtain ⟨k,op,dst,a,b,n,text,r0,r1,r2,r3,r4,r5,to_,els⟩:=i
  simp only at c0 c1 c2 c3 c4 c5 c6 c7 c8 c9 c10 c11 c12 c13 c14 hkk
  simp only [Ins.obj] at hbi hBi
  clear hvl hok hC hpl hL
  have hct:=ContainsV_any (pb p) Rn v Rn HV.out hR4 (wr.alloc (.cells #[.int .i64 k,.int .i64 op,.int .i64 dst,.int .i64 a,.int .i64 b,.int .i64 n,.string text,.int .i64 r0,.int .i64 r1,.int .i64 r2,.int .i64 r3,.int .i64 r4,.int .i64 r5,.int .i64 to_,.int .i64 els] 31)) (Pre.later HPV.out hBi)
  have hne:=fun (x:Ins) W=>neq_ins x ⟨k,op,dst,a,b,n,text,r0,r1,r2,r3,r4,r5,to_,els⟩ W
  have HFO:Hid (v.any (fun x=>x.k == 0)=true∨(¬ (k=4∨k=2∨k=3)∧k≠12)→foldI ⟨k,op,dst,a,b,n,text,r0,r1,r2,r3,r4,r5,to_,els⟩ p v=⟨k,op,dst,a,b,n,text,r0,r1,r2,r3,r4,r5,to_,els⟩):=Lib.hid fun h=>by
    unfold foldI
    rcases h with h | ⟨h,h'⟩
    · rw [if_pos h]
    · by_cases hc:v.any (fun x=>x.k == 0)=true
      · rw [if_pos hc]
      · rw [if_neg hc,if_neg h,if_neg h']
  have HSTAY:Hid (foldI ⟨k,op,dst,a,b,n,text,r0,r1,r2,r3,r4,r5,to_,els⟩ p v=⟨k,op,dst,a,b,n,text,r0,r1,r2,r3,r4,r5,to_,els⟩→foldTo f M (p + 1)=foldTo f M p∧foldN f M (p + 1)=foldN f M p):=Lib.hid fun h=>⟨HSM.out h,by rw [HFN.out,if_pos h]; rfl⟩
  have HFX:Hid (foldI ⟨k,op,dst,a,b,n,text,r0,r1,r2,r3,r4,r5,to_,els⟩ p v=⟨k,op,dst,a,b,n,text,r0,r1,r2,r3,r4,r5,to_,els⟩):=Lib.hid (by unfold foldI; rw [if_neg (by rw [hnv]; decide),if_pos (by simp only; omega),if_neg (by rintro ⟨h1,h2⟩; rw [hof] at h1; cases h1)])
  have HEX:Hid (¬ ∃ x ∈ v,x.k=0):=Lib.hid (by
    rintro ⟨x,hx,h0⟩
    have h:v.any (fun x=>x.k == 0)=true:=List.any_eq_true.2 ⟨x,hx,by simpa using h0⟩
    rw [hnv] at h
    cases h)
  have HS:=Lib.hid (HSTAY.out HFX.out)
  have hneq:=hne ⟨k,op,dst,a,b,n,text,r0,r1,r2,r3,r4,r5,to_,els⟩
  simp only [Ins.agg,decide_true,Bool.not_true] at hneq
  rw [HS.out.1,HS.out.2] at hK
  obtain ⟨⟨⟨xk,xn⟩,on⟩,hx⟩:∃ x,setV ⟨k,op,dst,a,b,n,text,r0,r1,r2,r3,r4,r5,to_,els⟩ v=x:=⟨_,rfl⟩
  rw [hx] at hof
  obtain rfl:on=false:=hof
  have HX:=Lib.hid hx
  have q4:(k == 4)=false:=by simp; omega
  have q2:(k == 2)=false:=by simp; omega
  have q3:(k == 3)=true:=by simp; omega
  clear hne hkk hnv hx HFO HSTAY HT HSM HFN
  go_wp2_with (first
    | (go_at_call 34; refine hct.mono ?_; rintro e w1 ⟨⟨bv,rfl,hbv⟩,hb1⟩; obtain rfl:bv=false:=(by cases bv with | false=>rfl | true=>exact absurd (hbv.1 rfl) HEX.out); clear hbv; have hib:=(hb1.block _ (by simp)).trans hbi; have hil:=(Array.getElem?_eq_some_iff.1 hib).1; have hBw:Below wr.heap.size wr w1:=hBi.trans (hb1.mono hBi.size); have ⟨d0,d1,d2,d3,d4,d5,d6,d7,d8,d9,d10,d11,d12,d13,d14⟩:=Ins.cells (i:=⟨k,op,dst,a,b,n,text,r0,r1,r2,r3,r4,r5,to_,els⟩) hib; simp only at d0 d1 d2 d3 d4 d5 d6 d7 d8 d9 d10 d11 d12 d13 d14; clear c0 c1 c2 c3 c4 c5 c6 c7 c8 c9 c10 c11 c12 c13 c14; have hset:=set_any ⟨k,op,dst,a,b,n,text,r0,r1,r2,r3,r4,r5,to_,els⟩ v HOK.out HV.out (some ⟨pb p,0,none⟩) Rn (w1.alloc (Ins.obj ⟨k,op,dst,a,b,n,text,r0,r1,r2,r3,r4,r5,to_,els⟩)) (PreV.read (Pre.later HPV.out (hBw.alloc hBw.size (Ins.obj ⟨k,op,dst,a,b,n,text,r0,r1,r2,r3,r4,r5,to_,els⟩)))); unfold SetT at hset; simp only [HX.out,Ins.agg,Vl.agg] at hset; have hbo:=heap_alloc_new w1 (Ins.obj ⟨k,op,dst,a,b,n,text,r0,r1,r2,r3,r4,r5,to_,els⟩); have hib2:=alloc_keeps hib (Ins.obj ⟨k,op,dst,a,b,n,text,r0,r1,r2,r3,r4,r5,to_,els⟩); have hBo:=Below.one w1 (Ins.obj ⟨k,op,dst,a,b,n,text,r0,r1,r2,r3,r4,r5,to_,els⟩))
    | (go_at_call 30; refine hset.mono ?_; rintro e w3 ⟨rfl,hb3⟩; have hBx:Below wr.heap.size wr w3:=hBw.trans ((hBo.trans (hb3.mono hBo.size)).mono hBw.size); have hlx1:=Nat.lt_of_lt_of_le (Array.getElem?_eq_some_iff.1 hbo).1 hb3.size; have hlx2:=Nat.lt_of_lt_of_le (Array.getElem?_eq_some_iff.1 hib2).1 hb3.size; have ⟨g0,g1,g2,g3,g4,g5,g6,g7,g8,g9,g10,g11,g12,g13,g14⟩:=Ins.cells (i:=⟨k,op,dst,a,b,n,text,r0,r1,r2,r3,r4,r5,to_,els⟩) ((hb3.block _ (Array.getElem?_eq_some_iff.1 hbo).1).trans hbo); have ⟨e0,e1,e2,e3,e4,e5,e6,e7,e8,e9,e10,e11,e12,e13,e14⟩:=Ins.cells (i:=⟨k,op,dst,a,b,n,text,r0,r1,r2,r3,r4,r5,to_,els⟩) ((hb3.block _ (Array.getElem?_eq_some_iff.1 hib2).1).trans hib2); simp only at g0 g1 g2 g3 g4 g5 g6 g7 g8 g9 g10 g11 g12 g13 g14 e0 e1 e2 e3 e4 e5 e6 e7 e8 e9 e10 e11 e12 e13 e14; clear d0 d1 d2 d3 d4 d5 d6 d7 d8 d9 d10 d11 d12 d13 d14))
  exact hK _ ((hBx.alloc hBx.size _).mono (Nat.le_of_lt hcl)) (Pre.later HC.out (hBx.alloc hBx.size _))
end Go.Proofs.Ythbcdckonaljiaa
/- flow.Fold: rounds of its loop. -/
