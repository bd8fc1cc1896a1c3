import Derived.Test.YthbcdckonaljiaaZc
namespace Go.Proofs.Ythbcdckonaljiaa
open Go.RowKit Go.BigFrame
set_option maxRecDepth 1000000 in
set_option maxHeartbeats 8000000 in
theorem bare_8m (op dst a b:Int) (n:Int) (hn:n < 0) (text:ByteArray) (r0 r1 r2 r3 r4 r5 to_ els:Int) (w:World):Calls Try.prog 70 #[Ins.agg ⟨8,op,dst,a,b,n,text,r0,r1,r2,r3,r4,r5,to_,els⟩] w fun e w'=>BareT ⟨8,op,dst,a,b,n,text,r0,r1,r2,r3,r4,r5,to_,els⟩ e∧Below w.heap.size w w':=by
  have b0:=heap_alloc_new w (Ins.obj ⟨8,op,dst,a,b,n,text,r0,r1,r2,r3,r4,r5,to_,els⟩)
  have b1:=heap_alloc_new (w.alloc (Ins.obj ⟨8,op,dst,a,b,n,text,r0,r1,r2,r3,r4,r5,to_,els⟩)) zeroObj
  rw [show (w.alloc (Ins.obj ⟨8,op,dst,a,b,n,text,r0,r1,r2,r3,r4,r5,to_,els⟩)).heap.size=w.heap.size + 1 by simp] at b1
  have hB0:Below w.heap.size w ((w.alloc (Ins.obj ⟨8,op,dst,a,b,n,text,r0,r1,r2,r3,r4,r5,to_,els⟩)).alloc zeroObj):=(Below.one w _).alloc (by simp) _
  have b0:=alloc_keeps b0 zeroObj
  obtain ⟨W,hW⟩:∃ W,(w.alloc (Ins.obj ⟨8,op,dst,a,b,n,text,r0,r1,r2,r3,r4,r5,to_,els⟩)).alloc zeroObj=W:=⟨_,rfl⟩
  have hs2:W.heap.size=w.heap.size + 2:=by rw [← hW]; simp
  rw [hW] at b0 b1 hB0
  have x0:=cell_of_heap b0 0 (.int .i64 8) rfl
  simp only [Ins.obj,zeroObj,Ins.agg] at hW ⊢
  have hus:=fun w=>uses_any 8 w
  have hst:=fun w=>sets_any 8 w
  rw [show kA 8=false from rfl] at hus
  rw [show kB 8=false from rfl] at hus
  rw [show kS 8=true from rfl] at hst
  have hpl:=fun w=>Plain_any 8 w
  have hm:(Ins.mk 8 op dst a b n text r0 r1 r2 r3 r4 r5 to_ els=Ins.mask ⟨8,op,dst,a,b,n,text,r0,r1,r2,r3,r4,r5,to_,els⟩)↔({ clrA ⟨8,op,-1,a,b,n,text,r0,r1,r2,r3,r4,r5,to_,els⟩ ((0:Nat):Int) with n:=0,text:=⟨#[]⟩ }=plainI 8):=by
    have hj0:(0 < n)=False:=by simp; omega
    have hj1:(1 < n)=False:=by simp; omega
    have hj2:(2 < n)=False:=by simp; omega
    have hj3:(3 < n)=False:=by simp; omega
    have hj4:(4 < n)=False:=by simp; omega
    have hj5:(5 < n)=False:=by simp; omega
    simp [Ins.mask,clrA,kA,kB,kS,hj0,hj1,hj2,hj3,hj4,hj5]
  have HMM:=Lib.hid hm
  clear hm
  simp only [Ins.agg] at hpl
  have q1:((0:Int) > n)=True:=by simp; try omega
  have q2:(n < 0)=True:=by simp; try omega
  have HN:=Lib.hid hn
  clear hn
  go_enter Try.func70,Try.ntmps70
  go_wp2_with (first
    | (go_at_call 84; refine (hus _).mono ?_; rintro e w5 ⟨rfl,hw5⟩; subst hw5)
    | (go_at_call 53; refine (hst _).mono ?_; rintro e w5 ⟨rfl,hw5⟩; subst hw5)
    | (go_at_call 7; refine (hpl _).mono ?_; rintro e w1 ⟨rfl,hb1⟩; have hT0:BSt w (w1.alloc (Ins.obj (plainI 8))) ⟨8,op,dst,a,b,n,text,r0,r1,r2,r3,r4,r5,to_,els⟩ (plainI 8) w1.heap.size:=⟨alloc_keeps ((hb1.block _ (Array.getElem?_eq_some_iff.1 b0).1).trans b0) _,alloc_keeps ((hb1.block _ (Array.getElem?_eq_some_iff.1 b1).1).trans b1) _,heap_alloc_new _ _,(hB0.trans (hb1.mono hB0.size)).alloc ((hB0.trans (hb1.mono hB0.size)).size) _,by have:=hb1.size; omega⟩; simp only [Ins.obj] at hT0; have ck0:=cell_of_heap hT0.bi 0 (.int .i64 8) rfl; have cs0:=cell_of_heap hT0.bi 2 (.int .i64 dst) rfl; have cf0:=free15 hT0.bi 2; have hT1:=hT0.store (i':=⟨8,op,-1,a,b,n,text,r0,r1,r2,r3,r4,r5,to_,els⟩) 2 (.int .i64 (-1)) rfl; have ck1:=cell_of_heap hT1.bi 0 (.int .i64 8) rfl; have cn1:=cell_of_heap hT1.bi 5 (.int .i64 n) rfl))
  have hF0:BSt w _ (clrA ⟨8,op,-1,a,b,n,text,r0,r1,r2,r3,r4,r5,to_,els⟩ ((0:Nat):Int)) (plainI 8) w1.heap.size:=hT1
  clear hT0 hT1 ck0 cs0 cf0 ck1 cn1 hst hpl hus x0 b0 b1 hB0 hs2 hW
  go_loopw [40] (fun ix w8=>∃ m:Nat,m≤0∧ix = .int .i64 m∧BSt w w8 (clrA ⟨8,op,-1,a,b,n,text,r0,r1,r2,r3,r4,r5,to_,els⟩ (m:Int)) (plainI 8) w1.heap.size) (fun ix _=>0 - (intOf ix).toNat)
  case atStart=>exact ⟨0,by omega,rfl,hF0⟩
  case round =>
    obtain ⟨j,hj,rfl,hF⟩:=hrel
    · obtain rfl:j=0:=by omega
      have hM:=HMM.out
      have c5:(clrA ⟨8,op,-1,a,b,n,text,r0,r1,r2,r3,r4,r5,to_,els⟩ ((0:Nat):Int)).n=n:=rfl
      have c6:(clrA ⟨8,op,-1,a,b,n,text,r0,r1,r2,r3,r4,r5,to_,els⟩ ((0:Nat):Int)).text=text:=rfl
      generalize clrA ⟨8,op,-1,a,b,n,text,r0,r1,r2,r3,r4,r5,to_,els⟩ ((0:Nat):Int)=o at hF hM c5 c6
      obtain ⟨o0,o1,o2,o3,o4,o5,o6,o7,o8,o9,o10,o11,o12,o13,o14⟩:=o
      simp only at hM c5 c6
      have HM2:=Lib.hid hM
      clear hM c5 c6
      have cf5:=free15 hF.bi 5
      have cx5:=cell_of_heap hF.bi 5 (.int .i64 o5) rfl
      have hT1:=hF.store (i':=⟨o0,o1,o2,o3,o4,0,o6,o7,o8,o9,o10,o11,o12,o13,o14⟩) 5 (.int .i64 0) rfl
      have cf6:=free15 hT1.bi 6
      have cx6:=cell_of_heap hT1.bi 6 (.string o6) rfl
      have hT2:=hT1.store (i':=⟨o0,o1,o2,o3,o4,0,⟨#[]⟩,o7,o8,o9,o10,o11,o12,o13,o14⟩) 6 (.string ⟨#[]⟩) rfl
      have hneq:=fun w=>neq_ins ⟨o0,o1,o2,o3,o4,0,⟨#[]⟩,o7,o8,o9,o10,o11,o12,o13,o14⟩ (plainI 8) w
      obtain ⟨be,hbe⟩:∃ be,be=decide (Ins.mk o0 o1 o2 o3 o4 0 ⟨#[]⟩ o7 o8 o9 o10 o11 o12 o13 o14=plainI 8):=⟨_,rfl⟩
      rw [← hbe] at hneq
      have HBE:=Lib.hid hbe
      clear hbe
      simp only [Ins.agg] at hneq
      have y0:=cell_of_heap hT2.b5 0 (.int .i64 8) rfl
      have yf:=free15 hT2.b5 0
      have hT3:=hT2.store5 (o':=plainI 0) 0 (.int .i64 0) rfl
      cases be
      · have hR:=setRow_heap _ _ _ (plainI 0).l.toArray _ _ hT3.br
        obtain ⟨f0,f1,f2,f3,f4,f5,f6,f7,f8,f9,f10,f11,f12,f13,f14⟩:=Ins.cells (i:=plainI 0) hR
        simp only at f0 f1 f2 f3 f4 f5 f6 f7 f8 f9 f10 f11 f12 f13 f14
        have HX:Hid (¬ Ins.mk 8 op dst a b n text r0 r1 r2 r3 r4 r5 to_ els=Ins.mask ⟨8,op,dst,a,b,n,text,r0,r1,r2,r3,r4,r5,to_,els⟩):=Lib.hid (fun h=>of_decide_eq_false HBE.out.symm (HM2.out.1 h))
        go_wp2_with (first
          | (show wpList Try.prog _ _ (⟨some 56,_,_,_,_,_⟩::_) _ _; refine wpList_load_row rfl 31 (.tmp 1) rfl w.heap.size rfl 31 _ (0,0) _ hT2.bi vIns rfl sIns ?_)
          | (show wpList Try.prog _ _ (⟨some 60,_,_,_,_,_⟩::_) _ _; refine wpList_load_row rfl 31 (.tmp 5) rfl w1.heap.size rfl 31 _ (0,0) _ hT3.b5 vIns rfl sIns ?_)
          | (show wpList Try.prog _ _ (⟨some 57,_,_,_,_,_⟩::_) _ _; refine wpList_load_row rfl 31 (.tmp 5) rfl w1.heap.size rfl 31 _ (0,0) _ hT2.b5 vIns rfl sIns ?_)
          | (show wpList Try.prog _ _ (⟨none,.store _ (.tmp 2) _,_,_,_,_⟩::_) _ _; refine wpList_store_row rfl 31 (.tmp 2) (.tmp 60) rfl (w.heap.size + 1) (plainI 0).l.toArray rfl rfl 31 _ hT3.br sIns rfl (plain_one 0) ?_))
        (try simp only [Exit.inBlock,Exit.then])
        refine bodyPost_ret (by simp [results,Try.results70,go_sem,f0,f1,f2,f3,f4,f5,f6,f7,f8,f9,f10,f11,f12,f13,f14]; try rfl) rfl ?_
        refine ⟨BareT.no (o:=plainI 0) HX.out rfl,?_⟩
        have hb:=hT3.below
        exact below_setRow hb (Nat.le_add_right _ _) _
      · have hR:=setRow_heap _ _ _ (plainI 8).l.toArray _ _ hT2.br
        obtain ⟨f0,f1,f2,f3,f4,f5,f6,f7,f8,f9,f10,f11,f12,f13,f14⟩:=Ins.cells (i:=plainI 8) hR
        simp only at f0 f1 f2 f3 f4 f5 f6 f7 f8 f9 f10 f11 f12 f13 f14
        have HX:Hid (Ins.mk 8 op dst a b n text r0 r1 r2 r3 r4 r5 to_ els=Ins.mask ⟨8,op,dst,a,b,n,text,r0,r1,r2,r3,r4,r5,to_,els⟩):=Lib.hid (HM2.out.2 (of_decide_eq_true HBE.out.symm))
        go_wp2_with (first
          | (show wpList Try.prog _ _ (⟨some 56,_,_,_,_,_⟩::_) _ _; refine wpList_load_row rfl 31 (.tmp 1) rfl w.heap.size rfl 31 _ (0,0) _ hT2.bi vIns rfl sIns ?_)
          | (show wpList Try.prog _ _ (⟨some 60,_,_,_,_,_⟩::_) _ _; refine wpList_load_row rfl 31 (.tmp 5) rfl w1.heap.size rfl 31 _ (0,0) _ hT2.b5 vIns rfl sIns ?_)
          | (show wpList Try.prog _ _ (⟨some 57,_,_,_,_,_⟩::_) _ _; refine wpList_load_row rfl 31 (.tmp 5) rfl w1.heap.size rfl 31 _ (0,0) _ hT2.b5 vIns rfl sIns ?_)
          | (show wpList Try.prog _ _ (⟨none,.store _ (.tmp 2) _,_,_,_,_⟩::_) _ _; refine wpList_store_row rfl 31 (.tmp 2) (.tmp 60) rfl (w.heap.size + 1) (plainI 8).l.toArray rfl rfl 31 _ hT2.br sIns rfl (plain_one 8) ?_))
        (try simp only [Exit.inBlock,Exit.then])
        refine bodyPost_ret (by simp [results,Try.results70,go_sem,f0,f1,f2,f3,f4,f5,f6,f7,f8,f9,f10,f11,f12,f13,f14]; try rfl) rfl ?_
        refine ⟨BareT.yes (o:=plainI 8) HX.out rfl,?_⟩
        have hb:=hT2.below
        exact below_setRow hb (Nat.le_add_right _ _) _
end Go.Proofs.Ythbcdckonaljiaa
namespace Go.Proofs.Ythbcdckonaljiaa
open Go.RowKit Go.BigFrame
set_option maxRecDepth 1000000 in
set_option maxHeartbeats 8000000 in
theorem bare_8i (op dst a b:Int) (N:Nat) (hn:N≤6) (text:ByteArray) (r0 r1 r2 r3 r4 r5 to_ els:Int) (w:World):Calls Try.prog 70 #[Ins.agg ⟨8,op,dst,a,b,(N:Int),text,r0,r1,r2,r3,r4,r5,to_,els⟩] w fun e w'=>BareT ⟨8,op,dst,a,b,(N:Int),text,r0,r1,r2,r3,r4,r5,to_,els⟩ e∧Below w.heap.size w w':=by
  have b0:=heap_alloc_new w (Ins.obj ⟨8,op,dst,a,b,(N:Int),text,r0,r1,r2,r3,r4,r5,to_,els⟩)
  have b1:=heap_alloc_new (w.alloc (Ins.obj ⟨8,op,dst,a,b,(N:Int),text,r0,r1,r2,r3,r4,r5,to_,els⟩)) zeroObj
  rw [show (w.alloc (Ins.obj ⟨8,op,dst,a,b,(N:Int),text,r0,r1,r2,r3,r4,r5,to_,els⟩)).heap.size=w.heap.size + 1 by simp] at b1
  have hB0:Below w.heap.size w ((w.alloc (Ins.obj ⟨8,op,dst,a,b,(N:Int),text,r0,r1,r2,r3,r4,r5,to_,els⟩)).alloc zeroObj):=(Below.one w _).alloc (by simp) _
  have b0:=alloc_keeps b0 zeroObj
  obtain ⟨W,hW⟩:∃ W,(w.alloc (Ins.obj ⟨8,op,dst,a,b,(N:Int),text,r0,r1,r2,r3,r4,r5,to_,els⟩)).alloc zeroObj=W:=⟨_,rfl⟩
  have hs2:W.heap.size=w.heap.size + 2:=by rw [← hW]; simp
  rw [hW] at b0 b1 hB0
  have x0:=cell_of_heap b0 0 (.int .i64 8) rfl
  simp only [Ins.obj,zeroObj,Ins.agg] at hW ⊢
  have hus:=fun w=>uses_any 8 w
  have hst:=fun w=>sets_any 8 w
  rw [show kA 8=false from rfl] at hus
  rw [show kB 8=false from rfl] at hus
  rw [show kS 8=true from rfl] at hst
  have hpl:=fun w=>Plain_any 8 w
  have hm:(Ins.mk 8 op dst a b (N:Int) text r0 r1 r2 r3 r4 r5 to_ els=Ins.mask ⟨8,op,dst,a,b,(N:Int),text,r0,r1,r2,r3,r4,r5,to_,els⟩)↔({ clrA ⟨8,op,-1,a,b,(N:Int),text,r0,r1,r2,r3,r4,r5,to_,els⟩ (N:Int) with n:=0,text:=⟨#[]⟩ }=plainI 8):=by
    have hh:∀ (p:Prop) [Decidable p] (r:Int),(r=if p then r else 0)↔(if p then 0 else r)=0:=fun p _ r=>by split <;> simp
    simp [Ins.mask,clrA,kA,kB,kS,hh]
  have HMM:=Lib.hid hm
  clear hm
  simp only [Ins.agg] at hpl
  have q1:((0:Int) > (N:Int))=False:=by simp; try omega
  have q2:((N:Int) < 0)=False:=by simp; try omega
  have q3:((6:Int) < (N:Int))=False:=by simp; try omega
  have HN:=Lib.hid hn
  clear hn
  go_enter Try.func70,Try.ntmps70
  go_wp2_with (first
    | (go_at_call 84; refine (hus _).mono ?_; rintro e w5 ⟨rfl,hw5⟩; subst hw5)
    | (go_at_call 53; refine (hst _).mono ?_; rintro e w5 ⟨rfl,hw5⟩; subst hw5)
    | (go_at_call 7; refine (hpl _).mono ?_; rintro e w1 ⟨rfl,hb1⟩; have hT0:BSt w (w1.alloc (Ins.obj (plainI 8))) ⟨8,op,dst,a,b,(N:Int),text,r0,r1,r2,r3,r4,r5,to_,els⟩ (plainI 8) w1.heap.size:=⟨alloc_keeps ((hb1.block _ (Array.getElem?_eq_some_iff.1 b0).1).trans b0) _,alloc_keeps ((hb1.block _ (Array.getElem?_eq_some_iff.1 b1).1).trans b1) _,heap_alloc_new _ _,(hB0.trans (hb1.mono hB0.size)).alloc ((hB0.trans (hb1.mono hB0.size)).size) _,by have:=hb1.size; omega⟩; simp only [Ins.obj] at hT0; have ck0:=cell_of_heap hT0.bi 0 (.int .i64 8) rfl; have cs0:=cell_of_heap hT0.bi 2 (.int .i64 dst) rfl; have cf0:=free15 hT0.bi 2; have hT1:=hT0.store (i':=⟨8,op,-1,a,b,(N:Int),text,r0,r1,r2,r3,r4,r5,to_,els⟩) 2 (.int .i64 (-1)) rfl; have ck1:=cell_of_heap hT1.bi 0 (.int .i64 8) rfl; have cn1:=cell_of_heap hT1.bi 5 (.int .i64 (N:Int)) rfl))
  have hF0:BSt w _ (clrA ⟨8,op,-1,a,b,(N:Int),text,r0,r1,r2,r3,r4,r5,to_,els⟩ ((0:Nat):Int)) (plainI 8) w1.heap.size:=hT1
  clear hT0 hT1 ck0 cs0 cf0 ck1 cn1 hst hpl hus x0 b0 b1 hB0 hs2 hW
  go_loopw [40] (fun ix w8=>∃ m:Nat,m≤N∧ix = .int .i64 m∧BSt w w8 (clrA ⟨8,op,-1,a,b,(N:Int),text,r0,r1,r2,r3,r4,r5,to_,els⟩ (m:Int)) (plainI 8) w1.heap.size) (fun ix _=>N - (intOf ix).toNat)
  case atStart=>exact ⟨0,by omega,rfl,hF0⟩
  case round =>
    obtain ⟨j,hj,rfl,hF⟩:=hrel
    by_cases hlt:j < N
    · have hj6:j=0∨j=1∨j=2∨j=3∨j=4∨j=5:=by have:=HN.out; omega
      rcases hj6 with rfl | rfl | rfl | rfl | rfl | rfl
      · have ca:=cell_of_heap hF.bi 7 (.int .i64 r0) rfl
        have cf:=free15 hF.bi 7
        have hF2:=hF.store (i':=clrA ⟨8,op,-1,a,b,(N:Int),text,r0,r1,r2,r3,r4,r5,to_,els⟩ ((1:Nat):Int)) 7 (.int .i64 0) rfl
        have qj:decide (((0:Nat):Int) < (N:Int))=true:=by simp; omega
        go_wp2
        exact ⟨⟨1,by omega,by simp,hF2⟩,by simp [intOf]; omega⟩
      · have ca:=cell_of_heap hF.bi 8 (.int .i64 r1) rfl
        have cf:=free15 hF.bi 8
        have hF2:=hF.store (i':=clrA ⟨8,op,-1,a,b,(N:Int),text,r0,r1,r2,r3,r4,r5,to_,els⟩ ((2:Nat):Int)) 8 (.int .i64 0) rfl
        have qj:decide (((1:Nat):Int) < (N:Int))=true:=by simp; omega
        go_wp2
        exact ⟨⟨2,by omega,by simp,hF2⟩,by simp [intOf]; omega⟩
      · have ca:=cell_of_heap hF.bi 9 (.int .i64 r2) rfl
        have cf:=free15 hF.bi 9
        have hF2:=hF.store (i':=clrA ⟨8,op,-1,a,b,(N:Int),text,r0,r1,r2,r3,r4,r5,to_,els⟩ ((3:Nat):Int)) 9 (.int .i64 0) rfl
        have qj:decide (((2:Nat):Int) < (N:Int))=true:=by simp; omega
        go_wp2
        exact ⟨⟨3,by omega,by simp,hF2⟩,by simp [intOf]; omega⟩
      · have ca:=cell_of_heap hF.bi 10 (.int .i64 r3) rfl
        have cf:=free15 hF.bi 10
        have hF2:=hF.store (i':=clrA ⟨8,op,-1,a,b,(N:Int),text,r0,r1,r2,r3,r4,r5,to_,els⟩ ((4:Nat):Int)) 10 (.int .i64 0) rfl
        have qj:decide (((3:Nat):Int) < (N:Int))=true:=by simp; omega
        go_wp2
        exact ⟨⟨4,by omega,by simp,hF2⟩,by simp [intOf]; omega⟩
      · have ca:=cell_of_heap hF.bi 11 (.int .i64 r4) rfl
        have cf:=free15 hF.bi 11
        have hF2:=hF.store (i':=clrA ⟨8,op,-1,a,b,(N:Int),text,r0,r1,r2,r3,r4,r5,to_,els⟩ ((5:Nat):Int)) 11 (.int .i64 0) rfl
        have qj:decide (((4:Nat):Int) < (N:Int))=true:=by simp; omega
        go_wp2
        exact ⟨⟨5,by omega,by simp,hF2⟩,by simp [intOf]; omega⟩
      · have ca:=cell_of_heap hF.bi 12 (.int .i64 r5) rfl
        have cf:=free15 hF.bi 12
        have hF2:=hF.store (i':=clrA ⟨8,op,-1,a,b,(N:Int),text,r0,r1,r2,r3,r4,r5,to_,els⟩ ((6:Nat):Int)) 12 (.int .i64 0) rfl
        have qj:decide (((5:Nat):Int) < (N:Int))=true:=by simp; omega
        go_wp2
        exact ⟨⟨6,by omega,by simp,hF2⟩,by simp [intOf]; omega⟩
    · obtain rfl:j=N:=by omega
      have hM:=HMM.out
      have c5:(clrA ⟨8,op,-1,a,b,(j:Int),text,r0,r1,r2,r3,r4,r5,to_,els⟩ (j:Int)).n=(j:Int):=rfl
      have c6:(clrA ⟨8,op,-1,a,b,(j:Int),text,r0,r1,r2,r3,r4,r5,to_,els⟩ (j:Int)).text=text:=rfl
      generalize clrA ⟨8,op,-1,a,b,(j:Int),text,r0,r1,r2,r3,r4,r5,to_,els⟩ (j:Int)=o at hF hM c5 c6
      obtain ⟨o0,o1,o2,o3,o4,o5,o6,o7,o8,o9,o10,o11,o12,o13,o14⟩:=o
      simp only at hM c5 c6
      have HM2:=Lib.hid hM
      clear hM c5 c6
      have cf5:=free15 hF.bi 5
      have cx5:=cell_of_heap hF.bi 5 (.int .i64 o5) rfl
      have hT1:=hF.store (i':=⟨o0,o1,o2,o3,o4,0,o6,o7,o8,o9,o10,o11,o12,o13,o14⟩) 5 (.int .i64 0) rfl
      have cf6:=free15 hT1.bi 6
      have cx6:=cell_of_heap hT1.bi 6 (.string o6) rfl
      have hT2:=hT1.store (i':=⟨o0,o1,o2,o3,o4,0,⟨#[]⟩,o7,o8,o9,o10,o11,o12,o13,o14⟩) 6 (.string ⟨#[]⟩) rfl
      have hneq:=fun w=>neq_ins ⟨o0,o1,o2,o3,o4,0,⟨#[]⟩,o7,o8,o9,o10,o11,o12,o13,o14⟩ (plainI 8) w
      obtain ⟨be,hbe⟩:∃ be,be=decide (Ins.mk o0 o1 o2 o3 o4 0 ⟨#[]⟩ o7 o8 o9 o10 o11 o12 o13 o14=plainI 8):=⟨_,rfl⟩
      rw [← hbe] at hneq
      have HBE:=Lib.hid hbe
      clear hbe
      simp only [Ins.agg] at hneq
      have y0:=cell_of_heap hT2.b5 0 (.int .i64 8) rfl
      have yf:=free15 hT2.b5 0
      have hT3:=hT2.store5 (o':=plainI 0) 0 (.int .i64 0) rfl
      cases be
      · have hR:=setRow_heap _ _ _ (plainI 0).l.toArray _ _ hT3.br
        obtain ⟨f0,f1,f2,f3,f4,f5,f6,f7,f8,f9,f10,f11,f12,f13,f14⟩:=Ins.cells (i:=plainI 0) hR
        simp only at f0 f1 f2 f3 f4 f5 f6 f7 f8 f9 f10 f11 f12 f13 f14
        have HX:Hid (¬ Ins.mk 8 op dst a b (j:Int) text r0 r1 r2 r3 r4 r5 to_ els=Ins.mask ⟨8,op,dst,a,b,(j:Int),text,r0,r1,r2,r3,r4,r5,to_,els⟩):=Lib.hid (fun h=>of_decide_eq_false HBE.out.symm (HM2.out.1 h))
        go_wp2_with (first
          | (show wpList Try.prog _ _ (⟨some 56,_,_,_,_,_⟩::_) _ _; refine wpList_load_row rfl 31 (.tmp 1) rfl w.heap.size rfl 31 _ (0,0) _ hT2.bi vIns rfl sIns ?_)
          | (show wpList Try.prog _ _ (⟨some 60,_,_,_,_,_⟩::_) _ _; refine wpList_load_row rfl 31 (.tmp 5) rfl w1.heap.size rfl 31 _ (0,0) _ hT3.b5 vIns rfl sIns ?_)
          | (show wpList Try.prog _ _ (⟨some 57,_,_,_,_,_⟩::_) _ _; refine wpList_load_row rfl 31 (.tmp 5) rfl w1.heap.size rfl 31 _ (0,0) _ hT2.b5 vIns rfl sIns ?_)
          | (show wpList Try.prog _ _ (⟨none,.store _ (.tmp 2) _,_,_,_,_⟩::_) _ _; refine wpList_store_row rfl 31 (.tmp 2) (.tmp 60) rfl (w.heap.size + 1) (plainI 0).l.toArray rfl rfl 31 _ hT3.br sIns rfl (plain_one 0) ?_))
        (try simp only [Exit.inBlock,Exit.then])
        refine bodyPost_ret (by simp [results,Try.results70,go_sem,f0,f1,f2,f3,f4,f5,f6,f7,f8,f9,f10,f11,f12,f13,f14]; try rfl) rfl ?_
        refine ⟨BareT.no (o:=plainI 0) HX.out rfl,?_⟩
        have hb:=hT3.below
        exact below_setRow hb (Nat.le_add_right _ _) _
      · have hR:=setRow_heap _ _ _ (plainI 8).l.toArray _ _ hT2.br
        obtain ⟨f0,f1,f2,f3,f4,f5,f6,f7,f8,f9,f10,f11,f12,f13,f14⟩:=Ins.cells (i:=plainI 8) hR
        simp only at f0 f1 f2 f3 f4 f5 f6 f7 f8 f9 f10 f11 f12 f13 f14
        have HX:Hid (Ins.mk 8 op dst a b (j:Int) text r0 r1 r2 r3 r4 r5 to_ els=Ins.mask ⟨8,op,dst,a,b,(j:Int),text,r0,r1,r2,r3,r4,r5,to_,els⟩):=Lib.hid (HM2.out.2 (of_decide_eq_true HBE.out.symm))
        go_wp2_with (first
          | (show wpList Try.prog _ _ (⟨some 56,_,_,_,_,_⟩::_) _ _; refine wpList_load_row rfl 31 (.tmp 1) rfl w.heap.size rfl 31 _ (0,0) _ hT2.bi vIns rfl sIns ?_)
          | (show wpList Try.prog _ _ (⟨some 60,_,_,_,_,_⟩::_) _ _; refine wpList_load_row rfl 31 (.tmp 5) rfl w1.heap.size rfl 31 _ (0,0) _ hT2.b5 vIns rfl sIns ?_)
          | (show wpList Try.prog _ _ (⟨some 57,_,_,_,_,_⟩::_) _ _; refine wpList_load_row rfl 31 (.tmp 5) rfl w1.heap.size rfl 31 _ (0,0) _ hT2.b5 vIns rfl sIns ?_)
          | (show wpList Try.prog _ _ (⟨none,.store _ (.tmp 2) _,_,_,_,_⟩::_) _ _; refine wpList_store_row rfl 31 (.tmp 2) (.tmp 60) rfl (w.heap.size + 1) (plainI 8).l.toArray rfl rfl 31 _ hT2.br sIns rfl (plain_one 8) ?_))
        (try simp only [Exit.inBlock,Exit.then])
        refine bodyPost_ret (by simp [results,Try.results70,go_sem,f0,f1,f2,f3,f4,f5,f6,f7,f8,f9,f10,f11,f12,f13,f14]; try rfl) rfl ?_
        refine ⟨BareT.yes (o:=plainI 8) HX.out rfl,?_⟩
        have hb:=hT2.below
        exact below_setRow hb (Nat.le_add_right _ _) _
end Go.Proofs.Ythbcdckonaljiaa
namespace Go.Proofs.Ythbcdckonaljiaa
open Go.RowKit Go.BigFrame
set_option maxRecDepth 1000000 in
set_option maxHeartbeats 8000000 in
theorem bare_8g (op dst a b:Int) (n:Int) (hn:6 < n) (text:ByteArray) (r0 r1 r2 r3 r4 r5 to_ els:Int) (w:World):Calls Try.prog 70 #[Ins.agg ⟨8,op,dst,a,b,n,text,r0,r1,r2,r3,r4,r5,to_,els⟩] w fun e w'=>BareT ⟨8,op,dst,a,b,n,text,r0,r1,r2,r3,r4,r5,to_,els⟩ e∧Below w.heap.size w w':=by
  have b0:=heap_alloc_new w (Ins.obj ⟨8,op,dst,a,b,n,text,r0,r1,r2,r3,r4,r5,to_,els⟩)
  have b1:=heap_alloc_new (w.alloc (Ins.obj ⟨8,op,dst,a,b,n,text,r0,r1,r2,r3,r4,r5,to_,els⟩)) zeroObj
  rw [show (w.alloc (Ins.obj ⟨8,op,dst,a,b,n,text,r0,r1,r2,r3,r4,r5,to_,els⟩)).heap.size=w.heap.size + 1 by simp] at b1
  have hB0:Below w.heap.size w ((w.alloc (Ins.obj ⟨8,op,dst,a,b,n,text,r0,r1,r2,r3,r4,r5,to_,els⟩)).alloc zeroObj):=(Below.one w _).alloc (by simp) _
  have b0:=alloc_keeps b0 zeroObj
  obtain ⟨W,hW⟩:∃ W,(w.alloc (Ins.obj ⟨8,op,dst,a,b,n,text,r0,r1,r2,r3,r4,r5,to_,els⟩)).alloc zeroObj=W:=⟨_,rfl⟩
  have hs2:W.heap.size=w.heap.size + 2:=by rw [← hW]; simp
  rw [hW] at b0 b1 hB0
  have x0:=cell_of_heap b0 0 (.int .i64 8) rfl
  simp only [Ins.obj,zeroObj,Ins.agg] at hW ⊢
  have hus:=fun w=>uses_any 8 w
  have hst:=fun w=>sets_any 8 w
  rw [show kA 8=false from rfl] at hus
  rw [show kB 8=false from rfl] at hus
  rw [show kS 8=true from rfl] at hst
  have hpl:=fun w=>Plain_any 8 w
  have hm:(Ins.mk 8 op dst a b n text r0 r1 r2 r3 r4 r5 to_ els=Ins.mask ⟨8,op,dst,a,b,n,text,r0,r1,r2,r3,r4,r5,to_,els⟩)↔({ clrA ⟨8,op,-1,a,b,n,text,r0,r1,r2,r3,r4,r5,to_,els⟩ ((6:Nat):Int) with n:=0,text:=⟨#[]⟩ }=plainI 8):=by
    have hj0:(0 < n)=True:=by simp; omega
    have hj1:(1 < n)=True:=by simp; omega
    have hj2:(2 < n)=True:=by simp; omega
    have hj3:(3 < n)=True:=by simp; omega
    have hj4:(4 < n)=True:=by simp; omega
    have hj5:(5 < n)=True:=by simp; omega
    simp [Ins.mask,clrA,kA,kB,kS,hj0,hj1,hj2,hj3,hj4,hj5]
  have HMM:=Lib.hid hm
  clear hm
  simp only [Ins.agg] at hpl
  have q1:((0:Int) > n)=False:=by simp; try omega
  have q2:(n < 0)=False:=by simp; try omega
  have q3:((6:Int) < n)=True:=by simp; try omega
  have HN:=Lib.hid hn
  clear hn
  go_enter Try.func70,Try.ntmps70
  go_wp2_with (first
    | (go_at_call 84; refine (hus _).mono ?_; rintro e w5 ⟨rfl,hw5⟩; subst hw5)
    | (go_at_call 53; refine (hst _).mono ?_; rintro e w5 ⟨rfl,hw5⟩; subst hw5)
    | (go_at_call 7; refine (hpl _).mono ?_; rintro e w1 ⟨rfl,hb1⟩; have hT0:BSt w (w1.alloc (Ins.obj (plainI 8))) ⟨8,op,dst,a,b,n,text,r0,r1,r2,r3,r4,r5,to_,els⟩ (plainI 8) w1.heap.size:=⟨alloc_keeps ((hb1.block _ (Array.getElem?_eq_some_iff.1 b0).1).trans b0) _,alloc_keeps ((hb1.block _ (Array.getElem?_eq_some_iff.1 b1).1).trans b1) _,heap_alloc_new _ _,(hB0.trans (hb1.mono hB0.size)).alloc ((hB0.trans (hb1.mono hB0.size)).size) _,by have:=hb1.size; omega⟩; simp only [Ins.obj] at hT0; have ck0:=cell_of_heap hT0.bi 0 (.int .i64 8) rfl; have cs0:=cell_of_heap hT0.bi 2 (.int .i64 dst) rfl; have cf0:=free15 hT0.bi 2; have hT1:=hT0.store (i':=⟨8,op,-1,a,b,n,text,r0,r1,r2,r3,r4,r5,to_,els⟩) 2 (.int .i64 (-1)) rfl; have ck1:=cell_of_heap hT1.bi 0 (.int .i64 8) rfl; have cn1:=cell_of_heap hT1.bi 5 (.int .i64 n) rfl))
  have hF0:BSt w _ (clrA ⟨8,op,-1,a,b,n,text,r0,r1,r2,r3,r4,r5,to_,els⟩ ((0:Nat):Int)) (plainI 8) w1.heap.size:=hT1
  clear hT0 hT1 ck0 cs0 cf0 ck1 cn1 hst hpl hus x0 b0 b1 hB0 hs2 hW
  go_loopw [40] (fun ix w8=>∃ m:Nat,m≤6∧ix = .int .i64 m∧BSt w w8 (clrA ⟨8,op,-1,a,b,n,text,r0,r1,r2,r3,r4,r5,to_,els⟩ (m:Int)) (plainI 8) w1.heap.size) (fun ix _=>6 - (intOf ix).toNat)
  case atStart=>exact ⟨0,by omega,rfl,hF0⟩
  case round =>
    obtain ⟨j,hj,rfl,hF⟩:=hrel
    by_cases hlt:j < 6
    · have hj6:j=0∨j=1∨j=2∨j=3∨j=4∨j=5:=by have:=HN.out; omega
      rcases hj6 with rfl | rfl | rfl | rfl | rfl | rfl
      · have ca:=cell_of_heap hF.bi 7 (.int .i64 r0) rfl
        have cf:=free15 hF.bi 7
        have hF2:=hF.store (i':=clrA ⟨8,op,-1,a,b,n,text,r0,r1,r2,r3,r4,r5,to_,els⟩ ((1:Nat):Int)) 7 (.int .i64 0) rfl
        go_wp2
        exact ⟨⟨1,by omega,by simp,hF2⟩,by simp [intOf]⟩
      · have ca:=cell_of_heap hF.bi 8 (.int .i64 r1) rfl
        have cf:=free15 hF.bi 8
        have hF2:=hF.store (i':=clrA ⟨8,op,-1,a,b,n,text,r0,r1,r2,r3,r4,r5,to_,els⟩ ((2:Nat):Int)) 8 (.int .i64 0) rfl
        go_wp2
        exact ⟨⟨2,by omega,by simp,hF2⟩,by simp [intOf]⟩
      · have ca:=cell_of_heap hF.bi 9 (.int .i64 r2) rfl
        have cf:=free15 hF.bi 9
        have hF2:=hF.store (i':=clrA ⟨8,op,-1,a,b,n,text,r0,r1,r2,r3,r4,r5,to_,els⟩ ((3:Nat):Int)) 9 (.int .i64 0) rfl
        go_wp2
        exact ⟨⟨3,by omega,by simp,hF2⟩,by simp [intOf]⟩
      · have ca:=cell_of_heap hF.bi 10 (.int .i64 r3) rfl
        have cf:=free15 hF.bi 10
        have hF2:=hF.store (i':=clrA ⟨8,op,-1,a,b,n,text,r0,r1,r2,r3,r4,r5,to_,els⟩ ((4:Nat):Int)) 10 (.int .i64 0) rfl
        go_wp2
        exact ⟨⟨4,by omega,by simp,hF2⟩,by simp [intOf]⟩
      · have ca:=cell_of_heap hF.bi 11 (.int .i64 r4) rfl
        have cf:=free15 hF.bi 11
        have hF2:=hF.store (i':=clrA ⟨8,op,-1,a,b,n,text,r0,r1,r2,r3,r4,r5,to_,els⟩ ((5:Nat):Int)) 11 (.int .i64 0) rfl
        go_wp2
        exact ⟨⟨5,by omega,by simp,hF2⟩,by simp [intOf]⟩
      · have ca:=cell_of_heap hF.bi 12 (.int .i64 r5) rfl
        have cf:=free15 hF.bi 12
        have hF2:=hF.store (i':=clrA ⟨8,op,-1,a,b,n,text,r0,r1,r2,r3,r4,r5,to_,els⟩ ((6:Nat):Int)) 12 (.int .i64 0) rfl
        go_wp2
        exact ⟨⟨6,by omega,by simp,hF2⟩,by simp [intOf]⟩
    · obtain rfl:j=6:=by omega
      have hM:=HMM.out
      have c5:(clrA ⟨8,op,-1,a,b,n,text,r0,r1,r2,r3,r4,r5,to_,els⟩ ((6:Nat):Int)).n=n:=rfl
      have c6:(clrA ⟨8,op,-1,a,b,n,text,r0,r1,r2,r3,r4,r5,to_,els⟩ ((6:Nat):Int)).text=text:=rfl
      generalize clrA ⟨8,op,-1,a,b,n,text,r0,r1,r2,r3,r4,r5,to_,els⟩ ((6:Nat):Int)=o at hF hM c5 c6
      obtain ⟨o0,o1,o2,o3,o4,o5,o6,o7,o8,o9,o10,o11,o12,o13,o14⟩:=o
      simp only at hM c5 c6
      have HM2:=Lib.hid hM
      clear hM c5 c6
      have cf5:=free15 hF.bi 5
      have cx5:=cell_of_heap hF.bi 5 (.int .i64 o5) rfl
      have hT1:=hF.store (i':=⟨o0,o1,o2,o3,o4,0,o6,o7,o8,o9,o10,o11,o12,o13,o14⟩) 5 (.int .i64 0) rfl
      have cf6:=free15 hT1.bi 6
      have cx6:=cell_of_heap hT1.bi 6 (.string o6) rfl
      have hT2:=hT1.store (i':=⟨o0,o1,o2,o3,o4,0,⟨#[]⟩,o7,o8,o9,o10,o11,o12,o13,o14⟩) 6 (.string ⟨#[]⟩) rfl
      have hneq:=fun w=>neq_ins ⟨o0,o1,o2,o3,o4,0,⟨#[]⟩,o7,o8,o9,o10,o11,o12,o13,o14⟩ (plainI 8) w
      obtain ⟨be,hbe⟩:∃ be,be=decide (Ins.mk o0 o1 o2 o3 o4 0 ⟨#[]⟩ o7 o8 o9 o10 o11 o12 o13 o14=plainI 8):=⟨_,rfl⟩
      rw [← hbe] at hneq
      have HBE:=Lib.hid hbe
      clear hbe
      simp only [Ins.agg] at hneq
      have y0:=cell_of_heap hT2.b5 0 (.int .i64 8) rfl
      have yf:=free15 hT2.b5 0
      have hT3:=hT2.store5 (o':=plainI 0) 0 (.int .i64 0) rfl
      cases be
      · have hR:=setRow_heap _ _ _ (plainI 0).l.toArray _ _ hT3.br
        obtain ⟨f0,f1,f2,f3,f4,f5,f6,f7,f8,f9,f10,f11,f12,f13,f14⟩:=Ins.cells (i:=plainI 0) hR
        simp only at f0 f1 f2 f3 f4 f5 f6 f7 f8 f9 f10 f11 f12 f13 f14
        have HX:Hid (¬ Ins.mk 8 op dst a b n text r0 r1 r2 r3 r4 r5 to_ els=Ins.mask ⟨8,op,dst,a,b,n,text,r0,r1,r2,r3,r4,r5,to_,els⟩):=Lib.hid (fun h=>of_decide_eq_false HBE.out.symm (HM2.out.1 h))
        go_wp2_with (first
          | (show wpList Try.prog _ _ (⟨some 56,_,_,_,_,_⟩::_) _ _; refine wpList_load_row rfl 31 (.tmp 1) rfl w.heap.size rfl 31 _ (0,0) _ hT2.bi vIns rfl sIns ?_)
          | (show wpList Try.prog _ _ (⟨some 60,_,_,_,_,_⟩::_) _ _; refine wpList_load_row rfl 31 (.tmp 5) rfl w1.heap.size rfl 31 _ (0,0) _ hT3.b5 vIns rfl sIns ?_)
          | (show wpList Try.prog _ _ (⟨some 57,_,_,_,_,_⟩::_) _ _; refine wpList_load_row rfl 31 (.tmp 5) rfl w1.heap.size rfl 31 _ (0,0) _ hT2.b5 vIns rfl sIns ?_)
          | (show wpList Try.prog _ _ (⟨none,.store _ (.tmp 2) _,_,_,_,_⟩::_) _ _; refine wpList_store_row rfl 31 (.tmp 2) (.tmp 60) rfl (w.heap.size + 1) (plainI 0).l.toArray rfl rfl 31 _ hT3.br sIns rfl (plain_one 0) ?_))
        (try simp only [Exit.inBlock,Exit.then])
        refine bodyPost_ret (by simp [results,Try.results70,go_sem,f0,f1,f2,f3,f4,f5,f6,f7,f8,f9,f10,f11,f12,f13,f14]; try rfl) rfl ?_
        refine ⟨BareT.no (o:=plainI 0) HX.out rfl,?_⟩
        have hb:=hT3.below
        exact below_setRow hb (Nat.le_add_right _ _) _
      · have hR:=setRow_heap _ _ _ (plainI 8).l.toArray _ _ hT2.br
        obtain ⟨f0,f1,f2,f3,f4,f5,f6,f7,f8,f9,f10,f11,f12,f13,f14⟩:=Ins.cells (i:=plainI 8) hR
        simp only at f0 f1 f2 f3 f4 f5 f6 f7 f8 f9 f10 f11 f12 f13 f14
        have HX:Hid (Ins.mk 8 op dst a b n text r0 r1 r2 r3 r4 r5 to_ els=Ins.mask ⟨8,op,dst,a,b,n,text,r0,r1,r2,r3,r4,r5,to_,els⟩):=Lib.hid (HM2.out.2 (of_decide_eq_true HBE.out.symm))
        go_wp2_with (first
          | (show wpList Try.prog _ _ (⟨some 56,_,_,_,_,_⟩::_) _ _; refine wpList_load_row rfl 31 (.tmp 1) rfl w.heap.size rfl 31 _ (0,0) _ hT2.bi vIns rfl sIns ?_)
          | (show wpList Try.prog _ _ (⟨some 60,_,_,_,_,_⟩::_) _ _; refine wpList_load_row rfl 31 (.tmp 5) rfl w1.heap.size rfl 31 _ (0,0) _ hT2.b5 vIns rfl sIns ?_)
          | (show wpList Try.prog _ _ (⟨some 57,_,_,_,_,_⟩::_) _ _; refine wpList_load_row rfl 31 (.tmp 5) rfl w1.heap.size rfl 31 _ (0,0) _ hT2.b5 vIns rfl sIns ?_)
          | (show wpList Try.prog _ _ (⟨none,.store _ (.tmp 2) _,_,_,_,_⟩::_) _ _; refine wpList_store_row rfl 31 (.tmp 2) (.tmp 60) rfl (w.heap.size + 1) (plainI 8).l.toArray rfl rfl 31 _ hT2.br sIns rfl (plain_one 8) ?_))
        (try simp only [Exit.inBlock,Exit.then])
        refine bodyPost_ret (by simp [results,Try.results70,go_sem,f0,f1,f2,f3,f4,f5,f6,f7,f8,f9,f10,f11,f12,f13,f14]; try rfl) rfl ?_
        refine ⟨BareT.yes (o:=plainI 8) HX.out rfl,?_⟩
        have hb:=hT2.below
        exact below_setRow hb (Nat.le_add_right _ _) _
end Go.Proofs.Ythbcdckonaljiaa

