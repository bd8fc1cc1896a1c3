import Derived.Test.YtkcclefonmnpnaaZc
namespace Go.Proofs.Ytkcclefonmnpnaa
open Go.RowKit Go.BigFrame
set_option maxRecDepth 1000000 in
set_option maxHeartbeats 8000000 in
theorem bare_4n (op dst a b n:Int)(text:ByteArray)(r0 r1 r2 r3 r4 r5 to_ els:Int)(w:World)(hx:¬ Ins.mk 4 op dst a b n text r0 r1 r2 r3 r4 r5 to_ els=Ins.mask ⟨4,op,dst,a,b,n,text,r0,r1,r2,r3,r4,r5,to_,els⟩):Calls Try.prog 97 #[Ins.agg ⟨4,op,dst,a,b,n,text,r0,r1,r2,r3,r4,r5,to_,els⟩] w fun e w'=>BareT ⟨4,op,dst,a,b,n,text,r0,r1,r2,r3,r4,r5,to_,els⟩ e∧Below w.heap.size w w':=by
  have b0:=heap_alloc_new w (Ins.obj ⟨4,op,dst,a,b,n,text,r0,r1,r2,r3,r4,r5,to_,els⟩)
  have b1:=heap_alloc_new (w.alloc (Ins.obj ⟨4,op,dst,a,b,n,text,r0,r1,r2,r3,r4,r5,to_,els⟩)) zeroObj
  rw [show (w.alloc (Ins.obj ⟨4,op,dst,a,b,n,text,r0,r1,r2,r3,r4,r5,to_,els⟩)).heap.size=w.heap.size + 1 by simp] at b1
  have hB0:Below w.heap.size w ((w.alloc (Ins.obj ⟨4,op,dst,a,b,n,text,r0,r1,r2,r3,r4,r5,to_,els⟩)).alloc zeroObj):=(Below.one w _).alloc (by simp) _
  have b0:=alloc_keeps b0 zeroObj
  obtain ⟨W,hW⟩:∃ W,(w.alloc (Ins.obj ⟨4,op,dst,a,b,n,text,r0,r1,r2,r3,r4,r5,to_,els⟩)).alloc zeroObj=W:=⟨_,rfl⟩
  have hs2:W.heap.size=w.heap.size + 2:=by rw [← hW]; simp
  rw [hW] at b0 b1 hB0
  have x0:=cell_of_heap b0 0 (.int .i64 4) rfl
  simp only [Ins.obj,zeroObj,Ins.agg] at hW ⊢
  have hus:=fun w=>uses_any 4 w
  have hst:=fun w=>sets_any 4 w
  rw [show kA 4=true from rfl] at hus
  rw [show kB 4=false from rfl] at hus
  rw [show kS 4=true from rfl] at hst
  have hpl:=fun w=>Plain_any 4 w
  have hm:(Ins.mk 4 op dst a b n text r0 r1 r2 r3 r4 r5 to_ els=Ins.mask ⟨4,op,dst,a,b,n,text,r0,r1,r2,r3,r4,r5,to_,els⟩)↔(Ins.mk 4 op (-1) 0 b n text r0 r1 r2 r3 r4 r5 to_ els=⟨4,0,-1,0,0,0,⟨#[]⟩,0,0,0,0,0,0,0,-1⟩):=by simp [Ins.mask,kA,kB,kS,eq_comm]
  obtain ⟨be,hbe⟩:∃ be,be=decide (Ins.mk 4 op (-1) 0 b n text r0 r1 r2 r3 r4 r5 to_ els=⟨4,0,-1,0,0,0,⟨#[]⟩,0,0,0,0,0,0,0,-1⟩):=⟨_,rfl⟩
  have hneq:=fun w=>neq_ins ⟨4,op,-1,0,b,n,text,r0,r1,r2,r3,r4,r5,to_,els⟩ ⟨4,0,-1,0,0,0,⟨#[]⟩,0,0,0,0,0,0,0,-1⟩ w
  rw [← hbe] at hneq
  have HBE:=Lib.hid hbe
  have HMM:=Lib.hid hm
  clear hbe hm
  simp only [Ins.agg] at hneq hpl
  have hbv:be=false:=by
    rw [HBE.out]
    exact decide_eq_false (fun h=>hx (HMM.out.2 h))
  subst hbv
  have HX:=Lib.hid hx
  clear hx
  · go_enter Try.func97,Try.ntmps97
    go_wp2_with (first
      | (go_at_call 101; refine (hus _).mono ?_; rintro e w5 ⟨rfl,hw5⟩; subst hw5)
      | (go_at_call 83; refine (hst _).mono ?_; rintro e w5 ⟨rfl,hw5⟩; subst hw5)
      | (show wpList Try.prog _ _ (⟨some 56,_,_,_,_,_⟩::_) _ _; refine wpList_load_row rfl 32 (.tmp 1) rfl w.heap.size rfl 32 _ (0,0) _ hT2.bi vIns rfl sIns ?_)
      | (show wpList Try.prog _ _ (⟨some 60,_,_,_,_,_⟩::_) _ _; refine wpList_load_row rfl 32 (.tmp 5) rfl w1.heap.size rfl 32 _ (0,0) _ hT3.b5 vIns rfl sIns ?_)
      | (show wpList Try.prog _ _ (⟨some 57,_,_,_,_,_⟩::_) _ _; refine wpList_load_row rfl 32 (.tmp 5) rfl w1.heap.size rfl 32 _ (0,0) _ hT2.b5 vIns rfl sIns ?_)
      | (show wpList Try.prog _ _ (⟨none,.store _ (.tmp 2) _,_,_,_,_⟩::_) _ _; refine wpList_store_row rfl 32 (.tmp 2) (.tmp 60) rfl (w.heap.size + 1) (plainI 0).l.toArray rfl rfl 32 _ hT3.br sIns rfl (plain_one 0) ?_)
      | (go_at_call 45; refine (hpl _).mono ?_; rintro e w1 ⟨rfl,hb1⟩; have hT0:BSt w (w1.alloc (Ins.obj ⟨4,0,-1,0,0,0,⟨#[]⟩,0,0,0,0,0,0,0,-1⟩)) ⟨4,op,dst,a,b,n,text,r0,r1,r2,r3,r4,r5,to_,els⟩ ⟨4,0,-1,0,0,0,⟨#[]⟩,0,0,0,0,0,0,0,-1⟩ w1.heap.size:=⟨alloc_keeps ((hb1.block _ (Array.getElem?_eq_some_iff.1 b0).1).trans b0) _,alloc_keeps ((hb1.block _ (Array.getElem?_eq_some_iff.1 b1).1).trans b1) _,heap_alloc_new _ _,(hB0.trans (hb1.mono hB0.size)).alloc ((hB0.trans (hb1.mono hB0.size)).size) _,by have:=hb1.size; omega⟩; simp only [Ins.obj] at hT0; have ck0:=cell_of_heap hT0.bi 0 (.int .i64 4) rfl; have cs0:=cell_of_heap hT0.bi 2 (.int .i64 dst) rfl; have cf0:=free15 hT0.bi 2; have hT1:=hT0.store (i':=⟨4,op,-1,a,b,n,text,r0,r1,r2,r3,r4,r5,to_,els⟩) 2 (.int .i64 (-1)) rfl; have ck1:=cell_of_heap hT1.bi 0 (.int .i64 4) rfl; have cs1:=cell_of_heap hT1.bi 3 (.int .i64 a) rfl; have cf1:=free15 hT1.bi 3; have hT2:=hT1.store (i':=⟨4,op,-1,0,b,n,text,r0,r1,r2,r3,r4,r5,to_,els⟩) 3 (.int .i64 0) rfl; have ck2:=cell_of_heap hT2.bi 0 (.int .i64 4) rfl; have y0:=cell_of_heap hT2.b5 0 (.int .i64 4) rfl; have yf:=free15 hT2.b5 0; have hT3:=hT2.store5 (o':=plainI 0) 0 (.int .i64 0) rfl; have hR:=setRow_heap _ _ _ (plainI 0).l.toArray _ _ hT3.br; obtain ⟨f0,f1,f2,f3,f4,f5,f6,f7,f8,f9,f10,f11,f12,f13,f14⟩:=Ins.cells (i:=plainI 0) hR; simp only at f0 f1 f2 f3 f4 f5 f6 f7 f8 f9 f10 f11 f12 f13 f14))
    (try simp only [Exit.inBlock,Exit.then])
    refine bodyPost_ret (by simp [results,Try.results97,go_sem,f0,f1,f2,f3,f4,f5,f6,f7,f8,f9,f10,f11,f12,f13,f14]; try rfl) rfl ?_
    refine ⟨BareT.no (o:=plainI 0) HX.out rfl,?_⟩
    have hb:=hT3.below
    exact below_setRow hb (Nat.le_add_right _ _) _
set_option maxRecDepth 1000000 in
set_option maxHeartbeats 8000000 in
theorem bare_4y (op dst a b n:Int)(text:ByteArray)(r0 r1 r2 r3 r4 r5 to_ els:Int)(w:World)(hx :  Ins.mk 4 op dst a b n text r0 r1 r2 r3 r4 r5 to_ els=Ins.mask ⟨4,op,dst,a,b,n,text,r0,r1,r2,r3,r4,r5,to_,els⟩):Calls Try.prog 97 #[Ins.agg ⟨4,op,dst,a,b,n,text,r0,r1,r2,r3,r4,r5,to_,els⟩] w fun e w'=>BareT ⟨4,op,dst,a,b,n,text,r0,r1,r2,r3,r4,r5,to_,els⟩ e∧Below w.heap.size w w':=by
  have b0:=heap_alloc_new w (Ins.obj ⟨4,op,dst,a,b,n,text,r0,r1,r2,r3,r4,r5,to_,els⟩)
  have b1:=heap_alloc_new (w.alloc (Ins.obj ⟨4,op,dst,a,b,n,text,r0,r1,r2,r3,r4,r5,to_,els⟩)) zeroObj
  rw [show (w.alloc (Ins.obj ⟨4,op,dst,a,b,n,text,r0,r1,r2,r3,r4,r5,to_,els⟩)).heap.size=w.heap.size + 1 by simp] at b1
  have hB0:Below w.heap.size w ((w.alloc (Ins.obj ⟨4,op,dst,a,b,n,text,r0,r1,r2,r3,r4,r5,to_,els⟩)).alloc zeroObj):=(Below.one w _).alloc (by simp) _
  have b0:=alloc_keeps b0 zeroObj
  obtain ⟨W,hW⟩:∃ W,(w.alloc (Ins.obj ⟨4,op,dst,a,b,n,text,r0,r1,r2,r3,r4,r5,to_,els⟩)).alloc zeroObj=W:=⟨_,rfl⟩
  have hs2:W.heap.size=w.heap.size + 2:=by rw [← hW]; simp
  rw [hW] at b0 b1 hB0
  have x0:=cell_of_heap b0 0 (.int .i64 4) rfl
  simp only [Ins.obj,zeroObj,Ins.agg] at hW ⊢
  have hus:=fun w=>uses_any 4 w
  have hst:=fun w=>sets_any 4 w
  rw [show kA 4=true from rfl] at hus
  rw [show kB 4=false from rfl] at hus
  rw [show kS 4=true from rfl] at hst
  have hpl:=fun w=>Plain_any 4 w
  have hm:(Ins.mk 4 op dst a b n text r0 r1 r2 r3 r4 r5 to_ els=Ins.mask ⟨4,op,dst,a,b,n,text,r0,r1,r2,r3,r4,r5,to_,els⟩)↔(Ins.mk 4 op (-1) 0 b n text r0 r1 r2 r3 r4 r5 to_ els=⟨4,0,-1,0,0,0,⟨#[]⟩,0,0,0,0,0,0,0,-1⟩):=by simp [Ins.mask,kA,kB,kS,eq_comm]
  obtain ⟨be,hbe⟩:∃ be,be=decide (Ins.mk 4 op (-1) 0 b n text r0 r1 r2 r3 r4 r5 to_ els=⟨4,0,-1,0,0,0,⟨#[]⟩,0,0,0,0,0,0,0,-1⟩):=⟨_,rfl⟩
  have hneq:=fun w=>neq_ins ⟨4,op,-1,0,b,n,text,r0,r1,r2,r3,r4,r5,to_,els⟩ ⟨4,0,-1,0,0,0,⟨#[]⟩,0,0,0,0,0,0,0,-1⟩ w
  rw [← hbe] at hneq
  have HBE:=Lib.hid hbe
  have HMM:=Lib.hid hm
  clear hbe hm
  simp only [Ins.agg] at hneq hpl
  have hbv:be=true:=by
    rw [HBE.out]
    exact decide_eq_true (HMM.out.1 hx)
  subst hbv
  have HX:=Lib.hid hx
  clear hx
  · go_enter Try.func97,Try.ntmps97
    go_wp2_with (first
      | (go_at_call 101; refine (hus _).mono ?_; rintro e w5 ⟨rfl,hw5⟩; subst hw5)
      | (go_at_call 83; refine (hst _).mono ?_; rintro e w5 ⟨rfl,hw5⟩; subst hw5)
      | (show wpList Try.prog _ _ (⟨some 56,_,_,_,_,_⟩::_) _ _; refine wpList_load_row rfl 32 (.tmp 1) rfl w.heap.size rfl 32 _ (0,0) _ hT2.bi vIns rfl sIns ?_)
      | (show wpList Try.prog _ _ (⟨some 60,_,_,_,_,_⟩::_) _ _; refine wpList_load_row rfl 32 (.tmp 5) rfl w1.heap.size rfl 32 _ (0,0) _ hT2.b5 vIns rfl sIns ?_)
      | (show wpList Try.prog _ _ (⟨some 57,_,_,_,_,_⟩::_) _ _; refine wpList_load_row rfl 32 (.tmp 5) rfl w1.heap.size rfl 32 _ (0,0) _ hT2.b5 vIns rfl sIns ?_)
      | (show wpList Try.prog _ _ (⟨none,.store _ (.tmp 2) _,_,_,_,_⟩::_) _ _; refine wpList_store_row rfl 32 (.tmp 2) (.tmp 60) rfl (w.heap.size + 1) (plainI 4).l.toArray rfl rfl 32 _ hT2.br sIns rfl (plain_one 4) ?_)
      | (go_at_call 45; refine (hpl _).mono ?_; rintro e w1 ⟨rfl,hb1⟩; have hT0:BSt w (w1.alloc (Ins.obj ⟨4,0,-1,0,0,0,⟨#[]⟩,0,0,0,0,0,0,0,-1⟩)) ⟨4,op,dst,a,b,n,text,r0,r1,r2,r3,r4,r5,to_,els⟩ ⟨4,0,-1,0,0,0,⟨#[]⟩,0,0,0,0,0,0,0,-1⟩ w1.heap.size:=⟨alloc_keeps ((hb1.block _ (Array.getElem?_eq_some_iff.1 b0).1).trans b0) _,alloc_keeps ((hb1.block _ (Array.getElem?_eq_some_iff.1 b1).1).trans b1) _,heap_alloc_new _ _,(hB0.trans (hb1.mono hB0.size)).alloc ((hB0.trans (hb1.mono hB0.size)).size) _,by have:=hb1.size; omega⟩; simp only [Ins.obj] at hT0; have ck0:=cell_of_heap hT0.bi 0 (.int .i64 4) rfl; have cs0:=cell_of_heap hT0.bi 2 (.int .i64 dst) rfl; have cf0:=free15 hT0.bi 2; have hT1:=hT0.store (i':=⟨4,op,-1,a,b,n,text,r0,r1,r2,r3,r4,r5,to_,els⟩) 2 (.int .i64 (-1)) rfl; have ck1:=cell_of_heap hT1.bi 0 (.int .i64 4) rfl; have cs1:=cell_of_heap hT1.bi 3 (.int .i64 a) rfl; have cf1:=free15 hT1.bi 3; have hT2:=hT1.store (i':=⟨4,op,-1,0,b,n,text,r0,r1,r2,r3,r4,r5,to_,els⟩) 3 (.int .i64 0) rfl; have ck2:=cell_of_heap hT2.bi 0 (.int .i64 4) rfl; have hR:=setRow_heap _ _ _ (plainI 4).l.toArray _ _ hT2.br; obtain ⟨f0,f1,f2,f3,f4,f5,f6,f7,f8,f9,f10,f11,f12,f13,f14⟩:=Ins.cells (i:=plainI 4) hR; simp only at f0 f1 f2 f3 f4 f5 f6 f7 f8 f9 f10 f11 f12 f13 f14))
    (try simp only [Exit.inBlock,Exit.then])
    refine bodyPost_ret (by simp [results,Try.results97,go_sem,f0,f1,f2,f3,f4,f5,f6,f7,f8,f9,f10,f11,f12,f13,f14]; try rfl) rfl ?_
    refine ⟨BareT.yes (o:=plainI 4) HX.out rfl,?_⟩
    have hb:=hT2.below
    exact below_setRow hb (Nat.le_add_right _ _) _
set_option maxRecDepth 1000000 in
set_option maxHeartbeats 8000000 in
theorem bare_6n (op dst a b n:Int)(text:ByteArray)(r0 r1 r2 r3 r4 r5 to_ els:Int)(w:World)(hx:¬ Ins.mk 6 op dst a b n text r0 r1 r2 r3 r4 r5 to_ els=Ins.mask ⟨6,op,dst,a,b,n,text,r0,r1,r2,r3,r4,r5,to_,els⟩):Calls Try.prog 97 #[Ins.agg ⟨6,op,dst,a,b,n,text,r0,r1,r2,r3,r4,r5,to_,els⟩] w fun e w'=>BareT ⟨6,op,dst,a,b,n,text,r0,r1,r2,r3,r4,r5,to_,els⟩ e∧Below w.heap.size w w':=by
  have b0:=heap_alloc_new w (Ins.obj ⟨6,op,dst,a,b,n,text,r0,r1,r2,r3,r4,r5,to_,els⟩)
  have b1:=heap_alloc_new (w.alloc (Ins.obj ⟨6,op,dst,a,b,n,text,r0,r1,r2,r3,r4,r5,to_,els⟩)) zeroObj
  rw [show (w.alloc (Ins.obj ⟨6,op,dst,a,b,n,text,r0,r1,r2,r3,r4,r5,to_,els⟩)).heap.size=w.heap.size + 1 by simp] at b1
  have hB0:Below w.heap.size w ((w.alloc (Ins.obj ⟨6,op,dst,a,b,n,text,r0,r1,r2,r3,r4,r5,to_,els⟩)).alloc zeroObj):=(Below.one w _).alloc (by simp) _
  have b0:=alloc_keeps b0 zeroObj
  obtain ⟨W,hW⟩:∃ W,(w.alloc (Ins.obj ⟨6,op,dst,a,b,n,text,r0,r1,r2,r3,r4,r5,to_,els⟩)).alloc zeroObj=W:=⟨_,rfl⟩
  have hs2:W.heap.size=w.heap.size + 2:=by rw [← hW]; simp
  rw [hW] at b0 b1 hB0
  have x0:=cell_of_heap b0 0 (.int .i64 6) rfl
  simp only [Ins.obj,zeroObj,Ins.agg] at hW ⊢
  have hus:=fun w=>uses_any 6 w
  have hst:=fun w=>sets_any 6 w
  rw [show kA 6=true from rfl] at hus
  rw [show kB 6=false from rfl] at hus
  rw [show kS 6=true from rfl] at hst
  have hpl:=fun w=>Plain_any 6 w
  have hm:(Ins.mk 6 op dst a b n text r0 r1 r2 r3 r4 r5 to_ els=Ins.mask ⟨6,op,dst,a,b,n,text,r0,r1,r2,r3,r4,r5,to_,els⟩)↔(Ins.mk 6 op (-1) 0 b n text r0 r1 r2 r3 r4 r5 to_ els=⟨6,0,-1,0,0,0,⟨#[]⟩,0,0,0,0,0,0,0,-1⟩):=by simp [Ins.mask,kA,kB,kS,eq_comm]
  obtain ⟨be,hbe⟩:∃ be,be=decide (Ins.mk 6 op (-1) 0 b n text r0 r1 r2 r3 r4 r5 to_ els=⟨6,0,-1,0,0,0,⟨#[]⟩,0,0,0,0,0,0,0,-1⟩):=⟨_,rfl⟩
  have hneq:=fun w=>neq_ins ⟨6,op,-1,0,b,n,text,r0,r1,r2,r3,r4,r5,to_,els⟩ ⟨6,0,-1,0,0,0,⟨#[]⟩,0,0,0,0,0,0,0,-1⟩ w
  rw [← hbe] at hneq
  have HBE:=Lib.hid hbe
  have HMM:=Lib.hid hm
  clear hbe hm
  simp only [Ins.agg] at hneq hpl
  have hbv:be=false:=by
    rw [HBE.out]
    exact decide_eq_false (fun h=>hx (HMM.out.2 h))
  subst hbv
  have HX:=Lib.hid hx
  clear hx
  · go_enter Try.func97,Try.ntmps97
    go_wp2_with (first
      | (go_at_call 101; refine (hus _).mono ?_; rintro e w5 ⟨rfl,hw5⟩; subst hw5)
      | (go_at_call 83; refine (hst _).mono ?_; rintro e w5 ⟨rfl,hw5⟩; subst hw5)
      | (show wpList Try.prog _ _ (⟨some 56,_,_,_,_,_⟩::_) _ _; refine wpList_load_row rfl 32 (.tmp 1) rfl w.heap.size rfl 32 _ (0,0) _ hT2.bi vIns rfl sIns ?_)
      | (show wpList Try.prog _ _ (⟨some 60,_,_,_,_,_⟩::_) _ _; refine wpList_load_row rfl 32 (.tmp 5) rfl w1.heap.size rfl 32 _ (0,0) _ hT3.b5 vIns rfl sIns ?_)
      | (show wpList Try.prog _ _ (⟨some 57,_,_,_,_,_⟩::_) _ _; refine wpList_load_row rfl 32 (.tmp 5) rfl w1.heap.size rfl 32 _ (0,0) _ hT2.b5 vIns rfl sIns ?_)
      | (show wpList Try.prog _ _ (⟨none,.store _ (.tmp 2) _,_,_,_,_⟩::_) _ _; refine wpList_store_row rfl 32 (.tmp 2) (.tmp 60) rfl (w.heap.size + 1) (plainI 0).l.toArray rfl rfl 32 _ hT3.br sIns rfl (plain_one 0) ?_)
      | (go_at_call 45; refine (hpl _).mono ?_; rintro e w1 ⟨rfl,hb1⟩; have hT0:BSt w (w1.alloc (Ins.obj ⟨6,0,-1,0,0,0,⟨#[]⟩,0,0,0,0,0,0,0,-1⟩)) ⟨6,op,dst,a,b,n,text,r0,r1,r2,r3,r4,r5,to_,els⟩ ⟨6,0,-1,0,0,0,⟨#[]⟩,0,0,0,0,0,0,0,-1⟩ w1.heap.size:=⟨alloc_keeps ((hb1.block _ (Array.getElem?_eq_some_iff.1 b0).1).trans b0) _,alloc_keeps ((hb1.block _ (Array.getElem?_eq_some_iff.1 b1).1).trans b1) _,heap_alloc_new _ _,(hB0.trans (hb1.mono hB0.size)).alloc ((hB0.trans (hb1.mono hB0.size)).size) _,by have:=hb1.size; omega⟩; simp only [Ins.obj] at hT0; have ck0:=cell_of_heap hT0.bi 0 (.int .i64 6) rfl; have cs0:=cell_of_heap hT0.bi 2 (.int .i64 dst) rfl; have cf0:=free15 hT0.bi 2; have hT1:=hT0.store (i':=⟨6,op,-1,a,b,n,text,r0,r1,r2,r3,r4,r5,to_,els⟩) 2 (.int .i64 (-1)) rfl; have ck1:=cell_of_heap hT1.bi 0 (.int .i64 6) rfl; have cs1:=cell_of_heap hT1.bi 3 (.int .i64 a) rfl; have cf1:=free15 hT1.bi 3; have hT2:=hT1.store (i':=⟨6,op,-1,0,b,n,text,r0,r1,r2,r3,r4,r5,to_,els⟩) 3 (.int .i64 0) rfl; have ck2:=cell_of_heap hT2.bi 0 (.int .i64 6) rfl; have y0:=cell_of_heap hT2.b5 0 (.int .i64 6) rfl; have yf:=free15 hT2.b5 0; have hT3:=hT2.store5 (o':=plainI 0) 0 (.int .i64 0) rfl; have hR:=setRow_heap _ _ _ (plainI 0).l.toArray _ _ hT3.br; obtain ⟨f0,f1,f2,f3,f4,f5,f6,f7,f8,f9,f10,f11,f12,f13,f14⟩:=Ins.cells (i:=plainI 0) hR; simp only at f0 f1 f2 f3 f4 f5 f6 f7 f8 f9 f10 f11 f12 f13 f14))
    (try simp only [Exit.inBlock,Exit.then])
    refine bodyPost_ret (by simp [results,Try.results97,go_sem,f0,f1,f2,f3,f4,f5,f6,f7,f8,f9,f10,f11,f12,f13,f14]; try rfl) rfl ?_
    refine ⟨BareT.no (o:=plainI 0) HX.out rfl,?_⟩
    have hb:=hT3.below
    exact below_setRow hb (Nat.le_add_right _ _) _
set_option maxRecDepth 1000000 in
set_option maxHeartbeats 8000000 in
theorem bare_6y (op dst a b n:Int)(text:ByteArray)(r0 r1 r2 r3 r4 r5 to_ els:Int)(w:World)(hx :  Ins.mk 6 op dst a b n text r0 r1 r2 r3 r4 r5 to_ els=Ins.mask ⟨6,op,dst,a,b,n,text,r0,r1,r2,r3,r4,r5,to_,els⟩):Calls Try.prog 97 #[Ins.agg ⟨6,op,dst,a,b,n,text,r0,r1,r2,r3,r4,r5,to_,els⟩] w fun e w'=>BareT ⟨6,op,dst,a,b,n,text,r0,r1,r2,r3,r4,r5,to_,els⟩ e∧Below w.heap.size w w':=by
  have b0:=heap_alloc_new w (Ins.obj ⟨6,op,dst,a,b,n,text,r0,r1,r2,r3,r4,r5,to_,els⟩)
  have b1:=heap_alloc_new (w.alloc (Ins.obj ⟨6,op,dst,a,b,n,text,r0,r1,r2,r3,r4,r5,to_,els⟩)) zeroObj
  rw [show (w.alloc (Ins.obj ⟨6,op,dst,a,b,n,text,r0,r1,r2,r3,r4,r5,to_,els⟩)).heap.size=w.heap.size + 1 by simp] at b1
  have hB0:Below w.heap.size w ((w.alloc (Ins.obj ⟨6,op,dst,a,b,n,text,r0,r1,r2,r3,r4,r5,to_,els⟩)).alloc zeroObj):=(Below.one w _).alloc (by simp) _
  have b0:=alloc_keeps b0 zeroObj
  obtain ⟨W,hW⟩:∃ W,(w.alloc (Ins.obj ⟨6,op,dst,a,b,n,text,r0,r1,r2,r3,r4,r5,to_,els⟩)).alloc zeroObj=W:=⟨_,rfl⟩
  have hs2:W.heap.size=w.heap.size + 2:=by rw [← hW]; simp
  rw [hW] at b0 b1 hB0
  have x0:=cell_of_heap b0 0 (.int .i64 6) rfl
  simp only [Ins.obj,zeroObj,Ins.agg] at hW ⊢
  have hus:=fun w=>uses_any 6 w
  have hst:=fun w=>sets_any 6 w
  rw [show kA 6=true from rfl] at hus
  rw [show kB 6=false from rfl] at hus
  rw [show kS 6=true from rfl] at hst
  have hpl:=fun w=>Plain_any 6 w
  have hm:(Ins.mk 6 op dst a b n text r0 r1 r2 r3 r4 r5 to_ els=Ins.mask ⟨6,op,dst,a,b,n,text,r0,r1,r2,r3,r4,r5,to_,els⟩)↔(Ins.mk 6 op (-1) 0 b n text r0 r1 r2 r3 r4 r5 to_ els=⟨6,0,-1,0,0,0,⟨#[]⟩,0,0,0,0,0,0,0,-1⟩):=by simp [Ins.mask,kA,kB,kS,eq_comm]
  obtain ⟨be,hbe⟩:∃ be,be=decide (Ins.mk 6 op (-1) 0 b n text r0 r1 r2 r3 r4 r5 to_ els=⟨6,0,-1,0,0,0,⟨#[]⟩,0,0,0,0,0,0,0,-1⟩):=⟨_,rfl⟩
  have hneq:=fun w=>neq_ins ⟨6,op,-1,0,b,n,text,r0,r1,r2,r3,r4,r5,to_,els⟩ ⟨6,0,-1,0,0,0,⟨#[]⟩,0,0,0,0,0,0,0,-1⟩ w
  rw [← hbe] at hneq
  have HBE:=Lib.hid hbe
  have HMM:=Lib.hid hm
  clear hbe hm
  simp only [Ins.agg] at hneq hpl
  have hbv:be=true:=by
    rw [HBE.out]
    exact decide_eq_true (HMM.out.1 hx)
  subst hbv
  have HX:=Lib.hid hx
  clear hx
  · go_enter Try.func97,Try.ntmps97
    go_wp2_with (first
      | (go_at_call 101; refine (hus _).mono ?_; rintro e w5 ⟨rfl,hw5⟩; subst hw5)
      | (go_at_call 83; refine (hst _).mono ?_; rintro e w5 ⟨rfl,hw5⟩; subst hw5)
      | (show wpList Try.prog _ _ (⟨some 56,_,_,_,_,_⟩::_) _ _; refine wpList_load_row rfl 32 (.tmp 1) rfl w.heap.size rfl 32 _ (0,0) _ hT2.bi vIns rfl sIns ?_)
      | (show wpList Try.prog _ _ (⟨some 60,_,_,_,_,_⟩::_) _ _; refine wpList_load_row rfl 32 (.tmp 5) rfl w1.heap.size rfl 32 _ (0,0) _ hT2.b5 vIns rfl sIns ?_)
      | (show wpList Try.prog _ _ (⟨some 57,_,_,_,_,_⟩::_) _ _; refine wpList_load_row rfl 32 (.tmp 5) rfl w1.heap.size rfl 32 _ (0,0) _ hT2.b5 vIns rfl sIns ?_)
      | (show wpList Try.prog _ _ (⟨none,.store _ (.tmp 2) _,_,_,_,_⟩::_) _ _; refine wpList_store_row rfl 32 (.tmp 2) (.tmp 60) rfl (w.heap.size + 1) (plainI 6).l.toArray rfl rfl 32 _ hT2.br sIns rfl (plain_one 6) ?_)
      | (go_at_call 45; refine (hpl _).mono ?_; rintro e w1 ⟨rfl,hb1⟩; have hT0:BSt w (w1.alloc (Ins.obj ⟨6,0,-1,0,0,0,⟨#[]⟩,0,0,0,0,0,0,0,-1⟩)) ⟨6,op,dst,a,b,n,text,r0,r1,r2,r3,r4,r5,to_,els⟩ ⟨6,0,-1,0,0,0,⟨#[]⟩,0,0,0,0,0,0,0,-1⟩ w1.heap.size:=⟨alloc_keeps ((hb1.block _ (Array.getElem?_eq_some_iff.1 b0).1).trans b0) _,alloc_keeps ((hb1.block _ (Array.getElem?_eq_some_iff.1 b1).1).trans b1) _,heap_alloc_new _ _,(hB0.trans (hb1.mono hB0.size)).alloc ((hB0.trans (hb1.mono hB0.size)).size) _,by have:=hb1.size; omega⟩; simp only [Ins.obj] at hT0; have ck0:=cell_of_heap hT0.bi 0 (.int .i64 6) rfl; have cs0:=cell_of_heap hT0.bi 2 (.int .i64 dst) rfl; have cf0:=free15 hT0.bi 2; have hT1:=hT0.store (i':=⟨6,op,-1,a,b,n,text,r0,r1,r2,r3,r4,r5,to_,els⟩) 2 (.int .i64 (-1)) rfl; have ck1:=cell_of_heap hT1.bi 0 (.int .i64 6) rfl; have cs1:=cell_of_heap hT1.bi 3 (.int .i64 a) rfl; have cf1:=free15 hT1.bi 3; have hT2:=hT1.store (i':=⟨6,op,-1,0,b,n,text,r0,r1,r2,r3,r4,r5,to_,els⟩) 3 (.int .i64 0) rfl; have ck2:=cell_of_heap hT2.bi 0 (.int .i64 6) rfl; have hR:=setRow_heap _ _ _ (plainI 6).l.toArray _ _ hT2.br; obtain ⟨f0,f1,f2,f3,f4,f5,f6,f7,f8,f9,f10,f11,f12,f13,f14⟩:=Ins.cells (i:=plainI 6) hR; simp only at f0 f1 f2 f3 f4 f5 f6 f7 f8 f9 f10 f11 f12 f13 f14))
    (try simp only [Exit.inBlock,Exit.then])
    refine bodyPost_ret (by simp [results,Try.results97,go_sem,f0,f1,f2,f3,f4,f5,f6,f7,f8,f9,f10,f11,f12,f13,f14]; try rfl) rfl ?_
    refine ⟨BareT.yes (o:=plainI 6) HX.out rfl,?_⟩
    have hb:=hT2.below
    exact below_setRow hb (Nat.le_add_right _ _) _
end Go.Proofs.Ytkcclefonmnpnaa

