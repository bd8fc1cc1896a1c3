import Derived.Test.YtkcclefonmnpnaaZc
namespace Go.Proofs.Ytkcclefonmnpnaa
open Go.RowKit Go.BigFrame
set_option maxRecDepth 1000000 in
set_option maxHeartbeats 8000000 in
theorem bare_5n (op dst a b n:Int)(text:ByteArray)(r0 r1 r2 r3 r4 r5 to_ els:Int)(w:World)(hx:¬ Ins.mk 5 op dst a b n text r0 r1 r2 r3 r4 r5 to_ els=Ins.mask ⟨5,op,dst,a,b,n,text,r0,r1,r2,r3,r4,r5,to_,els⟩):Calls Try.prog 97 #[Ins.agg ⟨5,op,dst,a,b,n,text,r0,r1,r2,r3,r4,r5,to_,els⟩] w fun e w'=>BareT ⟨5,op,dst,a,b,n,text,r0,r1,r2,r3,r4,r5,to_,els⟩ e∧Below w.heap.size w w':=by
  have b0:=heap_alloc_new w (Ins.obj ⟨5,op,dst,a,b,n,text,r0,r1,r2,r3,r4,r5,to_,els⟩)
  have b1:=heap_alloc_new (w.alloc (Ins.obj ⟨5,op,dst,a,b,n,text,r0,r1,r2,r3,r4,r5,to_,els⟩)) zeroObj
  rw [show (w.alloc (Ins.obj ⟨5,op,dst,a,b,n,text,r0,r1,r2,r3,r4,r5,to_,els⟩)).heap.size=w.heap.size + 1 by simp] at b1
  have hB0:Below w.heap.size w ((w.alloc (Ins.obj ⟨5,op,dst,a,b,n,text,r0,r1,r2,r3,r4,r5,to_,els⟩)).alloc zeroObj):=(Below.one w _).alloc (by simp) _
  have b0:=alloc_keeps b0 zeroObj
  obtain ⟨W,hW⟩:∃ W,(w.alloc (Ins.obj ⟨5,op,dst,a,b,n,text,r0,r1,r2,r3,r4,r5,to_,els⟩)).alloc zeroObj=W:=⟨_,rfl⟩
  have hs2:W.heap.size=w.heap.size + 2:=by rw [← hW]; simp
  rw [hW] at b0 b1 hB0
  have x0:=cell_of_heap b0 0 (.int .i64 5) rfl
  simp only [Ins.obj,zeroObj,Ins.agg] at hW ⊢
  have hus:=fun w=>uses_any 5 w
  have hst:=fun w=>sets_any 5 w
  rw [show kA 5=false from rfl] at hus
  rw [show kB 5=false from rfl] at hus
  rw [show kS 5=true from rfl] at hst
  have hpl:=fun w=>Plain_any 5 w
  have hm:(Ins.mk 5 op dst a b n text r0 r1 r2 r3 r4 r5 to_ els=Ins.mask ⟨5,op,dst,a,b,n,text,r0,r1,r2,r3,r4,r5,to_,els⟩)↔(Ins.mk 5 op (-1) a b 0 text r0 r1 r2 r3 r4 r5 to_ els=⟨5,0,-1,0,0,0,⟨#[]⟩,0,0,0,0,0,0,0,-1⟩):=by simp [Ins.mask,kA,kB,kS,eq_comm]
  obtain ⟨be,hbe⟩:∃ be,be=decide (Ins.mk 5 op (-1) a b 0 text r0 r1 r2 r3 r4 r5 to_ els=⟨5,0,-1,0,0,0,⟨#[]⟩,0,0,0,0,0,0,0,-1⟩):=⟨_,rfl⟩
  have hneq:=fun w=>neq_ins ⟨5,op,-1,a,b,0,text,r0,r1,r2,r3,r4,r5,to_,els⟩ ⟨5,0,-1,0,0,0,⟨#[]⟩,0,0,0,0,0,0,0,-1⟩ w
  rw [← hbe] at hneq
  have HBE:=Lib.hid hbe
  have HMM:=Lib.hid hm
  clear hbe hm
  simp only [Ins.agg] at hneq hpl
  have hbv:be=false:=by
    rw [HBE.out]
    exact decide_eq_false (fun h=>hx (HMM.out.2 h))
  subst hbv
  have HX:=Lib.hid hx
  clear hx
  · go_enter Try.func97,Try.ntmps97
    go_wp2_with (first
      | (go_at_call 101; refine (hus _).mono ?_; rintro e w5 ⟨rfl,hw5⟩; subst hw5)
      | (go_at_call 83; refine (hst _).mono ?_; rintro e w5 ⟨rfl,hw5⟩; subst hw5)
      | (show wpList Try.prog _ _ (⟨some 56,_,_,_,_,_⟩::_) _ _; refine wpList_load_row rfl 32 (.tmp 1) rfl w.heap.size rfl 32 _ (0,0) _ hT2.bi vIns rfl sIns ?_)
      | (show wpList Try.prog _ _ (⟨some 60,_,_,_,_,_⟩::_) _ _; refine wpList_load_row rfl 32 (.tmp 5) rfl w1.heap.size rfl 32 _ (0,0) _ hT3.b5 vIns rfl sIns ?_)
      | (show wpList Try.prog _ _ (⟨some 57,_,_,_,_,_⟩::_) _ _; refine wpList_load_row rfl 32 (.tmp 5) rfl w1.heap.size rfl 32 _ (0,0) _ hT2.b5 vIns rfl sIns ?_)
      | (show wpList Try.prog _ _ (⟨none,.store _ (.tmp 2) _,_,_,_,_⟩::_) _ _; refine wpList_store_row rfl 32 (.tmp 2) (.tmp 60) rfl (w.heap.size + 1) (plainI 0).l.toArray rfl rfl 32 _ hT3.br sIns rfl (plain_one 0) ?_)
      | (go_at_call 45; refine (hpl _).mono ?_; rintro e w1 ⟨rfl,hb1⟩; have hT0:BSt w (w1.alloc (Ins.obj ⟨5,0,-1,0,0,0,⟨#[]⟩,0,0,0,0,0,0,0,-1⟩)) ⟨5,op,dst,a,b,n,text,r0,r1,r2,r3,r4,r5,to_,els⟩ ⟨5,0,-1,0,0,0,⟨#[]⟩,0,0,0,0,0,0,0,-1⟩ w1.heap.size:=⟨alloc_keeps ((hb1.block _ (Array.getElem?_eq_some_iff.1 b0).1).trans b0) _,alloc_keeps ((hb1.block _ (Array.getElem?_eq_some_iff.1 b1).1).trans b1) _,heap_alloc_new _ _,(hB0.trans (hb1.mono hB0.size)).alloc ((hB0.trans (hb1.mono hB0.size)).size) _,by have:=hb1.size; omega⟩; simp only [Ins.obj] at hT0; have ck0:=cell_of_heap hT0.bi 0 (.int .i64 5) rfl; have cs0:=cell_of_heap hT0.bi 2 (.int .i64 dst) rfl; have cf0:=free15 hT0.bi 2; have hT1:=hT0.store (i':=⟨5,op,-1,a,b,n,text,r0,r1,r2,r3,r4,r5,to_,els⟩) 2 (.int .i64 (-1)) rfl; have ck1:=cell_of_heap hT1.bi 0 (.int .i64 5) rfl; have cs1:=cell_of_heap hT1.bi 5 (.int .i64 n) rfl; have cf1:=free15 hT1.bi 5; have hT2:=hT1.store (i':=⟨5,op,-1,a,b,0,text,r0,r1,r2,r3,r4,r5,to_,els⟩) 5 (.int .i64 0) rfl; have ck2:=cell_of_heap hT2.bi 0 (.int .i64 5) rfl; have y0:=cell_of_heap hT2.b5 0 (.int .i64 5) rfl; have yf:=free15 hT2.b5 0; have hT3:=hT2.store5 (o':=plainI 0) 0 (.int .i64 0) rfl; have hR:=setRow_heap _ _ _ (plainI 0).l.toArray _ _ hT3.br; obtain ⟨f0,f1,f2,f3,f4,f5,f6,f7,f8,f9,f10,f11,f12,f13,f14⟩:=Ins.cells (i:=plainI 0) hR; simp only at f0 f1 f2 f3 f4 f5 f6 f7 f8 f9 f10 f11 f12 f13 f14))
    (try simp only [Exit.inBlock,Exit.then])
    refine bodyPost_ret (by simp [results,Try.results97,go_sem,f0,f1,f2,f3,f4,f5,f6,f7,f8,f9,f10,f11,f12,f13,f14]; try rfl) rfl ?_
    refine ⟨BareT.no (o:=plainI 0) HX.out rfl,?_⟩
    have hb:=hT3.below
    exact below_setRow hb (Nat.le_add_right _ _) _
set_option maxRecDepth 1000000 in
set_option maxHeartbeats 8000000 in
theorem bare_5y (op dst a b n:Int)(text:ByteArray)(r0 r1 r2 r3 r4 r5 to_ els:Int)(w:World)(hx :  Ins.mk 5 op dst a b n text r0 r1 r2 r3 r4 r5 to_ els=Ins.mask ⟨5,op,dst,a,b,n,text,r0,r1,r2,r3,r4,r5,to_,els⟩):Calls Try.prog 97 #[Ins.agg ⟨5,op,dst,a,b,n,text,r0,r1,r2,r3,r4,r5,to_,els⟩] w fun e w'=>BareT ⟨5,op,dst,a,b,n,text,r0,r1,r2,r3,r4,r5,to_,els⟩ e∧Below w.heap.size w w':=by
  have b0:=heap_alloc_new w (Ins.obj ⟨5,op,dst,a,b,n,text,r0,r1,r2,r3,r4,r5,to_,els⟩)
  have b1:=heap_alloc_new (w.alloc (Ins.obj ⟨5,op,dst,a,b,n,text,r0,r1,r2,r3,r4,r5,to_,els⟩)) zeroObj
  rw [show (w.alloc (Ins.obj ⟨5,op,dst,a,b,n,text,r0,r1,r2,r3,r4,r5,to_,els⟩)).heap.size=w.heap.size + 1 by simp] at b1
  have hB0:Below w.heap.size w ((w.alloc (Ins.obj ⟨5,op,dst,a,b,n,text,r0,r1,r2,r3,r4,r5,to_,els⟩)).alloc zeroObj):=(Below.one w _).alloc (by simp) _
  have b0:=alloc_keeps b0 zeroObj
  obtain ⟨W,hW⟩:∃ W,(w.alloc (Ins.obj ⟨5,op,dst,a,b,n,text,r0,r1,r2,r3,r4,r5,to_,els⟩)).alloc zeroObj=W:=⟨_,rfl⟩
  have hs2:W.heap.size=w.heap.size + 2:=by rw [← hW]; simp
  rw [hW] at b0 b1 hB0
  have x0:=cell_of_heap b0 0 (.int .i64 5) rfl
  simp only [Ins.obj,zeroObj,Ins.agg] at hW ⊢
  have hus:=fun w=>uses_any 5 w
  have hst:=fun w=>sets_any 5 w
  rw [show kA 5=false from rfl] at hus
  rw [show kB 5=false from rfl] at hus
  rw [show kS 5=true from rfl] at hst
  have hpl:=fun w=>Plain_any 5 w
  have hm:(Ins.mk 5 op dst a b n text r0 r1 r2 r3 r4 r5 to_ els=Ins.mask ⟨5,op,dst,a,b,n,text,r0,r1,r2,r3,r4,r5,to_,els⟩)↔(Ins.mk 5 op (-1) a b 0 text r0 r1 r2 r3 r4 r5 to_ els=⟨5,0,-1,0,0,0,⟨#[]⟩,0,0,0,0,0,0,0,-1⟩):=by simp [Ins.mask,kA,kB,kS,eq_comm]
  obtain ⟨be,hbe⟩:∃ be,be=decide (Ins.mk 5 op (-1) a b 0 text r0 r1 r2 r3 r4 r5 to_ els=⟨5,0,-1,0,0,0,⟨#[]⟩,0,0,0,0,0,0,0,-1⟩):=⟨_,rfl⟩
  have hneq:=fun w=>neq_ins ⟨5,op,-1,a,b,0,text,r0,r1,r2,r3,r4,r5,to_,els⟩ ⟨5,0,-1,0,0,0,⟨#[]⟩,0,0,0,0,0,0,0,-1⟩ w
  rw [← hbe] at hneq
  have HBE:=Lib.hid hbe
  have HMM:=Lib.hid hm
  clear hbe hm
  simp only [Ins.agg] at hneq hpl
  have hbv:be=true:=by
    rw [HBE.out]
    exact decide_eq_true (HMM.out.1 hx)
  subst hbv
  have HX:=Lib.hid hx
  clear hx
  · go_enter Try.func97,Try.ntmps97
    go_wp2_with (first
      | (go_at_call 101; refine (hus _).mono ?_; rintro e w5 ⟨rfl,hw5⟩; subst hw5)
      | (go_at_call 83; refine (hst _).mono ?_; rintro e w5 ⟨rfl,hw5⟩; subst hw5)
      | (show wpList Try.prog _ _ (⟨some 56,_,_,_,_,_⟩::_) _ _; refine wpList_load_row rfl 32 (.tmp 1) rfl w.heap.size rfl 32 _ (0,0) _ hT2.bi vIns rfl sIns ?_)
      | (show wpList Try.prog _ _ (⟨some 60,_,_,_,_,_⟩::_) _ _; refine wpList_load_row rfl 32 (.tmp 5) rfl w1.heap.size rfl 32 _ (0,0) _ hT2.b5 vIns rfl sIns ?_)
      | (show wpList Try.prog _ _ (⟨some 57,_,_,_,_,_⟩::_) _ _; refine wpList_load_row rfl 32 (.tmp 5) rfl w1.heap.size rfl 32 _ (0,0) _ hT2.b5 vIns rfl sIns ?_)
      | (show wpList Try.prog _ _ (⟨none,.store _ (.tmp 2) _,_,_,_,_⟩::_) _ _; refine wpList_store_row rfl 32 (.tmp 2) (.tmp 60) rfl (w.heap.size + 1) (plainI 5).l.toArray rfl rfl 32 _ hT2.br sIns rfl (plain_one 5) ?_)
      | (go_at_call 45; refine (hpl _).mono ?_; rintro e w1 ⟨rfl,hb1⟩; have hT0:BSt w (w1.alloc (Ins.obj ⟨5,0,-1,0,0,0,⟨#[]⟩,0,0,0,0,0,0,0,-1⟩)) ⟨5,op,dst,a,b,n,text,r0,r1,r2,r3,r4,r5,to_,els⟩ ⟨5,0,-1,0,0,0,⟨#[]⟩,0,0,0,0,0,0,0,-1⟩ w1.heap.size:=⟨alloc_keeps ((hb1.block _ (Array.getElem?_eq_some_iff.1 b0).1).trans b0) _,alloc_keeps ((hb1.block _ (Array.getElem?_eq_some_iff.1 b1).1).trans b1) _,heap_alloc_new _ _,(hB0.trans (hb1.mono hB0.size)).alloc ((hB0.trans (hb1.mono hB0.size)).size) _,by have:=hb1.size; omega⟩; simp only [Ins.obj] at hT0; have ck0:=cell_of_heap hT0.bi 0 (.int .i64 5) rfl; have cs0:=cell_of_heap hT0.bi 2 (.int .i64 dst) rfl; have cf0:=free15 hT0.bi 2; have hT1:=hT0.store (i':=⟨5,op,-1,a,b,n,text,r0,r1,r2,r3,r4,r5,to_,els⟩) 2 (.int .i64 (-1)) rfl; have ck1:=cell_of_heap hT1.bi 0 (.int .i64 5) rfl; have cs1:=cell_of_heap hT1.bi 5 (.int .i64 n) rfl; have cf1:=free15 hT1.bi 5; have hT2:=hT1.store (i':=⟨5,op,-1,a,b,0,text,r0,r1,r2,r3,r4,r5,to_,els⟩) 5 (.int .i64 0) rfl; have ck2:=cell_of_heap hT2.bi 0 (.int .i64 5) rfl; have hR:=setRow_heap _ _ _ (plainI 5).l.toArray _ _ hT2.br; obtain ⟨f0,f1,f2,f3,f4,f5,f6,f7,f8,f9,f10,f11,f12,f13,f14⟩:=Ins.cells (i:=plainI 5) hR; simp only at f0 f1 f2 f3 f4 f5 f6 f7 f8 f9 f10 f11 f12 f13 f14))
    (try simp only [Exit.inBlock,Exit.then])
    refine bodyPost_ret (by simp [results,Try.results97,go_sem,f0,f1,f2,f3,f4,f5,f6,f7,f8,f9,f10,f11,f12,f13,f14]; try rfl) rfl ?_
    refine ⟨BareT.yes (o:=plainI 5) HX.out rfl,?_⟩
    have hb:=hT2.below
    exact below_setRow hb (Nat.le_add_right _ _) _
set_option maxRecDepth 1000000 in
set_option maxHeartbeats 8000000 in
theorem bare_7n (op dst a b n:Int)(text:ByteArray)(r0 r1 r2 r3 r4 r5 to_ els:Int)(w:World)(hx:¬ Ins.mk 7 op dst a b n text r0 r1 r2 r3 r4 r5 to_ els=Ins.mask ⟨7,op,dst,a,b,n,text,r0,r1,r2,r3,r4,r5,to_,els⟩):Calls Try.prog 97 #[Ins.agg ⟨7,op,dst,a,b,n,text,r0,r1,r2,r3,r4,r5,to_,els⟩] w fun e w'=>BareT ⟨7,op,dst,a,b,n,text,r0,r1,r2,r3,r4,r5,to_,els⟩ e∧Below w.heap.size w w':=by
  have b0:=heap_alloc_new w (Ins.obj ⟨7,op,dst,a,b,n,text,r0,r1,r2,r3,r4,r5,to_,els⟩)
  have b1:=heap_alloc_new (w.alloc (Ins.obj ⟨7,op,dst,a,b,n,text,r0,r1,r2,r3,r4,r5,to_,els⟩)) zeroObj
  rw [show (w.alloc (Ins.obj ⟨7,op,dst,a,b,n,text,r0,r1,r2,r3,r4,r5,to_,els⟩)).heap.size=w.heap.size + 1 by simp] at b1
  have hB0:Below w.heap.size w ((w.alloc (Ins.obj ⟨7,op,dst,a,b,n,text,r0,r1,r2,r3,r4,r5,to_,els⟩)).alloc zeroObj):=(Below.one w _).alloc (by simp) _
  have b0:=alloc_keeps b0 zeroObj
  obtain ⟨W,hW⟩:∃ W,(w.alloc (Ins.obj ⟨7,op,dst,a,b,n,text,r0,r1,r2,r3,r4,r5,to_,els⟩)).alloc zeroObj=W:=⟨_,rfl⟩
  have hs2:W.heap.size=w.heap.size + 2:=by rw [← hW]; simp
  rw [hW] at b0 b1 hB0
  have x0:=cell_of_heap b0 0 (.int .i64 7) rfl
  simp only [Ins.obj,zeroObj,Ins.agg] at hW ⊢
  have hus:=fun w=>uses_any 7 w
  have hst:=fun w=>sets_any 7 w
  rw [show kA 7=true from rfl] at hus
  rw [show kB 7=true from rfl] at hus
  rw [show kS 7=false from rfl] at hst
  have hpl:=fun w=>Plain_any 7 w
  have hm:(Ins.mk 7 op dst a b n text r0 r1 r2 r3 r4 r5 to_ els=Ins.mask ⟨7,op,dst,a,b,n,text,r0,r1,r2,r3,r4,r5,to_,els⟩)↔(Ins.mk 7 op dst 0 0 n text r0 r1 r2 r3 r4 r5 to_ els=⟨7,0,-1,0,0,0,⟨#[]⟩,0,0,0,0,0,0,0,-1⟩):=by simp [Ins.mask,kA,kB,kS,eq_comm]
  obtain ⟨be,hbe⟩:∃ be,be=decide (Ins.mk 7 op dst 0 0 n text r0 r1 r2 r3 r4 r5 to_ els=⟨7,0,-1,0,0,0,⟨#[]⟩,0,0,0,0,0,0,0,-1⟩):=⟨_,rfl⟩
  have hneq:=fun w=>neq_ins ⟨7,op,dst,0,0,n,text,r0,r1,r2,r3,r4,r5,to_,els⟩ ⟨7,0,-1,0,0,0,⟨#[]⟩,0,0,0,0,0,0,0,-1⟩ w
  rw [← hbe] at hneq
  have HBE:=Lib.hid hbe
  have HMM:=Lib.hid hm
  clear hbe hm
  simp only [Ins.agg] at hneq hpl
  have hbv:be=false:=by
    rw [HBE.out]
    exact decide_eq_false (fun h=>hx (HMM.out.2 h))
  subst hbv
  have HX:=Lib.hid hx
  clear hx
  · go_enter Try.func97,Try.ntmps97
    go_wp2_with (first
      | (go_at_call 101; refine (hus _).mono ?_; rintro e w5 ⟨rfl,hw5⟩; subst hw5)
      | (go_at_call 83; refine (hst _).mono ?_; rintro e w5 ⟨rfl,hw5⟩; subst hw5)
      | (show wpList Try.prog _ _ (⟨some 56,_,_,_,_,_⟩::_) _ _; refine wpList_load_row rfl 32 (.tmp 1) rfl w.heap.size rfl 32 _ (0,0) _ hT2.bi vIns rfl sIns ?_)
      | (show wpList Try.prog _ _ (⟨some 60,_,_,_,_,_⟩::_) _ _; refine wpList_load_row rfl 32 (.tmp 5) rfl w1.heap.size rfl 32 _ (0,0) _ hT3.b5 vIns rfl sIns ?_)
      | (show wpList Try.prog _ _ (⟨some 57,_,_,_,_,_⟩::_) _ _; refine wpList_load_row rfl 32 (.tmp 5) rfl w1.heap.size rfl 32 _ (0,0) _ hT2.b5 vIns rfl sIns ?_)
      | (show wpList Try.prog _ _ (⟨none,.store _ (.tmp 2) _,_,_,_,_⟩::_) _ _; refine wpList_store_row rfl 32 (.tmp 2) (.tmp 60) rfl (w.heap.size + 1) (plainI 0).l.toArray rfl rfl 32 _ hT3.br sIns rfl (plain_one 0) ?_)
      | (go_at_call 45; refine (hpl _).mono ?_; rintro e w1 ⟨rfl,hb1⟩; have hT0:BSt w (w1.alloc (Ins.obj ⟨7,0,-1,0,0,0,⟨#[]⟩,0,0,0,0,0,0,0,-1⟩)) ⟨7,op,dst,a,b,n,text,r0,r1,r2,r3,r4,r5,to_,els⟩ ⟨7,0,-1,0,0,0,⟨#[]⟩,0,0,0,0,0,0,0,-1⟩ w1.heap.size:=⟨alloc_keeps ((hb1.block _ (Array.getElem?_eq_some_iff.1 b0).1).trans b0) _,alloc_keeps ((hb1.block _ (Array.getElem?_eq_some_iff.1 b1).1).trans b1) _,heap_alloc_new _ _,(hB0.trans (hb1.mono hB0.size)).alloc ((hB0.trans (hb1.mono hB0.size)).size) _,by have:=hb1.size; omega⟩; simp only [Ins.obj] at hT0; have ck0:=cell_of_heap hT0.bi 0 (.int .i64 7) rfl; have cs0:=cell_of_heap hT0.bi 3 (.int .i64 a) rfl; have cf0:=free15 hT0.bi 3; have hT1:=hT0.store (i':=⟨7,op,dst,0,b,n,text,r0,r1,r2,r3,r4,r5,to_,els⟩) 3 (.int .i64 0) rfl; have ck1:=cell_of_heap hT1.bi 0 (.int .i64 7) rfl; have cs1:=cell_of_heap hT1.bi 4 (.int .i64 b) rfl; have cf1:=free15 hT1.bi 4; have hT2:=hT1.store (i':=⟨7,op,dst,0,0,n,text,r0,r1,r2,r3,r4,r5,to_,els⟩) 4 (.int .i64 0) rfl; have ck2:=cell_of_heap hT2.bi 0 (.int .i64 7) rfl; have y0:=cell_of_heap hT2.b5 0 (.int .i64 7) rfl; have yf:=free15 hT2.b5 0; have hT3:=hT2.store5 (o':=plainI 0) 0 (.int .i64 0) rfl; have hR:=setRow_heap _ _ _ (plainI 0).l.toArray _ _ hT3.br; obtain ⟨f0,f1,f2,f3,f4,f5,f6,f7,f8,f9,f10,f11,f12,f13,f14⟩:=Ins.cells (i:=plainI 0) hR; simp only at f0 f1 f2 f3 f4 f5 f6 f7 f8 f9 f10 f11 f12 f13 f14))
    (try simp only [Exit.inBlock,Exit.then])
    refine bodyPost_ret (by simp [results,Try.results97,go_sem,f0,f1,f2,f3,f4,f5,f6,f7,f8,f9,f10,f11,f12,f13,f14]; try rfl) rfl ?_
    refine ⟨BareT.no (o:=plainI 0) HX.out rfl,?_⟩
    have hb:=hT3.below
    exact below_setRow hb (Nat.le_add_right _ _) _
set_option maxRecDepth 1000000 in
set_option maxHeartbeats 8000000 in
theorem bare_7y (op dst a b n:Int)(text:ByteArray)(r0 r1 r2 r3 r4 r5 to_ els:Int)(w:World)(hx :  Ins.mk 7 op dst a b n text r0 r1 r2 r3 r4 r5 to_ els=Ins.mask ⟨7,op,dst,a,b,n,text,r0,r1,r2,r3,r4,r5,to_,els⟩):Calls Try.prog 97 #[Ins.agg ⟨7,op,dst,a,b,n,text,r0,r1,r2,r3,r4,r5,to_,els⟩] w fun e w'=>BareT ⟨7,op,dst,a,b,n,text,r0,r1,r2,r3,r4,r5,to_,els⟩ e∧Below w.heap.size w w':=by
  have b0:=heap_alloc_new w (Ins.obj ⟨7,op,dst,a,b,n,text,r0,r1,r2,r3,r4,r5,to_,els⟩)
  have b1:=heap_alloc_new (w.alloc (Ins.obj ⟨7,op,dst,a,b,n,text,r0,r1,r2,r3,r4,r5,to_,els⟩)) zeroObj
  rw [show (w.alloc (Ins.obj ⟨7,op,dst,a,b,n,text,r0,r1,r2,r3,r4,r5,to_,els⟩)).heap.size=w.heap.size + 1 by simp] at b1
  have hB0:Below w.heap.size w ((w.alloc (Ins.obj ⟨7,op,dst,a,b,n,text,r0,r1,r2,r3,r4,r5,to_,els⟩)).alloc zeroObj):=(Below.one w _).alloc (by simp) _
  have b0:=alloc_keeps b0 zeroObj
  obtain ⟨W,hW⟩:∃ W,(w.alloc (Ins.obj ⟨7,op,dst,a,b,n,text,r0,r1,r2,r3,r4,r5,to_,els⟩)).alloc zeroObj=W:=⟨_,rfl⟩
  have hs2:W.heap.size=w.heap.size + 2:=by rw [← hW]; simp
  rw [hW] at b0 b1 hB0
  have x0:=cell_of_heap b0 0 (.int .i64 7) rfl
  simp only [Ins.obj,zeroObj,Ins.agg] at hW ⊢
  have hus:=fun w=>uses_any 7 w
  have hst:=fun w=>sets_any 7 w
  rw [show kA 7=true from rfl] at hus
  rw [show kB 7=true from rfl] at hus
  rw [show kS 7=false from rfl] at hst
  have hpl:=fun w=>Plain_any 7 w
  have hm:(Ins.mk 7 op dst a b n text r0 r1 r2 r3 r4 r5 to_ els=Ins.mask ⟨7,op,dst,a,b,n,text,r0,r1,r2,r3,r4,r5,to_,els⟩)↔(Ins.mk 7 op dst 0 0 n text r0 r1 r2 r3 r4 r5 to_ els=⟨7,0,-1,0,0,0,⟨#[]⟩,0,0,0,0,0,0,0,-1⟩):=by simp [Ins.mask,kA,kB,kS,eq_comm]
  obtain ⟨be,hbe⟩:∃ be,be=decide (Ins.mk 7 op dst 0 0 n text r0 r1 r2 r3 r4 r5 to_ els=⟨7,0,-1,0,0,0,⟨#[]⟩,0,0,0,0,0,0,0,-1⟩):=⟨_,rfl⟩
  have hneq:=fun w=>neq_ins ⟨7,op,dst,0,0,n,text,r0,r1,r2,r3,r4,r5,to_,els⟩ ⟨7,0,-1,0,0,0,⟨#[]⟩,0,0,0,0,0,0,0,-1⟩ w
  rw [← hbe] at hneq
  have HBE:=Lib.hid hbe
  have HMM:=Lib.hid hm
  clear hbe hm
  simp only [Ins.agg] at hneq hpl
  have hbv:be=true:=by
    rw [HBE.out]
    exact decide_eq_true (HMM.out.1 hx)
  subst hbv
  have HX:=Lib.hid hx
  clear hx
  · go_enter Try.func97,Try.ntmps97
    go_wp2_with (first
      | (go_at_call 101; refine (hus _).mono ?_; rintro e w5 ⟨rfl,hw5⟩; subst hw5)
      | (go_at_call 83; refine (hst _).mono ?_; rintro e w5 ⟨rfl,hw5⟩; subst hw5)
      | (show wpList Try.prog _ _ (⟨some 56,_,_,_,_,_⟩::_) _ _; refine wpList_load_row rfl 32 (.tmp 1) rfl w.heap.size rfl 32 _ (0,0) _ hT2.bi vIns rfl sIns ?_)
      | (show wpList Try.prog _ _ (⟨some 60,_,_,_,_,_⟩::_) _ _; refine wpList_load_row rfl 32 (.tmp 5) rfl w1.heap.size rfl 32 _ (0,0) _ hT2.b5 vIns rfl sIns ?_)
      | (show wpList Try.prog _ _ (⟨some 57,_,_,_,_,_⟩::_) _ _; refine wpList_load_row rfl 32 (.tmp 5) rfl w1.heap.size rfl 32 _ (0,0) _ hT2.b5 vIns rfl sIns ?_)
      | (show wpList Try.prog _ _ (⟨none,.store _ (.tmp 2) _,_,_,_,_⟩::_) _ _; refine wpList_store_row rfl 32 (.tmp 2) (.tmp 60) rfl (w.heap.size + 1) (plainI 7).l.toArray rfl rfl 32 _ hT2.br sIns rfl (plain_one 7) ?_)
      | (go_at_call 45; refine (hpl _).mono ?_; rintro e w1 ⟨rfl,hb1⟩; have hT0:BSt w (w1.alloc (Ins.obj ⟨7,0,-1,0,0,0,⟨#[]⟩,0,0,0,0,0,0,0,-1⟩)) ⟨7,op,dst,a,b,n,text,r0,r1,r2,r3,r4,r5,to_,els⟩ ⟨7,0,-1,0,0,0,⟨#[]⟩,0,0,0,0,0,0,0,-1⟩ w1.heap.size:=⟨alloc_keeps ((hb1.block _ (Array.getElem?_eq_some_iff.1 b0).1).trans b0) _,alloc_keeps ((hb1.block _ (Array.getElem?_eq_some_iff.1 b1).1).trans b1) _,heap_alloc_new _ _,(hB0.trans (hb1.mono hB0.size)).alloc ((hB0.trans (hb1.mono hB0.size)).size) _,by have:=hb1.size; omega⟩; simp only [Ins.obj] at hT0; have ck0:=cell_of_heap hT0.bi 0 (.int .i64 7) rfl; have cs0:=cell_of_heap hT0.bi 3 (.int .i64 a) rfl; have cf0:=free15 hT0.bi 3; have hT1:=hT0.store (i':=⟨7,op,dst,0,b,n,text,r0,r1,r2,r3,r4,r5,to_,els⟩) 3 (.int .i64 0) rfl; have ck1:=cell_of_heap hT1.bi 0 (.int .i64 7) rfl; have cs1:=cell_of_heap hT1.bi 4 (.int .i64 b) rfl; have cf1:=free15 hT1.bi 4; have hT2:=hT1.store (i':=⟨7,op,dst,0,0,n,text,r0,r1,r2,r3,r4,r5,to_,els⟩) 4 (.int .i64 0) rfl; have ck2:=cell_of_heap hT2.bi 0 (.int .i64 7) rfl; have hR:=setRow_heap _ _ _ (plainI 7).l.toArray _ _ hT2.br; obtain ⟨f0,f1,f2,f3,f4,f5,f6,f7,f8,f9,f10,f11,f12,f13,f14⟩:=Ins.cells (i:=plainI 7) hR; simp only at f0 f1 f2 f3 f4 f5 f6 f7 f8 f9 f10 f11 f12 f13 f14))
    (try simp only [Exit.inBlock,Exit.then])
    refine bodyPost_ret (by simp [results,Try.results97,go_sem,f0,f1,f2,f3,f4,f5,f6,f7,f8,f9,f10,f11,f12,f13,f14]; try rfl) rfl ?_
    refine ⟨BareT.yes (o:=plainI 7) HX.out rfl,?_⟩
    have hb:=hT2.below
    exact below_setRow hb (Nat.le_add_right _ _) _
set_option maxRecDepth 1000000 in
set_option maxHeartbeats 8000000 in
theorem bare_13n (op dst a b n:Int)(text:ByteArray)(r0 r1 r2 r3 r4 r5 to_ els:Int)(w:World)(hx:¬ Ins.mk 13 op dst a b n text r0 r1 r2 r3 r4 r5 to_ els=Ins.mask ⟨13,op,dst,a,b,n,text,r0,r1,r2,r3,r4,r5,to_,els⟩):Calls Try.prog 97 #[Ins.agg ⟨13,op,dst,a,b,n,text,r0,r1,r2,r3,r4,r5,to_,els⟩] w fun e w'=>BareT ⟨13,op,dst,a,b,n,text,r0,r1,r2,r3,r4,r5,to_,els⟩ e∧Below w.heap.size w w':=by
  have b0:=heap_alloc_new w (Ins.obj ⟨13,op,dst,a,b,n,text,r0,r1,r2,r3,r4,r5,to_,els⟩)
  have b1:=heap_alloc_new (w.alloc (Ins.obj ⟨13,op,dst,a,b,n,text,r0,r1,r2,r3,r4,r5,to_,els⟩)) zeroObj
  rw [show (w.alloc (Ins.obj ⟨13,op,dst,a,b,n,text,r0,r1,r2,r3,r4,r5,to_,els⟩)).heap.size=w.heap.size + 1 by simp] at b1
  have hB0:Below w.heap.size w ((w.alloc (Ins.obj ⟨13,op,dst,a,b,n,text,r0,r1,r2,r3,r4,r5,to_,els⟩)).alloc zeroObj):=(Below.one w _).alloc (by simp) _
  have b0:=alloc_keeps b0 zeroObj
  obtain ⟨W,hW⟩:∃ W,(w.alloc (Ins.obj ⟨13,op,dst,a,b,n,text,r0,r1,r2,r3,r4,r5,to_,els⟩)).alloc zeroObj=W:=⟨_,rfl⟩
  have hs2:W.heap.size=w.heap.size + 2:=by rw [← hW]; simp
  rw [hW] at b0 b1 hB0
  have x0:=cell_of_heap b0 0 (.int .i64 13) rfl
  simp only [Ins.obj,zeroObj,Ins.agg] at hW ⊢
  have hus:=fun w=>uses_any 13 w
  have hst:=fun w=>sets_any 13 w
  rw [show kA 13=true from rfl] at hus
  rw [show kB 13=false from rfl] at hus
  rw [show kS 13=false from rfl] at hst
  have hpl:=fun w=>Plain_any 13 w
  have hm:(Ins.mk 13 op dst a b n text r0 r1 r2 r3 r4 r5 to_ els=Ins.mask ⟨13,op,dst,a,b,n,text,r0,r1,r2,r3,r4,r5,to_,els⟩)↔(Ins.mk 13 op dst 0 b n text r0 r1 r2 r3 r4 r5 to_ els=⟨13,0,-1,0,0,0,⟨#[]⟩,0,0,0,0,0,0,0,-1⟩):=by simp [Ins.mask,kA,kB,kS,eq_comm]
  obtain ⟨be,hbe⟩:∃ be,be=decide (Ins.mk 13 op dst 0 b n text r0 r1 r2 r3 r4 r5 to_ els=⟨13,0,-1,0,0,0,⟨#[]⟩,0,0,0,0,0,0,0,-1⟩):=⟨_,rfl⟩
  have hneq:=fun w=>neq_ins ⟨13,op,dst,0,b,n,text,r0,r1,r2,r3,r4,r5,to_,els⟩ ⟨13,0,-1,0,0,0,⟨#[]⟩,0,0,0,0,0,0,0,-1⟩ w
  rw [← hbe] at hneq
  have HBE:=Lib.hid hbe
  have HMM:=Lib.hid hm
  clear hbe hm
  simp only [Ins.agg] at hneq hpl
  have hbv:be=false:=by
    rw [HBE.out]
    exact decide_eq_false (fun h=>hx (HMM.out.2 h))
  subst hbv
  have HX:=Lib.hid hx
  clear hx
  · go_enter Try.func97,Try.ntmps97
    go_wp2_with (first
      | (go_at_call 101; refine (hus _).mono ?_; rintro e w5 ⟨rfl,hw5⟩; subst hw5)
      | (go_at_call 83; refine (hst _).mono ?_; rintro e w5 ⟨rfl,hw5⟩; subst hw5)
      | (show wpList Try.prog _ _ (⟨some 56,_,_,_,_,_⟩::_) _ _; refine wpList_load_row rfl 32 (.tmp 1) rfl w.heap.size rfl 32 _ (0,0) _ hT1.bi vIns rfl sIns ?_)
      | (show wpList Try.prog _ _ (⟨some 60,_,_,_,_,_⟩::_) _ _; refine wpList_load_row rfl 32 (.tmp 5) rfl w1.heap.size rfl 32 _ (0,0) _ hT2.b5 vIns rfl sIns ?_)
      | (show wpList Try.prog _ _ (⟨some 57,_,_,_,_,_⟩::_) _ _; refine wpList_load_row rfl 32 (.tmp 5) rfl w1.heap.size rfl 32 _ (0,0) _ hT1.b5 vIns rfl sIns ?_)
      | (show wpList Try.prog _ _ (⟨none,.store _ (.tmp 2) _,_,_,_,_⟩::_) _ _; refine wpList_store_row rfl 32 (.tmp 2) (.tmp 60) rfl (w.heap.size + 1) (plainI 0).l.toArray rfl rfl 32 _ hT2.br sIns rfl (plain_one 0) ?_)
      | (go_at_call 45; refine (hpl _).mono ?_; rintro e w1 ⟨rfl,hb1⟩; have hT0:BSt w (w1.alloc (Ins.obj ⟨13,0,-1,0,0,0,⟨#[]⟩,0,0,0,0,0,0,0,-1⟩)) ⟨13,op,dst,a,b,n,text,r0,r1,r2,r3,r4,r5,to_,els⟩ ⟨13,0,-1,0,0,0,⟨#[]⟩,0,0,0,0,0,0,0,-1⟩ w1.heap.size:=⟨alloc_keeps ((hb1.block _ (Array.getElem?_eq_some_iff.1 b0).1).trans b0) _,alloc_keeps ((hb1.block _ (Array.getElem?_eq_some_iff.1 b1).1).trans b1) _,heap_alloc_new _ _,(hB0.trans (hb1.mono hB0.size)).alloc ((hB0.trans (hb1.mono hB0.size)).size) _,by have:=hb1.size; omega⟩; simp only [Ins.obj] at hT0; have ck0:=cell_of_heap hT0.bi 0 (.int .i64 13) rfl; have cs0:=cell_of_heap hT0.bi 3 (.int .i64 a) rfl; have cf0:=free15 hT0.bi 3; have hT1:=hT0.store (i':=⟨13,op,dst,0,b,n,text,r0,r1,r2,r3,r4,r5,to_,els⟩) 3 (.int .i64 0) rfl; have ck1:=cell_of_heap hT1.bi 0 (.int .i64 13) rfl; have y0:=cell_of_heap hT1.b5 0 (.int .i64 13) rfl; have yf:=free15 hT1.b5 0; have hT2:=hT1.store5 (o':=plainI 0) 0 (.int .i64 0) rfl; have hR:=setRow_heap _ _ _ (plainI 0).l.toArray _ _ hT2.br; obtain ⟨f0,f1,f2,f3,f4,f5,f6,f7,f8,f9,f10,f11,f12,f13,f14⟩:=Ins.cells (i:=plainI 0) hR; simp only at f0 f1 f2 f3 f4 f5 f6 f7 f8 f9 f10 f11 f12 f13 f14))
    (try simp only [Exit.inBlock,Exit.then])
    refine bodyPost_ret (by simp [results,Try.results97,go_sem,f0,f1,f2,f3,f4,f5,f6,f7,f8,f9,f10,f11,f12,f13,f14]; try rfl) rfl ?_
    refine ⟨BareT.no (o:=plainI 0) HX.out rfl,?_⟩
    have hb:=hT2.below
    exact below_setRow hb (Nat.le_add_right _ _) _
set_option maxRecDepth 1000000 in
set_option maxHeartbeats 8000000 in
theorem bare_13y (op dst a b n:Int)(text:ByteArray)(r0 r1 r2 r3 r4 r5 to_ els:Int)(w:World)(hx :  Ins.mk 13 op dst a b n text r0 r1 r2 r3 r4 r5 to_ els=Ins.mask ⟨13,op,dst,a,b,n,text,r0,r1,r2,r3,r4,r5,to_,els⟩):Calls Try.prog 97 #[Ins.agg ⟨13,op,dst,a,b,n,text,r0,r1,r2,r3,r4,r5,to_,els⟩] w fun e w'=>BareT ⟨13,op,dst,a,b,n,text,r0,r1,r2,r3,r4,r5,to_,els⟩ e∧Below w.heap.size w w':=by
  have b0:=heap_alloc_new w (Ins.obj ⟨13,op,dst,a,b,n,text,r0,r1,r2,r3,r4,r5,to_,els⟩)
  have b1:=heap_alloc_new (w.alloc (Ins.obj ⟨13,op,dst,a,b,n,text,r0,r1,r2,r3,r4,r5,to_,els⟩)) zeroObj
  rw [show (w.alloc (Ins.obj ⟨13,op,dst,a,b,n,text,r0,r1,r2,r3,r4,r5,to_,els⟩)).heap.size=w.heap.size + 1 by simp] at b1
  have hB0:Below w.heap.size w ((w.alloc (Ins.obj ⟨13,op,dst,a,b,n,text,r0,r1,r2,r3,r4,r5,to_,els⟩)).alloc zeroObj):=(Below.one w _).alloc (by simp) _
  have b0:=alloc_keeps b0 zeroObj
  obtain ⟨W,hW⟩:∃ W,(w.alloc (Ins.obj ⟨13,op,dst,a,b,n,text,r0,r1,r2,r3,r4,r5,to_,els⟩)).alloc zeroObj=W:=⟨_,rfl⟩
  have hs2:W.heap.size=w.heap.size + 2:=by rw [← hW]; simp
  rw [hW] at b0 b1 hB0
  have x0:=cell_of_heap b0 0 (.int .i64 13) rfl
  simp only [Ins.obj,zeroObj,Ins.agg] at hW ⊢
  have hus:=fun w=>uses_any 13 w
  have hst:=fun w=>sets_any 13 w
  rw [show kA 13=true from rfl] at hus
  rw [show kB 13=false from rfl] at hus
  rw [show kS 13=false from rfl] at hst
  have hpl:=fun w=>Plain_any 13 w
  have hm:(Ins.mk 13 op dst a b n text r0 r1 r2 r3 r4 r5 to_ els=Ins.mask ⟨13,op,dst,a,b,n,text,r0,r1,r2,r3,r4,r5,to_,els⟩)↔(Ins.mk 13 op dst 0 b n text r0 r1 r2 r3 r4 r5 to_ els=⟨13,0,-1,0,0,0,⟨#[]⟩,0,0,0,0,0,0,0,-1⟩):=by simp [Ins.mask,kA,kB,kS,eq_comm]
  obtain ⟨be,hbe⟩:∃ be,be=decide (Ins.mk 13 op dst 0 b n text r0 r1 r2 r3 r4 r5 to_ els=⟨13,0,-1,0,0,0,⟨#[]⟩,0,0,0,0,0,0,0,-1⟩):=⟨_,rfl⟩
  have hneq:=fun w=>neq_ins ⟨13,op,dst,0,b,n,text,r0,r1,r2,r3,r4,r5,to_,els⟩ ⟨13,0,-1,0,0,0,⟨#[]⟩,0,0,0,0,0,0,0,-1⟩ w
  rw [← hbe] at hneq
  have HBE:=Lib.hid hbe
  have HMM:=Lib.hid hm
  clear hbe hm
  simp only [Ins.agg] at hneq hpl
  have hbv:be=true:=by
    rw [HBE.out]
    exact decide_eq_true (HMM.out.1 hx)
  subst hbv
  have HX:=Lib.hid hx
  clear hx
  · go_enter Try.func97,Try.ntmps97
    go_wp2_with (first
      | (go_at_call 101; refine (hus _).mono ?_; rintro e w5 ⟨rfl,hw5⟩; subst hw5)
      | (go_at_call 83; refine (hst _).mono ?_; rintro e w5 ⟨rfl,hw5⟩; subst hw5)
      | (show wpList Try.prog _ _ (⟨some 56,_,_,_,_,_⟩::_) _ _; refine wpList_load_row rfl 32 (.tmp 1) rfl w.heap.size rfl 32 _ (0,0) _ hT1.bi vIns rfl sIns ?_)
      | (show wpList Try.prog _ _ (⟨some 60,_,_,_,_,_⟩::_) _ _; refine wpList_load_row rfl 32 (.tmp 5) rfl w1.heap.size rfl 32 _ (0,0) _ hT1.b5 vIns rfl sIns ?_)
      | (show wpList Try.prog _ _ (⟨some 57,_,_,_,_,_⟩::_) _ _; refine wpList_load_row rfl 32 (.tmp 5) rfl w1.heap.size rfl 32 _ (0,0) _ hT1.b5 vIns rfl sIns ?_)
      | (show wpList Try.prog _ _ (⟨none,.store _ (.tmp 2) _,_,_,_,_⟩::_) _ _; refine wpList_store_row rfl 32 (.tmp 2) (.tmp 60) rfl (w.heap.size + 1) (plainI 13).l.toArray rfl rfl 32 _ hT1.br sIns rfl (plain_one 13) ?_)
      | (go_at_call 45; refine (hpl _).mono ?_; rintro e w1 ⟨rfl,hb1⟩; have hT0:BSt w (w1.alloc (Ins.obj ⟨13,0,-1,0,0,0,⟨#[]⟩,0,0,0,0,0,0,0,-1⟩)) ⟨13,op,dst,a,b,n,text,r0,r1,r2,r3,r4,r5,to_,els⟩ ⟨13,0,-1,0,0,0,⟨#[]⟩,0,0,0,0,0,0,0,-1⟩ w1.heap.size:=⟨alloc_keeps ((hb1.block _ (Array.getElem?_eq_some_iff.1 b0).1).trans b0) _,alloc_keeps ((hb1.block _ (Array.getElem?_eq_some_iff.1 b1).1).trans b1) _,heap_alloc_new _ _,(hB0.trans (hb1.mono hB0.size)).alloc ((hB0.trans (hb1.mono hB0.size)).size) _,by have:=hb1.size; omega⟩; simp only [Ins.obj] at hT0; have ck0:=cell_of_heap hT0.bi 0 (.int .i64 13) rfl; have cs0:=cell_of_heap hT0.bi 3 (.int .i64 a) rfl; have cf0:=free15 hT0.bi 3; have hT1:=hT0.store (i':=⟨13,op,dst,0,b,n,text,r0,r1,r2,r3,r4,r5,to_,els⟩) 3 (.int .i64 0) rfl; have ck1:=cell_of_heap hT1.bi 0 (.int .i64 13) rfl; have hR:=setRow_heap _ _ _ (plainI 13).l.toArray _ _ hT1.br; obtain ⟨f0,f1,f2,f3,f4,f5,f6,f7,f8,f9,f10,f11,f12,f13,f14⟩:=Ins.cells (i:=plainI 13) hR; simp only at f0 f1 f2 f3 f4 f5 f6 f7 f8 f9 f10 f11 f12 f13 f14))
    (try simp only [Exit.inBlock,Exit.then])
    refine bodyPost_ret (by simp [results,Try.results97,go_sem,f0,f1,f2,f3,f4,f5,f6,f7,f8,f9,f10,f11,f12,f13,f14]; try rfl) rfl ?_
    refine ⟨BareT.yes (o:=plainI 13) HX.out rfl,?_⟩
    have hb:=hT1.below
    exact below_setRow hb (Nat.le_add_right _ _) _
end Go.Proofs.Ytkcclefonmnpnaa
/- THE CODE's bare, kinds [10, 11, 12]. -/
