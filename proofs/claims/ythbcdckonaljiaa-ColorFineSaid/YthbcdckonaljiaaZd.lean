import Derived.Test.YthbcdckonaljiaaZc
namespace Go.Proofs.Ythbcdckonaljiaa
open Go.RowKit Go.BigFrame
set_option maxRecDepth 1000000 in
set_option maxHeartbeats 16000000 in
theorem bare_1 (op dst a b n:Int)(text:ByteArray)(r0 r1 r2 r3 r4 r5 to_ els:Int)(w:World):Calls Try.prog 70 #[Ins.agg ⟨1,op,dst,a,b,n,text,r0,r1,r2,r3,r4,r5,to_,els⟩] w fun e w'=>BareT ⟨1,op,dst,a,b,n,text,r0,r1,r2,r3,r4,r5,to_,els⟩ e∧Below w.heap.size w w':=by
  obtain ⟨W,hW,hs2,b0,b1,hB0⟩:=bare_pre ⟨1,op,dst,a,b,n,text,r0,r1,r2,r3,r4,r5,to_,els⟩ w
  have x0:=cell_of_heap b0 0 (.int .i64 1) rfl
  simp only [Ins.obj,zeroObj,Ins.agg] at hW ⊢
  have hus:=fun w=>uses_any 1 w
  have hst:=fun w=>sets_any 1 w
  rw [show kA 1=false from rfl] at hus
  rw [show kB 1=false from rfl] at hus
  rw [show kS 1=true from rfl] at hst
  have hpl:=fun w=>Plain_any 1 w
  have HMM:Hid (Ins.mk 1 op dst a b n text r0 r1 r2 r3 r4 r5 to_ els=Ins.mask ⟨1,op,dst,a,b,n,text,r0,r1,r2,r3,r4,r5,to_,els⟩↔Ins.mk 1 op (-1) a b 0 text r0 r1 r2 r3 r4 r5 to_ els=⟨1,0,-1,0,0,0,⟨#[]⟩,0,0,0,0,0,0,0,-1⟩):=Lib.hid (by simp [Ins.mask,kA,kB,kS])
  have hneq:=fun w=>neq_ins ⟨1,op,-1,a,b,0,text,r0,r1,r2,r3,r4,r5,to_,els⟩ ⟨1,0,-1,0,0,0,⟨#[]⟩,0,0,0,0,0,0,0,-1⟩ w
  obtain ⟨be,hbe⟩:∃ be,be=decide (Ins.mk 1 op (-1) a b 0 text r0 r1 r2 r3 r4 r5 to_ els=⟨1,0,-1,0,0,0,⟨#[]⟩,0,0,0,0,0,0,0,-1⟩):=⟨_,rfl⟩
  rw [← hbe] at hneq
  have HBE:=Lib.hid hbe
  clear hbe
  simp only [Ins.agg] at hneq hpl
  cases be
  · go_enter Try.func70,Try.ntmps70
    go_wp2_with (first
      | (go_at_call 84; refine (hus _).mono ?_; rintro e w5 ⟨rfl,hw5⟩; subst hw5)
      | (go_at_call 53; refine (hst _).mono ?_; rintro e w5 ⟨rfl,hw5⟩; subst hw5)
      | (show wpList Try.prog _ _ (⟨some 56,_,_,_,_,_⟩::_) _ _; refine wpList_load_row rfl 31 (.tmp 1) rfl w.heap.size rfl 31 _ (0,0) _ hT2.bi vIns rfl sIns ?_)
      | (show wpList Try.prog _ _ (⟨some 60,_,_,_,_,_⟩::_) _ _; refine wpList_load_row rfl 31 (.tmp 5) rfl w1.heap.size rfl 31 _ (0,0) _ hT3.b5 vIns rfl sIns ?_)
      | (show wpList Try.prog _ _ (⟨some 57,_,_,_,_,_⟩::_) _ _; refine wpList_load_row rfl 31 (.tmp 5) rfl w1.heap.size rfl 31 _ (0,0) _ hT2.b5 vIns rfl sIns ?_)
      | (show wpList Try.prog _ _ (⟨none,.store _ (.tmp 2) _,_,_,_,_⟩::_) _ _; refine wpList_store_row rfl 31 (.tmp 2) (.tmp 60) rfl (w.heap.size + 1) (plainI 0).l.toArray rfl rfl 31 _ hT3.br sIns rfl (plain_one 0) ?_)
      | (go_at_call 7; refine (hpl _).mono ?_; rintro e w1 ⟨rfl,hb1⟩; have hT0:=BSt.first (o:=⟨1,0,-1,0,0,0,⟨#[]⟩,0,0,0,0,0,0,0,-1⟩) b0 b1 hs2 hB0 hb1; simp only [Ins.obj] at hT0; have ck0:=cell_of_heap hT0.bi 0 (.int .i64 1) rfl; have cs0:=cell_of_heap hT0.bi 2 (.int .i64 dst) rfl; have cf0:=free15 hT0.bi 2; have hT1:=hT0.store (i':=⟨1,op,-1,a,b,n,text,r0,r1,r2,r3,r4,r5,to_,els⟩) 2 (.int .i64 (-1)) rfl; have ck1:=cell_of_heap hT1.bi 0 (.int .i64 1) rfl; have cs1:=cell_of_heap hT1.bi 5 (.int .i64 n) rfl; have cf1:=free15 hT1.bi 5; have hT2:=hT1.store (i':=⟨1,op,-1,a,b,0,text,r0,r1,r2,r3,r4,r5,to_,els⟩) 5 (.int .i64 0) rfl; have ck2:=cell_of_heap hT2.bi 0 (.int .i64 1) rfl; have y0:=cell_of_heap hT2.b5 0 (.int .i64 1) rfl; have yf:=free15 hT2.b5 0; have hT3:=hT2.store5 (o':=plainI 0) 0 (.int .i64 0) rfl; have hR:=setRow_heap _ _ _ (plainI 0).l.toArray _ _ hT3.br; obtain ⟨f0,f1,f2,f3,f4,f5,f6,f7,f8,f9,f10,f11,f12,f13,f14⟩:=Ins.cells (i:=plainI 0) hR; simp only at f0 f1 f2 f3 f4 f5 f6 f7 f8 f9 f10 f11 f12 f13 f14))
    (try simp only [Exit.inBlock,Exit.then])
    refine bodyPost_ret (by simp [results,Try.results70,go_sem,f0,f1,f2,f3,f4,f5,f6,f7,f8,f9,f10,f11,f12,f13,f14]; try rfl) rfl ⟨BareT.no (o:=plainI 0) (bareN HBE.out HMM.out) rfl,?_⟩
    exact below_setRow hT3.below (Nat.le_add_right _ _) _
  · go_enter Try.func70,Try.ntmps70
    go_wp2_with (first
      | (go_at_call 84; refine (hus _).mono ?_; rintro e w5 ⟨rfl,hw5⟩; subst hw5)
      | (go_at_call 53; refine (hst _).mono ?_; rintro e w5 ⟨rfl,hw5⟩; subst hw5)
      | (show wpList Try.prog _ _ (⟨some 56,_,_,_,_,_⟩::_) _ _; refine wpList_load_row rfl 31 (.tmp 1) rfl w.heap.size rfl 31 _ (0,0) _ hT2.bi vIns rfl sIns ?_)
      | (show wpList Try.prog _ _ (⟨some 60,_,_,_,_,_⟩::_) _ _; refine wpList_load_row rfl 31 (.tmp 5) rfl w1.heap.size rfl 31 _ (0,0) _ hT2.b5 vIns rfl sIns ?_)
      | (show wpList Try.prog _ _ (⟨some 57,_,_,_,_,_⟩::_) _ _; refine wpList_load_row rfl 31 (.tmp 5) rfl w1.heap.size rfl 31 _ (0,0) _ hT2.b5 vIns rfl sIns ?_)
      | (show wpList Try.prog _ _ (⟨none,.store _ (.tmp 2) _,_,_,_,_⟩::_) _ _; refine wpList_store_row rfl 31 (.tmp 2) (.tmp 60) rfl (w.heap.size + 1) (plainI 1).l.toArray rfl rfl 31 _ hT2.br sIns rfl (plain_one 1) ?_)
      | (go_at_call 7; refine (hpl _).mono ?_; rintro e w1 ⟨rfl,hb1⟩; have hT0:=BSt.first (o:=⟨1,0,-1,0,0,0,⟨#[]⟩,0,0,0,0,0,0,0,-1⟩) b0 b1 hs2 hB0 hb1; simp only [Ins.obj] at hT0; have ck0:=cell_of_heap hT0.bi 0 (.int .i64 1) rfl; have cs0:=cell_of_heap hT0.bi 2 (.int .i64 dst) rfl; have cf0:=free15 hT0.bi 2; have hT1:=hT0.store (i':=⟨1,op,-1,a,b,n,text,r0,r1,r2,r3,r4,r5,to_,els⟩) 2 (.int .i64 (-1)) rfl; have ck1:=cell_of_heap hT1.bi 0 (.int .i64 1) rfl; have cs1:=cell_of_heap hT1.bi 5 (.int .i64 n) rfl; have cf1:=free15 hT1.bi 5; have hT2:=hT1.store (i':=⟨1,op,-1,a,b,0,text,r0,r1,r2,r3,r4,r5,to_,els⟩) 5 (.int .i64 0) rfl; have ck2:=cell_of_heap hT2.bi 0 (.int .i64 1) rfl; have hR:=setRow_heap _ _ _ (plainI 1).l.toArray _ _ hT2.br; obtain ⟨f0,f1,f2,f3,f4,f5,f6,f7,f8,f9,f10,f11,f12,f13,f14⟩:=Ins.cells (i:=plainI 1) hR; simp only at f0 f1 f2 f3 f4 f5 f6 f7 f8 f9 f10 f11 f12 f13 f14))
    (try simp only [Exit.inBlock,Exit.then])
    refine bodyPost_ret (by simp [results,Try.results70,go_sem,f0,f1,f2,f3,f4,f5,f6,f7,f8,f9,f10,f11,f12,f13,f14]; try rfl) rfl ⟨BareT.yes (o:=plainI 1) (bareY HBE.out HMM.out) rfl,?_⟩
    exact below_setRow hT2.below (Nat.le_add_right _ _) _
set_option maxRecDepth 1000000 in
set_option maxHeartbeats 16000000 in
theorem bare_2 (op dst a b n:Int)(text:ByteArray)(r0 r1 r2 r3 r4 r5 to_ els:Int)(w:World):Calls Try.prog 70 #[Ins.agg ⟨2,op,dst,a,b,n,text,r0,r1,r2,r3,r4,r5,to_,els⟩] w fun e w'=>BareT ⟨2,op,dst,a,b,n,text,r0,r1,r2,r3,r4,r5,to_,els⟩ e∧Below w.heap.size w w':=by
  obtain ⟨W,hW,hs2,b0,b1,hB0⟩:=bare_pre ⟨2,op,dst,a,b,n,text,r0,r1,r2,r3,r4,r5,to_,els⟩ w
  have x0:=cell_of_heap b0 0 (.int .i64 2) rfl
  simp only [Ins.obj,zeroObj,Ins.agg] at hW ⊢
  have hus:=fun w=>uses_any 2 w
  have hst:=fun w=>sets_any 2 w
  rw [show kA 2=true from rfl] at hus
  rw [show kB 2=false from rfl] at hus
  rw [show kS 2=true from rfl] at hst
  have hpl:=fun w=>Plain_any 2 w
  have HMM:Hid (Ins.mk 2 op dst a b n text r0 r1 r2 r3 r4 r5 to_ els=Ins.mask ⟨2,op,dst,a,b,n,text,r0,r1,r2,r3,r4,r5,to_,els⟩↔Ins.mk 2 0 (-1) 0 b n text r0 r1 r2 r3 r4 r5 to_ els=⟨2,0,-1,0,0,0,⟨#[]⟩,0,0,0,0,0,0,0,-1⟩):=Lib.hid (by simp [Ins.mask,kA,kB,kS,eq_comm])
  have hneq:=fun w=>neq_ins ⟨2,0,-1,0,b,n,text,r0,r1,r2,r3,r4,r5,to_,els⟩ ⟨2,0,-1,0,0,0,⟨#[]⟩,0,0,0,0,0,0,0,-1⟩ w
  obtain ⟨be,hbe⟩:∃ be,be=decide (Ins.mk 2 0 (-1) 0 b n text r0 r1 r2 r3 r4 r5 to_ els=⟨2,0,-1,0,0,0,⟨#[]⟩,0,0,0,0,0,0,0,-1⟩):=⟨_,rfl⟩
  rw [← hbe] at hneq
  have HBE:=Lib.hid hbe
  clear hbe
  simp only [Ins.agg] at hneq hpl
  cases be
  · go_enter Try.func70,Try.ntmps70
    go_wp2_with (first
      | (go_at_call 84; refine (hus _).mono ?_; rintro e w5 ⟨rfl,hw5⟩; subst hw5)
      | (go_at_call 53; refine (hst _).mono ?_; rintro e w5 ⟨rfl,hw5⟩; subst hw5)
      | (show wpList Try.prog _ _ (⟨some 56,_,_,_,_,_⟩::_) _ _; refine wpList_load_row rfl 31 (.tmp 1) rfl w.heap.size rfl 31 _ (0,0) _ hT3.bi vIns rfl sIns ?_)
      | (show wpList Try.prog _ _ (⟨some 60,_,_,_,_,_⟩::_) _ _; refine wpList_load_row rfl 31 (.tmp 5) rfl w1.heap.size rfl 31 _ (0,0) _ hT4.b5 vIns rfl sIns ?_)
      | (show wpList Try.prog _ _ (⟨some 57,_,_,_,_,_⟩::_) _ _; refine wpList_load_row rfl 31 (.tmp 5) rfl w1.heap.size rfl 31 _ (0,0) _ hT3.b5 vIns rfl sIns ?_)
      | (show wpList Try.prog _ _ (⟨none,.store _ (.tmp 2) _,_,_,_,_⟩::_) _ _; refine wpList_store_row rfl 31 (.tmp 2) (.tmp 60) rfl (w.heap.size + 1) (plainI 0).l.toArray rfl rfl 31 _ hT4.br sIns rfl (plain_one 0) ?_)
      | (go_at_call 7; refine (hpl _).mono ?_; rintro e w1 ⟨rfl,hb1⟩; have hT0:=BSt.first (o:=⟨2,0,-1,0,0,0,⟨#[]⟩,0,0,0,0,0,0,0,-1⟩) b0 b1 hs2 hB0 hb1; simp only [Ins.obj] at hT0; have ck0:=cell_of_heap hT0.bi 0 (.int .i64 2) rfl; have cs0:=cell_of_heap hT0.bi 2 (.int .i64 dst) rfl; have cf0:=free15 hT0.bi 2; have hT1:=hT0.store (i':=⟨2,op,-1,a,b,n,text,r0,r1,r2,r3,r4,r5,to_,els⟩) 2 (.int .i64 (-1)) rfl; have ck1:=cell_of_heap hT1.bi 0 (.int .i64 2) rfl; have cs1:=cell_of_heap hT1.bi 3 (.int .i64 a) rfl; have cf1:=free15 hT1.bi 3; have hT2:=hT1.store (i':=⟨2,op,-1,0,b,n,text,r0,r1,r2,r3,r4,r5,to_,els⟩) 3 (.int .i64 0) rfl; have ck2:=cell_of_heap hT2.bi 0 (.int .i64 2) rfl; have cs2:=cell_of_heap hT2.bi 1 (.int .i64 op) rfl; have cf2:=free15 hT2.bi 1; have hT3:=hT2.store (i':=⟨2,0,-1,0,b,n,text,r0,r1,r2,r3,r4,r5,to_,els⟩) 1 (.int .i64 0) rfl; have ck3:=cell_of_heap hT3.bi 0 (.int .i64 2) rfl; have y0:=cell_of_heap hT3.b5 0 (.int .i64 2) rfl; have yf:=free15 hT3.b5 0; have hT4:=hT3.store5 (o':=plainI 0) 0 (.int .i64 0) rfl; have hR:=setRow_heap _ _ _ (plainI 0).l.toArray _ _ hT4.br; obtain ⟨f0,f1,f2,f3,f4,f5,f6,f7,f8,f9,f10,f11,f12,f13,f14⟩:=Ins.cells (i:=plainI 0) hR; simp only at f0 f1 f2 f3 f4 f5 f6 f7 f8 f9 f10 f11 f12 f13 f14))
    (try simp only [Exit.inBlock,Exit.then])
    refine bodyPost_ret (by simp [results,Try.results70,go_sem,f0,f1,f2,f3,f4,f5,f6,f7,f8,f9,f10,f11,f12,f13,f14]; try rfl) rfl ⟨BareT.no (o:=plainI 0) (bareN HBE.out HMM.out) rfl,?_⟩
    exact below_setRow hT4.below (Nat.le_add_right _ _) _
  · go_enter Try.func70,Try.ntmps70
    go_wp2_with (first
      | (go_at_call 84; refine (hus _).mono ?_; rintro e w5 ⟨rfl,hw5⟩; subst hw5)
      | (go_at_call 53; refine (hst _).mono ?_; rintro e w5 ⟨rfl,hw5⟩; subst hw5)
      | (show wpList Try.prog _ _ (⟨some 56,_,_,_,_,_⟩::_) _ _; refine wpList_load_row rfl 31 (.tmp 1) rfl w.heap.size rfl 31 _ (0,0) _ hT3.bi vIns rfl sIns ?_)
      | (show wpList Try.prog _ _ (⟨some 60,_,_,_,_,_⟩::_) _ _; refine wpList_load_row rfl 31 (.tmp 5) rfl w1.heap.size rfl 31 _ (0,0) _ hT3.b5 vIns rfl sIns ?_)
      | (show wpList Try.prog _ _ (⟨some 57,_,_,_,_,_⟩::_) _ _; refine wpList_load_row rfl 31 (.tmp 5) rfl w1.heap.size rfl 31 _ (0,0) _ hT3.b5 vIns rfl sIns ?_)
      | (show wpList Try.prog _ _ (⟨none,.store _ (.tmp 2) _,_,_,_,_⟩::_) _ _; refine wpList_store_row rfl 31 (.tmp 2) (.tmp 60) rfl (w.heap.size + 1) (plainI 2).l.toArray rfl rfl 31 _ hT3.br sIns rfl (plain_one 2) ?_)
      | (go_at_call 7; refine (hpl _).mono ?_; rintro e w1 ⟨rfl,hb1⟩; have hT0:=BSt.first (o:=⟨2,0,-1,0,0,0,⟨#[]⟩,0,0,0,0,0,0,0,-1⟩) b0 b1 hs2 hB0 hb1; simp only [Ins.obj] at hT0; have ck0:=cell_of_heap hT0.bi 0 (.int .i64 2) rfl; have cs0:=cell_of_heap hT0.bi 2 (.int .i64 dst) rfl; have cf0:=free15 hT0.bi 2; have hT1:=hT0.store (i':=⟨2,op,-1,a,b,n,text,r0,r1,r2,r3,r4,r5,to_,els⟩) 2 (.int .i64 (-1)) rfl; have ck1:=cell_of_heap hT1.bi 0 (.int .i64 2) rfl; have cs1:=cell_of_heap hT1.bi 3 (.int .i64 a) rfl; have cf1:=free15 hT1.bi 3; have hT2:=hT1.store (i':=⟨2,op,-1,0,b,n,text,r0,r1,r2,r3,r4,r5,to_,els⟩) 3 (.int .i64 0) rfl; have ck2:=cell_of_heap hT2.bi 0 (.int .i64 2) rfl; have cs2:=cell_of_heap hT2.bi 1 (.int .i64 op) rfl; have cf2:=free15 hT2.bi 1; have hT3:=hT2.store (i':=⟨2,0,-1,0,b,n,text,r0,r1,r2,r3,r4,r5,to_,els⟩) 1 (.int .i64 0) rfl; have ck3:=cell_of_heap hT3.bi 0 (.int .i64 2) rfl; have hR:=setRow_heap _ _ _ (plainI 2).l.toArray _ _ hT3.br; obtain ⟨f0,f1,f2,f3,f4,f5,f6,f7,f8,f9,f10,f11,f12,f13,f14⟩:=Ins.cells (i:=plainI 2) hR; simp only at f0 f1 f2 f3 f4 f5 f6 f7 f8 f9 f10 f11 f12 f13 f14))
    (try simp only [Exit.inBlock,Exit.then])
    refine bodyPost_ret (by simp [results,Try.results70,go_sem,f0,f1,f2,f3,f4,f5,f6,f7,f8,f9,f10,f11,f12,f13,f14]; try rfl) rfl ⟨BareT.yes (o:=plainI 2) (bareY HBE.out HMM.out) rfl,?_⟩
    exact below_setRow hT3.below (Nat.le_add_right _ _) _
set_option maxRecDepth 1000000 in
set_option maxHeartbeats 16000000 in
theorem bare_9 (op dst a b n:Int)(text:ByteArray)(r0 r1 r2 r3 r4 r5 to_ els:Int)(w:World):Calls Try.prog 70 #[Ins.agg ⟨9,op,dst,a,b,n,text,r0,r1,r2,r3,r4,r5,to_,els⟩] w fun e w'=>BareT ⟨9,op,dst,a,b,n,text,r0,r1,r2,r3,r4,r5,to_,els⟩ e∧Below w.heap.size w w':=by
  obtain ⟨W,hW,hs2,b0,b1,hB0⟩:=bare_pre ⟨9,op,dst,a,b,n,text,r0,r1,r2,r3,r4,r5,to_,els⟩ w
  have x0:=cell_of_heap b0 0 (.int .i64 9) rfl
  simp only [Ins.obj,zeroObj,Ins.agg] at hW ⊢
  have hus:=fun w=>uses_any 9 w
  have hst:=fun w=>sets_any 9 w
  rw [show kA 9=false from rfl] at hus
  rw [show kB 9=false from rfl] at hus
  rw [show kS 9=true from rfl] at hst
  have hpl:=fun w=>Plain_any 9 w
  have HMM:Hid (Ins.mk 9 op dst a b n text r0 r1 r2 r3 r4 r5 to_ els=Ins.mask ⟨9,op,dst,a,b,n,text,r0,r1,r2,r3,r4,r5,to_,els⟩↔Ins.mk 9 op (-1) a b n text r0 r1 r2 r3 r4 r5 to_ els=⟨9,0,-1,0,0,0,⟨#[]⟩,0,0,0,0,0,0,0,-1⟩):=Lib.hid (by simp [Ins.mask,kA,kB,kS,eq_comm])
  have hneq:=fun w=>neq_ins ⟨9,op,-1,a,b,n,text,r0,r1,r2,r3,r4,r5,to_,els⟩ ⟨9,0,-1,0,0,0,⟨#[]⟩,0,0,0,0,0,0,0,-1⟩ w
  obtain ⟨be,hbe⟩:∃ be,be=decide (Ins.mk 9 op (-1) a b n text r0 r1 r2 r3 r4 r5 to_ els=⟨9,0,-1,0,0,0,⟨#[]⟩,0,0,0,0,0,0,0,-1⟩):=⟨_,rfl⟩
  rw [← hbe] at hneq
  have HBE:=Lib.hid hbe
  clear hbe
  simp only [Ins.agg] at hneq hpl
  cases be
  · go_enter Try.func70,Try.ntmps70
    go_wp2_with (first
      | (go_at_call 84; refine (hus _).mono ?_; rintro e w5 ⟨rfl,hw5⟩; subst hw5)
      | (go_at_call 53; refine (hst _).mono ?_; rintro e w5 ⟨rfl,hw5⟩; subst hw5)
      | (show wpList Try.prog _ _ (⟨some 56,_,_,_,_,_⟩::_) _ _; refine wpList_load_row rfl 31 (.tmp 1) rfl w.heap.size rfl 31 _ (0,0) _ hT1.bi vIns rfl sIns ?_)
      | (show wpList Try.prog _ _ (⟨some 60,_,_,_,_,_⟩::_) _ _; refine wpList_load_row rfl 31 (.tmp 5) rfl w1.heap.size rfl 31 _ (0,0) _ hT2.b5 vIns rfl sIns ?_)
      | (show wpList Try.prog _ _ (⟨some 57,_,_,_,_,_⟩::_) _ _; refine wpList_load_row rfl 31 (.tmp 5) rfl w1.heap.size rfl 31 _ (0,0) _ hT1.b5 vIns rfl sIns ?_)
      | (show wpList Try.prog _ _ (⟨none,.store _ (.tmp 2) _,_,_,_,_⟩::_) _ _; refine wpList_store_row rfl 31 (.tmp 2) (.tmp 60) rfl (w.heap.size + 1) (plainI 0).l.toArray rfl rfl 31 _ hT2.br sIns rfl (plain_one 0) ?_)
      | (go_at_call 7; refine (hpl _).mono ?_; rintro e w1 ⟨rfl,hb1⟩; have hT0:=BSt.first (o:=⟨9,0,-1,0,0,0,⟨#[]⟩,0,0,0,0,0,0,0,-1⟩) b0 b1 hs2 hB0 hb1; simp only [Ins.obj] at hT0; have ck0:=cell_of_heap hT0.bi 0 (.int .i64 9) rfl; have cs0:=cell_of_heap hT0.bi 2 (.int .i64 dst) rfl; have cf0:=free15 hT0.bi 2; have hT1:=hT0.store (i':=⟨9,op,-1,a,b,n,text,r0,r1,r2,r3,r4,r5,to_,els⟩) 2 (.int .i64 (-1)) rfl; have ck1:=cell_of_heap hT1.bi 0 (.int .i64 9) rfl; have y0:=cell_of_heap hT1.b5 0 (.int .i64 9) rfl; have yf:=free15 hT1.b5 0; have hT2:=hT1.store5 (o':=plainI 0) 0 (.int .i64 0) rfl; have hR:=setRow_heap _ _ _ (plainI 0).l.toArray _ _ hT2.br; obtain ⟨f0,f1,f2,f3,f4,f5,f6,f7,f8,f9,f10,f11,f12,f13,f14⟩:=Ins.cells (i:=plainI 0) hR; simp only at f0 f1 f2 f3 f4 f5 f6 f7 f8 f9 f10 f11 f12 f13 f14))
    (try simp only [Exit.inBlock,Exit.then])
    refine bodyPost_ret (by simp [results,Try.results70,go_sem,f0,f1,f2,f3,f4,f5,f6,f7,f8,f9,f10,f11,f12,f13,f14]; try rfl) rfl ⟨BareT.no (o:=plainI 0) (bareN HBE.out HMM.out) rfl,?_⟩
    exact below_setRow hT2.below (Nat.le_add_right _ _) _
  · go_enter Try.func70,Try.ntmps70
    go_wp2_with (first
      | (go_at_call 84; refine (hus _).mono ?_; rintro e w5 ⟨rfl,hw5⟩; subst hw5)
      | (go_at_call 53; refine (hst _).mono ?_; rintro e w5 ⟨rfl,hw5⟩; subst hw5)
      | (show wpList Try.prog _ _ (⟨some 56,_,_,_,_,_⟩::_) _ _; refine wpList_load_row rfl 31 (.tmp 1) rfl w.heap.size rfl 31 _ (0,0) _ hT1.bi vIns rfl sIns ?_)
      | (show wpList Try.prog _ _ (⟨some 60,_,_,_,_,_⟩::_) _ _; refine wpList_load_row rfl 31 (.tmp 5) rfl w1.heap.size rfl 31 _ (0,0) _ hT1.b5 vIns rfl sIns ?_)
      | (show wpList Try.prog _ _ (⟨some 57,_,_,_,_,_⟩::_) _ _; refine wpList_load_row rfl 31 (.tmp 5) rfl w1.heap.size rfl 31 _ (0,0) _ hT1.b5 vIns rfl sIns ?_)
      | (show wpList Try.prog _ _ (⟨none,.store _ (.tmp 2) _,_,_,_,_⟩::_) _ _; refine wpList_store_row rfl 31 (.tmp 2) (.tmp 60) rfl (w.heap.size + 1) (plainI 9).l.toArray rfl rfl 31 _ hT1.br sIns rfl (plain_one 9) ?_)
      | (go_at_call 7; refine (hpl _).mono ?_; rintro e w1 ⟨rfl,hb1⟩; have hT0:=BSt.first (o:=⟨9,0,-1,0,0,0,⟨#[]⟩,0,0,0,0,0,0,0,-1⟩) b0 b1 hs2 hB0 hb1; simp only [Ins.obj] at hT0; have ck0:=cell_of_heap hT0.bi 0 (.int .i64 9) rfl; have cs0:=cell_of_heap hT0.bi 2 (.int .i64 dst) rfl; have cf0:=free15 hT0.bi 2; have hT1:=hT0.store (i':=⟨9,op,-1,a,b,n,text,r0,r1,r2,r3,r4,r5,to_,els⟩) 2 (.int .i64 (-1)) rfl; have ck1:=cell_of_heap hT1.bi 0 (.int .i64 9) rfl; have hR:=setRow_heap _ _ _ (plainI 9).l.toArray _ _ hT1.br; obtain ⟨f0,f1,f2,f3,f4,f5,f6,f7,f8,f9,f10,f11,f12,f13,f14⟩:=Ins.cells (i:=plainI 9) hR; simp only at f0 f1 f2 f3 f4 f5 f6 f7 f8 f9 f10 f11 f12 f13 f14))
    (try simp only [Exit.inBlock,Exit.then])
    refine bodyPost_ret (by simp [results,Try.results70,go_sem,f0,f1,f2,f3,f4,f5,f6,f7,f8,f9,f10,f11,f12,f13,f14]; try rfl) rfl ⟨BareT.yes (o:=plainI 9) (bareY HBE.out HMM.out) rfl,?_⟩
    exact below_setRow hT1.below (Nat.le_add_right _ _) _
end Go.Proofs.Ythbcdckonaljiaa
namespace Go.Proofs.Ythbcdckonaljiaa
open Go.RowKit Go.BigFrame
set_option maxRecDepth 1000000 in
set_option maxHeartbeats 16000000 in
theorem bare_3 (op dst a b n:Int)(text:ByteArray)(r0 r1 r2 r3 r4 r5 to_ els:Int)(w:World):Calls Try.prog 70 #[Ins.agg ⟨3,op,dst,a,b,n,text,r0,r1,r2,r3,r4,r5,to_,els⟩] w fun e w'=>BareT ⟨3,op,dst,a,b,n,text,r0,r1,r2,r3,r4,r5,to_,els⟩ e∧Below w.heap.size w w':=by
  obtain ⟨W,hW,hs2,b0,b1,hB0⟩:=bare_pre ⟨3,op,dst,a,b,n,text,r0,r1,r2,r3,r4,r5,to_,els⟩ w
  have x0:=cell_of_heap b0 0 (.int .i64 3) rfl
  simp only [Ins.obj,zeroObj,Ins.agg] at hW ⊢
  have hus:=fun w=>uses_any 3 w
  have hst:=fun w=>sets_any 3 w
  rw [show kA 3=true from rfl] at hus
  rw [show kB 3=true from rfl] at hus
  rw [show kS 3=true from rfl] at hst
  have hpl:=fun w=>Plain_any 3 w
  have HMM:Hid (Ins.mk 3 op dst a b n text r0 r1 r2 r3 r4 r5 to_ els=Ins.mask ⟨3,op,dst,a,b,n,text,r0,r1,r2,r3,r4,r5,to_,els⟩↔Ins.mk 3 0 (-1) 0 0 n text r0 r1 r2 r3 r4 r5 to_ els=⟨3,0,-1,0,0,0,⟨#[]⟩,0,0,0,0,0,0,0,-1⟩):=Lib.hid (by simp [Ins.mask,kA,kB,kS,eq_comm])
  have hneq:=fun w=>neq_ins ⟨3,0,-1,0,0,n,text,r0,r1,r2,r3,r4,r5,to_,els⟩ ⟨3,0,-1,0,0,0,⟨#[]⟩,0,0,0,0,0,0,0,-1⟩ w
  obtain ⟨be,hbe⟩:∃ be,be=decide (Ins.mk 3 0 (-1) 0 0 n text r0 r1 r2 r3 r4 r5 to_ els=⟨3,0,-1,0,0,0,⟨#[]⟩,0,0,0,0,0,0,0,-1⟩):=⟨_,rfl⟩
  rw [← hbe] at hneq
  have HBE:=Lib.hid hbe
  clear hbe
  simp only [Ins.agg] at hneq hpl
  cases be
  · go_enter Try.func70,Try.ntmps70
    go_wp2_with (first
      | (go_at_call 84; refine (hus _).mono ?_; rintro e w5 ⟨rfl,hw5⟩; subst hw5)
      | (go_at_call 53; refine (hst _).mono ?_; rintro e w5 ⟨rfl,hw5⟩; subst hw5)
      | (show wpList Try.prog _ _ (⟨some 56,_,_,_,_,_⟩::_) _ _; refine wpList_load_row rfl 31 (.tmp 1) rfl w.heap.size rfl 31 _ (0,0) _ hT4.bi vIns rfl sIns ?_)
      | (show wpList Try.prog _ _ (⟨some 60,_,_,_,_,_⟩::_) _ _; refine wpList_load_row rfl 31 (.tmp 5) rfl w1.heap.size rfl 31 _ (0,0) _ hT5.b5 vIns rfl sIns ?_)
      | (show wpList Try.prog _ _ (⟨some 57,_,_,_,_,_⟩::_) _ _; refine wpList_load_row rfl 31 (.tmp 5) rfl w1.heap.size rfl 31 _ (0,0) _ hT4.b5 vIns rfl sIns ?_)
      | (show wpList Try.prog _ _ (⟨none,.store _ (.tmp 2) _,_,_,_,_⟩::_) _ _; refine wpList_store_row rfl 31 (.tmp 2) (.tmp 60) rfl (w.heap.size + 1) (plainI 0).l.toArray rfl rfl 31 _ hT5.br sIns rfl (plain_one 0) ?_)
      | (go_at_call 7; refine (hpl _).mono ?_; rintro e w1 ⟨rfl,hb1⟩; have hT0:=BSt.first (o:=⟨3,0,-1,0,0,0,⟨#[]⟩,0,0,0,0,0,0,0,-1⟩) b0 b1 hs2 hB0 hb1; simp only [Ins.obj] at hT0; have ck0:=cell_of_heap hT0.bi 0 (.int .i64 3) rfl; have cs0:=cell_of_heap hT0.bi 2 (.int .i64 dst) rfl; have cf0:=free15 hT0.bi 2; have hT1:=hT0.store (i':=⟨3,op,-1,a,b,n,text,r0,r1,r2,r3,r4,r5,to_,els⟩) 2 (.int .i64 (-1)) rfl; have ck1:=cell_of_heap hT1.bi 0 (.int .i64 3) rfl; have cs1:=cell_of_heap hT1.bi 3 (.int .i64 a) rfl; have cf1:=free15 hT1.bi 3; have hT2:=hT1.store (i':=⟨3,op,-1,0,b,n,text,r0,r1,r2,r3,r4,r5,to_,els⟩) 3 (.int .i64 0) rfl; have ck2:=cell_of_heap hT2.bi 0 (.int .i64 3) rfl; have cs2:=cell_of_heap hT2.bi 4 (.int .i64 b) rfl; have cf2:=free15 hT2.bi 4; have hT3:=hT2.store (i':=⟨3,op,-1,0,0,n,text,r0,r1,r2,r3,r4,r5,to_,els⟩) 4 (.int .i64 0) rfl; have ck3:=cell_of_heap hT3.bi 0 (.int .i64 3) rfl; have cs3:=cell_of_heap hT3.bi 1 (.int .i64 op) rfl; have cf3:=free15 hT3.bi 1; have hT4:=hT3.store (i':=⟨3,0,-1,0,0,n,text,r0,r1,r2,r3,r4,r5,to_,els⟩) 1 (.int .i64 0) rfl; have ck4:=cell_of_heap hT4.bi 0 (.int .i64 3) rfl; have y0:=cell_of_heap hT4.b5 0 (.int .i64 3) rfl; have yf:=free15 hT4.b5 0; have hT5:=hT4.store5 (o':=plainI 0) 0 (.int .i64 0) rfl; have hR:=setRow_heap _ _ _ (plainI 0).l.toArray _ _ hT5.br; obtain ⟨f0,f1,f2,f3,f4,f5,f6,f7,f8,f9,f10,f11,f12,f13,f14⟩:=Ins.cells (i:=plainI 0) hR; simp only at f0 f1 f2 f3 f4 f5 f6 f7 f8 f9 f10 f11 f12 f13 f14))
    (try simp only [Exit.inBlock,Exit.then])
    refine bodyPost_ret (by simp [results,Try.results70,go_sem,f0,f1,f2,f3,f4,f5,f6,f7,f8,f9,f10,f11,f12,f13,f14]; try rfl) rfl ⟨BareT.no (o:=plainI 0) (bareN HBE.out HMM.out) rfl,?_⟩
    exact below_setRow hT5.below (Nat.le_add_right _ _) _
  · go_enter Try.func70,Try.ntmps70
    go_wp2_with (first
      | (go_at_call 84; refine (hus _).mono ?_; rintro e w5 ⟨rfl,hw5⟩; subst hw5)
      | (go_at_call 53; refine (hst _).mono ?_; rintro e w5 ⟨rfl,hw5⟩; subst hw5)
      | (show wpList Try.prog _ _ (⟨some 56,_,_,_,_,_⟩::_) _ _; refine wpList_load_row rfl 31 (.tmp 1) rfl w.heap.size rfl 31 _ (0,0) _ hT4.bi vIns rfl sIns ?_)
      | (show wpList Try.prog _ _ (⟨some 60,_,_,_,_,_⟩::_) _ _; refine wpList_load_row rfl 31 (.tmp 5) rfl w1.heap.size rfl 31 _ (0,0) _ hT4.b5 vIns rfl sIns ?_)
      | (show wpList Try.prog _ _ (⟨some 57,_,_,_,_,_⟩::_) _ _; refine wpList_load_row rfl 31 (.tmp 5) rfl w1.heap.size rfl 31 _ (0,0) _ hT4.b5 vIns rfl sIns ?_)
      | (show wpList Try.prog _ _ (⟨none,.store _ (.tmp 2) _,_,_,_,_⟩::_) _ _; refine wpList_store_row rfl 31 (.tmp 2) (.tmp 60) rfl (w.heap.size + 1) (plainI 3).l.toArray rfl rfl 31 _ hT4.br sIns rfl (plain_one 3) ?_)
      | (go_at_call 7; refine (hpl _).mono ?_; rintro e w1 ⟨rfl,hb1⟩; have hT0:=BSt.first (o:=⟨3,0,-1,0,0,0,⟨#[]⟩,0,0,0,0,0,0,0,-1⟩) b0 b1 hs2 hB0 hb1; simp only [Ins.obj] at hT0; have ck0:=cell_of_heap hT0.bi 0 (.int .i64 3) rfl; have cs0:=cell_of_heap hT0.bi 2 (.int .i64 dst) rfl; have cf0:=free15 hT0.bi 2; have hT1:=hT0.store (i':=⟨3,op,-1,a,b,n,text,r0,r1,r2,r3,r4,r5,to_,els⟩) 2 (.int .i64 (-1)) rfl; have ck1:=cell_of_heap hT1.bi 0 (.int .i64 3) rfl; have cs1:=cell_of_heap hT1.bi 3 (.int .i64 a) rfl; have cf1:=free15 hT1.bi 3; have hT2:=hT1.store (i':=⟨3,op,-1,0,b,n,text,r0,r1,r2,r3,r4,r5,to_,els⟩) 3 (.int .i64 0) rfl; have ck2:=cell_of_heap hT2.bi 0 (.int .i64 3) rfl; have cs2:=cell_of_heap hT2.bi 4 (.int .i64 b) rfl; have cf2:=free15 hT2.bi 4; have hT3:=hT2.store (i':=⟨3,op,-1,0,0,n,text,r0,r1,r2,r3,r4,r5,to_,els⟩) 4 (.int .i64 0) rfl; have ck3:=cell_of_heap hT3.bi 0 (.int .i64 3) rfl; have cs3:=cell_of_heap hT3.bi 1 (.int .i64 op) rfl; have cf3:=free15 hT3.bi 1; have hT4:=hT3.store (i':=⟨3,0,-1,0,0,n,text,r0,r1,r2,r3,r4,r5,to_,els⟩) 1 (.int .i64 0) rfl; have ck4:=cell_of_heap hT4.bi 0 (.int .i64 3) rfl; have hR:=setRow_heap _ _ _ (plainI 3).l.toArray _ _ hT4.br; obtain ⟨f0,f1,f2,f3,f4,f5,f6,f7,f8,f9,f10,f11,f12,f13,f14⟩:=Ins.cells (i:=plainI 3) hR; simp only at f0 f1 f2 f3 f4 f5 f6 f7 f8 f9 f10 f11 f12 f13 f14))
    (try simp only [Exit.inBlock,Exit.then])
    refine bodyPost_ret (by simp [results,Try.results70,go_sem,f0,f1,f2,f3,f4,f5,f6,f7,f8,f9,f10,f11,f12,f13,f14]; try rfl) rfl ⟨BareT.yes (o:=plainI 3) (bareY HBE.out HMM.out) rfl,?_⟩
    exact below_setRow hT4.below (Nat.le_add_right _ _) _
set_option maxRecDepth 1000000 in
set_option maxHeartbeats 16000000 in
theorem bare_4 (op dst a b n:Int)(text:ByteArray)(r0 r1 r2 r3 r4 r5 to_ els:Int)(w:World):Calls Try.prog 70 #[Ins.agg ⟨4,op,dst,a,b,n,text,r0,r1,r2,r3,r4,r5,to_,els⟩] w fun e w'=>BareT ⟨4,op,dst,a,b,n,text,r0,r1,r2,r3,r4,r5,to_,els⟩ e∧Below w.heap.size w w':=by
  obtain ⟨W,hW,hs2,b0,b1,hB0⟩:=bare_pre ⟨4,op,dst,a,b,n,text,r0,r1,r2,r3,r4,r5,to_,els⟩ w
  have x0:=cell_of_heap b0 0 (.int .i64 4) rfl
  simp only [Ins.obj,zeroObj,Ins.agg] at hW ⊢
  have hus:=fun w=>uses_any 4 w
  have hst:=fun w=>sets_any 4 w
  rw [show kA 4=true from rfl] at hus
  rw [show kB 4=false from rfl] at hus
  rw [show kS 4=true from rfl] at hst
  have hpl:=fun w=>Plain_any 4 w
  have HMM:Hid (Ins.mk 4 op dst a b n text r0 r1 r2 r3 r4 r5 to_ els=Ins.mask ⟨4,op,dst,a,b,n,text,r0,r1,r2,r3,r4,r5,to_,els⟩↔Ins.mk 4 op (-1) 0 b n text r0 r1 r2 r3 r4 r5 to_ els=⟨4,0,-1,0,0,0,⟨#[]⟩,0,0,0,0,0,0,0,-1⟩):=Lib.hid (by simp [Ins.mask,kA,kB,kS,eq_comm])
  have hneq:=fun w=>neq_ins ⟨4,op,-1,0,b,n,text,r0,r1,r2,r3,r4,r5,to_,els⟩ ⟨4,0,-1,0,0,0,⟨#[]⟩,0,0,0,0,0,0,0,-1⟩ w
  obtain ⟨be,hbe⟩:∃ be,be=decide (Ins.mk 4 op (-1) 0 b n text r0 r1 r2 r3 r4 r5 to_ els=⟨4,0,-1,0,0,0,⟨#[]⟩,0,0,0,0,0,0,0,-1⟩):=⟨_,rfl⟩
  rw [← hbe] at hneq
  have HBE:=Lib.hid hbe
  clear hbe
  simp only [Ins.agg] at hneq hpl
  cases be
  · go_enter Try.func70,Try.ntmps70
    go_wp2_with (first
      | (go_at_call 84; refine (hus _).mono ?_; rintro e w5 ⟨rfl,hw5⟩; subst hw5)
      | (go_at_call 53; refine (hst _).mono ?_; rintro e w5 ⟨rfl,hw5⟩; subst hw5)
      | (show wpList Try.prog _ _ (⟨some 56,_,_,_,_,_⟩::_) _ _; refine wpList_load_row rfl 31 (.tmp 1) rfl w.heap.size rfl 31 _ (0,0) _ hT2.bi vIns rfl sIns ?_)
      | (show wpList Try.prog _ _ (⟨some 60,_,_,_,_,_⟩::_) _ _; refine wpList_load_row rfl 31 (.tmp 5) rfl w1.heap.size rfl 31 _ (0,0) _ hT3.b5 vIns rfl sIns ?_)
      | (show wpList Try.prog _ _ (⟨some 57,_,_,_,_,_⟩::_) _ _; refine wpList_load_row rfl 31 (.tmp 5) rfl w1.heap.size rfl 31 _ (0,0) _ hT2.b5 vIns rfl sIns ?_)
      | (show wpList Try.prog _ _ (⟨none,.store _ (.tmp 2) _,_,_,_,_⟩::_) _ _; refine wpList_store_row rfl 31 (.tmp 2) (.tmp 60) rfl (w.heap.size + 1) (plainI 0).l.toArray rfl rfl 31 _ hT3.br sIns rfl (plain_one 0) ?_)
      | (go_at_call 7; refine (hpl _).mono ?_; rintro e w1 ⟨rfl,hb1⟩; have hT0:=BSt.first (o:=⟨4,0,-1,0,0,0,⟨#[]⟩,0,0,0,0,0,0,0,-1⟩) b0 b1 hs2 hB0 hb1; simp only [Ins.obj] at hT0; have ck0:=cell_of_heap hT0.bi 0 (.int .i64 4) rfl; have cs0:=cell_of_heap hT0.bi 2 (.int .i64 dst) rfl; have cf0:=free15 hT0.bi 2; have hT1:=hT0.store (i':=⟨4,op,-1,a,b,n,text,r0,r1,r2,r3,r4,r5,to_,els⟩) 2 (.int .i64 (-1)) rfl; have ck1:=cell_of_heap hT1.bi 0 (.int .i64 4) rfl; have cs1:=cell_of_heap hT1.bi 3 (.int .i64 a) rfl; have cf1:=free15 hT1.bi 3; have hT2:=hT1.store (i':=⟨4,op,-1,0,b,n,text,r0,r1,r2,r3,r4,r5,to_,els⟩) 3 (.int .i64 0) rfl; have ck2:=cell_of_heap hT2.bi 0 (.int .i64 4) rfl; have y0:=cell_of_heap hT2.b5 0 (.int .i64 4) rfl; have yf:=free15 hT2.b5 0; have hT3:=hT2.store5 (o':=plainI 0) 0 (.int .i64 0) rfl; have hR:=setRow_heap _ _ _ (plainI 0).l.toArray _ _ hT3.br; obtain ⟨f0,f1,f2,f3,f4,f5,f6,f7,f8,f9,f10,f11,f12,f13,f14⟩:=Ins.cells (i:=plainI 0) hR; simp only at f0 f1 f2 f3 f4 f5 f6 f7 f8 f9 f10 f11 f12 f13 f14))
    (try simp only [Exit.inBlock,Exit.then])
    refine bodyPost_ret (by simp [results,Try.results70,go_sem,f0,f1,f2,f3,f4,f5,f6,f7,f8,f9,f10,f11,f12,f13,f14]; try rfl) rfl ⟨BareT.no (o:=plainI 0) (bareN HBE.out HMM.out) rfl,?_⟩
    exact below_setRow hT3.below (Nat.le_add_right _ _) _
  · go_enter Try.func70,Try.ntmps70
    go_wp2_with (first
      | (go_at_call 84; refine (hus _).mono ?_; rintro e w5 ⟨rfl,hw5⟩; subst hw5)
      | (go_at_call 53; refine (hst _).mono ?_; rintro e w5 ⟨rfl,hw5⟩; subst hw5)
      | (show wpList Try.prog _ _ (⟨some 56,_,_,_,_,_⟩::_) _ _; refine wpList_load_row rfl 31 (.tmp 1) rfl w.heap.size rfl 31 _ (0,0) _ hT2.bi vIns rfl sIns ?_)
      | (show wpList Try.prog _ _ (⟨some 60,_,_,_,_,_⟩::_) _ _; refine wpList_load_row rfl 31 (.tmp 5) rfl w1.heap.size rfl 31 _ (0,0) _ hT2.b5 vIns rfl sIns ?_)
      | (show wpList Try.prog _ _ (⟨some 57,_,_,_,_,_⟩::_) _ _; refine wpList_load_row rfl 31 (.tmp 5) rfl w1.heap.size rfl 31 _ (0,0) _ hT2.b5 vIns rfl sIns ?_)
      | (show wpList Try.prog _ _ (⟨none,.store _ (.tmp 2) _,_,_,_,_⟩::_) _ _; refine wpList_store_row rfl 31 (.tmp 2) (.tmp 60) rfl (w.heap.size + 1) (plainI 4).l.toArray rfl rfl 31 _ hT2.br sIns rfl (plain_one 4) ?_)
      | (go_at_call 7; refine (hpl _).mono ?_; rintro e w1 ⟨rfl,hb1⟩; have hT0:=BSt.first (o:=⟨4,0,-1,0,0,0,⟨#[]⟩,0,0,0,0,0,0,0,-1⟩) b0 b1 hs2 hB0 hb1; simp only [Ins.obj] at hT0; have ck0:=cell_of_heap hT0.bi 0 (.int .i64 4) rfl; have cs0:=cell_of_heap hT0.bi 2 (.int .i64 dst) rfl; have cf0:=free15 hT0.bi 2; have hT1:=hT0.store (i':=⟨4,op,-1,a,b,n,text,r0,r1,r2,r3,r4,r5,to_,els⟩) 2 (.int .i64 (-1)) rfl; have ck1:=cell_of_heap hT1.bi 0 (.int .i64 4) rfl; have cs1:=cell_of_heap hT1.bi 3 (.int .i64 a) rfl; have cf1:=free15 hT1.bi 3; have hT2:=hT1.store (i':=⟨4,op,-1,0,b,n,text,r0,r1,r2,r3,r4,r5,to_,els⟩) 3 (.int .i64 0) rfl; have ck2:=cell_of_heap hT2.bi 0 (.int .i64 4) rfl; have hR:=setRow_heap _ _ _ (plainI 4).l.toArray _ _ hT2.br; obtain ⟨f0,f1,f2,f3,f4,f5,f6,f7,f8,f9,f10,f11,f12,f13,f14⟩:=Ins.cells (i:=plainI 4) hR; simp only at f0 f1 f2 f3 f4 f5 f6 f7 f8 f9 f10 f11 f12 f13 f14))
    (try simp only [Exit.inBlock,Exit.then])
    refine bodyPost_ret (by simp [results,Try.results70,go_sem,f0,f1,f2,f3,f4,f5,f6,f7,f8,f9,f10,f11,f12,f13,f14]; try rfl) rfl ⟨BareT.yes (o:=plainI 4) (bareY HBE.out HMM.out) rfl,?_⟩
    exact below_setRow hT2.below (Nat.le_add_right _ _) _
set_option maxRecDepth 1000000 in
set_option maxHeartbeats 16000000 in
theorem bare_6 (op dst a b n:Int)(text:ByteArray)(r0 r1 r2 r3 r4 r5 to_ els:Int)(w:World):Calls Try.prog 70 #[Ins.agg ⟨6,op,dst,a,b,n,text,r0,r1,r2,r3,r4,r5,to_,els⟩] w fun e w'=>BareT ⟨6,op,dst,a,b,n,text,r0,r1,r2,r3,r4,r5,to_,els⟩ e∧Below w.heap.size w w':=by
  obtain ⟨W,hW,hs2,b0,b1,hB0⟩:=bare_pre ⟨6,op,dst,a,b,n,text,r0,r1,r2,r3,r4,r5,to_,els⟩ w
  have x0:=cell_of_heap b0 0 (.int .i64 6) rfl
  simp only [Ins.obj,zeroObj,Ins.agg] at hW ⊢
  have hus:=fun w=>uses_any 6 w
  have hst:=fun w=>sets_any 6 w
  rw [show kA 6=true from rfl] at hus
  rw [show kB 6=false from rfl] at hus
  rw [show kS 6=true from rfl] at hst
  have hpl:=fun w=>Plain_any 6 w
  have HMM:Hid (Ins.mk 6 op dst a b n text r0 r1 r2 r3 r4 r5 to_ els=Ins.mask ⟨6,op,dst,a,b,n,text,r0,r1,r2,r3,r4,r5,to_,els⟩↔Ins.mk 6 op (-1) 0 b n text r0 r1 r2 r3 r4 r5 to_ els=⟨6,0,-1,0,0,0,⟨#[]⟩,0,0,0,0,0,0,0,-1⟩):=Lib.hid (by simp [Ins.mask,kA,kB,kS,eq_comm])
  have hneq:=fun w=>neq_ins ⟨6,op,-1,0,b,n,text,r0,r1,r2,r3,r4,r5,to_,els⟩ ⟨6,0,-1,0,0,0,⟨#[]⟩,0,0,0,0,0,0,0,-1⟩ w
  obtain ⟨be,hbe⟩:∃ be,be=decide (Ins.mk 6 op (-1) 0 b n text r0 r1 r2 r3 r4 r5 to_ els=⟨6,0,-1,0,0,0,⟨#[]⟩,0,0,0,0,0,0,0,-1⟩):=⟨_,rfl⟩
  rw [← hbe] at hneq
  have HBE:=Lib.hid hbe
  clear hbe
  simp only [Ins.agg] at hneq hpl
  cases be
  · go_enter Try.func70,Try.ntmps70
    go_wp2_with (first
      | (go_at_call 84; refine (hus _).mono ?_; rintro e w5 ⟨rfl,hw5⟩; subst hw5)
      | (go_at_call 53; refine (hst _).mono ?_; rintro e w5 ⟨rfl,hw5⟩; subst hw5)
      | (show wpList Try.prog _ _ (⟨some 56,_,_,_,_,_⟩::_) _ _; refine wpList_load_row rfl 31 (.tmp 1) rfl w.heap.size rfl 31 _ (0,0) _ hT2.bi vIns rfl sIns ?_)
      | (show wpList Try.prog _ _ (⟨some 60,_,_,_,_,_⟩::_) _ _; refine wpList_load_row rfl 31 (.tmp 5) rfl w1.heap.size rfl 31 _ (0,0) _ hT3.b5 vIns rfl sIns ?_)
      | (show wpList Try.prog _ _ (⟨some 57,_,_,_,_,_⟩::_) _ _; refine wpList_load_row rfl 31 (.tmp 5) rfl w1.heap.size rfl 31 _ (0,0) _ hT2.b5 vIns rfl sIns ?_)
      | (show wpList Try.prog _ _ (⟨none,.store _ (.tmp 2) _,_,_,_,_⟩::_) _ _; refine wpList_store_row rfl 31 (.tmp 2) (.tmp 60) rfl (w.heap.size + 1) (plainI 0).l.toArray rfl rfl 31 _ hT3.br sIns rfl (plain_one 0) ?_)
      | (go_at_call 7; refine (hpl _).mono ?_; rintro e w1 ⟨rfl,hb1⟩; have hT0:=BSt.first (o:=⟨6,0,-1,0,0,0,⟨#[]⟩,0,0,0,0,0,0,0,-1⟩) b0 b1 hs2 hB0 hb1; simp only [Ins.obj] at hT0; have ck0:=cell_of_heap hT0.bi 0 (.int .i64 6) rfl; have cs0:=cell_of_heap hT0.bi 2 (.int .i64 dst) rfl; have cf0:=free15 hT0.bi 2; have hT1:=hT0.store (i':=⟨6,op,-1,a,b,n,text,r0,r1,r2,r3,r4,r5,to_,els⟩) 2 (.int .i64 (-1)) rfl; have ck1:=cell_of_heap hT1.bi 0 (.int .i64 6) rfl; have cs1:=cell_of_heap hT1.bi 3 (.int .i64 a) rfl; have cf1:=free15 hT1.bi 3; have hT2:=hT1.store (i':=⟨6,op,-1,0,b,n,text,r0,r1,r2,r3,r4,r5,to_,els⟩) 3 (.int .i64 0) rfl; have ck2:=cell_of_heap hT2.bi 0 (.int .i64 6) rfl; have y0:=cell_of_heap hT2.b5 0 (.int .i64 6) rfl; have yf:=free15 hT2.b5 0; have hT3:=hT2.store5 (o':=plainI 0) 0 (.int .i64 0) rfl; have hR:=setRow_heap _ _ _ (plainI 0).l.toArray _ _ hT3.br; obtain ⟨f0,f1,f2,f3,f4,f5,f6,f7,f8,f9,f10,f11,f12,f13,f14⟩:=Ins.cells (i:=plainI 0) hR; simp only at f0 f1 f2 f3 f4 f5 f6 f7 f8 f9 f10 f11 f12 f13 f14))
    (try simp only [Exit.inBlock,Exit.then])
    refine bodyPost_ret (by simp [results,Try.results70,go_sem,f0,f1,f2,f3,f4,f5,f6,f7,f8,f9,f10,f11,f12,f13,f14]; try rfl) rfl ⟨BareT.no (o:=plainI 0) (bareN HBE.out HMM.out) rfl,?_⟩
    exact below_setRow hT3.below (Nat.le_add_right _ _) _
  · go_enter Try.func70,Try.ntmps70
    go_wp2_with (first
      | (go_at_call 84; refine (hus _).mono ?_; rintro e w5 ⟨rfl,hw5⟩; subst hw5)
      | (go_at_call 53; refine (hst _).mono ?_; rintro e w5 ⟨rfl,hw5⟩; subst hw5)
      | (show wpList Try.prog _ _ (⟨some 56,_,_,_,_,_⟩::_) _ _; refine wpList_load_row rfl 31 (.tmp 1) rfl w.heap.size rfl 31 _ (0,0) _ hT2.bi vIns rfl sIns ?_)
      | (show wpList Try.prog _ _ (⟨some 60,_,_,_,_,_⟩::_) _ _; refine wpList_load_row rfl 31 (.tmp 5) rfl w1.heap.size rfl 31 _ (0,0) _ hT2.b5 vIns rfl sIns ?_)
      | (show wpList Try.prog _ _ (⟨some 57,_,_,_,_,_⟩::_) _ _; refine wpList_load_row rfl 31 (.tmp 5) rfl w1.heap.size rfl 31 _ (0,0) _ hT2.b5 vIns rfl sIns ?_)
      | (show wpList Try.prog _ _ (⟨none,.store _ (.tmp 2) _,_,_,_,_⟩::_) _ _; refine wpList_store_row rfl 31 (.tmp 2) (.tmp 60) rfl (w.heap.size + 1) (plainI 6).l.toArray rfl rfl 31 _ hT2.br sIns rfl (plain_one 6) ?_)
      | (go_at_call 7; refine (hpl _).mono ?_; rintro e w1 ⟨rfl,hb1⟩; have hT0:=BSt.first (o:=⟨6,0,-1,0,0,0,⟨#[]⟩,0,0,0,0,0,0,0,-1⟩) b0 b1 hs2 hB0 hb1; simp only [Ins.obj] at hT0; have ck0:=cell_of_heap hT0.bi 0 (.int .i64 6) rfl; have cs0:=cell_of_heap hT0.bi 2 (.int .i64 dst) rfl; have cf0:=free15 hT0.bi 2; have hT1:=hT0.store (i':=⟨6,op,-1,a,b,n,text,r0,r1,r2,r3,r4,r5,to_,els⟩) 2 (.int .i64 (-1)) rfl; have ck1:=cell_of_heap hT1.bi 0 (.int .i64 6) rfl; have cs1:=cell_of_heap hT1.bi 3 (.int .i64 a) rfl; have cf1:=free15 hT1.bi 3; have hT2:=hT1.store (i':=⟨6,op,-1,0,b,n,text,r0,r1,r2,r3,r4,r5,to_,els⟩) 3 (.int .i64 0) rfl; have ck2:=cell_of_heap hT2.bi 0 (.int .i64 6) rfl; have hR:=setRow_heap _ _ _ (plainI 6).l.toArray _ _ hT2.br; obtain ⟨f0,f1,f2,f3,f4,f5,f6,f7,f8,f9,f10,f11,f12,f13,f14⟩:=Ins.cells (i:=plainI 6) hR; simp only at f0 f1 f2 f3 f4 f5 f6 f7 f8 f9 f10 f11 f12 f13 f14))
    (try simp only [Exit.inBlock,Exit.then])
    refine bodyPost_ret (by simp [results,Try.results70,go_sem,f0,f1,f2,f3,f4,f5,f6,f7,f8,f9,f10,f11,f12,f13,f14]; try rfl) rfl ⟨BareT.yes (o:=plainI 6) (bareY HBE.out HMM.out) rfl,?_⟩
    exact below_setRow hT2.below (Nat.le_add_right _ _) _
end Go.Proofs.Ythbcdckonaljiaa

