import Derived.Test.YthbcdckonaljiaaZc
namespace Go.Proofs.Ythbcdckonaljiaa
open Go.RowKit Go.BigFrame
set_option maxRecDepth 1000000 in
set_option maxHeartbeats 16000000 in
theorem bare_5 (op dst a b n:Int)(text:ByteArray)(r0 r1 r2 r3 r4 r5 to_ els:Int)(w:World):Calls Try.prog 70 #[Ins.agg ⟨5,op,dst,a,b,n,text,r0,r1,r2,r3,r4,r5,to_,els⟩] w fun e w'=>BareT ⟨5,op,dst,a,b,n,text,r0,r1,r2,r3,r4,r5,to_,els⟩ e∧Below w.heap.size w w':=by
  obtain ⟨W,hW,hs2,b0,b1,hB0⟩:=bare_pre ⟨5,op,dst,a,b,n,text,r0,r1,r2,r3,r4,r5,to_,els⟩ w
  have x0:=cell_of_heap b0 0 (.int .i64 5) rfl
  simp only [Ins.obj,zeroObj,Ins.agg] at hW ⊢
  have hus:=fun w=>uses_any 5 w
  have hst:=fun w=>sets_any 5 w
  rw [show kA 5=false from rfl] at hus
  rw [show kB 5=false from rfl] at hus
  rw [show kS 5=true from rfl] at hst
  have hpl:=fun w=>Plain_any 5 w
  have HMM:Hid (Ins.mk 5 op dst a b n text r0 r1 r2 r3 r4 r5 to_ els=Ins.mask ⟨5,op,dst,a,b,n,text,r0,r1,r2,r3,r4,r5,to_,els⟩↔Ins.mk 5 op (-1) a b 0 text r0 r1 r2 r3 r4 r5 to_ els=⟨5,0,-1,0,0,0,⟨#[]⟩,0,0,0,0,0,0,0,-1⟩):=Lib.hid (by simp [Ins.mask,kA,kB,kS,eq_comm])
  have hneq:=fun w=>neq_ins ⟨5,op,-1,a,b,0,text,r0,r1,r2,r3,r4,r5,to_,els⟩ ⟨5,0,-1,0,0,0,⟨#[]⟩,0,0,0,0,0,0,0,-1⟩ w
  obtain ⟨be,hbe⟩:∃ be,be=decide (Ins.mk 5 op (-1) a b 0 text r0 r1 r2 r3 r4 r5 to_ els=⟨5,0,-1,0,0,0,⟨#[]⟩,0,0,0,0,0,0,0,-1⟩):=⟨_,rfl⟩
  rw [← hbe] at hneq
  have HBE:=Lib.hid hbe
  clear hbe
  simp only [Ins.agg] at hneq hpl
  cases be
  · go_enter Try.func70,Try.ntmps70
    go_wp2_with (first
      | (go_at_call 84; refine (hus _).mono ?_; rintro e w5 ⟨rfl,hw5⟩; subst hw5)
      | (go_at_call 53; refine (hst _).mono ?_; rintro e w5 ⟨rfl,hw5⟩; subst hw5)
      | (show wpList Try.prog _ _ (⟨some 56,_,_,_,_,_⟩::_) _ _; refine wpList_load_row rfl 31 (.tmp 1) rfl w.heap.size rfl 31 _ (0,0) _ hT2.bi vIns rfl sIns ?_)
      | (show wpList Try.prog _ _ (⟨some 60,_,_,_,_,_⟩::_) _ _; refine wpList_load_row rfl 31 (.tmp 5) rfl w1.heap.size rfl 31 _ (0,0) _ hT3.b5 vIns rfl sIns ?_)
      | (show wpList Try.prog _ _ (⟨some 57,_,_,_,_,_⟩::_) _ _; refine wpList_load_row rfl 31 (.tmp 5) rfl w1.heap.size rfl 31 _ (0,0) _ hT2.b5 vIns rfl sIns ?_)
      | (show wpList Try.prog _ _ (⟨none,.store _ (.tmp 2) _,_,_,_,_⟩::_) _ _; refine wpList_store_row rfl 31 (.tmp 2) (.tmp 60) rfl (w.heap.size + 1) (plainI 0).l.toArray rfl rfl 31 _ hT3.br sIns rfl (plain_one 0) ?_)
      | (go_at_call 7; refine (hpl _).mono ?_; rintro e w1 ⟨rfl,hb1⟩; have hT0:=BSt.first (o:=⟨5,0,-1,0,0,0,⟨#[]⟩,0,0,0,0,0,0,0,-1⟩) b0 b1 hs2 hB0 hb1; simp only [Ins.obj] at hT0; have ck0:=cell_of_heap hT0.bi 0 (.int .i64 5) rfl; have cs0:=cell_of_heap hT0.bi 2 (.int .i64 dst) rfl; have cf0:=free15 hT0.bi 2; have hT1:=hT0.store (i':=⟨5,op,-1,a,b,n,text,r0,r1,r2,r3,r4,r5,to_,els⟩) 2 (.int .i64 (-1)) rfl; have ck1:=cell_of_heap hT1.bi 0 (.int .i64 5) rfl; have cs1:=cell_of_heap hT1.bi 5 (.int .i64 n) rfl; have cf1:=free15 hT1.bi 5; have hT2:=hT1.store (i':=⟨5,op,-1,a,b,0,text,r0,r1,r2,r3,r4,r5,to_,els⟩) 5 (.int .i64 0) rfl; have ck2:=cell_of_heap hT2.bi 0 (.int .i64 5) rfl; have y0:=cell_of_heap hT2.b5 0 (.int .i64 5) rfl; have yf:=free15 hT2.b5 0; have hT3:=hT2.store5 (o':=plainI 0) 0 (.int .i64 0) rfl; have hR:=setRow_heap _ _ _ (plainI 0).l.toArray _ _ hT3.br; obtain ⟨f0,f1,f2,f3,f4,f5,f6,f7,f8,f9,f10,f11,f12,f13,f14⟩:=Ins.cells (i:=plainI 0) hR; simp only at f0 f1 f2 f3 f4 f5 f6 f7 f8 f9 f10 f11 f12 f13 f14))
    (try simp only [Exit.inBlock,Exit.then])
    refine bodyPost_ret (by simp [results,Try.results70,go_sem,f0,f1,f2,f3,f4,f5,f6,f7,f8,f9,f10,f11,f12,f13,f14]; try rfl) rfl ⟨BareT.no (o:=plainI 0) (bareN HBE.out HMM.out) rfl,?_⟩
    exact below_setRow hT3.below (Nat.le_add_right _ _) _
  · go_enter Try.func70,Try.ntmps70
    go_wp2_with (first
      | (go_at_call 84; refine (hus _).mono ?_; rintro e w5 ⟨rfl,hw5⟩; subst hw5)
      | (go_at_call 53; refine (hst _).mono ?_; rintro e w5 ⟨rfl,hw5⟩; subst hw5)
      | (show wpList Try.prog _ _ (⟨some 56,_,_,_,_,_⟩::_) _ _; refine wpList_load_row rfl 31 (.tmp 1) rfl w.heap.size rfl 31 _ (0,0) _ hT2.bi vIns rfl sIns ?_)
      | (show wpList Try.prog _ _ (⟨some 60,_,_,_,_,_⟩::_) _ _; refine wpList_load_row rfl 31 (.tmp 5) rfl w1.heap.size rfl 31 _ (0,0) _ hT2.b5 vIns rfl sIns ?_)
      | (show wpList Try.prog _ _ (⟨some 57,_,_,_,_,_⟩::_) _ _; refine wpList_load_row rfl 31 (.tmp 5) rfl w1.heap.size rfl 31 _ (0,0) _ hT2.b5 vIns rfl sIns ?_)
      | (show wpList Try.prog _ _ (⟨none,.store _ (.tmp 2) _,_,_,_,_⟩::_) _ _; refine wpList_store_row rfl 31 (.tmp 2) (.tmp 60) rfl (w.heap.size + 1) (plainI 5).l.toArray rfl rfl 31 _ hT2.br sIns rfl (plain_one 5) ?_)
      | (go_at_call 7; refine (hpl _).mono ?_; rintro e w1 ⟨rfl,hb1⟩; have hT0:=BSt.first (o:=⟨5,0,-1,0,0,0,⟨#[]⟩,0,0,0,0,0,0,0,-1⟩) b0 b1 hs2 hB0 hb1; simp only [Ins.obj] at hT0; have ck0:=cell_of_heap hT0.bi 0 (.int .i64 5) rfl; have cs0:=cell_of_heap hT0.bi 2 (.int .i64 dst) rfl; have cf0:=free15 hT0.bi 2; have hT1:=hT0.store (i':=⟨5,op,-1,a,b,n,text,r0,r1,r2,r3,r4,r5,to_,els⟩) 2 (.int .i64 (-1)) rfl; have ck1:=cell_of_heap hT1.bi 0 (.int .i64 5) rfl; have cs1:=cell_of_heap hT1.bi 5 (.int .i64 n) rfl; have cf1:=free15 hT1.bi 5; have hT2:=hT1.store (i':=⟨5,op,-1,a,b,0,text,r0,r1,r2,r3,r4,r5,to_,els⟩) 5 (.int .i64 0) rfl; have ck2:=cell_of_heap hT2.bi 0 (.int .i64 5) rfl; have hR:=setRow_heap _ _ _ (plainI 5).l.toArray _ _ hT2.br; obtain ⟨f0,f1,f2,f3,f4,f5,f6,f7,f8,f9,f10,f11,f12,f13,f14⟩:=Ins.cells (i:=plainI 5) hR; simp only at f0 f1 f2 f3 f4 f5 f6 f7 f8 f9 f10 f11 f12 f13 f14))
    (try simp only [Exit.inBlock,Exit.then])
    refine bodyPost_ret (by simp [results,Try.results70,go_sem,f0,f1,f2,f3,f4,f5,f6,f7,f8,f9,f10,f11,f12,f13,f14]; try rfl) rfl ⟨BareT.yes (o:=plainI 5) (bareY HBE.out HMM.out) rfl,?_⟩
    exact below_setRow hT2.below (Nat.le_add_right _ _) _
set_option maxRecDepth 1000000 in
set_option maxHeartbeats 16000000 in
theorem bare_7 (op dst a b n:Int)(text:ByteArray)(r0 r1 r2 r3 r4 r5 to_ els:Int)(w:World):Calls Try.prog 70 #[Ins.agg ⟨7,op,dst,a,b,n,text,r0,r1,r2,r3,r4,r5,to_,els⟩] w fun e w'=>BareT ⟨7,op,dst,a,b,n,text,r0,r1,r2,r3,r4,r5,to_,els⟩ e∧Below w.heap.size w w':=by
  obtain ⟨W,hW,hs2,b0,b1,hB0⟩:=bare_pre ⟨7,op,dst,a,b,n,text,r0,r1,r2,r3,r4,r5,to_,els⟩ w
  have x0:=cell_of_heap b0 0 (.int .i64 7) rfl
  simp only [Ins.obj,zeroObj,Ins.agg] at hW ⊢
  have hus:=fun w=>uses_any 7 w
  have hst:=fun w=>sets_any 7 w
  rw [show kA 7=true from rfl] at hus
  rw [show kB 7=true from rfl] at hus
  rw [show kS 7=false from rfl] at hst
  have hpl:=fun w=>Plain_any 7 w
  have HMM:Hid (Ins.mk 7 op dst a b n text r0 r1 r2 r3 r4 r5 to_ els=Ins.mask ⟨7,op,dst,a,b,n,text,r0,r1,r2,r3,r4,r5,to_,els⟩↔Ins.mk 7 op dst 0 0 n text r0 r1 r2 r3 r4 r5 to_ els=⟨7,0,-1,0,0,0,⟨#[]⟩,0,0,0,0,0,0,0,-1⟩):=Lib.hid (by simp [Ins.mask,kA,kB,kS,eq_comm])
  have hneq:=fun w=>neq_ins ⟨7,op,dst,0,0,n,text,r0,r1,r2,r3,r4,r5,to_,els⟩ ⟨7,0,-1,0,0,0,⟨#[]⟩,0,0,0,0,0,0,0,-1⟩ w
  obtain ⟨be,hbe⟩:∃ be,be=decide (Ins.mk 7 op dst 0 0 n text r0 r1 r2 r3 r4 r5 to_ els=⟨7,0,-1,0,0,0,⟨#[]⟩,0,0,0,0,0,0,0,-1⟩):=⟨_,rfl⟩
  rw [← hbe] at hneq
  have HBE:=Lib.hid hbe
  clear hbe
  simp only [Ins.agg] at hneq hpl
  cases be
  · go_enter Try.func70,Try.ntmps70
    go_wp2_with (first
      | (go_at_call 84; refine (hus _).mono ?_; rintro e w5 ⟨rfl,hw5⟩; subst hw5)
      | (go_at_call 53; refine (hst _).mono ?_; rintro e w5 ⟨rfl,hw5⟩; subst hw5)
      | (show wpList Try.prog _ _ (⟨some 56,_,_,_,_,_⟩::_) _ _; refine wpList_load_row rfl 31 (.tmp 1) rfl w.heap.size rfl 31 _ (0,0) _ hT2.bi vIns rfl sIns ?_)
      | (show wpList Try.prog _ _ (⟨some 60,_,_,_,_,_⟩::_) _ _; refine wpList_load_row rfl 31 (.tmp 5) rfl w1.heap.size rfl 31 _ (0,0) _ hT3.b5 vIns rfl sIns ?_)
      | (show wpList Try.prog _ _ (⟨some 57,_,_,_,_,_⟩::_) _ _; refine wpList_load_row rfl 31 (.tmp 5) rfl w1.heap.size rfl 31 _ (0,0) _ hT2.b5 vIns rfl sIns ?_)
      | (show wpList Try.prog _ _ (⟨none,.store _ (.tmp 2) _,_,_,_,_⟩::_) _ _; refine wpList_store_row rfl 31 (.tmp 2) (.tmp 60) rfl (w.heap.size + 1) (plainI 0).l.toArray rfl rfl 31 _ hT3.br sIns rfl (plain_one 0) ?_)
      | (go_at_call 7; refine (hpl _).mono ?_; rintro e w1 ⟨rfl,hb1⟩; have hT0:=BSt.first (o:=⟨7,0,-1,0,0,0,⟨#[]⟩,0,0,0,0,0,0,0,-1⟩) b0 b1 hs2 hB0 hb1; simp only [Ins.obj] at hT0; have ck0:=cell_of_heap hT0.bi 0 (.int .i64 7) rfl; have cs0:=cell_of_heap hT0.bi 3 (.int .i64 a) rfl; have cf0:=free15 hT0.bi 3; have hT1:=hT0.store (i':=⟨7,op,dst,0,b,n,text,r0,r1,r2,r3,r4,r5,to_,els⟩) 3 (.int .i64 0) rfl; have ck1:=cell_of_heap hT1.bi 0 (.int .i64 7) rfl; have cs1:=cell_of_heap hT1.bi 4 (.int .i64 b) rfl; have cf1:=free15 hT1.bi 4; have hT2:=hT1.store (i':=⟨7,op,dst,0,0,n,text,r0,r1,r2,r3,r4,r5,to_,els⟩) 4 (.int .i64 0) rfl; have ck2:=cell_of_heap hT2.bi 0 (.int .i64 7) rfl; have y0:=cell_of_heap hT2.b5 0 (.int .i64 7) rfl; have yf:=free15 hT2.b5 0; have hT3:=hT2.store5 (o':=plainI 0) 0 (.int .i64 0) rfl; have hR:=setRow_heap _ _ _ (plainI 0).l.toArray _ _ hT3.br; obtain ⟨f0,f1,f2,f3,f4,f5,f6,f7,f8,f9,f10,f11,f12,f13,f14⟩:=Ins.cells (i:=plainI 0) hR; simp only at f0 f1 f2 f3 f4 f5 f6 f7 f8 f9 f10 f11 f12 f13 f14))
    (try simp only [Exit.inBlock,Exit.then])
    refine bodyPost_ret (by simp [results,Try.results70,go_sem,f0,f1,f2,f3,f4,f5,f6,f7,f8,f9,f10,f11,f12,f13,f14]; try rfl) rfl ⟨BareT.no (o:=plainI 0) (bareN HBE.out HMM.out) rfl,?_⟩
    exact below_setRow hT3.below (Nat.le_add_right _ _) _
  · go_enter Try.func70,Try.ntmps70
    go_wp2_with (first
      | (go_at_call 84; refine (hus _).mono ?_; rintro e w5 ⟨rfl,hw5⟩; subst hw5)
      | (go_at_call 53; refine (hst _).mono ?_; rintro e w5 ⟨rfl,hw5⟩; subst hw5)
      | (show wpList Try.prog _ _ (⟨some 56,_,_,_,_,_⟩::_) _ _; refine wpList_load_row rfl 31 (.tmp 1) rfl w.heap.size rfl 31 _ (0,0) _ hT2.bi vIns rfl sIns ?_)
      | (show wpList Try.prog _ _ (⟨some 60,_,_,_,_,_⟩::_) _ _; refine wpList_load_row rfl 31 (.tmp 5) rfl w1.heap.size rfl 31 _ (0,0) _ hT2.b5 vIns rfl sIns ?_)
      | (show wpList Try.prog _ _ (⟨some 57,_,_,_,_,_⟩::_) _ _; refine wpList_load_row rfl 31 (.tmp 5) rfl w1.heap.size rfl 31 _ (0,0) _ hT2.b5 vIns rfl sIns ?_)
      | (show wpList Try.prog _ _ (⟨none,.store _ (.tmp 2) _,_,_,_,_⟩::_) _ _; refine wpList_store_row rfl 31 (.tmp 2) (.tmp 60) rfl (w.heap.size + 1) (plainI 7).l.toArray rfl rfl 31 _ hT2.br sIns rfl (plain_one 7) ?_)
      | (go_at_call 7; refine (hpl _).mono ?_; rintro e w1 ⟨rfl,hb1⟩; have hT0:=BSt.first (o:=⟨7,0,-1,0,0,0,⟨#[]⟩,0,0,0,0,0,0,0,-1⟩) b0 b1 hs2 hB0 hb1; simp only [Ins.obj] at hT0; have ck0:=cell_of_heap hT0.bi 0 (.int .i64 7) rfl; have cs0:=cell_of_heap hT0.bi 3 (.int .i64 a) rfl; have cf0:=free15 hT0.bi 3; have hT1:=hT0.store (i':=⟨7,op,dst,0,b,n,text,r0,r1,r2,r3,r4,r5,to_,els⟩) 3 (.int .i64 0) rfl; have ck1:=cell_of_heap hT1.bi 0 (.int .i64 7) rfl; have cs1:=cell_of_heap hT1.bi 4 (.int .i64 b) rfl; have cf1:=free15 hT1.bi 4; have hT2:=hT1.store (i':=⟨7,op,dst,0,0,n,text,r0,r1,r2,r3,r4,r5,to_,els⟩) 4 (.int .i64 0) rfl; have ck2:=cell_of_heap hT2.bi 0 (.int .i64 7) rfl; have hR:=setRow_heap _ _ _ (plainI 7).l.toArray _ _ hT2.br; obtain ⟨f0,f1,f2,f3,f4,f5,f6,f7,f8,f9,f10,f11,f12,f13,f14⟩:=Ins.cells (i:=plainI 7) hR; simp only at f0 f1 f2 f3 f4 f5 f6 f7 f8 f9 f10 f11 f12 f13 f14))
    (try simp only [Exit.inBlock,Exit.then])
    refine bodyPost_ret (by simp [results,Try.results70,go_sem,f0,f1,f2,f3,f4,f5,f6,f7,f8,f9,f10,f11,f12,f13,f14]; try rfl) rfl ⟨BareT.yes (o:=plainI 7) (bareY HBE.out HMM.out) rfl,?_⟩
    exact below_setRow hT2.below (Nat.le_add_right _ _) _
set_option maxRecDepth 1000000 in
set_option maxHeartbeats 16000000 in
theorem bare_13 (op dst a b n:Int)(text:ByteArray)(r0 r1 r2 r3 r4 r5 to_ els:Int)(w:World):Calls Try.prog 70 #[Ins.agg ⟨13,op,dst,a,b,n,text,r0,r1,r2,r3,r4,r5,to_,els⟩] w fun e w'=>BareT ⟨13,op,dst,a,b,n,text,r0,r1,r2,r3,r4,r5,to_,els⟩ e∧Below w.heap.size w w':=by
  obtain ⟨W,hW,hs2,b0,b1,hB0⟩:=bare_pre ⟨13,op,dst,a,b,n,text,r0,r1,r2,r3,r4,r5,to_,els⟩ w
  have x0:=cell_of_heap b0 0 (.int .i64 13) rfl
  simp only [Ins.obj,zeroObj,Ins.agg] at hW ⊢
  have hus:=fun w=>uses_any 13 w
  have hst:=fun w=>sets_any 13 w
  rw [show kA 13=true from rfl] at hus
  rw [show kB 13=false from rfl] at hus
  rw [show kS 13=false from rfl] at hst
  have hpl:=fun w=>Plain_any 13 w
  have HMM:Hid (Ins.mk 13 op dst a b n text r0 r1 r2 r3 r4 r5 to_ els=Ins.mask ⟨13,op,dst,a,b,n,text,r0,r1,r2,r3,r4,r5,to_,els⟩↔Ins.mk 13 op dst 0 b n text r0 r1 r2 r3 r4 r5 to_ els=⟨13,0,-1,0,0,0,⟨#[]⟩,0,0,0,0,0,0,0,-1⟩):=Lib.hid (by simp [Ins.mask,kA,kB,kS,eq_comm])
  have hneq:=fun w=>neq_ins ⟨13,op,dst,0,b,n,text,r0,r1,r2,r3,r4,r5,to_,els⟩ ⟨13,0,-1,0,0,0,⟨#[]⟩,0,0,0,0,0,0,0,-1⟩ w
  obtain ⟨be,hbe⟩:∃ be,be=decide (Ins.mk 13 op dst 0 b n text r0 r1 r2 r3 r4 r5 to_ els=⟨13,0,-1,0,0,0,⟨#[]⟩,0,0,0,0,0,0,0,-1⟩):=⟨_,rfl⟩
  rw [← hbe] at hneq
  have HBE:=Lib.hid hbe
  clear hbe
  simp only [Ins.agg] at hneq hpl
  cases be
  · go_enter Try.func70,Try.ntmps70
    go_wp2_with (first
      | (go_at_call 84; refine (hus _).mono ?_; rintro e w5 ⟨rfl,hw5⟩; subst hw5)
      | (go_at_call 53; refine (hst _).mono ?_; rintro e w5 ⟨rfl,hw5⟩; subst hw5)
      | (show wpList Try.prog _ _ (⟨some 56,_,_,_,_,_⟩::_) _ _; refine wpList_load_row rfl 31 (.tmp 1) rfl w.heap.size rfl 31 _ (0,0) _ hT1.bi vIns rfl sIns ?_)
      | (show wpList Try.prog _ _ (⟨some 60,_,_,_,_,_⟩::_) _ _; refine wpList_load_row rfl 31 (.tmp 5) rfl w1.heap.size rfl 31 _ (0,0) _ hT2.b5 vIns rfl sIns ?_)
      | (show wpList Try.prog _ _ (⟨some 57,_,_,_,_,_⟩::_) _ _; refine wpList_load_row rfl 31 (.tmp 5) rfl w1.heap.size rfl 31 _ (0,0) _ hT1.b5 vIns rfl sIns ?_)
      | (show wpList Try.prog _ _ (⟨none,.store _ (.tmp 2) _,_,_,_,_⟩::_) _ _; refine wpList_store_row rfl 31 (.tmp 2) (.tmp 60) rfl (w.heap.size + 1) (plainI 0).l.toArray rfl rfl 31 _ hT2.br sIns rfl (plain_one 0) ?_)
      | (go_at_call 7; refine (hpl _).mono ?_; rintro e w1 ⟨rfl,hb1⟩; have hT0:=BSt.first (o:=⟨13,0,-1,0,0,0,⟨#[]⟩,0,0,0,0,0,0,0,-1⟩) b0 b1 hs2 hB0 hb1; simp only [Ins.obj] at hT0; have ck0:=cell_of_heap hT0.bi 0 (.int .i64 13) rfl; have cs0:=cell_of_heap hT0.bi 3 (.int .i64 a) rfl; have cf0:=free15 hT0.bi 3; have hT1:=hT0.store (i':=⟨13,op,dst,0,b,n,text,r0,r1,r2,r3,r4,r5,to_,els⟩) 3 (.int .i64 0) rfl; have ck1:=cell_of_heap hT1.bi 0 (.int .i64 13) rfl; have y0:=cell_of_heap hT1.b5 0 (.int .i64 13) rfl; have yf:=free15 hT1.b5 0; have hT2:=hT1.store5 (o':=plainI 0) 0 (.int .i64 0) rfl; have hR:=setRow_heap _ _ _ (plainI 0).l.toArray _ _ hT2.br; obtain ⟨f0,f1,f2,f3,f4,f5,f6,f7,f8,f9,f10,f11,f12,f13,f14⟩:=Ins.cells (i:=plainI 0) hR; simp only at f0 f1 f2 f3 f4 f5 f6 f7 f8 f9 f10 f11 f12 f13 f14))
    (try simp only [Exit.inBlock,Exit.then])
    refine bodyPost_ret (by simp [results,Try.results70,go_sem,f0,f1,f2,f3,f4,f5,f6,f7,f8,f9,f10,f11,f12,f13,f14]; try rfl) rfl ⟨BareT.no (o:=plainI 0) (bareN HBE.out HMM.out) rfl,?_⟩
    exact below_setRow hT2.below (Nat.le_add_right _ _) _
  · go_enter Try.func70,Try.ntmps70
    go_wp2_with (first
      | (go_at_call 84; refine (hus _).mono ?_; rintro e w5 ⟨rfl,hw5⟩; subst hw5)
      | (go_at_call 53; refine (hst _).mono ?_; rintro e w5 ⟨rfl,hw5⟩; subst hw5)
      | (show wpList Try.prog _ _ (⟨some 56,_,_,_,_,_⟩::_) _ _; refine wpList_load_row rfl 31 (.tmp 1) rfl w.heap.size rfl 31 _ (0,0) _ hT1.bi vIns rfl sIns ?_)
      | (show wpList Try.prog _ _ (⟨some 60,_,_,_,_,_⟩::_) _ _; refine wpList_load_row rfl 31 (.tmp 5) rfl w1.heap.size rfl 31 _ (0,0) _ hT1.b5 vIns rfl sIns ?_)
      | (show wpList Try.prog _ _ (⟨some 57,_,_,_,_,_⟩::_) _ _; refine wpList_load_row rfl 31 (.tmp 5) rfl w1.heap.size rfl 31 _ (0,0) _ hT1.b5 vIns rfl sIns ?_)
      | (show wpList Try.prog _ _ (⟨none,.store _ (.tmp 2) _,_,_,_,_⟩::_) _ _; refine wpList_store_row rfl 31 (.tmp 2) (.tmp 60) rfl (w.heap.size + 1) (plainI 13).l.toArray rfl rfl 31 _ hT1.br sIns rfl (plain_one 13) ?_)
      | (go_at_call 7; refine (hpl _).mono ?_; rintro e w1 ⟨rfl,hb1⟩; have hT0:=BSt.first (o:=⟨13,0,-1,0,0,0,⟨#[]⟩,0,0,0,0,0,0,0,-1⟩) b0 b1 hs2 hB0 hb1; simp only [Ins.obj] at hT0; have ck0:=cell_of_heap hT0.bi 0 (.int .i64 13) rfl; have cs0:=cell_of_heap hT0.bi 3 (.int .i64 a) rfl; have cf0:=free15 hT0.bi 3; have hT1:=hT0.store (i':=⟨13,op,dst,0,b,n,text,r0,r1,r2,r3,r4,r5,to_,els⟩) 3 (.int .i64 0) rfl; have ck1:=cell_of_heap hT1.bi 0 (.int .i64 13) rfl; have hR:=setRow_heap _ _ _ (plainI 13).l.toArray _ _ hT1.br; obtain ⟨f0,f1,f2,f3,f4,f5,f6,f7,f8,f9,f10,f11,f12,f13,f14⟩:=Ins.cells (i:=plainI 13) hR; simp only at f0 f1 f2 f3 f4 f5 f6 f7 f8 f9 f10 f11 f12 f13 f14))
    (try simp only [Exit.inBlock,Exit.then])
    refine bodyPost_ret (by simp [results,Try.results70,go_sem,f0,f1,f2,f3,f4,f5,f6,f7,f8,f9,f10,f11,f12,f13,f14]; try rfl) rfl ⟨BareT.yes (o:=plainI 13) (bareY HBE.out HMM.out) rfl,?_⟩
    exact below_setRow hT1.below (Nat.le_add_right _ _) _
end Go.Proofs.Ythbcdckonaljiaa
namespace Go.Proofs.Ythbcdckonaljiaa
open Go.RowKit Go.BigFrame
set_option maxRecDepth 1000000 in
set_option maxHeartbeats 16000000 in
theorem bare_10 (op dst a b n:Int)(text:ByteArray)(r0 r1 r2 r3 r4 r5 to_ els:Int)(w:World):Calls Try.prog 70 #[Ins.agg ⟨10,op,dst,a,b,n,text,r0,r1,r2,r3,r4,r5,to_,els⟩] w fun e w'=>BareT ⟨10,op,dst,a,b,n,text,r0,r1,r2,r3,r4,r5,to_,els⟩ e∧Below w.heap.size w w':=by
  obtain ⟨W,hW,hs2,b0,b1,hB0⟩:=bare_pre ⟨10,op,dst,a,b,n,text,r0,r1,r2,r3,r4,r5,to_,els⟩ w
  have x0:=cell_of_heap b0 0 (.int .i64 10) rfl
  simp only [Ins.obj,zeroObj,Ins.agg] at hW ⊢
  have hus:=fun w=>uses_any 10 w
  have hst:=fun w=>sets_any 10 w
  rw [show kA 10=true from rfl] at hus
  rw [show kB 10=false from rfl] at hus
  rw [show kS 10=false from rfl] at hst
  have hpl:=fun w=>Plain_any 10 w
  have HMM:Hid (Ins.mk 10 op dst a b n text r0 r1 r2 r3 r4 r5 to_ els=Ins.mask ⟨10,op,dst,a,b,n,text,r0,r1,r2,r3,r4,r5,to_,els⟩↔Ins.mk 10 op dst 0 b n text r0 r1 r2 r3 r4 r5 to_ els=⟨10,0,-1,0,0,0,⟨#[]⟩,0,0,0,0,0,0,0,-1⟩):=Lib.hid (by simp [Ins.mask,kA,kB,kS,eq_comm])
  have hneq:=fun w=>neq_ins ⟨10,op,dst,0,b,n,text,r0,r1,r2,r3,r4,r5,to_,els⟩ ⟨10,0,-1,0,0,0,⟨#[]⟩,0,0,0,0,0,0,0,-1⟩ w
  obtain ⟨be,hbe⟩:∃ be,be=decide (Ins.mk 10 op dst 0 b n text r0 r1 r2 r3 r4 r5 to_ els=⟨10,0,-1,0,0,0,⟨#[]⟩,0,0,0,0,0,0,0,-1⟩):=⟨_,rfl⟩
  rw [← hbe] at hneq
  have HBE:=Lib.hid hbe
  clear hbe
  simp only [Ins.agg] at hneq hpl
  cases be
  · go_enter Try.func70,Try.ntmps70
    go_wp2_with (first
      | (go_at_call 84; refine (hus _).mono ?_; rintro e w5 ⟨rfl,hw5⟩; subst hw5)
      | (go_at_call 53; refine (hst _).mono ?_; rintro e w5 ⟨rfl,hw5⟩; subst hw5)
      | (show wpList Try.prog _ _ (⟨some 56,_,_,_,_,_⟩::_) _ _; refine wpList_load_row rfl 31 (.tmp 1) rfl w.heap.size rfl 31 _ (0,0) _ hT1.bi vIns rfl sIns ?_)
      | (show wpList Try.prog _ _ (⟨some 60,_,_,_,_,_⟩::_) _ _; refine wpList_load_row rfl 31 (.tmp 5) rfl w1.heap.size rfl 31 _ (0,0) _ hT2.b5 vIns rfl sIns ?_)
      | (show wpList Try.prog _ _ (⟨some 57,_,_,_,_,_⟩::_) _ _; refine wpList_load_row rfl 31 (.tmp 5) rfl w1.heap.size rfl 31 _ (0,0) _ hT1.b5 vIns rfl sIns ?_)
      | (show wpList Try.prog _ _ (⟨none,.store _ (.tmp 2) _,_,_,_,_⟩::_) _ _; refine wpList_store_row rfl 31 (.tmp 2) (.tmp 60) rfl (w.heap.size + 1) (plainI 0).l.toArray rfl rfl 31 _ hT2.br sIns rfl (plain_one 0) ?_)
      | (go_at_call 7; refine (hpl _).mono ?_; rintro e w1 ⟨rfl,hb1⟩; have hT0:=BSt.first (o:=⟨10,0,-1,0,0,0,⟨#[]⟩,0,0,0,0,0,0,0,-1⟩) b0 b1 hs2 hB0 hb1; simp only [Ins.obj] at hT0; have ck0:=cell_of_heap hT0.bi 0 (.int .i64 10) rfl; have cs0:=cell_of_heap hT0.bi 3 (.int .i64 a) rfl; have cf0:=free15 hT0.bi 3; have hT1:=hT0.store (i':=⟨10,op,dst,0,b,n,text,r0,r1,r2,r3,r4,r5,to_,els⟩) 3 (.int .i64 0) rfl; have ck1:=cell_of_heap hT1.bi 0 (.int .i64 10) rfl; have y0:=cell_of_heap hT1.b5 0 (.int .i64 10) rfl; have yf:=free15 hT1.b5 0; have hT2:=hT1.store5 (o':=plainI 0) 0 (.int .i64 0) rfl; have hR:=setRow_heap _ _ _ (plainI 0).l.toArray _ _ hT2.br; obtain ⟨f0,f1,f2,f3,f4,f5,f6,f7,f8,f9,f10,f11,f12,f13,f14⟩:=Ins.cells (i:=plainI 0) hR; simp only at f0 f1 f2 f3 f4 f5 f6 f7 f8 f9 f10 f11 f12 f13 f14))
    (try simp only [Exit.inBlock,Exit.then])
    refine bodyPost_ret (by simp [results,Try.results70,go_sem,f0,f1,f2,f3,f4,f5,f6,f7,f8,f9,f10,f11,f12,f13,f14]; try rfl) rfl ⟨BareT.no (o:=plainI 0) (bareN HBE.out HMM.out) rfl,?_⟩
    exact below_setRow hT2.below (Nat.le_add_right _ _) _
  · go_enter Try.func70,Try.ntmps70
    go_wp2_with (first
      | (go_at_call 84; refine (hus _).mono ?_; rintro e w5 ⟨rfl,hw5⟩; subst hw5)
      | (go_at_call 53; refine (hst _).mono ?_; rintro e w5 ⟨rfl,hw5⟩; subst hw5)
      | (show wpList Try.prog _ _ (⟨some 56,_,_,_,_,_⟩::_) _ _; refine wpList_load_row rfl 31 (.tmp 1) rfl w.heap.size rfl 31 _ (0,0) _ hT1.bi vIns rfl sIns ?_)
      | (show wpList Try.prog _ _ (⟨some 60,_,_,_,_,_⟩::_) _ _; refine wpList_load_row rfl 31 (.tmp 5) rfl w1.heap.size rfl 31 _ (0,0) _ hT1.b5 vIns rfl sIns ?_)
      | (show wpList Try.prog _ _ (⟨some 57,_,_,_,_,_⟩::_) _ _; refine wpList_load_row rfl 31 (.tmp 5) rfl w1.heap.size rfl 31 _ (0,0) _ hT1.b5 vIns rfl sIns ?_)
      | (show wpList Try.prog _ _ (⟨none,.store _ (.tmp 2) _,_,_,_,_⟩::_) _ _; refine wpList_store_row rfl 31 (.tmp 2) (.tmp 60) rfl (w.heap.size + 1) (plainI 10).l.toArray rfl rfl 31 _ hT1.br sIns rfl (plain_one 10) ?_)
      | (go_at_call 7; refine (hpl _).mono ?_; rintro e w1 ⟨rfl,hb1⟩; have hT0:=BSt.first (o:=⟨10,0,-1,0,0,0,⟨#[]⟩,0,0,0,0,0,0,0,-1⟩) b0 b1 hs2 hB0 hb1; simp only [Ins.obj] at hT0; have ck0:=cell_of_heap hT0.bi 0 (.int .i64 10) rfl; have cs0:=cell_of_heap hT0.bi 3 (.int .i64 a) rfl; have cf0:=free15 hT0.bi 3; have hT1:=hT0.store (i':=⟨10,op,dst,0,b,n,text,r0,r1,r2,r3,r4,r5,to_,els⟩) 3 (.int .i64 0) rfl; have ck1:=cell_of_heap hT1.bi 0 (.int .i64 10) rfl; have hR:=setRow_heap _ _ _ (plainI 10).l.toArray _ _ hT1.br; obtain ⟨f0,f1,f2,f3,f4,f5,f6,f7,f8,f9,f10,f11,f12,f13,f14⟩:=Ins.cells (i:=plainI 10) hR; simp only at f0 f1 f2 f3 f4 f5 f6 f7 f8 f9 f10 f11 f12 f13 f14))
    (try simp only [Exit.inBlock,Exit.then])
    refine bodyPost_ret (by simp [results,Try.results70,go_sem,f0,f1,f2,f3,f4,f5,f6,f7,f8,f9,f10,f11,f12,f13,f14]; try rfl) rfl ⟨BareT.yes (o:=plainI 10) (bareY HBE.out HMM.out) rfl,?_⟩
    exact below_setRow hT1.below (Nat.le_add_right _ _) _
set_option maxRecDepth 1000000 in
set_option maxHeartbeats 16000000 in
theorem bare_11 (op dst a b n:Int)(text:ByteArray)(r0 r1 r2 r3 r4 r5 to_ els:Int)(w:World):Calls Try.prog 70 #[Ins.agg ⟨11,op,dst,a,b,n,text,r0,r1,r2,r3,r4,r5,to_,els⟩] w fun e w'=>BareT ⟨11,op,dst,a,b,n,text,r0,r1,r2,r3,r4,r5,to_,els⟩ e∧Below w.heap.size w w':=by
  obtain ⟨W,hW,hs2,b0,b1,hB0⟩:=bare_pre ⟨11,op,dst,a,b,n,text,r0,r1,r2,r3,r4,r5,to_,els⟩ w
  have x0:=cell_of_heap b0 0 (.int .i64 11) rfl
  simp only [Ins.obj,zeroObj,Ins.agg] at hW ⊢
  have hus:=fun w=>uses_any 11 w
  have hst:=fun w=>sets_any 11 w
  rw [show kA 11=false from rfl] at hus
  rw [show kB 11=false from rfl] at hus
  rw [show kS 11=false from rfl] at hst
  have hpl:=fun w=>Plain_any 11 w
  have HMM:Hid (Ins.mk 11 op dst a b n text r0 r1 r2 r3 r4 r5 to_ els=Ins.mask ⟨11,op,dst,a,b,n,text,r0,r1,r2,r3,r4,r5,to_,els⟩↔Ins.mk 11 op dst a b n text r0 r1 r2 r3 r4 r5 0 els=⟨11,0,-1,0,0,0,⟨#[]⟩,0,0,0,0,0,0,0,-1⟩):=Lib.hid (by simp [Ins.mask,kA,kB,kS,eq_comm])
  have hneq:=fun w=>neq_ins ⟨11,op,dst,a,b,n,text,r0,r1,r2,r3,r4,r5,0,els⟩ ⟨11,0,-1,0,0,0,⟨#[]⟩,0,0,0,0,0,0,0,-1⟩ w
  obtain ⟨be,hbe⟩:∃ be,be=decide (Ins.mk 11 op dst a b n text r0 r1 r2 r3 r4 r5 0 els=⟨11,0,-1,0,0,0,⟨#[]⟩,0,0,0,0,0,0,0,-1⟩):=⟨_,rfl⟩
  rw [← hbe] at hneq
  have HBE:=Lib.hid hbe
  clear hbe
  simp only [Ins.agg] at hneq hpl
  cases be
  · go_enter Try.func70,Try.ntmps70
    go_wp2_with (first
      | (go_at_call 84; refine (hus _).mono ?_; rintro e w5 ⟨rfl,hw5⟩; subst hw5)
      | (go_at_call 53; refine (hst _).mono ?_; rintro e w5 ⟨rfl,hw5⟩; subst hw5)
      | (show wpList Try.prog _ _ (⟨some 56,_,_,_,_,_⟩::_) _ _; refine wpList_load_row rfl 31 (.tmp 1) rfl w.heap.size rfl 31 _ (0,0) _ hT1.bi vIns rfl sIns ?_)
      | (show wpList Try.prog _ _ (⟨some 60,_,_,_,_,_⟩::_) _ _; refine wpList_load_row rfl 31 (.tmp 5) rfl w1.heap.size rfl 31 _ (0,0) _ hT2.b5 vIns rfl sIns ?_)
      | (show wpList Try.prog _ _ (⟨some 57,_,_,_,_,_⟩::_) _ _; refine wpList_load_row rfl 31 (.tmp 5) rfl w1.heap.size rfl 31 _ (0,0) _ hT1.b5 vIns rfl sIns ?_)
      | (show wpList Try.prog _ _ (⟨none,.store _ (.tmp 2) _,_,_,_,_⟩::_) _ _; refine wpList_store_row rfl 31 (.tmp 2) (.tmp 60) rfl (w.heap.size + 1) (plainI 0).l.toArray rfl rfl 31 _ hT2.br sIns rfl (plain_one 0) ?_)
      | (go_at_call 7; refine (hpl _).mono ?_; rintro e w1 ⟨rfl,hb1⟩; have hT0:=BSt.first (o:=⟨11,0,-1,0,0,0,⟨#[]⟩,0,0,0,0,0,0,0,-1⟩) b0 b1 hs2 hB0 hb1; simp only [Ins.obj] at hT0; have ck0:=cell_of_heap hT0.bi 0 (.int .i64 11) rfl; have cs0:=cell_of_heap hT0.bi 13 (.int .i64 to_) rfl; have cf0:=free15 hT0.bi 13; have hT1:=hT0.store (i':=⟨11,op,dst,a,b,n,text,r0,r1,r2,r3,r4,r5,0,els⟩) 13 (.int .i64 0) rfl; have ck1:=cell_of_heap hT1.bi 0 (.int .i64 11) rfl; have y0:=cell_of_heap hT1.b5 0 (.int .i64 11) rfl; have yf:=free15 hT1.b5 0; have hT2:=hT1.store5 (o':=plainI 0) 0 (.int .i64 0) rfl; have hR:=setRow_heap _ _ _ (plainI 0).l.toArray _ _ hT2.br; obtain ⟨f0,f1,f2,f3,f4,f5,f6,f7,f8,f9,f10,f11,f12,f13,f14⟩:=Ins.cells (i:=plainI 0) hR; simp only at f0 f1 f2 f3 f4 f5 f6 f7 f8 f9 f10 f11 f12 f13 f14))
    (try simp only [Exit.inBlock,Exit.then])
    refine bodyPost_ret (by simp [results,Try.results70,go_sem,f0,f1,f2,f3,f4,f5,f6,f7,f8,f9,f10,f11,f12,f13,f14]; try rfl) rfl ⟨BareT.no (o:=plainI 0) (bareN HBE.out HMM.out) rfl,?_⟩
    exact below_setRow hT2.below (Nat.le_add_right _ _) _
  · go_enter Try.func70,Try.ntmps70
    go_wp2_with (first
      | (go_at_call 84; refine (hus _).mono ?_; rintro e w5 ⟨rfl,hw5⟩; subst hw5)
      | (go_at_call 53; refine (hst _).mono ?_; rintro e w5 ⟨rfl,hw5⟩; subst hw5)
      | (show wpList Try.prog _ _ (⟨some 56,_,_,_,_,_⟩::_) _ _; refine wpList_load_row rfl 31 (.tmp 1) rfl w.heap.size rfl 31 _ (0,0) _ hT1.bi vIns rfl sIns ?_)
      | (show wpList Try.prog _ _ (⟨some 60,_,_,_,_,_⟩::_) _ _; refine wpList_load_row rfl 31 (.tmp 5) rfl w1.heap.size rfl 31 _ (0,0) _ hT1.b5 vIns rfl sIns ?_)
      | (show wpList Try.prog _ _ (⟨some 57,_,_,_,_,_⟩::_) _ _; refine wpList_load_row rfl 31 (.tmp 5) rfl w1.heap.size rfl 31 _ (0,0) _ hT1.b5 vIns rfl sIns ?_)
      | (show wpList Try.prog _ _ (⟨none,.store _ (.tmp 2) _,_,_,_,_⟩::_) _ _; refine wpList_store_row rfl 31 (.tmp 2) (.tmp 60) rfl (w.heap.size + 1) (plainI 11).l.toArray rfl rfl 31 _ hT1.br sIns rfl (plain_one 11) ?_)
      | (go_at_call 7; refine (hpl _).mono ?_; rintro e w1 ⟨rfl,hb1⟩; have hT0:=BSt.first (o:=⟨11,0,-1,0,0,0,⟨#[]⟩,0,0,0,0,0,0,0,-1⟩) b0 b1 hs2 hB0 hb1; simp only [Ins.obj] at hT0; have ck0:=cell_of_heap hT0.bi 0 (.int .i64 11) rfl; have cs0:=cell_of_heap hT0.bi 13 (.int .i64 to_) rfl; have cf0:=free15 hT0.bi 13; have hT1:=hT0.store (i':=⟨11,op,dst,a,b,n,text,r0,r1,r2,r3,r4,r5,0,els⟩) 13 (.int .i64 0) rfl; have ck1:=cell_of_heap hT1.bi 0 (.int .i64 11) rfl; have hR:=setRow_heap _ _ _ (plainI 11).l.toArray _ _ hT1.br; obtain ⟨f0,f1,f2,f3,f4,f5,f6,f7,f8,f9,f10,f11,f12,f13,f14⟩:=Ins.cells (i:=plainI 11) hR; simp only at f0 f1 f2 f3 f4 f5 f6 f7 f8 f9 f10 f11 f12 f13 f14))
    (try simp only [Exit.inBlock,Exit.then])
    refine bodyPost_ret (by simp [results,Try.results70,go_sem,f0,f1,f2,f3,f4,f5,f6,f7,f8,f9,f10,f11,f12,f13,f14]; try rfl) rfl ⟨BareT.yes (o:=plainI 11) (bareY HBE.out HMM.out) rfl,?_⟩
    exact below_setRow hT1.below (Nat.le_add_right _ _) _
set_option maxRecDepth 1000000 in
set_option maxHeartbeats 16000000 in
theorem bare_12 (op dst a b n:Int)(text:ByteArray)(r0 r1 r2 r3 r4 r5 to_ els:Int)(w:World):Calls Try.prog 70 #[Ins.agg ⟨12,op,dst,a,b,n,text,r0,r1,r2,r3,r4,r5,to_,els⟩] w fun e w'=>BareT ⟨12,op,dst,a,b,n,text,r0,r1,r2,r3,r4,r5,to_,els⟩ e∧Below w.heap.size w w':=by
  obtain ⟨W,hW,hs2,b0,b1,hB0⟩:=bare_pre ⟨12,op,dst,a,b,n,text,r0,r1,r2,r3,r4,r5,to_,els⟩ w
  have x0:=cell_of_heap b0 0 (.int .i64 12) rfl
  simp only [Ins.obj,zeroObj,Ins.agg] at hW ⊢
  have hus:=fun w=>uses_any 12 w
  have hst:=fun w=>sets_any 12 w
  rw [show kA 12=true from rfl] at hus
  rw [show kB 12=false from rfl] at hus
  rw [show kS 12=false from rfl] at hst
  have hpl:=fun w=>Plain_any 12 w
  have HMM:Hid (Ins.mk 12 op dst a b n text r0 r1 r2 r3 r4 r5 to_ els=Ins.mask ⟨12,op,dst,a,b,n,text,r0,r1,r2,r3,r4,r5,to_,els⟩↔Ins.mk 12 op dst 0 b n text r0 r1 r2 r3 r4 r5 0 (-1)=⟨12,0,-1,0,0,0,⟨#[]⟩,0,0,0,0,0,0,0,-1⟩):=Lib.hid (by simp [Ins.mask,kA,kB,kS,eq_comm])
  have hneq:=fun w=>neq_ins ⟨12,op,dst,0,b,n,text,r0,r1,r2,r3,r4,r5,0,-1⟩ ⟨12,0,-1,0,0,0,⟨#[]⟩,0,0,0,0,0,0,0,-1⟩ w
  obtain ⟨be,hbe⟩:∃ be,be=decide (Ins.mk 12 op dst 0 b n text r0 r1 r2 r3 r4 r5 0 (-1)=⟨12,0,-1,0,0,0,⟨#[]⟩,0,0,0,0,0,0,0,-1⟩):=⟨_,rfl⟩
  rw [← hbe] at hneq
  have HBE:=Lib.hid hbe
  clear hbe
  simp only [Ins.agg] at hneq hpl
  cases be
  · go_enter Try.func70,Try.ntmps70
    go_wp2_with (first
      | (go_at_call 84; refine (hus _).mono ?_; rintro e w5 ⟨rfl,hw5⟩; subst hw5)
      | (go_at_call 53; refine (hst _).mono ?_; rintro e w5 ⟨rfl,hw5⟩; subst hw5)
      | (show wpList Try.prog _ _ (⟨some 56,_,_,_,_,_⟩::_) _ _; refine wpList_load_row rfl 31 (.tmp 1) rfl w.heap.size rfl 31 _ (0,0) _ hT3.bi vIns rfl sIns ?_)
      | (show wpList Try.prog _ _ (⟨some 60,_,_,_,_,_⟩::_) _ _; refine wpList_load_row rfl 31 (.tmp 5) rfl w1.heap.size rfl 31 _ (0,0) _ hT4.b5 vIns rfl sIns ?_)
      | (show wpList Try.prog _ _ (⟨some 57,_,_,_,_,_⟩::_) _ _; refine wpList_load_row rfl 31 (.tmp 5) rfl w1.heap.size rfl 31 _ (0,0) _ hT3.b5 vIns rfl sIns ?_)
      | (show wpList Try.prog _ _ (⟨none,.store _ (.tmp 2) _,_,_,_,_⟩::_) _ _; refine wpList_store_row rfl 31 (.tmp 2) (.tmp 60) rfl (w.heap.size + 1) (plainI 0).l.toArray rfl rfl 31 _ hT4.br sIns rfl (plain_one 0) ?_)
      | (go_at_call 7; refine (hpl _).mono ?_; rintro e w1 ⟨rfl,hb1⟩; have hT0:=BSt.first (o:=⟨12,0,-1,0,0,0,⟨#[]⟩,0,0,0,0,0,0,0,-1⟩) b0 b1 hs2 hB0 hb1; simp only [Ins.obj] at hT0; have ck0:=cell_of_heap hT0.bi 0 (.int .i64 12) rfl; have cs0:=cell_of_heap hT0.bi 3 (.int .i64 a) rfl; have cf0:=free15 hT0.bi 3; have hT1:=hT0.store (i':=⟨12,op,dst,0,b,n,text,r0,r1,r2,r3,r4,r5,to_,els⟩) 3 (.int .i64 0) rfl; have ck1:=cell_of_heap hT1.bi 0 (.int .i64 12) rfl; have cs1:=cell_of_heap hT1.bi 13 (.int .i64 to_) rfl; have cf1:=free15 hT1.bi 13; have hT2:=hT1.store (i':=⟨12,op,dst,0,b,n,text,r0,r1,r2,r3,r4,r5,0,els⟩) 13 (.int .i64 0) rfl; have ck2:=cell_of_heap hT2.bi 0 (.int .i64 12) rfl; have cs2:=cell_of_heap hT2.bi 14 (.int .i64 els) rfl; have cf2:=free15 hT2.bi 14; have hT3:=hT2.store (i':=⟨12,op,dst,0,b,n,text,r0,r1,r2,r3,r4,r5,0,-1⟩) 14 (.int .i64 (-1)) rfl; have ck3:=cell_of_heap hT3.bi 0 (.int .i64 12) rfl; have y0:=cell_of_heap hT3.b5 0 (.int .i64 12) rfl; have yf:=free15 hT3.b5 0; have hT4:=hT3.store5 (o':=plainI 0) 0 (.int .i64 0) rfl; have hR:=setRow_heap _ _ _ (plainI 0).l.toArray _ _ hT4.br; obtain ⟨f0,f1,f2,f3,f4,f5,f6,f7,f8,f9,f10,f11,f12,f13,f14⟩:=Ins.cells (i:=plainI 0) hR; simp only at f0 f1 f2 f3 f4 f5 f6 f7 f8 f9 f10 f11 f12 f13 f14))
    (try simp only [Exit.inBlock,Exit.then])
    refine bodyPost_ret (by simp [results,Try.results70,go_sem,f0,f1,f2,f3,f4,f5,f6,f7,f8,f9,f10,f11,f12,f13,f14]; try rfl) rfl ⟨BareT.no (o:=plainI 0) (bareN HBE.out HMM.out) rfl,?_⟩
    exact below_setRow hT4.below (Nat.le_add_right _ _) _
  · go_enter Try.func70,Try.ntmps70
    go_wp2_with (first
      | (go_at_call 84; refine (hus _).mono ?_; rintro e w5 ⟨rfl,hw5⟩; subst hw5)
      | (go_at_call 53; refine (hst _).mono ?_; rintro e w5 ⟨rfl,hw5⟩; subst hw5)
      | (show wpList Try.prog _ _ (⟨some 56,_,_,_,_,_⟩::_) _ _; refine wpList_load_row rfl 31 (.tmp 1) rfl w.heap.size rfl 31 _ (0,0) _ hT3.bi vIns rfl sIns ?_)
      | (show wpList Try.prog _ _ (⟨some 60,_,_,_,_,_⟩::_) _ _; refine wpList_load_row rfl 31 (.tmp 5) rfl w1.heap.size rfl 31 _ (0,0) _ hT3.b5 vIns rfl sIns ?_)
      | (show wpList Try.prog _ _ (⟨some 57,_,_,_,_,_⟩::_) _ _; refine wpList_load_row rfl 31 (.tmp 5) rfl w1.heap.size rfl 31 _ (0,0) _ hT3.b5 vIns rfl sIns ?_)
      | (show wpList Try.prog _ _ (⟨none,.store _ (.tmp 2) _,_,_,_,_⟩::_) _ _; refine wpList_store_row rfl 31 (.tmp 2) (.tmp 60) rfl (w.heap.size + 1) (plainI 12).l.toArray rfl rfl 31 _ hT3.br sIns rfl (plain_one 12) ?_)
      | (go_at_call 7; refine (hpl _).mono ?_; rintro e w1 ⟨rfl,hb1⟩; have hT0:=BSt.first (o:=⟨12,0,-1,0,0,0,⟨#[]⟩,0,0,0,0,0,0,0,-1⟩) b0 b1 hs2 hB0 hb1; simp only [Ins.obj] at hT0; have ck0:=cell_of_heap hT0.bi 0 (.int .i64 12) rfl; have cs0:=cell_of_heap hT0.bi 3 (.int .i64 a) rfl; have cf0:=free15 hT0.bi 3; have hT1:=hT0.store (i':=⟨12,op,dst,0,b,n,text,r0,r1,r2,r3,r4,r5,to_,els⟩) 3 (.int .i64 0) rfl; have ck1:=cell_of_heap hT1.bi 0 (.int .i64 12) rfl; have cs1:=cell_of_heap hT1.bi 13 (.int .i64 to_) rfl; have cf1:=free15 hT1.bi 13; have hT2:=hT1.store (i':=⟨12,op,dst,0,b,n,text,r0,r1,r2,r3,r4,r5,0,els⟩) 13 (.int .i64 0) rfl; have ck2:=cell_of_heap hT2.bi 0 (.int .i64 12) rfl; have cs2:=cell_of_heap hT2.bi 14 (.int .i64 els) rfl; have cf2:=free15 hT2.bi 14; have hT3:=hT2.store (i':=⟨12,op,dst,0,b,n,text,r0,r1,r2,r3,r4,r5,0,-1⟩) 14 (.int .i64 (-1)) rfl; have ck3:=cell_of_heap hT3.bi 0 (.int .i64 12) rfl; have hR:=setRow_heap _ _ _ (plainI 12).l.toArray _ _ hT3.br; obtain ⟨f0,f1,f2,f3,f4,f5,f6,f7,f8,f9,f10,f11,f12,f13,f14⟩:=Ins.cells (i:=plainI 12) hR; simp only at f0 f1 f2 f3 f4 f5 f6 f7 f8 f9 f10 f11 f12 f13 f14))
    (try simp only [Exit.inBlock,Exit.then])
    refine bodyPost_ret (by simp [results,Try.results70,go_sem,f0,f1,f2,f3,f4,f5,f6,f7,f8,f9,f10,f11,f12,f13,f14]; try rfl) rfl ⟨BareT.yes (o:=plainI 12) (bareY HBE.out HMM.out) rfl,?_⟩
    exact below_setRow hT3.below (Nat.le_add_right _ _) _
end Go.Proofs.Ythbcdckonaljiaa

