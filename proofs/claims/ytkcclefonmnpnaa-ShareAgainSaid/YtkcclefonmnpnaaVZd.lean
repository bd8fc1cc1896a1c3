import Derived.Test.YtkcclefonmnpnaaVZc
set_option maxRecDepth 1000000
set_option maxHeartbeats 16000000
namespace Go.Proofs.Ytkcclefonmnpnaa
open Go.RowKit Go.BigFrame
theorem FF (op dst a b n:Int)(text:ByteArray)(r0 r1 r2 r3 r4 r5 to_ els:Int)(w:World):Calls Try.prog 97 #[Ins.agg ⟨1,op,dst,a,b,n,text,r0,r1,r2,r3,r4,r5,to_,els⟩] w fun e w'=>BareT ⟨1,op,dst,a,b,n,text,r0,r1,r2,r3,r4,r5,to_,els⟩ e∧Below w.heap.size w w':=by
 obtain⟨W,hW,hs2,b0,b1,hB0⟩:=dC ⟨1,op,dst,a,b,n,text,r0,r1,r2,r3,r4,r5,to_,els⟩ w
 have x0:=aA b0 0 (.int .i64 1) rfl
 simp only[Ins.obj,aW,Ins.agg] at hW ⊢
 have hus:=fun w=>cI 1 w
 have hst:=fun w=>bY 1 w
 rw[show kA 1=false from rfl] at hus
 rw[show kB 1=false from rfl] at hus
 rw[show kS 1=true from rfl] at hst
 have hpl:=fun w=>bN 1 w
 have HMM:Hid (Ins.mk 1 op dst a b n text r0 r1 r2 r3 r4 r5 to_ els=Ins.mask ⟨1,op,dst,a,b,n,text,r0,r1,r2,r3,r4,r5,to_,els⟩↔Ins.mk 1 op (-1) a b 0 text r0 r1 r2 r3 r4 r5 to_ els=⟨1,0,-1,0,0,0,⟨#[]⟩,0,0,0,0,0,0,0,-1⟩):=Hz (by simp[Ins.mask,kA,kB,kS])
 have hneq:=fun w=>bQ ⟨1,op,-1,a,b,0,text,r0,r1,r2,r3,r4,r5,to_,els⟩ ⟨1,0,-1,0,0,0,⟨#[]⟩,0,0,0,0,0,0,0,-1⟩ w
 obtain⟨be,hbe⟩:∃ be,be=decide (Ins.mk 1 op (-1) a b 0 text r0 r1 r2 r3 r4 r5 to_ els=⟨1,0,-1,0,0,0,⟨#[]⟩,0,0,0,0,0,0,0,-1⟩):=⟨_,rfl⟩
 rw[←hbe] at hneq
 have HBE:=Hz hbe
 clear hbe
 simp only[Ins.agg] at hneq hpl
 cases be
 ·go_enter Try.func97,Try.ntmps97
  go_wp2_with (first
   |(go_at_call 101;refine (hus _).mono ?_;rintro e w5 ⟨rfl,hw5⟩;subst hw5)
   |(go_at_call 83;refine (hst _).mono ?_;rintro e w5 ⟨rfl,hw5⟩;subst hw5)
   |(show wpList Try.prog _ _ (⟨some 56,_,_,_,_,_⟩::_) _ _;refine wpList_load_row rfl 32 (.tmp 1) rfl w.heap.size rfl 32 _ (0,0) _ hT2.bi aZ rfl aS ?_)
   |(show wpList Try.prog _ _ (⟨some 60,_,_,_,_,_⟩::_) _ _;refine wpList_load_row rfl 32 (.tmp 5) rfl w1.heap.size rfl 32 _ (0,0) _ hT3.b5 aZ rfl aS ?_)
   |(show wpList Try.prog _ _ (⟨some 57,_,_,_,_,_⟩::_) _ _;refine wpList_load_row rfl 32 (.tmp 5) rfl w1.heap.size rfl 32 _ (0,0) _ hT2.b5 aZ rfl aS ?_)
   |(show wpList Try.prog _ _ (⟨none,.store _ (.tmp 2) _,_,_,_,_⟩::_) _ _;refine wpList_store_row rfl 32 (.tmp 2) (.tmp 60) rfl (w.heap.size+1) (aB 0).l.toArray rfl rfl 32 _ hT3.br aS rfl (aV 0) ?_)
   |(go_at_call 45;refine (hpl _).mono ?_;rintro e w1 ⟨rfl,hb1⟩;have hT0:=BSt.first (o:=⟨1,0,-1,0,0,0,⟨#[]⟩,0,0,0,0,0,0,0,-1⟩) b0 b1 hs2 hB0 hb1;simp only[Ins.obj] at hT0;have ck0:=aA hT0.bi 0 (.int .i64 1) rfl;have cs0:=aA hT0.bi 2 (.int .i64 dst) rfl;have cf0:=aM hT0.bi 2;have hT1:=hT0.store (i':=⟨1,op,-1,a,b,n,text,r0,r1,r2,r3,r4,r5,to_,els⟩) 2 (.int .i64 (-1)) rfl;have ck1:=aA hT1.bi 0 (.int .i64 1) rfl;have cs1:=aA hT1.bi 5 (.int .i64 n) rfl;have cf1:=aM hT1.bi 5;have hT2:=hT1.store (i':=⟨1,op,-1,a,b,0,text,r0,r1,r2,r3,r4,r5,to_,els⟩) 5 (.int .i64 0) rfl;have ck2:=aA hT2.bi 0 (.int .i64 1) rfl;have y0:=aA hT2.b5 0 (.int .i64 1) rfl;have yf:=aM hT2.b5 0;have hT3:=hT2.store5 (o':=aB 0) 0 (.int .i64 0) rfl;have hR:=setRow_heap _ _ _ (aB 0).l.toArray _ _ hT3.br;obtain⟨f0,f1,f2,f3,f4,f5,f6,f7,f8,f9,f10,f11,f12,f13,f14⟩:=Ins.cells (i:=aB 0) hR;simp only at f0 f1 f2 f3 f4 f5 f6 f7 f8 f9 f10 f11 f12 f13 f14))
  (try simp only[Exit.inBlock,Exit.then])
  refine bodyPost_ret (by simp[results,Try.results97,go_sem,f0,f1,f2,f3,f4,f5,f6,f7,f8,f9,f10,f11,f12,f13,f14];try rfl) rfl ⟨BareT.no (o:=aB 0) (iG HBE.out HMM.out) rfl,?_⟩
  exact below_setRow hT3.below (Nat.le_add_right _ _) _
 ·go_enter Try.func97,Try.ntmps97
  go_wp2_with (first
   |(go_at_call 101;refine (hus _).mono ?_;rintro e w5 ⟨rfl,hw5⟩;subst hw5)
   |(go_at_call 83;refine (hst _).mono ?_;rintro e w5 ⟨rfl,hw5⟩;subst hw5)
   |(show wpList Try.prog _ _ (⟨some 56,_,_,_,_,_⟩::_) _ _;refine wpList_load_row rfl 32 (.tmp 1) rfl w.heap.size rfl 32 _ (0,0) _ hT2.bi aZ rfl aS ?_)
   |(show wpList Try.prog _ _ (⟨some 60,_,_,_,_,_⟩::_) _ _;refine wpList_load_row rfl 32 (.tmp 5) rfl w1.heap.size rfl 32 _ (0,0) _ hT2.b5 aZ rfl aS ?_)
   |(show wpList Try.prog _ _ (⟨some 57,_,_,_,_,_⟩::_) _ _;refine wpList_load_row rfl 32 (.tmp 5) rfl w1.heap.size rfl 32 _ (0,0) _ hT2.b5 aZ rfl aS ?_)
   |(show wpList Try.prog _ _ (⟨none,.store _ (.tmp 2) _,_,_,_,_⟩::_) _ _;refine wpList_store_row rfl 32 (.tmp 2) (.tmp 60) rfl (w.heap.size+1) (aB 1).l.toArray rfl rfl 32 _ hT2.br aS rfl (aV 1) ?_)
   |(go_at_call 45;refine (hpl _).mono ?_;rintro e w1 ⟨rfl,hb1⟩;have hT0:=BSt.first (o:=⟨1,0,-1,0,0,0,⟨#[]⟩,0,0,0,0,0,0,0,-1⟩) b0 b1 hs2 hB0 hb1;simp only[Ins.obj] at hT0;have ck0:=aA hT0.bi 0 (.int .i64 1) rfl;have cs0:=aA hT0.bi 2 (.int .i64 dst) rfl;have cf0:=aM hT0.bi 2;have hT1:=hT0.store (i':=⟨1,op,-1,a,b,n,text,r0,r1,r2,r3,r4,r5,to_,els⟩) 2 (.int .i64 (-1)) rfl;have ck1:=aA hT1.bi 0 (.int .i64 1) rfl;have cs1:=aA hT1.bi 5 (.int .i64 n) rfl;have cf1:=aM hT1.bi 5;have hT2:=hT1.store (i':=⟨1,op,-1,a,b,0,text,r0,r1,r2,r3,r4,r5,to_,els⟩) 5 (.int .i64 0) rfl;have ck2:=aA hT2.bi 0 (.int .i64 1) rfl;have hR:=setRow_heap _ _ _ (aB 1).l.toArray _ _ hT2.br;obtain⟨f0,f1,f2,f3,f4,f5,f6,f7,f8,f9,f10,f11,f12,f13,f14⟩:=Ins.cells (i:=aB 1) hR;simp only at f0 f1 f2 f3 f4 f5 f6 f7 f8 f9 f10 f11 f12 f13 f14))
  (try simp only[Exit.inBlock,Exit.then])
  refine bodyPost_ret (by simp[results,Try.results97,go_sem,f0,f1,f2,f3,f4,f5,f6,f7,f8,f9,f10,f11,f12,f13,f14];try rfl) rfl ⟨BareT.yes (o:=aB 1) (iH HBE.out HMM.out) rfl,?_⟩
  exact below_setRow hT2.below (Nat.le_add_right _ _) _
theorem FG (op dst a b n:Int)(text:ByteArray)(r0 r1 r2 r3 r4 r5 to_ els:Int)(w:World):Calls Try.prog 97 #[Ins.agg ⟨2,op,dst,a,b,n,text,r0,r1,r2,r3,r4,r5,to_,els⟩] w fun e w'=>BareT ⟨2,op,dst,a,b,n,text,r0,r1,r2,r3,r4,r5,to_,els⟩ e∧Below w.heap.size w w':=by
 obtain⟨W,hW,hs2,b0,b1,hB0⟩:=dC ⟨2,op,dst,a,b,n,text,r0,r1,r2,r3,r4,r5,to_,els⟩ w
 have x0:=aA b0 0 (.int .i64 2) rfl
 simp only[Ins.obj,aW,Ins.agg] at hW ⊢
 have hus:=fun w=>cI 2 w
 have hst:=fun w=>bY 2 w
 rw[show kA 2=true from rfl] at hus
 rw[show kB 2=false from rfl] at hus
 rw[show kS 2=true from rfl] at hst
 have hpl:=fun w=>bN 2 w
 have HMM:Hid (Ins.mk 2 op dst a b n text r0 r1 r2 r3 r4 r5 to_ els=Ins.mask ⟨2,op,dst,a,b,n,text,r0,r1,r2,r3,r4,r5,to_,els⟩↔Ins.mk 2 0 (-1) 0 b n text r0 r1 r2 r3 r4 r5 to_ els=⟨2,0,-1,0,0,0,⟨#[]⟩,0,0,0,0,0,0,0,-1⟩):=Hz (by simp[Ins.mask,kA,kB,kS,eq_comm])
 have hneq:=fun w=>bQ ⟨2,0,-1,0,b,n,text,r0,r1,r2,r3,r4,r5,to_,els⟩ ⟨2,0,-1,0,0,0,⟨#[]⟩,0,0,0,0,0,0,0,-1⟩ w
 obtain⟨be,hbe⟩:∃ be,be=decide (Ins.mk 2 0 (-1) 0 b n text r0 r1 r2 r3 r4 r5 to_ els=⟨2,0,-1,0,0,0,⟨#[]⟩,0,0,0,0,0,0,0,-1⟩):=⟨_,rfl⟩
 rw[←hbe] at hneq
 have HBE:=Hz hbe
 clear hbe
 simp only[Ins.agg] at hneq hpl
 cases be
 ·go_enter Try.func97,Try.ntmps97
  go_wp2_with (first
   |(go_at_call 101;refine (hus _).mono ?_;rintro e w5 ⟨rfl,hw5⟩;subst hw5)
   |(go_at_call 83;refine (hst _).mono ?_;rintro e w5 ⟨rfl,hw5⟩;subst hw5)
   |(show wpList Try.prog _ _ (⟨some 56,_,_,_,_,_⟩::_) _ _;refine wpList_load_row rfl 32 (.tmp 1) rfl w.heap.size rfl 32 _ (0,0) _ hT3.bi aZ rfl aS ?_)
   |(show wpList Try.prog _ _ (⟨some 60,_,_,_,_,_⟩::_) _ _;refine wpList_load_row rfl 32 (.tmp 5) rfl w1.heap.size rfl 32 _ (0,0) _ hT4.b5 aZ rfl aS ?_)
   |(show wpList Try.prog _ _ (⟨some 57,_,_,_,_,_⟩::_) _ _;refine wpList_load_row rfl 32 (.tmp 5) rfl w1.heap.size rfl 32 _ (0,0) _ hT3.b5 aZ rfl aS ?_)
   |(show wpList Try.prog _ _ (⟨none,.store _ (.tmp 2) _,_,_,_,_⟩::_) _ _;refine wpList_store_row rfl 32 (.tmp 2) (.tmp 60) rfl (w.heap.size+1) (aB 0).l.toArray rfl rfl 32 _ hT4.br aS rfl (aV 0) ?_)
   |(go_at_call 45;refine (hpl _).mono ?_;rintro e w1 ⟨rfl,hb1⟩;have hT0:=BSt.first (o:=⟨2,0,-1,0,0,0,⟨#[]⟩,0,0,0,0,0,0,0,-1⟩) b0 b1 hs2 hB0 hb1;simp only[Ins.obj] at hT0;have ck0:=aA hT0.bi 0 (.int .i64 2) rfl;have cs0:=aA hT0.bi 2 (.int .i64 dst) rfl;have cf0:=aM hT0.bi 2;have hT1:=hT0.store (i':=⟨2,op,-1,a,b,n,text,r0,r1,r2,r3,r4,r5,to_,els⟩) 2 (.int .i64 (-1)) rfl;have ck1:=aA hT1.bi 0 (.int .i64 2) rfl;have cs1:=aA hT1.bi 3 (.int .i64 a) rfl;have cf1:=aM hT1.bi 3;have hT2:=hT1.store (i':=⟨2,op,-1,0,b,n,text,r0,r1,r2,r3,r4,r5,to_,els⟩) 3 (.int .i64 0) rfl;have ck2:=aA hT2.bi 0 (.int .i64 2) rfl;have cs2:=aA hT2.bi 1 (.int .i64 op) rfl;have cf2:=aM hT2.bi 1;have hT3:=hT2.store (i':=⟨2,0,-1,0,b,n,text,r0,r1,r2,r3,r4,r5,to_,els⟩) 1 (.int .i64 0) rfl;have ck3:=aA hT3.bi 0 (.int .i64 2) rfl;have y0:=aA hT3.b5 0 (.int .i64 2) rfl;have yf:=aM hT3.b5 0;have hT4:=hT3.store5 (o':=aB 0) 0 (.int .i64 0) rfl;have hR:=setRow_heap _ _ _ (aB 0).l.toArray _ _ hT4.br;obtain⟨f0,f1,f2,f3,f4,f5,f6,f7,f8,f9,f10,f11,f12,f13,f14⟩:=Ins.cells (i:=aB 0) hR;simp only at f0 f1 f2 f3 f4 f5 f6 f7 f8 f9 f10 f11 f12 f13 f14))
  (try simp only[Exit.inBlock,Exit.then])
  refine bodyPost_ret (by simp[results,Try.results97,go_sem,f0,f1,f2,f3,f4,f5,f6,f7,f8,f9,f10,f11,f12,f13,f14];try rfl) rfl ⟨BareT.no (o:=aB 0) (iG HBE.out HMM.out) rfl,?_⟩
  exact below_setRow hT4.below (Nat.le_add_right _ _) _
 ·go_enter Try.func97,Try.ntmps97
  go_wp2_with (first
   |(go_at_call 101;refine (hus _).mono ?_;rintro e w5 ⟨rfl,hw5⟩;subst hw5)
   |(go_at_call 83;refine (hst _).mono ?_;rintro e w5 ⟨rfl,hw5⟩;subst hw5)
   |(show wpList Try.prog _ _ (⟨some 56,_,_,_,_,_⟩::_) _ _;refine wpList_load_row rfl 32 (.tmp 1) rfl w.heap.size rfl 32 _ (0,0) _ hT3.bi aZ rfl aS ?_)
   |(show wpList Try.prog _ _ (⟨some 60,_,_,_,_,_⟩::_) _ _;refine wpList_load_row rfl 32 (.tmp 5) rfl w1.heap.size rfl 32 _ (0,0) _ hT3.b5 aZ rfl aS ?_)
   |(show wpList Try.prog _ _ (⟨some 57,_,_,_,_,_⟩::_) _ _;refine wpList_load_row rfl 32 (.tmp 5) rfl w1.heap.size rfl 32 _ (0,0) _ hT3.b5 aZ rfl aS ?_)
   |(show wpList Try.prog _ _ (⟨none,.store _ (.tmp 2) _,_,_,_,_⟩::_) _ _;refine wpList_store_row rfl 32 (.tmp 2) (.tmp 60) rfl (w.heap.size+1) (aB 2).l.toArray rfl rfl 32 _ hT3.br aS rfl (aV 2) ?_)
   |(go_at_call 45;refine (hpl _).mono ?_;rintro e w1 ⟨rfl,hb1⟩;have hT0:=BSt.first (o:=⟨2,0,-1,0,0,0,⟨#[]⟩,0,0,0,0,0,0,0,-1⟩) b0 b1 hs2 hB0 hb1;simp only[Ins.obj] at hT0;have ck0:=aA hT0.bi 0 (.int .i64 2) rfl;have cs0:=aA hT0.bi 2 (.int .i64 dst) rfl;have cf0:=aM hT0.bi 2;have hT1:=hT0.store (i':=⟨2,op,-1,a,b,n,text,r0,r1,r2,r3,r4,r5,to_,els⟩) 2 (.int .i64 (-1)) rfl;have ck1:=aA hT1.bi 0 (.int .i64 2) rfl;have cs1:=aA hT1.bi 3 (.int .i64 a) rfl;have cf1:=aM hT1.bi 3;have hT2:=hT1.store (i':=⟨2,op,-1,0,b,n,text,r0,r1,r2,r3,r4,r5,to_,els⟩) 3 (.int .i64 0) rfl;have ck2:=aA hT2.bi 0 (.int .i64 2) rfl;have cs2:=aA hT2.bi 1 (.int .i64 op) rfl;have cf2:=aM hT2.bi 1;have hT3:=hT2.store (i':=⟨2,0,-1,0,b,n,text,r0,r1,r2,r3,r4,r5,to_,els⟩) 1 (.int .i64 0) rfl;have ck3:=aA hT3.bi 0 (.int .i64 2) rfl;have hR:=setRow_heap _ _ _ (aB 2).l.toArray _ _ hT3.br;obtain⟨f0,f1,f2,f3,f4,f5,f6,f7,f8,f9,f10,f11,f12,f13,f14⟩:=Ins.cells (i:=aB 2) hR;simp only at f0 f1 f2 f3 f4 f5 f6 f7 f8 f9 f10 f11 f12 f13 f14))
  (try simp only[Exit.inBlock,Exit.then])
  refine bodyPost_ret (by simp[results,Try.results97,go_sem,f0,f1,f2,f3,f4,f5,f6,f7,f8,f9,f10,f11,f12,f13,f14];try rfl) rfl ⟨BareT.yes (o:=aB 2) (iH HBE.out HMM.out) rfl,?_⟩
  exact below_setRow hT3.below (Nat.le_add_right _ _) _
theorem FH (op dst a b n:Int)(text:ByteArray)(r0 r1 r2 r3 r4 r5 to_ els:Int)(w:World):Calls Try.prog 97 #[Ins.agg ⟨9,op,dst,a,b,n,text,r0,r1,r2,r3,r4,r5,to_,els⟩] w fun e w'=>BareT ⟨9,op,dst,a,b,n,text,r0,r1,r2,r3,r4,r5,to_,els⟩ e∧Below w.heap.size w w':=by
 obtain⟨W,hW,hs2,b0,b1,hB0⟩:=dC ⟨9,op,dst,a,b,n,text,r0,r1,r2,r3,r4,r5,to_,els⟩ w
 have x0:=aA b0 0 (.int .i64 9) rfl
 simp only[Ins.obj,aW,Ins.agg] at hW ⊢
 have hus:=fun w=>cI 9 w
 have hst:=fun w=>bY 9 w
 rw[show kA 9=false from rfl] at hus
 rw[show kB 9=false from rfl] at hus
 rw[show kS 9=true from rfl] at hst
 have hpl:=fun w=>bN 9 w
 have HMM:Hid (Ins.mk 9 op dst a b n text r0 r1 r2 r3 r4 r5 to_ els=Ins.mask ⟨9,op,dst,a,b,n,text,r0,r1,r2,r3,r4,r5,to_,els⟩↔Ins.mk 9 op (-1) a b n text r0 r1 r2 r3 r4 r5 to_ els=⟨9,0,-1,0,0,0,⟨#[]⟩,0,0,0,0,0,0,0,-1⟩):=Hz (by simp[Ins.mask,kA,kB,kS,eq_comm])
 have hneq:=fun w=>bQ ⟨9,op,-1,a,b,n,text,r0,r1,r2,r3,r4,r5,to_,els⟩ ⟨9,0,-1,0,0,0,⟨#[]⟩,0,0,0,0,0,0,0,-1⟩ w
 obtain⟨be,hbe⟩:∃ be,be=decide (Ins.mk 9 op (-1) a b n text r0 r1 r2 r3 r4 r5 to_ els=⟨9,0,-1,0,0,0,⟨#[]⟩,0,0,0,0,0,0,0,-1⟩):=⟨_,rfl⟩
 rw[←hbe] at hneq
 have HBE:=Hz hbe
 clear hbe
 simp only[Ins.agg] at hneq hpl
 cases be
 ·go_enter Try.func97,Try.ntmps97
  go_wp2_with (first
   |(go_at_call 101;refine (hus _).mono ?_;rintro e w5 ⟨rfl,hw5⟩;subst hw5)
   |(go_at_call 83;refine (hst _).mono ?_;rintro e w5 ⟨rfl,hw5⟩;subst hw5)
   |(show wpList Try.prog _ _ (⟨some 56,_,_,_,_,_⟩::_) _ _;refine wpList_load_row rfl 32 (.tmp 1) rfl w.heap.size rfl 32 _ (0,0) _ hT1.bi aZ rfl aS ?_)
   |(show wpList Try.prog _ _ (⟨some 60,_,_,_,_,_⟩::_) _ _;refine wpList_load_row rfl 32 (.tmp 5) rfl w1.heap.size rfl 32 _ (0,0) _ hT2.b5 aZ rfl aS ?_)
   |(show wpList Try.prog _ _ (⟨some 57,_,_,_,_,_⟩::_) _ _;refine wpList_load_row rfl 32 (.tmp 5) rfl w1.heap.size rfl 32 _ (0,0) _ hT1.b5 aZ rfl aS ?_)
   |(show wpList Try.prog _ _ (⟨none,.store _ (.tmp 2) _,_,_,_,_⟩::_) _ _;refine wpList_store_row rfl 32 (.tmp 2) (.tmp 60) rfl (w.heap.size+1) (aB 0).l.toArray rfl rfl 32 _ hT2.br aS rfl (aV 0) ?_)
   |(go_at_call 45;refine (hpl _).mono ?_;rintro e w1 ⟨rfl,hb1⟩;have hT0:=BSt.first (o:=⟨9,0,-1,0,0,0,⟨#[]⟩,0,0,0,0,0,0,0,-1⟩) b0 b1 hs2 hB0 hb1;simp only[Ins.obj] at hT0;have ck0:=aA hT0.bi 0 (.int .i64 9) rfl;have cs0:=aA hT0.bi 2 (.int .i64 dst) rfl;have cf0:=aM hT0.bi 2;have hT1:=hT0.store (i':=⟨9,op,-1,a,b,n,text,r0,r1,r2,r3,r4,r5,to_,els⟩) 2 (.int .i64 (-1)) rfl;have ck1:=aA hT1.bi 0 (.int .i64 9) rfl;have y0:=aA hT1.b5 0 (.int .i64 9) rfl;have yf:=aM hT1.b5 0;have hT2:=hT1.store5 (o':=aB 0) 0 (.int .i64 0) rfl;have hR:=setRow_heap _ _ _ (aB 0).l.toArray _ _ hT2.br;obtain⟨f0,f1,f2,f3,f4,f5,f6,f7,f8,f9,f10,f11,f12,f13,f14⟩:=Ins.cells (i:=aB 0) hR;simp only at f0 f1 f2 f3 f4 f5 f6 f7 f8 f9 f10 f11 f12 f13 f14))
  (try simp only[Exit.inBlock,Exit.then])
  refine bodyPost_ret (by simp[results,Try.results97,go_sem,f0,f1,f2,f3,f4,f5,f6,f7,f8,f9,f10,f11,f12,f13,f14];try rfl) rfl ⟨BareT.no (o:=aB 0) (iG HBE.out HMM.out) rfl,?_⟩
  exact below_setRow hT2.below (Nat.le_add_right _ _) _
 ·go_enter Try.func97,Try.ntmps97
  go_wp2_with (first
   |(go_at_call 101;refine (hus _).mono ?_;rintro e w5 ⟨rfl,hw5⟩;subst hw5)
   |(go_at_call 83;refine (hst _).mono ?_;rintro e w5 ⟨rfl,hw5⟩;subst hw5)
   |(show wpList Try.prog _ _ (⟨some 56,_,_,_,_,_⟩::_) _ _;refine wpList_load_row rfl 32 (.tmp 1) rfl w.heap.size rfl 32 _ (0,0) _ hT1.bi aZ rfl aS ?_)
   |(show wpList Try.prog _ _ (⟨some 60,_,_,_,_,_⟩::_) _ _;refine wpList_load_row rfl 32 (.tmp 5) rfl w1.heap.size rfl 32 _ (0,0) _ hT1.b5 aZ rfl aS ?_)
   |(show wpList Try.prog _ _ (⟨some 57,_,_,_,_,_⟩::_) _ _;refine wpList_load_row rfl 32 (.tmp 5) rfl w1.heap.size rfl 32 _ (0,0) _ hT1.b5 aZ rfl aS ?_)
   |(show wpList Try.prog _ _ (⟨none,.store _ (.tmp 2) _,_,_,_,_⟩::_) _ _;refine wpList_store_row rfl 32 (.tmp 2) (.tmp 60) rfl (w.heap.size+1) (aB 9).l.toArray rfl rfl 32 _ hT1.br aS rfl (aV 9) ?_)
   |(go_at_call 45;refine (hpl _).mono ?_;rintro e w1 ⟨rfl,hb1⟩;have hT0:=BSt.first (o:=⟨9,0,-1,0,0,0,⟨#[]⟩,0,0,0,0,0,0,0,-1⟩) b0 b1 hs2 hB0 hb1;simp only[Ins.obj] at hT0;have ck0:=aA hT0.bi 0 (.int .i64 9) rfl;have cs0:=aA hT0.bi 2 (.int .i64 dst) rfl;have cf0:=aM hT0.bi 2;have hT1:=hT0.store (i':=⟨9,op,-1,a,b,n,text,r0,r1,r2,r3,r4,r5,to_,els⟩) 2 (.int .i64 (-1)) rfl;have ck1:=aA hT1.bi 0 (.int .i64 9) rfl;have hR:=setRow_heap _ _ _ (aB 9).l.toArray _ _ hT1.br;obtain⟨f0,f1,f2,f3,f4,f5,f6,f7,f8,f9,f10,f11,f12,f13,f14⟩:=Ins.cells (i:=aB 9) hR;simp only at f0 f1 f2 f3 f4 f5 f6 f7 f8 f9 f10 f11 f12 f13 f14))
  (try simp only[Exit.inBlock,Exit.then])
  refine bodyPost_ret (by simp[results,Try.results97,go_sem,f0,f1,f2,f3,f4,f5,f6,f7,f8,f9,f10,f11,f12,f13,f14];try rfl) rfl ⟨BareT.yes (o:=aB 9) (iH HBE.out HMM.out) rfl,?_⟩
  exact below_setRow hT1.below (Nat.le_add_right _ _) _
theorem FI (op dst a b n:Int)(text:ByteArray)(r0 r1 r2 r3 r4 r5 to_ els:Int)(w:World):Calls Try.prog 97 #[Ins.agg ⟨3,op,dst,a,b,n,text,r0,r1,r2,r3,r4,r5,to_,els⟩] w fun e w'=>BareT ⟨3,op,dst,a,b,n,text,r0,r1,r2,r3,r4,r5,to_,els⟩ e∧Below w.heap.size w w':=by
 obtain⟨W,hW,hs2,b0,b1,hB0⟩:=dC ⟨3,op,dst,a,b,n,text,r0,r1,r2,r3,r4,r5,to_,els⟩ w
 have x0:=aA b0 0 (.int .i64 3) rfl
 simp only[Ins.obj,aW,Ins.agg] at hW ⊢
 have hus:=fun w=>cI 3 w
 have hst:=fun w=>bY 3 w
 rw[show kA 3=true from rfl] at hus
 rw[show kB 3=true from rfl] at hus
 rw[show kS 3=true from rfl] at hst
 have hpl:=fun w=>bN 3 w
 have HMM:Hid (Ins.mk 3 op dst a b n text r0 r1 r2 r3 r4 r5 to_ els=Ins.mask ⟨3,op,dst,a,b,n,text,r0,r1,r2,r3,r4,r5,to_,els⟩↔Ins.mk 3 0 (-1) 0 0 n text r0 r1 r2 r3 r4 r5 to_ els=⟨3,0,-1,0,0,0,⟨#[]⟩,0,0,0,0,0,0,0,-1⟩):=Hz (by simp[Ins.mask,kA,kB,kS,eq_comm])
 have hneq:=fun w=>bQ ⟨3,0,-1,0,0,n,text,r0,r1,r2,r3,r4,r5,to_,els⟩ ⟨3,0,-1,0,0,0,⟨#[]⟩,0,0,0,0,0,0,0,-1⟩ w
 obtain⟨be,hbe⟩:∃ be,be=decide (Ins.mk 3 0 (-1) 0 0 n text r0 r1 r2 r3 r4 r5 to_ els=⟨3,0,-1,0,0,0,⟨#[]⟩,0,0,0,0,0,0,0,-1⟩):=⟨_,rfl⟩
 rw[←hbe] at hneq
 have HBE:=Hz hbe
 clear hbe
 simp only[Ins.agg] at hneq hpl
 cases be
 ·go_enter Try.func97,Try.ntmps97
  go_wp2_with (first
   |(go_at_call 101;refine (hus _).mono ?_;rintro e w5 ⟨rfl,hw5⟩;subst hw5)
   |(go_at_call 83;refine (hst _).mono ?_;rintro e w5 ⟨rfl,hw5⟩;subst hw5)
   |(show wpList Try.prog _ _ (⟨some 56,_,_,_,_,_⟩::_) _ _;refine wpList_load_row rfl 32 (.tmp 1) rfl w.heap.size rfl 32 _ (0,0) _ hT4.bi aZ rfl aS ?_)
   |(show wpList Try.prog _ _ (⟨some 60,_,_,_,_,_⟩::_) _ _;refine wpList_load_row rfl 32 (.tmp 5) rfl w1.heap.size rfl 32 _ (0,0) _ hT5.b5 aZ rfl aS ?_)
   |(show wpList Try.prog _ _ (⟨some 57,_,_,_,_,_⟩::_) _ _;refine wpList_load_row rfl 32 (.tmp 5) rfl w1.heap.size rfl 32 _ (0,0) _ hT4.b5 aZ rfl aS ?_)
   |(show wpList Try.prog _ _ (⟨none,.store _ (.tmp 2) _,_,_,_,_⟩::_) _ _;refine wpList_store_row rfl 32 (.tmp 2) (.tmp 60) rfl (w.heap.size+1) (aB 0).l.toArray rfl rfl 32 _ hT5.br aS rfl (aV 0) ?_)
   |(go_at_call 45;refine (hpl _).mono ?_;rintro e w1 ⟨rfl,hb1⟩;have hT0:=BSt.first (o:=⟨3,0,-1,0,0,0,⟨#[]⟩,0,0,0,0,0,0,0,-1⟩) b0 b1 hs2 hB0 hb1;simp only[Ins.obj] at hT0;have ck0:=aA hT0.bi 0 (.int .i64 3) rfl;have cs0:=aA hT0.bi 2 (.int .i64 dst) rfl;have cf0:=aM hT0.bi 2;have hT1:=hT0.store (i':=⟨3,op,-1,a,b,n,text,r0,r1,r2,r3,r4,r5,to_,els⟩) 2 (.int .i64 (-1)) rfl;have ck1:=aA hT1.bi 0 (.int .i64 3) rfl;have cs1:=aA hT1.bi 3 (.int .i64 a) rfl;have cf1:=aM hT1.bi 3;have hT2:=hT1.store (i':=⟨3,op,-1,0,b,n,text,r0,r1,r2,r3,r4,r5,to_,els⟩) 3 (.int .i64 0) rfl;have ck2:=aA hT2.bi 0 (.int .i64 3) rfl;have cs2:=aA hT2.bi 4 (.int .i64 b) rfl;have cf2:=aM hT2.bi 4;have hT3:=hT2.store (i':=⟨3,op,-1,0,0,n,text,r0,r1,r2,r3,r4,r5,to_,els⟩) 4 (.int .i64 0) rfl;have ck3:=aA hT3.bi 0 (.int .i64 3) rfl;have cs3:=aA hT3.bi 1 (.int .i64 op) rfl;have cf3:=aM hT3.bi 1;have hT4:=hT3.store (i':=⟨3,0,-1,0,0,n,text,r0,r1,r2,r3,r4,r5,to_,els⟩) 1 (.int .i64 0) rfl;have ck4:=aA hT4.bi 0 (.int .i64 3) rfl;have y0:=aA hT4.b5 0 (.int .i64 3) rfl;have yf:=aM hT4.b5 0;have hT5:=hT4.store5 (o':=aB 0) 0 (.int .i64 0) rfl;have hR:=setRow_heap _ _ _ (aB 0).l.toArray _ _ hT5.br;obtain⟨f0,f1,f2,f3,f4,f5,f6,f7,f8,f9,f10,f11,f12,f13,f14⟩:=Ins.cells (i:=aB 0) hR;simp only at f0 f1 f2 f3 f4 f5 f6 f7 f8 f9 f10 f11 f12 f13 f14))
  (try simp only[Exit.inBlock,Exit.then])
  refine bodyPost_ret (by simp[results,Try.results97,go_sem,f0,f1,f2,f3,f4,f5,f6,f7,f8,f9,f10,f11,f12,f13,f14];try rfl) rfl ⟨BareT.no (o:=aB 0) (iG HBE.out HMM.out) rfl,?_⟩
  exact below_setRow hT5.below (Nat.le_add_right _ _) _
 ·go_enter Try.func97,Try.ntmps97
  go_wp2_with (first
   |(go_at_call 101;refine (hus _).mono ?_;rintro e w5 ⟨rfl,hw5⟩;subst hw5)
   |(go_at_call 83;refine (hst _).mono ?_;rintro e w5 ⟨rfl,hw5⟩;subst hw5)
   |(show wpList Try.prog _ _ (⟨some 56,_,_,_,_,_⟩::_) _ _;refine wpList_load_row rfl 32 (.tmp 1) rfl w.heap.size rfl 32 _ (0,0) _ hT4.bi aZ rfl aS ?_)
   |(show wpList Try.prog _ _ (⟨some 60,_,_,_,_,_⟩::_) _ _;refine wpList_load_row rfl 32 (.tmp 5) rfl w1.heap.size rfl 32 _ (0,0) _ hT4.b5 aZ rfl aS ?_)
   |(show wpList Try.prog _ _ (⟨some 57,_,_,_,_,_⟩::_) _ _;refine wpList_load_row rfl 32 (.tmp 5) rfl w1.heap.size rfl 32 _ (0,0) _ hT4.b5 aZ rfl aS ?_)
   |(show wpList Try.prog _ _ (⟨none,.store _ (.tmp 2) _,_,_,_,_⟩::_) _ _;refine wpList_store_row rfl 32 (.tmp 2) (.tmp 60) rfl (w.heap.size+1) (aB 3).l.toArray rfl rfl 32 _ hT4.br aS rfl (aV 3) ?_)
   |(go_at_call 45;refine (hpl _).mono ?_;rintro e w1 ⟨rfl,hb1⟩;have hT0:=BSt.first (o:=⟨3,0,-1,0,0,0,⟨#[]⟩,0,0,0,0,0,0,0,-1⟩) b0 b1 hs2 hB0 hb1;simp only[Ins.obj] at hT0;have ck0:=aA hT0.bi 0 (.int .i64 3) rfl;have cs0:=aA hT0.bi 2 (.int .i64 dst) rfl;have cf0:=aM hT0.bi 2;have hT1:=hT0.store (i':=⟨3,op,-1,a,b,n,text,r0,r1,r2,r3,r4,r5,to_,els⟩) 2 (.int .i64 (-1)) rfl;have ck1:=aA hT1.bi 0 (.int .i64 3) rfl;have cs1:=aA hT1.bi 3 (.int .i64 a) rfl;have cf1:=aM hT1.bi 3;have hT2:=hT1.store (i':=⟨3,op,-1,0,b,n,text,r0,r1,r2,r3,r4,r5,to_,els⟩) 3 (.int .i64 0) rfl;have ck2:=aA hT2.bi 0 (.int .i64 3) rfl;have cs2:=aA hT2.bi 4 (.int .i64 b) rfl;have cf2:=aM hT2.bi 4;have hT3:=hT2.store (i':=⟨3,op,-1,0,0,n,text,r0,r1,r2,r3,r4,r5,to_,els⟩) 4 (.int .i64 0) rfl;have ck3:=aA hT3.bi 0 (.int .i64 3) rfl;have cs3:=aA hT3.bi 1 (.int .i64 op) rfl;have cf3:=aM hT3.bi 1;have hT4:=hT3.store (i':=⟨3,0,-1,0,0,n,text,r0,r1,r2,r3,r4,r5,to_,els⟩) 1 (.int .i64 0) rfl;have ck4:=aA hT4.bi 0 (.int .i64 3) rfl;have hR:=setRow_heap _ _ _ (aB 3).l.toArray _ _ hT4.br;obtain⟨f0,f1,f2,f3,f4,f5,f6,f7,f8,f9,f10,f11,f12,f13,f14⟩:=Ins.cells (i:=aB 3) hR;simp only at f0 f1 f2 f3 f4 f5 f6 f7 f8 f9 f10 f11 f12 f13 f14))
  (try simp only[Exit.inBlock,Exit.then])
  refine bodyPost_ret (by simp[results,Try.results97,go_sem,f0,f1,f2,f3,f4,f5,f6,f7,f8,f9,f10,f11,f12,f13,f14];try rfl) rfl ⟨BareT.yes (o:=aB 3) (iH HBE.out HMM.out) rfl,?_⟩
  exact below_setRow hT4.below (Nat.le_add_right _ _) _
theorem FJ (op dst a b n:Int)(text:ByteArray)(r0 r1 r2 r3 r4 r5 to_ els:Int)(w:World):Calls Try.prog 97 #[Ins.agg ⟨4,op,dst,a,b,n,text,r0,r1,r2,r3,r4,r5,to_,els⟩] w fun e w'=>BareT ⟨4,op,dst,a,b,n,text,r0,r1,r2,r3,r4,r5,to_,els⟩ e∧Below w.heap.size w w':=by
 obtain⟨W,hW,hs2,b0,b1,hB0⟩:=dC ⟨4,op,dst,a,b,n,text,r0,r1,r2,r3,r4,r5,to_,els⟩ w
 have x0:=aA b0 0 (.int .i64 4) rfl
 simp only[Ins.obj,aW,Ins.agg] at hW ⊢
 have hus:=fun w=>cI 4 w
 have hst:=fun w=>bY 4 w
 rw[show kA 4=true from rfl] at hus
 rw[show kB 4=false from rfl] at hus
 rw[show kS 4=true from rfl] at hst
 have hpl:=fun w=>bN 4 w
 have HMM:Hid (Ins.mk 4 op dst a b n text r0 r1 r2 r3 r4 r5 to_ els=Ins.mask ⟨4,op,dst,a,b,n,text,r0,r1,r2,r3,r4,r5,to_,els⟩↔Ins.mk 4 op (-1) 0 b n text r0 r1 r2 r3 r4 r5 to_ els=⟨4,0,-1,0,0,0,⟨#[]⟩,0,0,0,0,0,0,0,-1⟩):=Hz (by simp[Ins.mask,kA,kB,kS,eq_comm])
 have hneq:=fun w=>bQ ⟨4,op,-1,0,b,n,text,r0,r1,r2,r3,r4,r5,to_,els⟩ ⟨4,0,-1,0,0,0,⟨#[]⟩,0,0,0,0,0,0,0,-1⟩ w
 obtain⟨be,hbe⟩:∃ be,be=decide (Ins.mk 4 op (-1) 0 b n text r0 r1 r2 r3 r4 r5 to_ els=⟨4,0,-1,0,0,0,⟨#[]⟩,0,0,0,0,0,0,0,-1⟩):=⟨_,rfl⟩
 rw[←hbe] at hneq
 have HBE:=Hz hbe
 clear hbe
 simp only[Ins.agg] at hneq hpl
 cases be
 ·go_enter Try.func97,Try.ntmps97
  go_wp2_with (first
   |(go_at_call 101;refine (hus _).mono ?_;rintro e w5 ⟨rfl,hw5⟩;subst hw5)
   |(go_at_call 83;refine (hst _).mono ?_;rintro e w5 ⟨rfl,hw5⟩;subst hw5)
   |(show wpList Try.prog _ _ (⟨some 56,_,_,_,_,_⟩::_) _ _;refine wpList_load_row rfl 32 (.tmp 1) rfl w.heap.size rfl 32 _ (0,0) _ hT2.bi aZ rfl aS ?_)
   |(show wpList Try.prog _ _ (⟨some 60,_,_,_,_,_⟩::_) _ _;refine wpList_load_row rfl 32 (.tmp 5) rfl w1.heap.size rfl 32 _ (0,0) _ hT3.b5 aZ rfl aS ?_)
   |(show wpList Try.prog _ _ (⟨some 57,_,_,_,_,_⟩::_) _ _;refine wpList_load_row rfl 32 (.tmp 5) rfl w1.heap.size rfl 32 _ (0,0) _ hT2.b5 aZ rfl aS ?_)
   |(show wpList Try.prog _ _ (⟨none,.store _ (.tmp 2) _,_,_,_,_⟩::_) _ _;refine wpList_store_row rfl 32 (.tmp 2) (.tmp 60) rfl (w.heap.size+1) (aB 0).l.toArray rfl rfl 32 _ hT3.br aS rfl (aV 0) ?_)
   |(go_at_call 45;refine (hpl _).mono ?_;rintro e w1 ⟨rfl,hb1⟩;have hT0:=BSt.first (o:=⟨4,0,-1,0,0,0,⟨#[]⟩,0,0,0,0,0,0,0,-1⟩) b0 b1 hs2 hB0 hb1;simp only[Ins.obj] at hT0;have ck0:=aA hT0.bi 0 (.int .i64 4) rfl;have cs0:=aA hT0.bi 2 (.int .i64 dst) rfl;have cf0:=aM hT0.bi 2;have hT1:=hT0.store (i':=⟨4,op,-1,a,b,n,text,r0,r1,r2,r3,r4,r5,to_,els⟩) 2 (.int .i64 (-1)) rfl;have ck1:=aA hT1.bi 0 (.int .i64 4) rfl;have cs1:=aA hT1.bi 3 (.int .i64 a) rfl;have cf1:=aM hT1.bi 3;have hT2:=hT1.store (i':=⟨4,op,-1,0,b,n,text,r0,r1,r2,r3,r4,r5,to_,els⟩) 3 (.int .i64 0) rfl;have ck2:=aA hT2.bi 0 (.int .i64 4) rfl;have y0:=aA hT2.b5 0 (.int .i64 4) rfl;have yf:=aM hT2.b5 0;have hT3:=hT2.store5 (o':=aB 0) 0 (.int .i64 0) rfl;have hR:=setRow_heap _ _ _ (aB 0).l.toArray _ _ hT3.br;obtain⟨f0,f1,f2,f3,f4,f5,f6,f7,f8,f9,f10,f11,f12,f13,f14⟩:=Ins.cells (i:=aB 0) hR;simp only at f0 f1 f2 f3 f4 f5 f6 f7 f8 f9 f10 f11 f12 f13 f14))
  (try simp only[Exit.inBlock,Exit.then])
  refine bodyPost_ret (by simp[results,Try.results97,go_sem,f0,f1,f2,f3,f4,f5,f6,f7,f8,f9,f10,f11,f12,f13,f14];try rfl) rfl ⟨BareT.no (o:=aB 0) (iG HBE.out HMM.out) rfl,?_⟩
  exact below_setRow hT3.below (Nat.le_add_right _ _) _
 ·go_enter Try.func97,Try.ntmps97
  go_wp2_with (first
   |(go_at_call 101;refine (hus _).mono ?_;rintro e w5 ⟨rfl,hw5⟩;subst hw5)
   |(go_at_call 83;refine (hst _).mono ?_;rintro e w5 ⟨rfl,hw5⟩;subst hw5)
   |(show wpList Try.prog _ _ (⟨some 56,_,_,_,_,_⟩::_) _ _;refine wpList_load_row rfl 32 (.tmp 1) rfl w.heap.size rfl 32 _ (0,0) _ hT2.bi aZ rfl aS ?_)
   |(show wpList Try.prog _ _ (⟨some 60,_,_,_,_,_⟩::_) _ _;refine wpList_load_row rfl 32 (.tmp 5) rfl w1.heap.size rfl 32 _ (0,0) _ hT2.b5 aZ rfl aS ?_)
   |(show wpList Try.prog _ _ (⟨some 57,_,_,_,_,_⟩::_) _ _;refine wpList_load_row rfl 32 (.tmp 5) rfl w1.heap.size rfl 32 _ (0,0) _ hT2.b5 aZ rfl aS ?_)
   |(show wpList Try.prog _ _ (⟨none,.store _ (.tmp 2) _,_,_,_,_⟩::_) _ _;refine wpList_store_row rfl 32 (.tmp 2) (.tmp 60) rfl (w.heap.size+1) (aB 4).l.toArray rfl rfl 32 _ hT2.br aS rfl (aV 4) ?_)
   |(go_at_call 45;refine (hpl _).mono ?_;rintro e w1 ⟨rfl,hb1⟩;have hT0:=BSt.first (o:=⟨4,0,-1,0,0,0,⟨#[]⟩,0,0,0,0,0,0,0,-1⟩) b0 b1 hs2 hB0 hb1;simp only[Ins.obj] at hT0;have ck0:=aA hT0.bi 0 (.int .i64 4) rfl;have cs0:=aA hT0.bi 2 (.int .i64 dst) rfl;have cf0:=aM hT0.bi 2;have hT1:=hT0.store (i':=⟨4,op,-1,a,b,n,text,r0,r1,r2,r3,r4,r5,to_,els⟩) 2 (.int .i64 (-1)) rfl;have ck1:=aA hT1.bi 0 (.int .i64 4) rfl;have cs1:=aA hT1.bi 3 (.int .i64 a) rfl;have cf1:=aM hT1.bi 3;have hT2:=hT1.store (i':=⟨4,op,-1,0,b,n,text,r0,r1,r2,r3,r4,r5,to_,els⟩) 3 (.int .i64 0) rfl;have ck2:=aA hT2.bi 0 (.int .i64 4) rfl;have hR:=setRow_heap _ _ _ (aB 4).l.toArray _ _ hT2.br;obtain⟨f0,f1,f2,f3,f4,f5,f6,f7,f8,f9,f10,f11,f12,f13,f14⟩:=Ins.cells (i:=aB 4) hR;simp only at f0 f1 f2 f3 f4 f5 f6 f7 f8 f9 f10 f11 f12 f13 f14))
  (try simp only[Exit.inBlock,Exit.then])
  refine bodyPost_ret (by simp[results,Try.results97,go_sem,f0,f1,f2,f3,f4,f5,f6,f7,f8,f9,f10,f11,f12,f13,f14];try rfl) rfl ⟨BareT.yes (o:=aB 4) (iH HBE.out HMM.out) rfl,?_⟩
  exact below_setRow hT2.below (Nat.le_add_right _ _) _
theorem FK (op dst a b n:Int)(text:ByteArray)(r0 r1 r2 r3 r4 r5 to_ els:Int)(w:World):Calls Try.prog 97 #[Ins.agg ⟨6,op,dst,a,b,n,text,r0,r1,r2,r3,r4,r5,to_,els⟩] w fun e w'=>BareT ⟨6,op,dst,a,b,n,text,r0,r1,r2,r3,r4,r5,to_,els⟩ e∧Below w.heap.size w w':=by
 obtain⟨W,hW,hs2,b0,b1,hB0⟩:=dC ⟨6,op,dst,a,b,n,text,r0,r1,r2,r3,r4,r5,to_,els⟩ w
 have x0:=aA b0 0 (.int .i64 6) rfl
 simp only[Ins.obj,aW,Ins.agg] at hW ⊢
 have hus:=fun w=>cI 6 w
 have hst:=fun w=>bY 6 w
 rw[show kA 6=true from rfl] at hus
 rw[show kB 6=false from rfl] at hus
 rw[show kS 6=true from rfl] at hst
 have hpl:=fun w=>bN 6 w
 have HMM:Hid (Ins.mk 6 op dst a b n text r0 r1 r2 r3 r4 r5 to_ els=Ins.mask ⟨6,op,dst,a,b,n,text,r0,r1,r2,r3,r4,r5,to_,els⟩↔Ins.mk 6 op (-1) 0 b n text r0 r1 r2 r3 r4 r5 to_ els=⟨6,0,-1,0,0,0,⟨#[]⟩,0,0,0,0,0,0,0,-1⟩):=Hz (by simp[Ins.mask,kA,kB,kS,eq_comm])
 have hneq:=fun w=>bQ ⟨6,op,-1,0,b,n,text,r0,r1,r2,r3,r4,r5,to_,els⟩ ⟨6,0,-1,0,0,0,⟨#[]⟩,0,0,0,0,0,0,0,-1⟩ w
 obtain⟨be,hbe⟩:∃ be,be=decide (Ins.mk 6 op (-1) 0 b n text r0 r1 r2 r3 r4 r5 to_ els=⟨6,0,-1,0,0,0,⟨#[]⟩,0,0,0,0,0,0,0,-1⟩):=⟨_,rfl⟩
 rw[←hbe] at hneq
 have HBE:=Hz hbe
 clear hbe
 simp only[Ins.agg] at hneq hpl
 cases be
 ·go_enter Try.func97,Try.ntmps97
  go_wp2_with (first
   |(go_at_call 101;refine (hus _).mono ?_;rintro e w5 ⟨rfl,hw5⟩;subst hw5)
   |(go_at_call 83;refine (hst _).mono ?_;rintro e w5 ⟨rfl,hw5⟩;subst hw5)
   |(show wpList Try.prog _ _ (⟨some 56,_,_,_,_,_⟩::_) _ _;refine wpList_load_row rfl 32 (.tmp 1) rfl w.heap.size rfl 32 _ (0,0) _ hT2.bi aZ rfl aS ?_)
   |(show wpList Try.prog _ _ (⟨some 60,_,_,_,_,_⟩::_) _ _;refine wpList_load_row rfl 32 (.tmp 5) rfl w1.heap.size rfl 32 _ (0,0) _ hT3.b5 aZ rfl aS ?_)
   |(show wpList Try.prog _ _ (⟨some 57,_,_,_,_,_⟩::_) _ _;refine wpList_load_row rfl 32 (.tmp 5) rfl w1.heap.size rfl 32 _ (0,0) _ hT2.b5 aZ rfl aS ?_)
   |(show wpList Try.prog _ _ (⟨none,.store _ (.tmp 2) _,_,_,_,_⟩::_) _ _;refine wpList_store_row rfl 32 (.tmp 2) (.tmp 60) rfl (w.heap.size+1) (aB 0).l.toArray rfl rfl 32 _ hT3.br aS rfl (aV 0) ?_)
   |(go_at_call 45;refine (hpl _).mono ?_;rintro e w1 ⟨rfl,hb1⟩;have hT0:=BSt.first (o:=⟨6,0,-1,0,0,0,⟨#[]⟩,0,0,0,0,0,0,0,-1⟩) b0 b1 hs2 hB0 hb1;simp only[Ins.obj] at hT0;have ck0:=aA hT0.bi 0 (.int .i64 6) rfl;have cs0:=aA hT0.bi 2 (.int .i64 dst) rfl;have cf0:=aM hT0.bi 2;have hT1:=hT0.store (i':=⟨6,op,-1,a,b,n,text,r0,r1,r2,r3,r4,r5,to_,els⟩) 2 (.int .i64 (-1)) rfl;have ck1:=aA hT1.bi 0 (.int .i64 6) rfl;have cs1:=aA hT1.bi 3 (.int .i64 a) rfl;have cf1:=aM hT1.bi 3;have hT2:=hT1.store (i':=⟨6,op,-1,0,b,n,text,r0,r1,r2,r3,r4,r5,to_,els⟩) 3 (.int .i64 0) rfl;have ck2:=aA hT2.bi 0 (.int .i64 6) rfl;have y0:=aA hT2.b5 0 (.int .i64 6) rfl;have yf:=aM hT2.b5 0;have hT3:=hT2.store5 (o':=aB 0) 0 (.int .i64 0) rfl;have hR:=setRow_heap _ _ _ (aB 0).l.toArray _ _ hT3.br;obtain⟨f0,f1,f2,f3,f4,f5,f6,f7,f8,f9,f10,f11,f12,f13,f14⟩:=Ins.cells (i:=aB 0) hR;simp only at f0 f1 f2 f3 f4 f5 f6 f7 f8 f9 f10 f11 f12 f13 f14))
  (try simp only[Exit.inBlock,Exit.then])
  refine bodyPost_ret (by simp[results,Try.results97,go_sem,f0,f1,f2,f3,f4,f5,f6,f7,f8,f9,f10,f11,f12,f13,f14];try rfl) rfl ⟨BareT.no (o:=aB 0) (iG HBE.out HMM.out) rfl,?_⟩
  exact below_setRow hT3.below (Nat.le_add_right _ _) _
 ·go_enter Try.func97,Try.ntmps97
  go_wp2_with (first
   |(go_at_call 101;refine (hus _).mono ?_;rintro e w5 ⟨rfl,hw5⟩;subst hw5)
   |(go_at_call 83;refine (hst _).mono ?_;rintro e w5 ⟨rfl,hw5⟩;subst hw5)
   |(show wpList Try.prog _ _ (⟨some 56,_,_,_,_,_⟩::_) _ _;refine wpList_load_row rfl 32 (.tmp 1) rfl w.heap.size rfl 32 _ (0,0) _ hT2.bi aZ rfl aS ?_)
   |(show wpList Try.prog _ _ (⟨some 60,_,_,_,_,_⟩::_) _ _;refine wpList_load_row rfl 32 (.tmp 5) rfl w1.heap.size rfl 32 _ (0,0) _ hT2.b5 aZ rfl aS ?_)
   |(show wpList Try.prog _ _ (⟨some 57,_,_,_,_,_⟩::_) _ _;refine wpList_load_row rfl 32 (.tmp 5) rfl w1.heap.size rfl 32 _ (0,0) _ hT2.b5 aZ rfl aS ?_)
   |(show wpList Try.prog _ _ (⟨none,.store _ (.tmp 2) _,_,_,_,_⟩::_) _ _;refine wpList_store_row rfl 32 (.tmp 2) (.tmp 60) rfl (w.heap.size+1) (aB 6).l.toArray rfl rfl 32 _ hT2.br aS rfl (aV 6) ?_)
   |(go_at_call 45;refine (hpl _).mono ?_;rintro e w1 ⟨rfl,hb1⟩;have hT0:=BSt.first (o:=⟨6,0,-1,0,0,0,⟨#[]⟩,0,0,0,0,0,0,0,-1⟩) b0 b1 hs2 hB0 hb1;simp only[Ins.obj] at hT0;have ck0:=aA hT0.bi 0 (.int .i64 6) rfl;have cs0:=aA hT0.bi 2 (.int .i64 dst) rfl;have cf0:=aM hT0.bi 2;have hT1:=hT0.store (i':=⟨6,op,-1,a,b,n,text,r0,r1,r2,r3,r4,r5,to_,els⟩) 2 (.int .i64 (-1)) rfl;have ck1:=aA hT1.bi 0 (.int .i64 6) rfl;have cs1:=aA hT1.bi 3 (.int .i64 a) rfl;have cf1:=aM hT1.bi 3;have hT2:=hT1.store (i':=⟨6,op,-1,0,b,n,text,r0,r1,r2,r3,r4,r5,to_,els⟩) 3 (.int .i64 0) rfl;have ck2:=aA hT2.bi 0 (.int .i64 6) rfl;have hR:=setRow_heap _ _ _ (aB 6).l.toArray _ _ hT2.br;obtain⟨f0,f1,f2,f3,f4,f5,f6,f7,f8,f9,f10,f11,f12,f13,f14⟩:=Ins.cells (i:=aB 6) hR;simp only at f0 f1 f2 f3 f4 f5 f6 f7 f8 f9 f10 f11 f12 f13 f14))
  (try simp only[Exit.inBlock,Exit.then])
  refine bodyPost_ret (by simp[results,Try.results97,go_sem,f0,f1,f2,f3,f4,f5,f6,f7,f8,f9,f10,f11,f12,f13,f14];try rfl) rfl ⟨BareT.yes (o:=aB 6) (iH HBE.out HMM.out) rfl,?_⟩
  exact below_setRow hT2.below (Nat.le_add_right _ _) _
end Go.Proofs.Ytkcclefonmnpnaa
