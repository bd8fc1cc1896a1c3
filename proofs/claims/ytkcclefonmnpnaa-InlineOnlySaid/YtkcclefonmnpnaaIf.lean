import Derived.Test.YtkcclefonmnpnaaZl
namespace Go.Proofs.Ytkcclefonmnpnaa
open Go.RowKit Go.BigFrame
abbrev regB (bb:Nat):Value:=.func (.func 91) #[] #[.pointer (some ⟨bb,0,none⟩)]
theorem inbody1_any {w:World}{bb:Nat}{b:Int}(h:w.cell? ⟨bb,0,none⟩=some (.int .i64 b))(hb:0≤b∧b≤100000)(r:Int)(hr:-100000≤r∧r≤100000):Calls Try.prog 91 #[.int .i64 r,.pointer (some ⟨bb,0,none⟩)] w fun e w'=>e = .returned (.int .i64 (b + r))∧w=w':=by
  have hw:wrap64 (b + r)=b + r:=by unfold wrap64; omega
  go_enter Try.func91,Try.ntmps91
  go_wp2
  go_returns
  exact ⟨rfl,rfl⟩
theorem mv_two (w:World)(a b:Obj):((w.alloc a).alloc b).heap[w.heap.size]? = some a∧((w.alloc a).alloc b).heap[w.heap.size + 1]? = some b∧Below w.heap.size w ((w.alloc a).alloc b):=by
  have h1:=heap_alloc_new (w.alloc a) b
  rw [show (w.alloc a).heap.size=w.heap.size + 1 by simp] at h1
  exact ⟨alloc_keeps (heap_alloc_new w a) b,h1,(Below.one w a).alloc (by simp) b⟩
set_option maxRecDepth 1000000 in
set_option maxHeartbeats 8000000 in
theorem moved_sa (i:Ins)(hk:i.kind=2∨i.kind=4∨i.kind=6)(hd:0≤i.dst∧i.dst≤5000)(ha:0≤i.a∧i.a≤5000)(bb:Nat)(B:Int)(hB0:0≤B∧B≤5000)(w:World)(h:w.cell? ⟨bb,0,none⟩=some (.int .i64 B)) :
    Calls Try.prog 92 #[i.agg,regB bb] w fun e w'=>e = .returned (Ins.agg { i with dst:=B + i.dst,a:=B + i.a })∧Below w.heap.size w w':=by
  obtain ⟨b0,b1,hB⟩:=mv_two w i.obj zeroObj
  obtain ⟨W,hW⟩:∃ W,(w.alloc i.obj).alloc zeroObj=W:=⟨_,rfl⟩
  rw [hW] at b0 b1 hB
  have hbl:=World.block_lt_of_cell? w ⟨bb,0,none⟩ h
  have hcl:bb < w.heap.size:=hbl
  have hbc:W.cell? ⟨bb,0,none⟩=some (.int .i64 B):=(Below.cell hB (p:=⟨bb,0,none⟩) hbl).trans h
  have hs:=fun W=>Sets_any i W
  have hone:=one_ins { i with dst:=B + i.dst,a:=B + i.a }
  have hsv:i.sets=i.dst:=by unfold Ins.sets; rcases hk with e | e | e <;> simp [e,kS]
  rw [hsv] at hs
  have hrd:=fun (W:World) (h:W.cell? ⟨bb,0,none⟩=some (.int .i64 B))=>inbody1_any h ⟨hB0.1,by omega⟩ i.dst ⟨by omega,by omega⟩
  have hra:=fun (W:World) (h:W.cell? ⟨bb,0,none⟩=some (.int .i64 B))=>inbody1_any h ⟨hB0.1,by omega⟩ i.a ⟨by omega,by omega⟩
  obtain ⟨vd,hvd⟩:∃ v,B + i.dst=v:=⟨_,rfl⟩
  obtain ⟨va,hva⟩:∃ v,B + i.a=v:=⟨_,rfl⟩
  have hl0:=(Array.getElem?_eq_some_iff.1 b0).1
  have hl1:=(Array.getElem?_eq_some_iff.1 b1).1
  have sd:decide (i.dst ≥ 0)=true:=by simp; omega
  have sd2:decide (0≤i.dst)=true:=by simp; omega
  obtain ⟨k,op,dst,a,b,n,text,r0,r1,r2,r3,r4,r5,to_,els⟩:=i
  simp only at sd sd2
  simp only at hk hs hone hvd hva hrd hra
  rw [hvd,hva] at hone ⊢
  rw [hvd] at hrd
  rw [hva] at hra
  simp only [Ins.agg,Ins.obj,regB] at b0 hW hs hone hrd hra ⊢
  have HB:=Lib.hid hB
  have H0:=Lib.hid b0
  have H1:=Lib.hid b1
  have HS:=Lib.hid hs
  have HBC:=Lib.hid hbc
  have HRd:=Lib.hid hrd
  have HRa:=Lib.hid hra
  clear hB b0 b1 hs hbc h hrd hra hvd hva hsv
  rcases hk with rfl | rfl | rfl
  all_goals
    go_enter Try.func92,Try.ntmps92
    go_wp2_with (show wpList Try.prog _ _ (⟨some 5,_,_,_,_,_⟩::_) _ _; refine wpList_load_row rfl 32 (.tmp 2) rfl w.heap.size rfl 32 _ (0,0) _ H0.out vIns rfl sIns ?_)
    refine (HS.out _).mono ?_
    rintro e w1 ⟨rfl,hb1⟩
    dsimp only
    have c0:=(hb1.block _ hl0).trans H0.out
    have c1:=(hb1.block _ hl1).trans H1.out
    have cB:w1.cell? ⟨bb,0,none⟩=some (.int .i64 B):=(Below.cell hb1 (p:=⟨bb,0,none⟩) (by have:=HB.out.size; simp only; omega)).trans HBC.out
    have hs1:=hb1.size
    have HB1:=Lib.hid (HB.out.trans (hb1.mono HB.out.size))
    have y0:=Ins.cells (i:=⟨_,op,dst,a,b,n,text,r0,r1,r2,r3,r4,r5,to_,els⟩) c0
    obtain ⟨y0,y1,y2,y3,y4,y5,y6,y7,y8,y9,y10,y11,y12,y13,y14⟩:=y0
    simp only at y0 y1 y2 y3 y4 y5 y6 y7 y8 y9 y10 y11 y12 y13 y14
    clear y1 y5 y6 y7 y8 y9 y10 y11 y12 y13 y14
    have yf:=free_of_heap c0
    have hlw:=(Array.getElem?_eq_some_iff.1 c0).1
    clear hb1 hW
    go_wp2_with fail
    refine (HRd.out _ cB).mono ?_
    rintro e w2 ⟨rfl,hw2⟩
    subst hw2
    dsimp only
    have s1:=heap_setCell (j:=2) c0 (.int .i64 vd)
    have t1:=(heap_setCell_other w1 ⟨w.heap.size,2,none⟩ (w.heap.size + 1) (.int .i64 vd) (by simp only; omega)).trans c1
    have cB2:((w1).setCell ⟨w.heap.size,2,none⟩ (.int .i64 vd)).cell? ⟨bb,0,none⟩=some (.int .i64 B):=by rw [World.cell?_setCell_far _ _ _ _ (by simp only; omega)]; exact cB
    go_wp2_with fail
    refine (HRa.out _ cB2).mono ?_
    rintro e w2 ⟨rfl,hw2⟩
    subst hw2
    dsimp only
    have s2:=heap_setCell (j:=3) s1 (.int .i64 va)
    have t2:=(heap_setCell_other ((w1).setCell ⟨w.heap.size,2,none⟩ (.int .i64 vd)) ⟨w.heap.size,3,none⟩ (w.heap.size + 1) (.int .i64 va) (by simp only; omega)).trans t1
    have HF:=Lib.hid s2
    have HG:=Lib.hid t2
    go_wp2_with (first
      | (show wpList Try.prog _ _ (⟨some 38,_,_,_,_,_⟩::_) _ _; refine wpList_load_row rfl 32 (.tmp 2) rfl w.heap.size rfl 32 _ (0,0) _ HF.out vIns rfl sIns ?_)
      | (show wpList Try.prog _ _ (⟨none,.store _ (.tmp 4) _,_,_,_,_⟩::_) _ _; refine wpList_store_row rfl 32 (.tmp 4) (.tmp 38) rfl (w.heap.size + 1) _ rfl rfl 32 _ HG.out sIns rfl hone ?_))
    (try simp only [Exit.inBlock,Exit.then])
    have h3:=row_of hone HG.out
    have ⟨e0,e1,e2,e3,e4,e5,e6,e7,e8,e9,e10,e11,e12,e13,e14⟩:=Ins.cells h3
    simp only at e0 e1 e2 e3 e4 e5 e6 e7 e8 e9 e10 e11 e12 e13 e14
    refine bodyPost_ret (by simp [results,Try.results92,go_sem,e0,e1,e2,e3,e4,e5,e6,e7,e8,e9,e10,e11,e12,e13,e14]; try rfl) rfl ?_
    exact ⟨rfl,below_setRow (((HB1.out).setCell (p:=⟨w.heap.size,2,none⟩) (Nat.le_refl _) (.int .i64 vd)).setCell (p:=⟨w.heap.size,3,none⟩) (Nat.le_refl _) (.int .i64 va)) (by omega) _⟩
set_option maxRecDepth 1000000 in
set_option maxHeartbeats 8000000 in
theorem moved_s (i:Ins)(hk:i.kind=1∨i.kind=5∨i.kind=9)(hd:0≤i.dst∧i.dst≤5000)(bb:Nat)(B:Int)(hB0:0≤B∧B≤5000)(w:World)(h:w.cell? ⟨bb,0,none⟩=some (.int .i64 B)) :
    Calls Try.prog 92 #[i.agg,regB bb] w fun e w'=>e = .returned (Ins.agg { i with dst:=B + i.dst })∧Below w.heap.size w w':=by
  obtain ⟨b0,b1,hB⟩:=mv_two w i.obj zeroObj
  obtain ⟨W,hW⟩:∃ W,(w.alloc i.obj).alloc zeroObj=W:=⟨_,rfl⟩
  rw [hW] at b0 b1 hB
  have hbl:=World.block_lt_of_cell? w ⟨bb,0,none⟩ h
  have hcl:bb < w.heap.size:=hbl
  have hbc:W.cell? ⟨bb,0,none⟩=some (.int .i64 B):=(Below.cell hB (p:=⟨bb,0,none⟩) hbl).trans h
  have hs:=fun W=>Sets_any i W
  have hone:=one_ins { i with dst:=B + i.dst }
  have hsv:i.sets=i.dst:=by unfold Ins.sets; rcases hk with e | e | e <;> simp [e,kS]
  rw [hsv] at hs
  have hrd:=fun (W:World) (h:W.cell? ⟨bb,0,none⟩=some (.int .i64 B))=>inbody1_any h ⟨hB0.1,by omega⟩ i.dst ⟨by omega,by omega⟩
  obtain ⟨vd,hvd⟩:∃ v,B + i.dst=v:=⟨_,rfl⟩
  have hl0:=(Array.getElem?_eq_some_iff.1 b0).1
  have hl1:=(Array.getElem?_eq_some_iff.1 b1).1
  have sd:decide (i.dst ≥ 0)=true:=by simp; omega
  have sd2:decide (0≤i.dst)=true:=by simp; omega
  obtain ⟨k,op,dst,a,b,n,text,r0,r1,r2,r3,r4,r5,to_,els⟩:=i
  simp only at sd sd2
  simp only at hk hs hone hvd hrd
  rw [hvd] at hone ⊢
  rw [hvd] at hrd
  simp only [Ins.agg,Ins.obj,regB] at b0 hW hs hone hrd ⊢
  have HB:=Lib.hid hB
  have H0:=Lib.hid b0
  have H1:=Lib.hid b1
  have HS:=Lib.hid hs
  have HBC:=Lib.hid hbc
  have HRd:=Lib.hid hrd
  clear hB b0 b1 hs hbc h hrd hvd hsv
  rcases hk with rfl | rfl | rfl
  all_goals
    go_enter Try.func92,Try.ntmps92
    go_wp2_with (show wpList Try.prog _ _ (⟨some 5,_,_,_,_,_⟩::_) _ _; refine wpList_load_row rfl 32 (.tmp 2) rfl w.heap.size rfl 32 _ (0,0) _ H0.out vIns rfl sIns ?_)
    refine (HS.out _).mono ?_
    rintro e w1 ⟨rfl,hb1⟩
    dsimp only
    have c0:=(hb1.block _ hl0).trans H0.out
    have c1:=(hb1.block _ hl1).trans H1.out
    have cB:w1.cell? ⟨bb,0,none⟩=some (.int .i64 B):=(Below.cell hb1 (p:=⟨bb,0,none⟩) (by have:=HB.out.size; simp only; omega)).trans HBC.out
    have hs1:=hb1.size
    have HB1:=Lib.hid (HB.out.trans (hb1.mono HB.out.size))
    have y0:=Ins.cells (i:=⟨_,op,dst,a,b,n,text,r0,r1,r2,r3,r4,r5,to_,els⟩) c0
    obtain ⟨y0,y1,y2,y3,y4,y5,y6,y7,y8,y9,y10,y11,y12,y13,y14⟩:=y0
    simp only at y0 y1 y2 y3 y4 y5 y6 y7 y8 y9 y10 y11 y12 y13 y14
    clear y1 y5 y6 y7 y8 y9 y10 y11 y12 y13 y14
    have yf:=free_of_heap c0
    have hlw:=(Array.getElem?_eq_some_iff.1 c0).1
    clear hb1 hW
    go_wp2_with fail
    refine (HRd.out _ cB).mono ?_
    rintro e w2 ⟨rfl,hw2⟩
    subst hw2
    dsimp only
    have s1:=heap_setCell (j:=2) c0 (.int .i64 vd)
    have t1:=(heap_setCell_other w1 ⟨w.heap.size,2,none⟩ (w.heap.size + 1) (.int .i64 vd) (by simp only; omega)).trans c1
    have cB2:((w1).setCell ⟨w.heap.size,2,none⟩ (.int .i64 vd)).cell? ⟨bb,0,none⟩=some (.int .i64 B):=by rw [World.cell?_setCell_far _ _ _ _ (by simp only; omega)]; exact cB
    have HF:=Lib.hid s1
    have HG:=Lib.hid t1
    go_wp2_with (first
      | (show wpList Try.prog _ _ (⟨some 38,_,_,_,_,_⟩::_) _ _; refine wpList_load_row rfl 32 (.tmp 2) rfl w.heap.size rfl 32 _ (0,0) _ HF.out vIns rfl sIns ?_)
      | (show wpList Try.prog _ _ (⟨none,.store _ (.tmp 4) _,_,_,_,_⟩::_) _ _; refine wpList_store_row rfl 32 (.tmp 4) (.tmp 38) rfl (w.heap.size + 1) _ rfl rfl 32 _ HG.out sIns rfl hone ?_))
    (try simp only [Exit.inBlock,Exit.then])
    have h3:=row_of hone HG.out
    have ⟨e0,e1,e2,e3,e4,e5,e6,e7,e8,e9,e10,e11,e12,e13,e14⟩:=Ins.cells h3
    simp only at e0 e1 e2 e3 e4 e5 e6 e7 e8 e9 e10 e11 e12 e13 e14
    refine bodyPost_ret (by simp [results,Try.results92,go_sem,e0,e1,e2,e3,e4,e5,e6,e7,e8,e9,e10,e11,e12,e13,e14]; try rfl) rfl ?_
    exact ⟨rfl,below_setRow ((HB1.out).setCell (p:=⟨w.heap.size,2,none⟩) (Nat.le_refl _) (.int .i64 vd)) (by omega) _⟩
set_option maxRecDepth 1000000 in
set_option maxHeartbeats 8000000 in
theorem moved_a (i:Ins)(hk:i.kind=10)(ha:0≤i.a∧i.a≤5000)(bb:Nat)(B:Int)(hB0:0≤B∧B≤5000)(w:World)(h:w.cell? ⟨bb,0,none⟩=some (.int .i64 B)) :
    Calls Try.prog 92 #[i.agg,regB bb] w fun e w'=>e = .returned (Ins.agg { i with a:=B + i.a })∧Below w.heap.size w w':=by
  obtain ⟨b0,b1,hB⟩:=mv_two w i.obj zeroObj
  obtain ⟨W,hW⟩:∃ W,(w.alloc i.obj).alloc zeroObj=W:=⟨_,rfl⟩
  rw [hW] at b0 b1 hB
  have hbl:=World.block_lt_of_cell? w ⟨bb,0,none⟩ h
  have hcl:bb < w.heap.size:=hbl
  have hbc:W.cell? ⟨bb,0,none⟩=some (.int .i64 B):=(Below.cell hB (p:=⟨bb,0,none⟩) hbl).trans h
  have hs:=fun W=>Sets_any i W
  have hone:=one_ins { i with a:=B + i.a }
  have hsv:i.sets=-1:=by unfold Ins.sets; simp [hk,kS]
  rw [hsv] at hs
  have hra:=fun (W:World) (h:W.cell? ⟨bb,0,none⟩=some (.int .i64 B))=>inbody1_any h ⟨hB0.1,by omega⟩ i.a ⟨by omega,by omega⟩
  obtain ⟨va,hva⟩:∃ v,B + i.a=v:=⟨_,rfl⟩
  have hl0:=(Array.getElem?_eq_some_iff.1 b0).1
  have hl1:=(Array.getElem?_eq_some_iff.1 b1).1
  obtain ⟨k,op,dst,a,b,n,text,r0,r1,r2,r3,r4,r5,to_,els⟩:=i
  simp only at hk hs hone hva hra
  rw [hva] at hone ⊢
  rw [hva] at hra
  simp only [Ins.agg,Ins.obj,regB] at b0 hW hs hone hra ⊢
  have HB:=Lib.hid hB
  have H0:=Lib.hid b0
  have H1:=Lib.hid b1
  have HS:=Lib.hid hs
  have HBC:=Lib.hid hbc
  have HRa:=Lib.hid hra
  clear hB b0 b1 hs hbc h hra hva hsv
  subst hk
  all_goals
    go_enter Try.func92,Try.ntmps92
    go_wp2_with (show wpList Try.prog _ _ (⟨some 5,_,_,_,_,_⟩::_) _ _; refine wpList_load_row rfl 32 (.tmp 2) rfl w.heap.size rfl 32 _ (0,0) _ H0.out vIns rfl sIns ?_)
    refine (HS.out _).mono ?_
    rintro e w1 ⟨rfl,hb1⟩
    dsimp only
    have c0:=(hb1.block _ hl0).trans H0.out
    have c1:=(hb1.block _ hl1).trans H1.out
    have cB:w1.cell? ⟨bb,0,none⟩=some (.int .i64 B):=(Below.cell hb1 (p:=⟨bb,0,none⟩) (by have:=HB.out.size; simp only; omega)).trans HBC.out
    have hs1:=hb1.size
    have HB1:=Lib.hid (HB.out.trans (hb1.mono HB.out.size))
    have y0:=Ins.cells (i:=⟨_,op,dst,a,b,n,text,r0,r1,r2,r3,r4,r5,to_,els⟩) c0
    obtain ⟨y0,y1,y2,y3,y4,y5,y6,y7,y8,y9,y10,y11,y12,y13,y14⟩:=y0
    simp only at y0 y1 y2 y3 y4 y5 y6 y7 y8 y9 y10 y11 y12 y13 y14
    clear y1 y5 y6 y7 y8 y9 y10 y11 y12 y13 y14
    have yf:=free_of_heap c0
    have hlw:=(Array.getElem?_eq_some_iff.1 c0).1
    clear hb1 hW
    have cB2:=cB
    go_wp2_with fail
    refine (HRa.out _ cB2).mono ?_
    rintro e w2 ⟨rfl,hw2⟩
    subst hw2
    dsimp only
    have s1:=heap_setCell (j:=3) c0 (.int .i64 va)
    have t1:=(heap_setCell_other w1 ⟨w.heap.size,3,none⟩ (w.heap.size + 1) (.int .i64 va) (by simp only; omega)).trans c1
    have HF:=Lib.hid s1
    have HG:=Lib.hid t1
    go_wp2_with (first
      | (show wpList Try.prog _ _ (⟨some 38,_,_,_,_,_⟩::_) _ _; refine wpList_load_row rfl 32 (.tmp 2) rfl w.heap.size rfl 32 _ (0,0) _ HF.out vIns rfl sIns ?_)
      | (show wpList Try.prog _ _ (⟨none,.store _ (.tmp 4) _,_,_,_,_⟩::_) _ _; refine wpList_store_row rfl 32 (.tmp 4) (.tmp 38) rfl (w.heap.size + 1) _ rfl rfl 32 _ HG.out sIns rfl hone ?_))
    (try simp only [Exit.inBlock,Exit.then])
    have h3:=row_of hone HG.out
    have ⟨e0,e1,e2,e3,e4,e5,e6,e7,e8,e9,e10,e11,e12,e13,e14⟩:=Ins.cells h3
    simp only at e0 e1 e2 e3 e4 e5 e6 e7 e8 e9 e10 e11 e12 e13 e14
    refine bodyPost_ret (by simp [results,Try.results92,go_sem,e0,e1,e2,e3,e4,e5,e6,e7,e8,e9,e10,e11,e12,e13,e14]; try rfl) rfl ?_
    exact ⟨rfl,below_setRow ((HB1.out).setCell (p:=⟨w.heap.size,3,none⟩) (Nat.le_refl _) (.int .i64 va)) (by omega) _⟩
set_option maxRecDepth 1000000 in
set_option maxHeartbeats 8000000 in
theorem moved_sab (i:Ins)(hk:i.kind=3)(hd:0≤i.dst∧i.dst≤5000)(ha:0≤i.a∧i.a≤5000)(hb:0≤i.b∧i.b≤5000)(bb:Nat)(B:Int)(hB0:0≤B∧B≤5000)(w:World)(h:w.cell? ⟨bb,0,none⟩=some (.int .i64 B)) :
    Calls Try.prog 92 #[i.agg,regB bb] w fun e w'=>e = .returned (Ins.agg { i with dst:=B + i.dst,a:=B + i.a,b:=B + i.b })∧Below w.heap.size w w':=by
  obtain ⟨b0,b1,hB⟩:=mv_two w i.obj zeroObj
  obtain ⟨W,hW⟩:∃ W,(w.alloc i.obj).alloc zeroObj=W:=⟨_,rfl⟩
  rw [hW] at b0 b1 hB
  have hbl:=World.block_lt_of_cell? w ⟨bb,0,none⟩ h
  have hcl:bb < w.heap.size:=hbl
  have hbc:W.cell? ⟨bb,0,none⟩=some (.int .i64 B):=(Below.cell hB (p:=⟨bb,0,none⟩) hbl).trans h
  have hs:=fun W=>Sets_any i W
  have hone:=one_ins { i with dst:=B + i.dst,a:=B + i.a,b:=B + i.b }
  have hsv:i.sets=i.dst:=by unfold Ins.sets; simp [hk,kS]
  rw [hsv] at hs
  have hrd:=fun (W:World) (h:W.cell? ⟨bb,0,none⟩=some (.int .i64 B))=>inbody1_any h ⟨hB0.1,by omega⟩ i.dst ⟨by omega,by omega⟩
  have hra:=fun (W:World) (h:W.cell? ⟨bb,0,none⟩=some (.int .i64 B))=>inbody1_any h ⟨hB0.1,by omega⟩ i.a ⟨by omega,by omega⟩
  have hrb:=fun (W:World) (h:W.cell? ⟨bb,0,none⟩=some (.int .i64 B))=>inbody1_any h ⟨hB0.1,by omega⟩ i.b ⟨by omega,by omega⟩
  obtain ⟨vd,hvd⟩:∃ v,B + i.dst=v:=⟨_,rfl⟩
  obtain ⟨va,hva⟩:∃ v,B + i.a=v:=⟨_,rfl⟩
  obtain ⟨vb,hvb⟩:∃ v,B + i.b=v:=⟨_,rfl⟩
  have hl0:=(Array.getElem?_eq_some_iff.1 b0).1
  have hl1:=(Array.getElem?_eq_some_iff.1 b1).1
  have sd:decide (i.dst ≥ 0)=true:=by simp; omega
  have sd2:decide (0≤i.dst)=true:=by simp; omega
  obtain ⟨k,op,dst,a,b,n,text,r0,r1,r2,r3,r4,r5,to_,els⟩:=i
  simp only at sd sd2
  simp only at hk hs hone hvd hva hvb hrd hra hrb
  rw [hvd,hva,hvb] at hone ⊢
  rw [hvd] at hrd
  rw [hva] at hra
  rw [hvb] at hrb
  simp only [Ins.agg,Ins.obj,regB] at b0 hW hs hone hrd hra hrb ⊢
  have HB:=Lib.hid hB
  have H0:=Lib.hid b0
  have H1:=Lib.hid b1
  have HS:=Lib.hid hs
  have HBC:=Lib.hid hbc
  have HRd:=Lib.hid hrd
  have HRa:=Lib.hid hra
  have HRb:=Lib.hid hrb
  clear hB b0 b1 hs hbc h hrd hra hrb hvd hva hvb hsv
  subst hk
  all_goals
    go_enter Try.func92,Try.ntmps92
    go_wp2_with (show wpList Try.prog _ _ (⟨some 5,_,_,_,_,_⟩::_) _ _; refine wpList_load_row rfl 32 (.tmp 2) rfl w.heap.size rfl 32 _ (0,0) _ H0.out vIns rfl sIns ?_)
    refine (HS.out _).mono ?_
    rintro e w1 ⟨rfl,hb1⟩
    dsimp only
    have c0:=(hb1.block _ hl0).trans H0.out
    have c1:=(hb1.block _ hl1).trans H1.out
    have cB:w1.cell? ⟨bb,0,none⟩=some (.int .i64 B):=(Below.cell hb1 (p:=⟨bb,0,none⟩) (by have:=HB.out.size; simp only; omega)).trans HBC.out
    have hs1:=hb1.size
    have HB1:=Lib.hid (HB.out.trans (hb1.mono HB.out.size))
    have y0:=Ins.cells (i:=⟨_,op,dst,a,b,n,text,r0,r1,r2,r3,r4,r5,to_,els⟩) c0
    obtain ⟨y0,y1,y2,y3,y4,y5,y6,y7,y8,y9,y10,y11,y12,y13,y14⟩:=y0
    simp only at y0 y1 y2 y3 y4 y5 y6 y7 y8 y9 y10 y11 y12 y13 y14
    clear y1 y5 y6 y7 y8 y9 y10 y11 y12 y13 y14
    have yf:=free_of_heap c0
    have hlw:=(Array.getElem?_eq_some_iff.1 c0).1
    clear hb1 hW
    go_wp2_with fail
    refine (HRd.out _ cB).mono ?_
    rintro e w2 ⟨rfl,hw2⟩
    subst hw2
    dsimp only
    have s1:=heap_setCell (j:=2) c0 (.int .i64 vd)
    have t1:=(heap_setCell_other w1 ⟨w.heap.size,2,none⟩ (w.heap.size + 1) (.int .i64 vd) (by simp only; omega)).trans c1
    have cB2:((w1).setCell ⟨w.heap.size,2,none⟩ (.int .i64 vd)).cell? ⟨bb,0,none⟩=some (.int .i64 B):=by rw [World.cell?_setCell_far _ _ _ _ (by simp only; omega)]; exact cB
    go_upto_region 11 with fail
    obtain ⟨wz,hwz⟩:∃ wz,((w1).setCell ⟨w.heap.size,2,none⟩ (.int .i64 vd))=wz:=⟨_,rfl⟩
    have z0:=s1
    have z1:=t1
    have zB:=cB2
    have hszz:wz.heap.size=w1.heap.size:=by rw [← hwz]; simp
    have HBZ:Hid (Below w.heap.size w wz):=Lib.hid (by rw [← hwz]; exact HB1.out.setCell (p:=⟨w.heap.size,2,none⟩) (Nat.le_refl _) _)
    try rw [hwz] at z0 z1 zB
    try rw [hwz]
    have za:=cell_of_heap z0 3 (.int .i64 a) rfl
    have zb:=cell_of_heap z0 4 (.int .i64 b) rfl
    have Z0:=Lib.hid z0
    have Z1:=Lib.hid z1
    have hlz:=(Array.getElem?_eq_some_iff.1 z0).1
    have hlz1:=(Array.getElem?_eq_some_iff.1 z1).1
    clear y0 y2 y3 y4 yf hlw c0 c1 cB cB2 z0 z1 hwz s1 t1
    have l3:=fun s:Later wz=>Later.cell za s
    have l4:=fun s:Later wz=>Later.cell zb s
    have lB:=fun s:Later wz=>Later.cell zB s
    refine wp_region_later_tail 9 (by kernel_rfl) (by kernel_rfl) ?_
    dsimp only [List.take,List.drop]
    repeat (go_big_quiet_step (first | (go_at_call_of 91 (Value.int IntKind.i64 a); exact Calls.later_same (HRa.out _ (lB _))) | (go_at_call_of 91 (Value.int IntKind.i64 b); exact Calls.later_same (HRb.out _ (lB _)))))
    refine wpQuiet_nil ?_
    rintro w5 ⟨s',rfl⟩
    have hb5:=s'.h
    generalize s'.w=w5 at *
    have c1:=(hb5.block _ hlz).trans Z0.out
    have c2:=(hb5.block _ hlz1).trans Z1.out
    have yf:=free_of_heap c1
    have y3:=cell_of_heap c1 3 (.int .i64 a) rfl
    have y4:=cell_of_heap c1 4 (.int .i64 b) rfl
    have hlw:=(Array.getElem?_eq_some_iff.1 c1).1
    have c3:=heap_setCell (j:=4) (heap_setCell (j:=3) c1 (.int .i64 va)) (.int .i64 vb)
    have c4:=(heap_setCell_other (w5.setCell ⟨w.heap.size,3,none⟩ (.int .i64 va)) ⟨w.heap.size,4,none⟩ (w.heap.size + 1) (.int .i64 vb) (by simp only; omega)).trans ((heap_setCell_other w5 ⟨w.heap.size,3,none⟩ (w.heap.size + 1) (.int .i64 va) (by simp only; omega)).trans c2)
    have HB5:=Lib.hid (((HBZ.out.trans (hb5.mono HBZ.out.size)).setCell (p:=⟨w.heap.size,3,none⟩) (by simp only; omega) (.int .i64 va)).setCell (p:=⟨w.heap.size,4,none⟩) (by simp only; omega) (.int .i64 vb))
    have HF:=Lib.hid c3
    have HG:=Lib.hid c4
    clear hb5 c1 c2 l3 l4 lB za zb zB
    go_wp2_with (first
      | (show wpList Try.prog _ _ (⟨some 38,_,_,_,_,_⟩::_) _ _; refine wpList_load_row rfl 32 (.tmp 2) rfl w.heap.size rfl 32 _ (0,0) _ HF.out vIns rfl sIns ?_)
      | (show wpList Try.prog _ _ (⟨none,.store _ (.tmp 4) _,_,_,_,_⟩::_) _ _; refine wpList_store_row rfl 32 (.tmp 4) (.tmp 38) rfl (w.heap.size + 1) _ rfl rfl 32 _ HG.out sIns rfl hone ?_))
    (try simp only [Exit.inBlock,Exit.then])
    have h3:=row_of hone HG.out
    have ⟨e0,e1,e2,e3,e4,e5,e6,e7,e8,e9,e10,e11,e12,e13,e14⟩:=Ins.cells h3
    simp only at e0 e1 e2 e3 e4 e5 e6 e7 e8 e9 e10 e11 e12 e13 e14
    refine bodyPost_ret (by simp [results,Try.results92,go_sem,e0,e1,e2,e3,e4,e5,e6,e7,e8,e9,e10,e11,e12,e13,e14]; try rfl) rfl ?_
    exact ⟨rfl,below_setRow (HB5.out) (by omega) _⟩
set_option maxRecDepth 1000000 in
set_option maxHeartbeats 8000000 in
theorem moved_ab (i:Ins)(hk:i.kind=7)(ha:0≤i.a∧i.a≤5000)(hb:0≤i.b∧i.b≤5000)(bb:Nat)(B:Int)(hB0:0≤B∧B≤5000)(w:World)(h:w.cell? ⟨bb,0,none⟩=some (.int .i64 B)) :
    Calls Try.prog 92 #[i.agg,regB bb] w fun e w'=>e = .returned (Ins.agg { i with a:=B + i.a,b:=B + i.b })∧Below w.heap.size w w':=by
  obtain ⟨b0,b1,hB⟩:=mv_two w i.obj zeroObj
  obtain ⟨W,hW⟩:∃ W,(w.alloc i.obj).alloc zeroObj=W:=⟨_,rfl⟩
  rw [hW] at b0 b1 hB
  have hbl:=World.block_lt_of_cell? w ⟨bb,0,none⟩ h
  have hcl:bb < w.heap.size:=hbl
  have hbc:W.cell? ⟨bb,0,none⟩=some (.int .i64 B):=(Below.cell hB (p:=⟨bb,0,none⟩) hbl).trans h
  have hs:=fun W=>Sets_any i W
  have hone:=one_ins { i with a:=B + i.a,b:=B + i.b }
  have hsv:i.sets=-1:=by unfold Ins.sets; simp [hk,kS]
  rw [hsv] at hs
  have hra:=fun (W:World) (h:W.cell? ⟨bb,0,none⟩=some (.int .i64 B))=>inbody1_any h ⟨hB0.1,by omega⟩ i.a ⟨by omega,by omega⟩
  have hrb:=fun (W:World) (h:W.cell? ⟨bb,0,none⟩=some (.int .i64 B))=>inbody1_any h ⟨hB0.1,by omega⟩ i.b ⟨by omega,by omega⟩
  obtain ⟨va,hva⟩:∃ v,B + i.a=v:=⟨_,rfl⟩
  obtain ⟨vb,hvb⟩:∃ v,B + i.b=v:=⟨_,rfl⟩
  have hl0:=(Array.getElem?_eq_some_iff.1 b0).1
  have hl1:=(Array.getElem?_eq_some_iff.1 b1).1
  obtain ⟨k,op,dst,a,b,n,text,r0,r1,r2,r3,r4,r5,to_,els⟩:=i
  simp only at hk hs hone hva hvb hra hrb
  rw [hva,hvb] at hone ⊢
  rw [hva] at hra
  rw [hvb] at hrb
  simp only [Ins.agg,Ins.obj,regB] at b0 hW hs hone hra hrb ⊢
  have HB:=Lib.hid hB
  have H0:=Lib.hid b0
  have H1:=Lib.hid b1
  have HS:=Lib.hid hs
  have HBC:=Lib.hid hbc
  have HRa:=Lib.hid hra
  have HRb:=Lib.hid hrb
  clear hB b0 b1 hs hbc h hra hrb hva hvb hsv
  subst hk
  all_goals
    go_enter Try.func92,Try.ntmps92
    go_wp2_with (show wpList Try.prog _ _ (⟨some 5,_,_,_,_,_⟩::_) _ _; refine wpList_load_row rfl 32 (.tmp 2) rfl w.heap.size rfl 32 _ (0,0) _ H0.out vIns rfl sIns ?_)
    refine (HS.out _).mono ?_
    rintro e w1 ⟨rfl,hb1⟩
    dsimp only
    have c0:=(hb1.block _ hl0).trans H0.out
    have c1:=(hb1.block _ hl1).trans H1.out
    have cB:w1.cell? ⟨bb,0,none⟩=some (.int .i64 B):=(Below.cell hb1 (p:=⟨bb,0,none⟩) (by have:=HB.out.size; simp only; omega)).trans HBC.out
    have hs1:=hb1.size
    have HB1:=Lib.hid (HB.out.trans (hb1.mono HB.out.size))
    have y0:=Ins.cells (i:=⟨_,op,dst,a,b,n,text,r0,r1,r2,r3,r4,r5,to_,els⟩) c0
    obtain ⟨y0,y1,y2,y3,y4,y5,y6,y7,y8,y9,y10,y11,y12,y13,y14⟩:=y0
    simp only at y0 y1 y2 y3 y4 y5 y6 y7 y8 y9 y10 y11 y12 y13 y14
    clear y1 y5 y6 y7 y8 y9 y10 y11 y12 y13 y14
    have yf:=free_of_heap c0
    have hlw:=(Array.getElem?_eq_some_iff.1 c0).1
    clear hb1 hW
    have cB2:=cB
    go_upto_region 11 with fail
    obtain ⟨wz,hwz⟩:∃ wz,w1=wz:=⟨_,rfl⟩
    have z0:=c0
    have z1:=c1
    have zB:=cB2
    have hszz:wz.heap.size=w1.heap.size:=by rw [← hwz]
    have HBZ:Hid (Below w.heap.size w wz):=Lib.hid (by rw [← hwz]; exact HB1.out)
    try rw [hwz] at z0 z1 zB
    try rw [hwz]
    have za:=cell_of_heap z0 3 (.int .i64 a) rfl
    have zb:=cell_of_heap z0 4 (.int .i64 b) rfl
    have Z0:=Lib.hid z0
    have Z1:=Lib.hid z1
    have hlz:=(Array.getElem?_eq_some_iff.1 z0).1
    have hlz1:=(Array.getElem?_eq_some_iff.1 z1).1
    clear y0 y2 y3 y4 yf hlw c0 c1 cB cB2 z0 z1 hwz
    have l3:=fun s:Later wz=>Later.cell za s
    have l4:=fun s:Later wz=>Later.cell zb s
    have lB:=fun s:Later wz=>Later.cell zB s
    refine wp_region_later_tail 9 (by kernel_rfl) (by kernel_rfl) ?_
    dsimp only [List.take,List.drop]
    repeat (go_big_quiet_step (first | (go_at_call_of 91 (Value.int IntKind.i64 a); exact Calls.later_same (HRa.out _ (lB _))) | (go_at_call_of 91 (Value.int IntKind.i64 b); exact Calls.later_same (HRb.out _ (lB _)))))
    refine wpQuiet_nil ?_
    rintro w5 ⟨s',rfl⟩
    have hb5:=s'.h
    generalize s'.w=w5 at *
    have c1:=(hb5.block _ hlz).trans Z0.out
    have c2:=(hb5.block _ hlz1).trans Z1.out
    have yf:=free_of_heap c1
    have y3:=cell_of_heap c1 3 (.int .i64 a) rfl
    have y4:=cell_of_heap c1 4 (.int .i64 b) rfl
    have hlw:=(Array.getElem?_eq_some_iff.1 c1).1
    have c3:=heap_setCell (j:=4) (heap_setCell (j:=3) c1 (.int .i64 va)) (.int .i64 vb)
    have c4:=(heap_setCell_other (w5.setCell ⟨w.heap.size,3,none⟩ (.int .i64 va)) ⟨w.heap.size,4,none⟩ (w.heap.size + 1) (.int .i64 vb) (by simp only; omega)).trans ((heap_setCell_other w5 ⟨w.heap.size,3,none⟩ (w.heap.size + 1) (.int .i64 va) (by simp only; omega)).trans c2)
    have HB5:=Lib.hid (((HBZ.out.trans (hb5.mono HBZ.out.size)).setCell (p:=⟨w.heap.size,3,none⟩) (by simp only; omega) (.int .i64 va)).setCell (p:=⟨w.heap.size,4,none⟩) (by simp only; omega) (.int .i64 vb))
    have HF:=Lib.hid c3
    have HG:=Lib.hid c4
    clear hb5 c1 c2 l3 l4 lB za zb zB
    go_wp2_with (first
      | (show wpList Try.prog _ _ (⟨some 38,_,_,_,_,_⟩::_) _ _; refine wpList_load_row rfl 32 (.tmp 2) rfl w.heap.size rfl 32 _ (0,0) _ HF.out vIns rfl sIns ?_)
      | (show wpList Try.prog _ _ (⟨none,.store _ (.tmp 4) _,_,_,_,_⟩::_) _ _; refine wpList_store_row rfl 32 (.tmp 4) (.tmp 38) rfl (w.heap.size + 1) _ rfl rfl 32 _ HG.out sIns rfl hone ?_))
    (try simp only [Exit.inBlock,Exit.then])
    have h3:=row_of hone HG.out
    have ⟨e0,e1,e2,e3,e4,e5,e6,e7,e8,e9,e10,e11,e12,e13,e14⟩:=Ins.cells h3
    simp only at e0 e1 e2 e3 e4 e5 e6 e7 e8 e9 e10 e11 e12 e13 e14
    refine bodyPost_ret (by simp [results,Try.results92,go_sem,e0,e1,e2,e3,e4,e5,e6,e7,e8,e9,e10,e11,e12,e13,e14]; try rfl) rfl ?_
    exact ⟨rfl,below_setRow (HB5.out) (by omega) _⟩
end Go.Proofs.Ytkcclefonmnpnaa

