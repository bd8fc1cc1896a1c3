import Derived.Test.YthbcdckonaljiaaZb
namespace Go.Proofs.Ythbcdckonaljiaa
open Go.RowKit Go.BigFrame
set_option maxRecDepth 1000000 in
set_option maxHeartbeats 40000000 in
theorem refright_5 (op dst a b n:Int) (text:ByteArray) (r0 r1 r2 r3 r4 r5 to_ els:Int) (nm:ByteArray) (ps R Fr:Int) (C:Option Addr) (L cap:Nat) (w:World) :
    Calls Try.prog 41 #[Ins.agg ⟨5,op,dst,a,b,n,text,r0,r1,r2,r3,r4,r5,to_,els⟩,funcAgg nm ps R Fr C L cap] w fun e w'=>Tru (Ok ⟨5,op,dst,a,b,n,text,r0,r1,r2,r3,r4,r5,to_,els⟩ R Fr L) e∧Below w.heap.size w w':=by
  obtain ⟨b0,b1,b2,hs3,hB3⟩:=box3 w (Ins.obj ⟨5,op,dst,a,b,n,text,r0,r1,r2,r3,r4,r5,to_,els⟩) (funcObj nm ps R Fr C L cap) (Ins.obj ⟨5,0,-1,0,0,0,⟨#[]⟩,0,0,0,0,0,0,0,-1⟩)
  obtain ⟨W,hW⟩:∃ W,((w.alloc (Ins.obj ⟨5,op,dst,a,b,n,text,r0,r1,r2,r3,r4,r5,to_,els⟩)).alloc (funcObj nm ps R Fr C L cap)).alloc (Ins.obj ⟨5,0,-1,0,0,0,⟨#[]⟩,0,0,0,0,0,0,0,-1⟩)=W:=⟨_,rfl⟩
  rw [hW] at b0 b1 b2 hs3 hB3
  have hS0:RSt w W ⟨5,op,dst,a,b,n,text,r0,r1,r2,r3,r4,r5,to_,els⟩ ⟨5,0,-1,0,0,0,⟨#[]⟩,0,0,0,0,0,0,0,-1⟩ nm ps R Fr C L cap:=⟨b0,b1,b2,hB3⟩
  obtain ⟨x0,x1,x2,x3,x4,x5,x6,x7,x8,x9,x10,x11,x12,x13,x14⟩:=Ins.cells b0
  simp only [Ins.obj,funcObj,Ins.agg,funcAgg] at hW x0 x1 x2 x3 x4 x5 x6 x7 x8 x9 x10 x11 x12 x13 x14 ⊢
  have hus:=refUses_any ⟨5,op,dst,a,b,n,text,r0,r1,r2,r3,r4,r5,to_,els⟩ W
  have hst:=fun W=>refSets_any ⟨5,op,dst,a,b,n,text,r0,r1,r2,r3,r4,r5,to_,els⟩ W
  obtain ⟨ul,hul⟩:∃ ul,ul=Ins.uses ⟨5,op,dst,a,b,n,text,r0,r1,r2,r3,r4,r5,to_,els⟩:=⟨_,rfl⟩
  simp only [Ins.agg] at hus hst
  rw [← hul] at hus
  have HUL:=Lib.hid hul
  clear hul b0 b1 b2 hs3 hB3
  obtain ⟨LU,hLU⟩:∃ LU,ul.length=LU:=⟨_,rfl⟩
  have hLU6:LU≤8:=by
    rw [← hLU,HUL.out]
    unfold Ins.uses
    simp only [List.length_append,Ins.args]
    have h1:(if kA 5 then [a] else []).length≤1:=by split <;> simp
    have h2:(if kB 5 then [b] else []).length≤1:=by split <;> simp
    have h3:(if (5:Int)=8 then [r0,r1,r2,r3,r4,r5].take n.toNat else []).length≤6:=by
      split
      · rw [List.length_take]; simp; omega
      · simp
    omega
  have HLU:=Lib.hid hLU
  clear hLU
  go_enter Try.func41,Try.ntmps41
  go_wp2_with (first
    | (go_at_call 60; refine hus.mono ?_; rintro e w1 ⟨⟨A,cA,rfl,hR⟩,hb1⟩; rw [HLU.out]))
  have hS1:=hS0.later hb1
  clear x0 x1 x2 x3 x4 x5 x6 x7 x8 x9 x10 x11 x12 x13 x14 hW hS0
  go_loopw [7] (fun ix w8=>∃ m:Nat,m≤LU∧ix = .int .i64 m∧Below w1.heap.size w1 w8∧∀ (j:Nat) r,j < m→ul[j]? = some r→0≤r∧r < R) (fun ix _=>LU - (intOf ix).toNat)
  case atStart=>exact ⟨0,by omega,rfl,Below.refl _ _,fun j r hj=>by omega⟩
  case round =>
    obtain ⟨m,hm,rfl,hb,hno⟩:=hrel
    have hS:=hS1.later hb
    by_cases hlt:m < LU
    · have hr : ul[m]? = some (ul[m]'(by rw [HLU.out]; exact hlt)):=by simp
      generalize ul[m]'(by rw [HLU.out]; exact hlt)=r at hr
      obtain ⟨bu,ou,rfl,_,g0⟩:=(hR.below hb) m r hr
      have f2:=cell_of_heap hS.bf 2 (.int .i64 R) rfl
      have hno':¬ (0≤r∧r < R)→¬ Ok ⟨5,op,dst,a,b,n,text,r0,r1,r2,r3,r4,r5,to_,els⟩ R Fr L:=fun hn h=>hn (h.uses r (by rw [← HUL.out]; exact List.mem_of_getElem? hr))
      by_cases hr0:r < 0
      · have q4:decide (r < 0)=true:=by simpa using hr0
        have HT:=Lib.hid (Tru.no (hno' (by omega)))
        clear hno' hr0
        go_wp2
        go_quiet (fail)
        go_wp2
        go_returns
        exact ⟨HT.out,below_drewN hS.below _⟩
      · have q4:decide (r < 0)=false:=by simpa using hr0
        by_cases hrR:r < R
        · have q5:decide (r ≥ R)=false:=by simp; omega
          have q6:decide (R≤r)=false:=by simp; omega
          clear hno'
          go_wp2
          go_quiet (fail)
          go_wp2
          exact ⟨⟨m + 1,by omega,by simp,below_drewN hb _,fun j r' hj hr'=>by
            by_cases hjm:j=m
            · subst hjm
              rw [hr] at hr'
              injection hr' with hr'
              subst hr'
              exact ⟨by omega,hrR⟩
            · exact hno j r' (by omega) hr'⟩,by simp [intOf]; omega⟩
        · have q5:decide (r ≥ R)=true:=by simp; omega
          have q6:decide (R≤r)=true:=by simp; omega
          have HT:=Lib.hid (Tru.no (hno' (by omega)))
          clear hno' hr0 hrR
          go_wp2
          go_quiet (fail)
          go_wp2
          go_returns
          exact ⟨HT.out,below_drewN hS.below _⟩
    · have hU : ∀ r ∈ Ins.uses ⟨5,op,dst,a,b,n,text,r0,r1,r2,r3,r4,r5,to_,els⟩,0≤r∧r < R:=fun r hr=>by
        rw [← HUL.out] at hr
        obtain ⟨j,hj⟩:=List.mem_iff_getElem?.1 hr
        exact hno j r (by have:=(List.getElem?_eq_some_iff.1 hj).1; rw [HLU.out] at this; omega) hj
      have HU:=Lib.hid hU
      have hge:¬ (m < LU):=hlt
      obtain rfl:m=LU:=by omega
      clear hU hno hb hS1 hb1 hR hus hlt hge hm
      obtain ⟨x0,x1,x2,x3,x4,x5,x6,x7,x8,x9,x10,x11,x12,x13,x14⟩:=Ins.cells hS.bi
      simp only at x0 x1 x2 x3 x4 x5 x6 x7 x8 x9 x10 x11 x12 x13 x14
      clear hLU6
      have hse:Ins.sets ⟨5,op,dst,a,b,n,text,r0,r1,r2,r3,r4,r5,to_,els⟩=dst:=rfl
      rw [hse] at hst
      clear hse
      have heq:=fun w=>eql_ins ⟨5,op,dst,a,b,n,text,r0,r1,r2,r3,r4,r5,to_,els⟩ ⟨5,0,dst,0,0,n,⟨#[]⟩,0,0,0,0,0,0,0,-1⟩ w
      obtain ⟨be,hbe⟩:∃ be,be=decide (Ins.mk 5 op dst a b n text r0 r1 r2 r3 r4 r5 to_ els=⟨5,0,dst,0,0,n,⟨#[]⟩,0,0,0,0,0,0,0,-1⟩):=⟨_,rfl⟩
      rw [← hbe] at heq
      have HBE:=Lib.hid hbe
      clear hbe
      simp only [Ins.agg] at heq
      have hmask:Ins.mask ⟨5,op,dst,a,b,n,text,r0,r1,r2,r3,r4,r5,to_,els⟩=⟨5,0,dst,0,0,n,⟨#[]⟩,0,0,0,0,0,0,0,-1⟩:=by simp [Ins.mask,kA,kB,kS]
      have HM:=Lib.hid hmask
      clear hmask
      by_cases e0:dst=-1
      · have HT:=Lib.hid (Tru.no (fun h:Ok ⟨5,op,dst,a,b,n,text,r0,r1,r2,r3,r4,r5,to_,els⟩ R Fr L=>by have:=h.dst rfl; simp only at this; omega))
        have p0_0:(dst != -1)=false:=by simp; omega
        clear e0
        go_wp2_with (first
          | (go_at_call 44; refine (hst _).mono ?_; rintro e w2 ⟨rfl,hb2⟩; have hT0:=hS.later hb2; have ck0:=cell_of_heap hT0.bi 0 (.int .i64 5) rfl; have cd0:=cell_of_heap hT0.bi 2 (.int .i64 dst) rfl; have cn0:=cell_of_heap hT0.bi 5 (.int .i64 n) rfl; have g0_2:=cell_of_heap hT0.bf 2 (.int .i64 R) rfl))
        go_returns
        exact ⟨HT.out,hT0.below⟩
      · have p0_0 : (dst != -1)=true:=by simp; omega
        by_cases e1:dst < 0
        · have HT:=Lib.hid (Tru.no (fun h:Ok ⟨5,op,dst,a,b,n,text,r0,r1,r2,r3,r4,r5,to_,els⟩ R Fr L=>by have:=h.dst rfl; simp only at this; omega))
          have p1_0:decide (dst < 0)=true:=by simp; omega
          clear e0 e1
          go_wp2_with (first
            | (go_at_call 44; refine (hst _).mono ?_; rintro e w2 ⟨rfl,hb2⟩; have hT0:=hS.later hb2; have ck0:=cell_of_heap hT0.bi 0 (.int .i64 5) rfl; have cd0:=cell_of_heap hT0.bi 2 (.int .i64 dst) rfl; have cn0:=cell_of_heap hT0.bi 5 (.int .i64 n) rfl; have g0_2:=cell_of_heap hT0.bf 2 (.int .i64 R) rfl))
          go_returns
          exact ⟨HT.out,hT0.below⟩
        · have p1_0:decide (dst < 0)=false:=by simp; omega
          by_cases e2:R≤dst
          · have HT:=Lib.hid (Tru.no (fun h:Ok ⟨5,op,dst,a,b,n,text,r0,r1,r2,r3,r4,r5,to_,els⟩ R Fr L=>by have:=h.dst rfl; simp only at this; omega))
            have p2_0:decide (dst ≥ R)=true:=by simp; omega
            have p2_1:decide (R≤dst)=true:=by simp; omega
            clear e0 e1 e2
            go_wp2_with (first
              | (go_at_call 44; refine (hst _).mono ?_; rintro e w2 ⟨rfl,hb2⟩; have hT0:=hS.later hb2; have ck0:=cell_of_heap hT0.bi 0 (.int .i64 5) rfl; have cd0:=cell_of_heap hT0.bi 2 (.int .i64 dst) rfl; have cn0:=cell_of_heap hT0.bi 5 (.int .i64 n) rfl; have g0_2:=cell_of_heap hT0.bf 2 (.int .i64 R) rfl))
            go_returns
            exact ⟨HT.out,hT0.below⟩
          · have p2_0:decide (dst ≥ R)=false:=by simp; omega
            have p2_1:decide (R≤dst)=false:=by simp; omega
            by_cases e3:n < 0
            · have HT:=Lib.hid (Tru.no (fun h:Ok ⟨5,op,dst,a,b,n,text,r0,r1,r2,r3,r4,r5,to_,els⟩ R Fr L=>by have:=h.fr rfl; simp only at this; omega))
              have p3_0:decide (n < 0)=true:=by simp; omega
              clear e0 e1 e2 e3
              go_wp2_with (first
                | (go_at_call 44; refine (hst _).mono ?_; rintro e w2 ⟨rfl,hb2⟩; have hT0:=hS.later hb2; have ck0:=cell_of_heap hT0.bi 0 (.int .i64 5) rfl; have cd0:=cell_of_heap hT0.bi 2 (.int .i64 dst) rfl; have cn0:=cell_of_heap hT0.bi 5 (.int .i64 n) rfl; have g0_2:=cell_of_heap hT0.bf 2 (.int .i64 R) rfl; have cs0:=cell_of_heap hT0.bi 2 (.int .i64 dst) rfl; have co0:=cell_of_heap hT0.bo 2 (.int .i64 (-1)) rfl; have fz0:=hT0.free 2; have hT1:=hT0.store (o':=⟨5,0,dst,0,0,0,⟨#[]⟩,0,0,0,0,0,0,0,-1⟩) 2 (.int .i64 dst) rfl; have ck1:=cell_of_heap hT1.bi 0 (.int .i64 5) rfl; have cd1:=cell_of_heap hT1.bi 2 (.int .i64 dst) rfl; have cn1:=cell_of_heap hT1.bi 5 (.int .i64 n) rfl; have cs1:=cell_of_heap hT1.bi 5 (.int .i64 n) rfl; have co1:=cell_of_heap hT1.bo 5 (.int .i64 0) rfl; have fz1:=hT1.free 5; have hT2:=hT1.store (o':=⟨5,0,dst,0,0,n,⟨#[]⟩,0,0,0,0,0,0,0,-1⟩) 5 (.int .i64 n) rfl; have ck2:=cell_of_heap hT2.bi 0 (.int .i64 5) rfl; have cd2:=cell_of_heap hT2.bi 2 (.int .i64 dst) rfl; have cn2:=cell_of_heap hT2.bi 5 (.int .i64 n) rfl; have g2_3:=cell_of_heap hT2.bf 3 (.int .i64 Fr) rfl))
              go_returns
              exact ⟨HT.out,hT2.below⟩
            · have p3_0:decide (n < 0)=false:=by simp; omega
              by_cases e4:Fr < n
              · have HT:=Lib.hid (Tru.no (fun h:Ok ⟨5,op,dst,a,b,n,text,r0,r1,r2,r3,r4,r5,to_,els⟩ R Fr L=>by have:=h.fr rfl; simp only at this; omega))
                have p4_0:decide (n > Fr)=true:=by simp; omega
                have p4_1:decide (Fr < n)=true:=by simp; omega
                clear e0 e1 e2 e3 e4
                go_wp2_with (first
                  | (go_at_call 44; refine (hst _).mono ?_; rintro e w2 ⟨rfl,hb2⟩; have hT0:=hS.later hb2; have ck0:=cell_of_heap hT0.bi 0 (.int .i64 5) rfl; have cd0:=cell_of_heap hT0.bi 2 (.int .i64 dst) rfl; have cn0:=cell_of_heap hT0.bi 5 (.int .i64 n) rfl; have g0_2:=cell_of_heap hT0.bf 2 (.int .i64 R) rfl; have cs0:=cell_of_heap hT0.bi 2 (.int .i64 dst) rfl; have co0:=cell_of_heap hT0.bo 2 (.int .i64 (-1)) rfl; have fz0:=hT0.free 2; have hT1:=hT0.store (o':=⟨5,0,dst,0,0,0,⟨#[]⟩,0,0,0,0,0,0,0,-1⟩) 2 (.int .i64 dst) rfl; have ck1:=cell_of_heap hT1.bi 0 (.int .i64 5) rfl; have cd1:=cell_of_heap hT1.bi 2 (.int .i64 dst) rfl; have cn1:=cell_of_heap hT1.bi 5 (.int .i64 n) rfl; have cs1:=cell_of_heap hT1.bi 5 (.int .i64 n) rfl; have co1:=cell_of_heap hT1.bo 5 (.int .i64 0) rfl; have fz1:=hT1.free 5; have hT2:=hT1.store (o':=⟨5,0,dst,0,0,n,⟨#[]⟩,0,0,0,0,0,0,0,-1⟩) 5 (.int .i64 n) rfl; have ck2:=cell_of_heap hT2.bi 0 (.int .i64 5) rfl; have cd2:=cell_of_heap hT2.bi 2 (.int .i64 dst) rfl; have cn2:=cell_of_heap hT2.bi 5 (.int .i64 n) rfl; have g2_3:=cell_of_heap hT2.bf 3 (.int .i64 Fr) rfl))
                go_returns
                exact ⟨HT.out,hT2.below⟩
              · have p4_0:decide (n > Fr)=false:=by simp; omega
                have p4_1:decide (Fr < n)=false:=by simp; omega
                have HOK:Hid (Ins.mk 5 op dst a b n text r0 r1 r2 r3 r4 r5 to_ els=Ins.mask ⟨5,op,dst,a,b,n,text,r0,r1,r2,r3,r4,r5,to_,els⟩→Ok ⟨5,op,dst,a,b,n,text,r0,r1,r2,r3,r4,r5,to_,els⟩ R Fr L):=Lib.hid (fun hm=>⟨⟨by simp only; omega,by simp only; omega⟩,HU.out,fun _=>.inl ⟨by simp only; omega,by simp only; omega⟩,fun h=>by simp at h,fun _=>by simp only; omega,fun h=>by simp at h,fun h=>by simp at h,fun h=>by simp at h,fun h=>by simp at h,fun h=>by simp at h,hm⟩)
                clear e0 e1 e2 e3 e4
                go_wp2_with (first
                  | (go_at_call 44; refine (hst _).mono ?_; rintro e w2 ⟨rfl,hb2⟩; have hT0:=hS.later hb2; have ck0:=cell_of_heap hT0.bi 0 (.int .i64 5) rfl; have cd0:=cell_of_heap hT0.bi 2 (.int .i64 dst) rfl; have cn0:=cell_of_heap hT0.bi 5 (.int .i64 n) rfl; have g0_2:=cell_of_heap hT0.bf 2 (.int .i64 R) rfl; have cs0:=cell_of_heap hT0.bi 2 (.int .i64 dst) rfl; have co0:=cell_of_heap hT0.bo 2 (.int .i64 (-1)) rfl; have fz0:=hT0.free 2; have hT1:=hT0.store (o':=⟨5,0,dst,0,0,0,⟨#[]⟩,0,0,0,0,0,0,0,-1⟩) 2 (.int .i64 dst) rfl; have ck1:=cell_of_heap hT1.bi 0 (.int .i64 5) rfl; have cd1:=cell_of_heap hT1.bi 2 (.int .i64 dst) rfl; have cn1:=cell_of_heap hT1.bi 5 (.int .i64 n) rfl; have cs1:=cell_of_heap hT1.bi 5 (.int .i64 n) rfl; have co1:=cell_of_heap hT1.bo 5 (.int .i64 0) rfl; have fz1:=hT1.free 5; have hT2:=hT1.store (o':=⟨5,0,dst,0,0,n,⟨#[]⟩,0,0,0,0,0,0,0,-1⟩) 5 (.int .i64 n) rfl; have ck2:=cell_of_heap hT2.bi 0 (.int .i64 5) rfl; have cd2:=cell_of_heap hT2.bi 2 (.int .i64 dst) rfl; have cn2:=cell_of_heap hT2.bi 5 (.int .i64 n) rfl; have g2_3:=cell_of_heap hT2.bf 3 (.int .i64 Fr) rfl; obtain ⟨c0,c1,c2,c3,c4,c5,c6,c7,c8,c9,c10,c11,c12,c13,c14⟩:=Ins.cells hT2.bi; simp only at c0 c1 c2 c3 c4 c5 c6 c7 c8 c9 c10 c11 c12 c13 c14; obtain ⟨o0,o1,o2,o3,o4,o5,o6,o7,o8,o9,o10,o11,o12,o13,o14⟩:=Ins.cells hT2.bo; simp only at o0 o1 o2 o3 o4 o5 o6 o7 o8 o9 o10 o11 o12 o13 o14))
                go_returns
                exact ⟨Ok.tru HM.out HOK.out HBE.out,hT2.below⟩
set_option maxRecDepth 1000000 in
set_option maxHeartbeats 40000000 in
theorem refright_6 (op dst a b n:Int) (text:ByteArray) (r0 r1 r2 r3 r4 r5 to_ els:Int) (nm:ByteArray) (ps R Fr:Int) (C:Option Addr) (L cap:Nat) (w:World) :
    Calls Try.prog 41 #[Ins.agg ⟨6,op,dst,a,b,n,text,r0,r1,r2,r3,r4,r5,to_,els⟩,funcAgg nm ps R Fr C L cap] w fun e w'=>Tru (Ok ⟨6,op,dst,a,b,n,text,r0,r1,r2,r3,r4,r5,to_,els⟩ R Fr L) e∧Below w.heap.size w w':=by
  obtain ⟨b0,b1,b2,hs3,hB3⟩:=box3 w (Ins.obj ⟨6,op,dst,a,b,n,text,r0,r1,r2,r3,r4,r5,to_,els⟩) (funcObj nm ps R Fr C L cap) (Ins.obj ⟨6,0,-1,0,0,0,⟨#[]⟩,0,0,0,0,0,0,0,-1⟩)
  obtain ⟨W,hW⟩:∃ W,((w.alloc (Ins.obj ⟨6,op,dst,a,b,n,text,r0,r1,r2,r3,r4,r5,to_,els⟩)).alloc (funcObj nm ps R Fr C L cap)).alloc (Ins.obj ⟨6,0,-1,0,0,0,⟨#[]⟩,0,0,0,0,0,0,0,-1⟩)=W:=⟨_,rfl⟩
  rw [hW] at b0 b1 b2 hs3 hB3
  have hS0:RSt w W ⟨6,op,dst,a,b,n,text,r0,r1,r2,r3,r4,r5,to_,els⟩ ⟨6,0,-1,0,0,0,⟨#[]⟩,0,0,0,0,0,0,0,-1⟩ nm ps R Fr C L cap:=⟨b0,b1,b2,hB3⟩
  obtain ⟨x0,x1,x2,x3,x4,x5,x6,x7,x8,x9,x10,x11,x12,x13,x14⟩:=Ins.cells b0
  simp only [Ins.obj,funcObj,Ins.agg,funcAgg] at hW x0 x1 x2 x3 x4 x5 x6 x7 x8 x9 x10 x11 x12 x13 x14 ⊢
  have hus:=refUses_any ⟨6,op,dst,a,b,n,text,r0,r1,r2,r3,r4,r5,to_,els⟩ W
  have hst:=fun W=>refSets_any ⟨6,op,dst,a,b,n,text,r0,r1,r2,r3,r4,r5,to_,els⟩ W
  obtain ⟨ul,hul⟩:∃ ul,ul=Ins.uses ⟨6,op,dst,a,b,n,text,r0,r1,r2,r3,r4,r5,to_,els⟩:=⟨_,rfl⟩
  simp only [Ins.agg] at hus hst
  rw [← hul] at hus
  have HUL:=Lib.hid hul
  clear hul b0 b1 b2 hs3 hB3
  obtain ⟨LU,hLU⟩:∃ LU,ul.length=LU:=⟨_,rfl⟩
  have hLU6:LU≤8:=by
    rw [← hLU,HUL.out]
    unfold Ins.uses
    simp only [List.length_append,Ins.args]
    have h1:(if kA 6 then [a] else []).length≤1:=by split <;> simp
    have h2:(if kB 6 then [b] else []).length≤1:=by split <;> simp
    have h3:(if (6:Int)=8 then [r0,r1,r2,r3,r4,r5].take n.toNat else []).length≤6:=by
      split
      · rw [List.length_take]; simp; omega
      · simp
    omega
  have HLU:=Lib.hid hLU
  clear hLU
  go_enter Try.func41,Try.ntmps41
  go_wp2_with (first
    | (go_at_call 60; refine hus.mono ?_; rintro e w1 ⟨⟨A,cA,rfl,hR⟩,hb1⟩; rw [HLU.out]))
  have hS1:=hS0.later hb1
  clear x0 x1 x2 x3 x4 x5 x6 x7 x8 x9 x10 x11 x12 x13 x14 hW hS0
  go_loopw [7] (fun ix w8=>∃ m:Nat,m≤LU∧ix = .int .i64 m∧Below w1.heap.size w1 w8∧∀ (j:Nat) r,j < m→ul[j]? = some r→0≤r∧r < R) (fun ix _=>LU - (intOf ix).toNat)
  case atStart=>exact ⟨0,by omega,rfl,Below.refl _ _,fun j r hj=>by omega⟩
  case round =>
    obtain ⟨m,hm,rfl,hb,hno⟩:=hrel
    have hS:=hS1.later hb
    by_cases hlt:m < LU
    · have hr : ul[m]? = some (ul[m]'(by rw [HLU.out]; exact hlt)):=by simp
      generalize ul[m]'(by rw [HLU.out]; exact hlt)=r at hr
      obtain ⟨bu,ou,rfl,_,g0⟩:=(hR.below hb) m r hr
      have f2:=cell_of_heap hS.bf 2 (.int .i64 R) rfl
      have hno':¬ (0≤r∧r < R)→¬ Ok ⟨6,op,dst,a,b,n,text,r0,r1,r2,r3,r4,r5,to_,els⟩ R Fr L:=fun hn h=>hn (h.uses r (by rw [← HUL.out]; exact List.mem_of_getElem? hr))
      by_cases hr0:r < 0
      · have q4:decide (r < 0)=true:=by simpa using hr0
        have HT:=Lib.hid (Tru.no (hno' (by omega)))
        clear hno' hr0
        go_wp2
        go_quiet (fail)
        go_wp2
        go_returns
        exact ⟨HT.out,below_drewN hS.below _⟩
      · have q4:decide (r < 0)=false:=by simpa using hr0
        by_cases hrR:r < R
        · have q5:decide (r ≥ R)=false:=by simp; omega
          have q6:decide (R≤r)=false:=by simp; omega
          clear hno'
          go_wp2
          go_quiet (fail)
          go_wp2
          exact ⟨⟨m + 1,by omega,by simp,below_drewN hb _,fun j r' hj hr'=>by
            by_cases hjm:j=m
            · subst hjm
              rw [hr] at hr'
              injection hr' with hr'
              subst hr'
              exact ⟨by omega,hrR⟩
            · exact hno j r' (by omega) hr'⟩,by simp [intOf]; omega⟩
        · have q5:decide (r ≥ R)=true:=by simp; omega
          have q6:decide (R≤r)=true:=by simp; omega
          have HT:=Lib.hid (Tru.no (hno' (by omega)))
          clear hno' hr0 hrR
          go_wp2
          go_quiet (fail)
          go_wp2
          go_returns
          exact ⟨HT.out,below_drewN hS.below _⟩
    · have hU : ∀ r ∈ Ins.uses ⟨6,op,dst,a,b,n,text,r0,r1,r2,r3,r4,r5,to_,els⟩,0≤r∧r < R:=fun r hr=>by
        rw [← HUL.out] at hr
        obtain ⟨j,hj⟩:=List.mem_iff_getElem?.1 hr
        exact hno j r (by have:=(List.getElem?_eq_some_iff.1 hj).1; rw [HLU.out] at this; omega) hj
      have HU:=Lib.hid hU
      have hge:¬ (m < LU):=hlt
      obtain rfl:m=LU:=by omega
      clear hU hno hb hS1 hb1 hR hus hlt hge hm
      obtain ⟨x0,x1,x2,x3,x4,x5,x6,x7,x8,x9,x10,x11,x12,x13,x14⟩:=Ins.cells hS.bi
      simp only at x0 x1 x2 x3 x4 x5 x6 x7 x8 x9 x10 x11 x12 x13 x14
      clear hLU6
      have hse:Ins.sets ⟨6,op,dst,a,b,n,text,r0,r1,r2,r3,r4,r5,to_,els⟩=dst:=rfl
      rw [hse] at hst
      clear hse
      have heq:=fun w=>eql_ins ⟨6,op,dst,a,b,n,text,r0,r1,r2,r3,r4,r5,to_,els⟩ ⟨6,0,dst,a,0,0,⟨#[]⟩,0,0,0,0,0,0,0,-1⟩ w
      obtain ⟨be,hbe⟩:∃ be,be=decide (Ins.mk 6 op dst a b n text r0 r1 r2 r3 r4 r5 to_ els=⟨6,0,dst,a,0,0,⟨#[]⟩,0,0,0,0,0,0,0,-1⟩):=⟨_,rfl⟩
      rw [← hbe] at heq
      have HBE:=Lib.hid hbe
      clear hbe
      simp only [Ins.agg] at heq
      have hmask:Ins.mask ⟨6,op,dst,a,b,n,text,r0,r1,r2,r3,r4,r5,to_,els⟩=⟨6,0,dst,a,0,0,⟨#[]⟩,0,0,0,0,0,0,0,-1⟩:=by simp [Ins.mask,kA,kB,kS]
      have HM:=Lib.hid hmask
      clear hmask
      by_cases e0:dst=-1
      · have HT:=Lib.hid (Tru.no (fun h:Ok ⟨6,op,dst,a,b,n,text,r0,r1,r2,r3,r4,r5,to_,els⟩ R Fr L=>by have:=h.dst rfl; simp only at this; omega))
        have p0_0:(dst != -1)=false:=by simp; omega
        clear e0
        go_wp2_with (first
          | (go_at_call 44; refine (hst _).mono ?_; rintro e w2 ⟨rfl,hb2⟩; have hT0:=hS.later hb2; have ck0:=cell_of_heap hT0.bi 0 (.int .i64 6) rfl; have cd0:=cell_of_heap hT0.bi 2 (.int .i64 dst) rfl; have g0_2:=cell_of_heap hT0.bf 2 (.int .i64 R) rfl))
        go_returns
        exact ⟨HT.out,hT0.below⟩
      · have p0_0:(dst != -1)=true:=by simp; omega
        by_cases e1:dst < 0
        · have HT:=Lib.hid (Tru.no (fun h:Ok ⟨6,op,dst,a,b,n,text,r0,r1,r2,r3,r4,r5,to_,els⟩ R Fr L=>by have:=h.dst rfl; simp only at this; omega))
          have p1_0:decide (dst < 0)=true:=by simp; omega
          clear e0 e1
          go_wp2_with (first
            | (go_at_call 44; refine (hst _).mono ?_; rintro e w2 ⟨rfl,hb2⟩; have hT0:=hS.later hb2; have ck0:=cell_of_heap hT0.bi 0 (.int .i64 6) rfl; have cd0:=cell_of_heap hT0.bi 2 (.int .i64 dst) rfl; have g0_2:=cell_of_heap hT0.bf 2 (.int .i64 R) rfl))
          go_returns
          exact ⟨HT.out,hT0.below⟩
        · have p1_0:decide (dst < 0)=false:=by simp; omega
          by_cases e2:R≤dst
          · have HT:=Lib.hid (Tru.no (fun h:Ok ⟨6,op,dst,a,b,n,text,r0,r1,r2,r3,r4,r5,to_,els⟩ R Fr L=>by have:=h.dst rfl; simp only at this; omega))
            have p2_0:decide (dst ≥ R)=true:=by simp; omega
            have p2_1:decide (R≤dst)=true:=by simp; omega
            clear e0 e1 e2
            go_wp2_with (first
              | (go_at_call 44; refine (hst _).mono ?_; rintro e w2 ⟨rfl,hb2⟩; have hT0:=hS.later hb2; have ck0:=cell_of_heap hT0.bi 0 (.int .i64 6) rfl; have cd0:=cell_of_heap hT0.bi 2 (.int .i64 dst) rfl; have g0_2:=cell_of_heap hT0.bf 2 (.int .i64 R) rfl))
            go_returns
            exact ⟨HT.out,hT0.below⟩
          · have p2_0:decide (dst ≥ R)=false:=by simp; omega
            have p2_1:decide (R≤dst)=false:=by simp; omega
            have HOK:Hid (Ins.mk 6 op dst a b n text r0 r1 r2 r3 r4 r5 to_ els=Ins.mask ⟨6,op,dst,a,b,n,text,r0,r1,r2,r3,r4,r5,to_,els⟩→Ok ⟨6,op,dst,a,b,n,text,r0,r1,r2,r3,r4,r5,to_,els⟩ R Fr L):=Lib.hid (fun hm=>⟨⟨by simp only; omega,by simp only; omega⟩,HU.out,fun _=>.inl ⟨by simp only; omega,by simp only; omega⟩,fun h=>by simp at h,fun h=>by simp at h,fun h=>by simp at h,fun h=>by simp at h,fun h=>by simp at h,fun h=>by simp at h,fun h=>by simp at h,hm⟩)
            clear e0 e1 e2
            go_wp2_with (first
              | (go_at_call 44; refine (hst _).mono ?_; rintro e w2 ⟨rfl,hb2⟩; have hT0:=hS.later hb2; have ck0:=cell_of_heap hT0.bi 0 (.int .i64 6) rfl; have cd0:=cell_of_heap hT0.bi 2 (.int .i64 dst) rfl; have g0_2:=cell_of_heap hT0.bf 2 (.int .i64 R) rfl; have cs0:=cell_of_heap hT0.bi 2 (.int .i64 dst) rfl; have co0:=cell_of_heap hT0.bo 2 (.int .i64 (-1)) rfl; have fz0:=hT0.free 2; have hT1:=hT0.store (o':=⟨6,0,dst,0,0,0,⟨#[]⟩,0,0,0,0,0,0,0,-1⟩) 2 (.int .i64 dst) rfl; have ck1:=cell_of_heap hT1.bi 0 (.int .i64 6) rfl; have cd1:=cell_of_heap hT1.bi 2 (.int .i64 dst) rfl; have cs1:=cell_of_heap hT1.bi 3 (.int .i64 a) rfl; have co1:=cell_of_heap hT1.bo 3 (.int .i64 0) rfl; have fz1:=hT1.free 3; have hT2:=hT1.store (o':=⟨6,0,dst,a,0,0,⟨#[]⟩,0,0,0,0,0,0,0,-1⟩) 3 (.int .i64 a) rfl; have ck2:=cell_of_heap hT2.bi 0 (.int .i64 6) rfl; have cd2:=cell_of_heap hT2.bi 2 (.int .i64 dst) rfl; obtain ⟨c0,c1,c2,c3,c4,c5,c6,c7,c8,c9,c10,c11,c12,c13,c14⟩:=Ins.cells hT2.bi; simp only at c0 c1 c2 c3 c4 c5 c6 c7 c8 c9 c10 c11 c12 c13 c14; obtain ⟨o0,o1,o2,o3,o4,o5,o6,o7,o8,o9,o10,o11,o12,o13,o14⟩:=Ins.cells hT2.bo; simp only at o0 o1 o2 o3 o4 o5 o6 o7 o8 o9 o10 o11 o12 o13 o14))
            go_returns
            exact ⟨Ok.tru HM.out HOK.out HBE.out,hT2.below⟩
set_option maxRecDepth 1000000 in
set_option maxHeartbeats 40000000 in
theorem refright_13 (op dst a b n:Int) (text:ByteArray) (r0 r1 r2 r3 r4 r5 to_ els:Int) (nm:ByteArray) (ps R Fr:Int) (C:Option Addr) (L cap:Nat) (w:World) :
    Calls Try.prog 41 #[Ins.agg ⟨13,op,dst,a,b,n,text,r0,r1,r2,r3,r4,r5,to_,els⟩,funcAgg nm ps R Fr C L cap] w fun e w'=>Tru (Ok ⟨13,op,dst,a,b,n,text,r0,r1,r2,r3,r4,r5,to_,els⟩ R Fr L) e∧Below w.heap.size w w':=by
  obtain ⟨b0,b1,b2,hs3,hB3⟩:=box3 w (Ins.obj ⟨13,op,dst,a,b,n,text,r0,r1,r2,r3,r4,r5,to_,els⟩) (funcObj nm ps R Fr C L cap) (Ins.obj ⟨13,0,-1,0,0,0,⟨#[]⟩,0,0,0,0,0,0,0,-1⟩)
  obtain ⟨W,hW⟩:∃ W,((w.alloc (Ins.obj ⟨13,op,dst,a,b,n,text,r0,r1,r2,r3,r4,r5,to_,els⟩)).alloc (funcObj nm ps R Fr C L cap)).alloc (Ins.obj ⟨13,0,-1,0,0,0,⟨#[]⟩,0,0,0,0,0,0,0,-1⟩)=W:=⟨_,rfl⟩
  rw [hW] at b0 b1 b2 hs3 hB3
  have hS0:RSt w W ⟨13,op,dst,a,b,n,text,r0,r1,r2,r3,r4,r5,to_,els⟩ ⟨13,0,-1,0,0,0,⟨#[]⟩,0,0,0,0,0,0,0,-1⟩ nm ps R Fr C L cap:=⟨b0,b1,b2,hB3⟩
  obtain ⟨x0,x1,x2,x3,x4,x5,x6,x7,x8,x9,x10,x11,x12,x13,x14⟩:=Ins.cells b0
  simp only [Ins.obj,funcObj,Ins.agg,funcAgg] at hW x0 x1 x2 x3 x4 x5 x6 x7 x8 x9 x10 x11 x12 x13 x14 ⊢
  have hus:=refUses_any ⟨13,op,dst,a,b,n,text,r0,r1,r2,r3,r4,r5,to_,els⟩ W
  have hst:=fun W=>refSets_any ⟨13,op,dst,a,b,n,text,r0,r1,r2,r3,r4,r5,to_,els⟩ W
  obtain ⟨ul,hul⟩:∃ ul,ul=Ins.uses ⟨13,op,dst,a,b,n,text,r0,r1,r2,r3,r4,r5,to_,els⟩:=⟨_,rfl⟩
  simp only [Ins.agg] at hus hst
  rw [← hul] at hus
  have HUL:=Lib.hid hul
  clear hul b0 b1 b2 hs3 hB3
  obtain ⟨LU,hLU⟩:∃ LU,ul.length=LU:=⟨_,rfl⟩
  have hLU6:LU≤8:=by
    rw [← hLU,HUL.out]
    unfold Ins.uses
    simp only [List.length_append,Ins.args]
    have h1:(if kA 13 then [a] else []).length≤1:=by split <;> simp
    have h2:(if kB 13 then [b] else []).length≤1:=by split <;> simp
    have h3:(if (13:Int)=8 then [r0,r1,r2,r3,r4,r5].take n.toNat else []).length≤6:=by
      split
      · rw [List.length_take]; simp; omega
      · simp
    omega
  have HLU:=Lib.hid hLU
  clear hLU
  go_enter Try.func41,Try.ntmps41
  go_wp2_with (first
    | (go_at_call 60; refine hus.mono ?_; rintro e w1 ⟨⟨A,cA,rfl,hR⟩,hb1⟩; rw [HLU.out]))
  have hS1:=hS0.later hb1
  clear x0 x1 x2 x3 x4 x5 x6 x7 x8 x9 x10 x11 x12 x13 x14 hW hS0
  go_loopw [7] (fun ix w8=>∃ m:Nat,m≤LU∧ix = .int .i64 m∧Below w1.heap.size w1 w8∧∀ (j:Nat) r,j < m→ul[j]? = some r→0≤r∧r < R) (fun ix _=>LU - (intOf ix).toNat)
  case atStart=>exact ⟨0,by omega,rfl,Below.refl _ _,fun j r hj=>by omega⟩
  case round =>
    obtain ⟨m,hm,rfl,hb,hno⟩:=hrel
    have hS:=hS1.later hb
    by_cases hlt:m < LU
    · have hr : ul[m]? = some (ul[m]'(by rw [HLU.out]; exact hlt)):=by simp
      generalize ul[m]'(by rw [HLU.out]; exact hlt)=r at hr
      obtain ⟨bu,ou,rfl,_,g0⟩:=(hR.below hb) m r hr
      have f2:=cell_of_heap hS.bf 2 (.int .i64 R) rfl
      have hno':¬ (0≤r∧r < R)→¬ Ok ⟨13,op,dst,a,b,n,text,r0,r1,r2,r3,r4,r5,to_,els⟩ R Fr L:=fun hn h=>hn (h.uses r (by rw [← HUL.out]; exact List.mem_of_getElem? hr))
      by_cases hr0:r < 0
      · have q4:decide (r < 0)=true:=by simpa using hr0
        have HT:=Lib.hid (Tru.no (hno' (by omega)))
        clear hno' hr0
        go_wp2
        go_quiet (fail)
        go_wp2
        go_returns
        exact ⟨HT.out,below_drewN hS.below _⟩
      · have q4:decide (r < 0)=false:=by simpa using hr0
        by_cases hrR:r < R
        · have q5:decide (r ≥ R)=false:=by simp; omega
          have q6:decide (R≤r)=false:=by simp; omega
          clear hno'
          go_wp2
          go_quiet (fail)
          go_wp2
          exact ⟨⟨m + 1,by omega,by simp,below_drewN hb _,fun j r' hj hr'=>by
            by_cases hjm:j=m
            · subst hjm
              rw [hr] at hr'
              injection hr' with hr'
              subst hr'
              exact ⟨by omega,hrR⟩
            · exact hno j r' (by omega) hr'⟩,by simp [intOf]; omega⟩
        · have q5:decide (r ≥ R)=true:=by simp; omega
          have q6:decide (R≤r)=true:=by simp; omega
          have HT:=Lib.hid (Tru.no (hno' (by omega)))
          clear hno' hr0 hrR
          go_wp2
          go_quiet (fail)
          go_wp2
          go_returns
          exact ⟨HT.out,below_drewN hS.below _⟩
    · have hU:∀ r ∈ Ins.uses ⟨13,op,dst,a,b,n,text,r0,r1,r2,r3,r4,r5,to_,els⟩,0≤r∧r < R:=fun r hr=>by
        rw [← HUL.out] at hr
        obtain ⟨j,hj⟩:=List.mem_iff_getElem?.1 hr
        exact hno j r (by have:=(List.getElem?_eq_some_iff.1 hj).1; rw [HLU.out] at this; omega) hj
      have HU:=Lib.hid hU
      have hge:¬ (m < LU):=hlt
      obtain rfl:m=LU:=by omega
      clear hU hno hb hS1 hb1 hR hus hlt hge hm
      obtain ⟨x0,x1,x2,x3,x4,x5,x6,x7,x8,x9,x10,x11,x12,x13,x14⟩:=Ins.cells hS.bi
      simp only at x0 x1 x2 x3 x4 x5 x6 x7 x8 x9 x10 x11 x12 x13 x14
      clear hLU6
      have hse:Ins.sets ⟨13,op,dst,a,b,n,text,r0,r1,r2,r3,r4,r5,to_,els⟩=-1:=rfl
      rw [hse] at hst
      clear hse
      have heq:=fun w=>eql_ins ⟨13,op,dst,a,b,n,text,r0,r1,r2,r3,r4,r5,to_,els⟩ ⟨13,0,-1,a,0,0,⟨#[]⟩,0,0,0,0,0,0,0,-1⟩ w
      obtain ⟨be,hbe⟩:∃ be,be=decide (Ins.mk 13 op dst a b n text r0 r1 r2 r3 r4 r5 to_ els=⟨13,0,-1,a,0,0,⟨#[]⟩,0,0,0,0,0,0,0,-1⟩):=⟨_,rfl⟩
      rw [← hbe] at heq
      have HBE:=Lib.hid hbe
      clear hbe
      simp only [Ins.agg] at heq
      have hmask:Ins.mask ⟨13,op,dst,a,b,n,text,r0,r1,r2,r3,r4,r5,to_,els⟩=⟨13,0,-1,a,0,0,⟨#[]⟩,0,0,0,0,0,0,0,-1⟩:=by simp [Ins.mask,kA,kB,kS]
      have HM:=Lib.hid hmask
      clear hmask
      have HOK:Hid (Ins.mk 13 op dst a b n text r0 r1 r2 r3 r4 r5 to_ els=Ins.mask ⟨13,op,dst,a,b,n,text,r0,r1,r2,r3,r4,r5,to_,els⟩→Ok ⟨13,op,dst,a,b,n,text,r0,r1,r2,r3,r4,r5,to_,els⟩ R Fr L):=Lib.hid (fun hm=>⟨⟨by simp only; omega,by simp only; omega⟩,HU.out,fun h=>by simp [kS] at h,fun h=>by simp at h,fun h=>by simp at h,fun h=>by simp at h,fun h=>by simp at h,fun h=>by simp at h,fun h=>by simp at h,fun h=>by simp at h,hm⟩)
      go_wp2_with (first
        | (go_at_call 44; refine (hst _).mono ?_; rintro e w2 ⟨rfl,hb2⟩; have hT0:=hS.later hb2; have ck0:=cell_of_heap hT0.bi 0 (.int .i64 13) rfl; have cd0:=cell_of_heap hT0.bi 2 (.int .i64 dst) rfl; have cs0:=cell_of_heap hT0.bi 3 (.int .i64 a) rfl; have co0:=cell_of_heap hT0.bo 3 (.int .i64 0) rfl; have fz0:=hT0.free 3; have hT1:=hT0.store (o':=⟨13,0,-1,a,0,0,⟨#[]⟩,0,0,0,0,0,0,0,-1⟩) 3 (.int .i64 a) rfl; have ck1:=cell_of_heap hT1.bi 0 (.int .i64 13) rfl; have cd1:=cell_of_heap hT1.bi 2 (.int .i64 dst) rfl; obtain ⟨c0,c1,c2,c3,c4,c5,c6,c7,c8,c9,c10,c11,c12,c13,c14⟩:=Ins.cells hT1.bi; simp only at c0 c1 c2 c3 c4 c5 c6 c7 c8 c9 c10 c11 c12 c13 c14; obtain ⟨o0,o1,o2,o3,o4,o5,o6,o7,o8,o9,o10,o11,o12,o13,o14⟩:=Ins.cells hT1.bo; simp only at o0 o1 o2 o3 o4 o5 o6 o7 o8 o9 o10 o11 o12 o13 o14))
      go_returns
      exact ⟨Ok.tru HM.out HOK.out HBE.out,hT1.below⟩
end Go.Proofs.Ythbcdckonaljiaa

