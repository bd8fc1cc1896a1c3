import Derived.Test.YtkcclefonmnpnaaZe1
import Derived.Test.YtkcclefonmnpnaaZca
import Derived.Test.YtkcclefonmnpnaaZcb
import Derived.Test.YtkcclefonmnpnaaZcc
import Derived.Test.YtkcclefonmnpnaaZcd
namespace Go.Proofs.Ytkcclefonmnpnaa
open Go.RowKit Go.BigFrame
set_option maxRecDepth 1000000 in
set_option maxHeartbeats 4000000 in
theorem refright_any (i:Ins) (nm:ByteArray) (ps R Fr:Int) (C:Option Addr) (L cap:Nat) (w:World) :
    Calls Try.prog 50 #[i.agg,funcAgg nm ps R Fr C L cap] w fun e w'=>Tru (Ok i R Fr L) e∧Below w.heap.size w w':=by
  obtain ⟨k,op,dst,a,b,n,text,r0,r1,r2,r3,r4,r5,to_,els⟩:=i
  rcases kind_cases k with rfl | rfl | rfl | rfl | rfl | rfl | rfl | rfl | rfl | rfl | rfl | rfl | rfl | hk
  · exact refright_1 op dst a b n text r0 r1 r2 r3 r4 r5 to_ els nm ps R Fr C L cap w
  · exact refright_2 op dst a b n text r0 r1 r2 r3 r4 r5 to_ els nm ps R Fr C L cap w
  · exact refright_3 op dst a b n text r0 r1 r2 r3 r4 r5 to_ els nm ps R Fr C L cap w
  · exact refright_4 op dst a b n text r0 r1 r2 r3 r4 r5 to_ els nm ps R Fr C L cap w
  · exact refright_5 op dst a b n text r0 r1 r2 r3 r4 r5 to_ els nm ps R Fr C L cap w
  · exact refright_6 op dst a b n text r0 r1 r2 r3 r4 r5 to_ els nm ps R Fr C L cap w
  · exact refright_7 op dst a b n text r0 r1 r2 r3 r4 r5 to_ els nm ps R Fr C L cap w
  · by_cases hx:(dst < 0∧dst≠-1)∨R≤dst
    · exact refright_8a op dst a b n text r0 r1 r2 r3 r4 r5 to_ els nm ps R Fr C L cap w hx
    · by_cases eN:0≤n∧n≤6∧text.size≠0
      · by_cases hm1:dst=-1
        · exact refright_8m op dst a b n text r0 r1 r2 r3 r4 r5 to_ els nm ps R Fr C L cap w hx eN hm1
        · exact refright_8p op dst a b n text r0 r1 r2 r3 r4 r5 to_ els nm ps R Fr C L cap w hx eN hm1
      · exact refright_8n op dst a b n text r0 r1 r2 r3 r4 r5 to_ els nm ps R Fr C L cap w hx eN
  · exact refright_9 op dst a b n text r0 r1 r2 r3 r4 r5 to_ els nm ps R Fr C L cap w
  · exact refright_10 op dst a b n text r0 r1 r2 r3 r4 r5 to_ els nm ps R Fr C L cap w
  · exact refright_11 op dst a b n text r0 r1 r2 r3 r4 r5 to_ els nm ps R Fr C L cap w
  · exact refright_12 op dst a b n text r0 r1 r2 r3 r4 r5 to_ els nm ps R Fr C L cap w
  · exact refright_13 op dst a b n text r0 r1 r2 r3 r4 r5 to_ els nm ps R Fr C L cap w
  · have hno:¬ Ok ⟨k,op,dst,a,b,n,text,r0,r1,r2,r3,r4,r5,to_,els⟩ R Fr L:=fun h=>by have:=h.kind; simp only at this; omega
    have hT:=Tru.no hno
    have hB3:=(Below.one w (Ins.obj ⟨k,op,dst,a,b,n,text,r0,r1,r2,r3,r4,r5,to_,els⟩)).alloc (by simp) (funcObj nm ps R Fr C L cap)
    simp only [Ins.obj,funcObj,Ins.agg,funcAgg] at hB3 ⊢
    have HT:=Lib.hid hT
    clear hT hno
    have hc:(decide (k < 1)=true)∨(decide (k < 1)=false∧decide (k > 13)=true∧decide (13 < k)=true):=by simp; omega
    rcases hc with q1 | ⟨q1,q2,q3⟩
    all_goals
      clear hk
      go_enter Try.func50,Try.ntmps50
      go_wp2
      go_returns
      exact ⟨HT.out,hB3⟩
end Go.Proofs.Ytkcclefonmnpnaa
namespace Go.Proofs.Ytkcclefonmnpnaa
open Go.RowKit Go.BigFrame
end Go.Proofs.Ytkcclefonmnpnaa
namespace Go.Proofs.Ytkcclefonmnpnaa
open Go.RowKit
theorem Calls.later_same {P:Program}{f:FuncId}{args:Array Value}{W:World}{s:Later W}{v:Value}
    (h:Calls P f args s.w fun e w'=>e = .returned v∧s.w=w'):Calls P f args s.w fun e w''=>e = .returned v∧∃ t:Later W,w''=t.w :=
  h.mono fun _ _ ⟨he,hb⟩=>⟨he,s,hb.symm⟩
end Go.Proofs.Ytkcclefonmnpnaa
namespace Go.Proofs.Ytkcclefonmnpnaa
open Go.RowKit Go.BigFrame
set_option maxRecDepth 1000000 in
set_option maxHeartbeats 8000000 in
theorem refRightFunc_any (f:Fn7) (C:Option Addr) (cap:Nat) (w:World) (hC:RdI w C f.code):Calls Try.prog 18 #[funcAgg f.nm f.ps f.R f.Fr C f.code.length cap] w fun e w'=>Tru (OkF f) e∧Below w.heap.size w w':=by
  obtain ⟨nm,ps,R,Fr,l⟩:=f
  obtain ⟨L,hL⟩:∃ L,l.length=L:=⟨_,rfl⟩
  simp only at hC ⊢
  rw [hL]
  have HL:=Lib.hid hL
  clear hL
  have hB:=Below.one w (funcObj nm ps R Fr C L cap)
  have bx:=heap_alloc_new w (funcObj nm ps R Fr C L cap)
  simp only [funcObj,funcAgg] at hB bx ⊢
  by_cases hn:nm.size=0
  · have HT:=Lib.hid (Tru.no (fun h:OkF ⟨nm,ps,R,Fr,l⟩=>h.nm hn))
    have n0:((nm.size:Int) == 0)=true:=by rw [hn]; rfl
    have n1:(nm.size == 0)=true:=by rw [hn]; rfl
    clear hn
    go_enter Try.func18,Try.ntmps18
    go_wp2
    go_returns
    exact ⟨HT.out,hB⟩
  have HN:=Lib.hid hn
  have n0:((nm.size:Int) == 0)=false:=by rw [beq_eq_false_iff_ne]; omega
  have n1:(nm.size == 0)=false:=by rw [beq_eq_false_iff_ne]; omega
  clear hn
  by_cases hc:0≤ps∧ps≤6∧ps≤R∧R≤4096∧0≤Fr∧Fr≤4096∧1≤L∧L≤8192
  case neg =>
    have HT:=Lib.hid (Tru.no (fun h:OkF ⟨nm,ps,R,Fr,l⟩=>by
      have h1:=h.ps; have h2:=h.R; have h3:=h.Fr; have h4:=h.len
      simp only at h1 h2 h3 h4
      rw [HL.out] at h4
      omega))
    have hd:(decide (ps < 0)=true)∨(decide (ps < 0)=false∧decide (ps > 6)=true∧decide (6 < ps)=true)∨(decide (ps < 0)=false∧decide (ps > 6)=false∧decide (6 < ps)=false∧decide (R < ps)=true)∨(decide (ps < 0)=false∧decide (ps > 6)=false∧decide (6 < ps)=false∧decide (R < ps)=false∧decide (R > 4096)=true∧decide (4096 < R)=true)∨(decide (ps < 0)=false∧decide (ps > 6)=false∧decide (6 < ps)=false∧decide (R < ps)=false∧decide (R > 4096)=false∧decide (4096 < R)=false∧decide (Fr < 0)=true)∨(decide (ps < 0)=false∧decide (ps > 6)=false∧decide (6 < ps)=false∧decide (R < ps)=false∧decide (R > 4096)=false∧decide (4096 < R)=false∧decide (Fr < 0)=false∧decide (Fr > 4096)=true∧decide (4096 < Fr)=true)∨(decide (ps < 0)=false∧decide (ps > 6)=false∧decide (6 < ps)=false∧decide (R < ps)=false∧decide (R > 4096)=false∧decide (4096 < R)=false∧decide (Fr < 0)=false∧decide (Fr > 4096)=false∧decide (4096 < Fr)=false∧((L:Int) == 0)=true∧(L == 0)=true)∨(decide (ps < 0)=false∧decide (ps > 6)=false∧decide (6 < ps)=false∧decide (R < ps)=false∧decide (R > 4096)=false∧decide (4096 < R)=false∧decide (Fr < 0)=false∧decide (Fr > 4096)=false∧decide (4096 < Fr)=false∧((L:Int) == 0)=false∧(L == 0)=false∧decide ((L:Int) > 8192)=true∧decide (8192 < L)=true∧decide (L > 8192)=true):=by simp; omega
    clear hc
    rcases hd with c0 | ⟨c0,c1,c2⟩ | ⟨c0,c1,c2,c3⟩ | ⟨c0,c1,c2,c3,c4,c5⟩ | ⟨c0,c1,c2,c3,c4,c5,c6⟩ | ⟨c0,c1,c2,c3,c4,c5,c6,c7,c8⟩ | ⟨c0,c1,c2,c3,c4,c5,c6,c7,c8,c9,c10⟩ | ⟨c0,c1,c2,c3,c4,c5,c6,c7,c8,c9,c10,c11,c12,c13⟩
    all_goals
      go_enter Try.func18,Try.ntmps18
      go_wp2
      go_returns
      exact ⟨HT.out,hB⟩
  have k0:decide (ps < 0)=false:=by simp; omega
  have k1:decide (ps > 6)=false:=by simp; omega
  have k2:decide (6 < ps)=false:=by simp; omega
  have k3:decide (R < ps)=false:=by simp; omega
  have k4:decide (R > 4096)=false:=by simp; omega
  have k5:decide (4096 < R)=false:=by simp; omega
  have k6:decide (Fr < 0)=false:=by simp; omega
  have k7:decide (Fr > 4096)=false:=by simp; omega
  have k8:decide (4096 < Fr)=false:=by simp; omega
  have k9:((L:Int) == 0)=false:=by simp; omega
  have k10:(L == 0)=false:=by simp; omega
  have k11:decide ((L:Int) > 8192)=false:=by simp; omega
  have k12:decide (8192 < L)=false:=by simp; omega
  have k13:decide (L > 8192)=false:=by simp; omega
  have hR0:0≤R:=by omega
  have hL8:L≤8192:=by omega
  obtain ⟨M,hM⟩:∃ M,L=M + 1:=⟨L - 1,by omega⟩
  have HM:=Lib.hid hM
  clear hM
  have HC:=Lib.hid hc
  clear hc
  obtain ⟨W,hW⟩:∃ W,w.alloc (.cells #[.string nm,.int .i64 ps,.int .i64 R,.int .i64 Fr,.slice C L cap] 24)=W:=⟨_,rfl⟩
  have g0:=cell_of_heap bx 0 (.string nm) rfl
  have g1:=cell_of_heap bx 1 (.int .i64 ps) rfl
  have g2:=cell_of_heap bx 2 (.int .i64 R) rfl
  have g3:=cell_of_heap bx 3 (.int .i64 Fr) rfl
  have g4:=cell_of_heap bx 4 (.slice C L cap) rfl
  rw [hW] at bx hB g0 g1 g2 g3 g4
  go_enter Try.func18,Try.ntmps18
  go_wp2
  clear hW
  go_loopw [3] (fun ix w8=>∃ m:Nat,m≤L∧ix = .int .i64 m∧Below W.heap.size W w8∧∀ (j:Nat) i,j < m→l[j]? = some i→Ok i R Fr L) (fun ix _=>L - (intOf ix).toNat)
  case atStart=>exact ⟨0,by omega,rfl,Below.refl _ _,fun j i hj=>by omega⟩
  case round =>
    obtain ⟨m,hm,rfl,hb,hno⟩:=hrel
    have hBw:=hB.trans (hb.mono hB.size)
    have bxr:=(hb.block _ (Array.getElem?_eq_some_iff.1 bx).1).trans bx
    have y0:=cell_of_heap bxr 0 (.string nm) rfl
    have y1:=cell_of_heap bxr 1 (.int .i64 ps) rfl
    have y2:=cell_of_heap bxr 2 (.int .i64 R) rfl
    have y3:=cell_of_heap bxr 3 (.int .i64 Fr) rfl
    have y4:=cell_of_heap bxr 4 (.slice C L cap) rfl
    by_cases hlt:m < L
    · have hi:l[m]? = some (l[m]'(by rw [HL.out]; exact hlt)):=by simp
      generalize l[m]'(by rw [HL.out]; exact hlt)=i at hi
      obtain ⟨b,o,rfl,_,hcs⟩:=(hC.below hBw) m i hi
      obtain ⟨x0,x1,x2,x3,x4,x5,x6,x7,x8,x9,x10,x11,x12,x13,x14⟩:=RdI.load hcs
      have hr:=fun (s:World)=>refright_any i nm ps R Fr (some ⟨b,o,none⟩) L cap s
      obtain ⟨k,op,dst,a,b',n,text,r0,r1,r2,r3,r4,r5,to_,els⟩:=i
      simp only at x0 x1 x2 x3 x4 x5 x6 x7 x8 x9 x10 x11 x12 x13 x14
      simp only [Ins.agg,funcAgg] at hr
      clear hcs
      have hv:∀ s:World,Calls Try.prog 50 #[.agg #[.int .i64 k,.int .i64 op,.int .i64 dst,.int .i64 a,.int .i64 b',.int .i64 n,.string text,.int .i64 r0,.int .i64 r1,.int .i64 r2,.int .i64 r3,.int .i64 r4,.int .i64 r5,.int .i64 to_,.int .i64 els],.agg #[.string nm,.int .i64 ps,.int .i64 R,.int .i64 Fr,.slice (some ⟨b,o,none⟩) L cap]] s fun e w'=>e = .returned (.bool (tb (Ok ⟨k,op,dst,a,b',n,text,r0,r1,r2,r3,r4,r5,to_,els⟩ R Fr L)))∧Below s.heap.size s w':=fun s=>(hr s).mono fun e w' h=>⟨h.1.val,h.2⟩
      have HO:=Lib.hid (⟨(tb_true (p:=Ok ⟨k,op,dst,a,b',n,text,r0,r1,r2,r3,r4,r5,to_,els⟩ R Fr L)).1,(tb_false (p:=Ok ⟨k,op,dst,a,b',n,text,r0,r1,r2,r3,r4,r5,to_,els⟩ R Fr L)).1⟩:(tb (Ok ⟨k,op,dst,a,b',n,text,r0,r1,r2,r3,r4,r5,to_,els⟩ R Fr L)=true→Ok ⟨k,op,dst,a,b',n,text,r0,r1,r2,r3,r4,r5,to_,els⟩ R Fr L)∧(tb (Ok ⟨k,op,dst,a,b',n,text,r0,r1,r2,r3,r4,r5,to_,els⟩ R Fr L)=false→¬ Ok ⟨k,op,dst,a,b',n,text,r0,r1,r2,r3,r4,r5,to_,els⟩ R Fr L))
      generalize tb (Ok ⟨k,op,dst,a,b',n,text,r0,r1,r2,r3,r4,r5,to_,els⟩ R Fr L)=bb at *
      have l0:=fun s:Later wr=>Later.cell x0 s
      have l1:=fun s:Later wr=>Later.cell x1 s
      have l2:=fun s:Later wr=>Later.cell x2 s
      have l3:=fun s:Later wr=>Later.cell x3 s
      have l4:=fun s:Later wr=>Later.cell x4 s
      have l5:=fun s:Later wr=>Later.cell x5 s
      have l6:=fun s:Later wr=>Later.cell x6 s
      have l7:=fun s:Later wr=>Later.cell x7 s
      have l8:=fun s:Later wr=>Later.cell x8 s
      have l9:=fun s:Later wr=>Later.cell x9 s
      have l10:=fun s:Later wr=>Later.cell x10 s
      have l11:=fun s:Later wr=>Later.cell x11 s
      have l12:=fun s:Later wr=>Later.cell x12 s
      have l13:=fun s:Later wr=>Later.cell x13 s
      have l14:=fun s:Later wr=>Later.cell x14 s
      have k0:=fun s:Later wr=>Later.cell y0 s
      have k1:=fun s:Later wr=>Later.cell y1 s
      have k2:=fun s:Later wr=>Later.cell y2 s
      have k3:=fun s:Later wr=>Later.cell y3 s
      have k4:=fun s:Later wr=>Later.cell y4 s
      have lc:=fun s:Later wr=>hv s.w
      cases bb
      all_goals
        go_wp2
        refine wp_region_later (by kernel_rfl) (by kernel_rfl) ?_
        repeat (go_big_quiet_step ((go_at_call 50; exact Calls.later (lc _))))
        refine wpQuiet_nil ?_
        rintro w3 ⟨s',rfl⟩
        have hb3:=hb.trans (s'.h.mono hb.size)
        generalize s'.w=w3 at *
        go_wp2
      · go_returns
        exact ⟨Tru.no (fun h:OkF ⟨nm,ps,R,Fr,l⟩=>HO.out.2 (by simp) (by have:=h.ok _ (List.mem_of_getElem? hi); simp only at this; rw [HL.out] at this; exact this)),hB.trans (hb3.mono hB.size)⟩
      · exact ⟨⟨m + 1,by omega,by simp,hb3,fun j i' hj hi'=>by
          by_cases hjm:j=m
          · subst hjm
            rw [hi] at hi'
            injection hi' with hi'
            subst hi'
            exact HO.out.1 (by simp)
          · exact hno j i' (by omega) hi'⟩,by simp [intOf]; omega⟩
    · have hall:∀ i ∈ l,Ok i R Fr L:=fun i hi=>by
        obtain ⟨j,hj⟩:=List.mem_iff_getElem?.1 hi
        exact hno j i (by have h1:=(List.getElem?_eq_some_iff.1 hj).1; rw [HL.out] at h1; omega) hj
      have HA:=Lib.hid hall
      have hmL:m=L:=by omega
      subst hmL
      have hM:=HM.out
      have hla:l[M]? = some (l[M]'(by rw [HL.out]; omega)):=by simp
      generalize l[M]'(by rw [HL.out]; omega)=i at hla
      obtain ⟨b,o,rfl,_,hcs⟩:=(hC.below hBw) M i hla
      have xk:=(RdI.load hcs).1
      rw [show M=m - 1 by omega] at xk
      have qM:M < m:=by omega
      have HLA:=Lib.hid hla
      clear hcs hla hno hall hlt
      have hfin:∀ bb:Bool,bb=decide (11≤i.kind)→Tru (OkF ⟨nm,ps,R,Fr,l⟩) (.returned (.bool bb)):=fun bb hbb=>⟨bb,rfl,by
        rw [hbb,decide_eq_true_eq]
        have hc:=HC.out
        have hl:=HL.out
        constructor
        · intro h11
          exact ⟨HN.out,⟨hc.1,hc.2.1⟩,⟨hc.2.2.1,hc.2.2.2.1⟩,⟨hc.2.2.2.2.1,hc.2.2.2.2.2.1⟩,by simp only; omega,fun i hi=>by simp only at hi ⊢; rw [hl]; exact HA.out i hi,fun i' hi'=>by
            simp only at hi'
            rw [hl,show m - 1=M by omega,HLA.out] at hi'
            injection hi' with hi'
            rw [← hi']
            exact h11⟩
        · intro h
          refine h.last i ?_
          simp only
          rw [hl,show m - 1=M by omega]
          exact HLA.out⟩
      generalize i.kind=kk at *
      cases h11:decide (11≤kk)
      · have q11:decide (kk ≥ 11)=false:=h11
        have HF:=Lib.hid (hfin false h11.symm)
        clear hfin hM
        go_wp2
        go_returns
        exact ⟨HF.out,hBw⟩
      · have q11:decide (kk ≥ 11)=true:=h11
        have HF:=Lib.hid (hfin true h11.symm)
        clear hfin hM
        go_wp2
        go_returns
        exact ⟨HF.out,hBw⟩
end Go.Proofs.Ytkcclefonmnpnaa
namespace Go.Proofs.Ytkcclefonmnpnaa
open Go
section
variable {P:Program} {ops:Array Oper} {md:Region.Mode} {C:World→Prop}
end
end Go.Proofs.Ytkcclefonmnpnaa

