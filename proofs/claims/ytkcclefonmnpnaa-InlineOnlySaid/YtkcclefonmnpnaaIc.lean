import Derived.Test.YtkcclefonmnpnaaIa
import Derived.Test.YtkcclefonmnpnaaYe
import Derived.Test.YtkcclefonmnpnaaZf
import Derived.Test.YtkcclefonmnpnaaZg
namespace Go.Proofs.Ytkcclefonmnpnaa
open Go.RowKit Go.BigFrame
def SmU (l:List Ins)(k:Nat):Prop:=∀ (p:Nat) i,p < k→l[p]? = some i→i.kind≠8∧∀ n ∈ i.next p,(p:Int) < n
theorem SmU.all {f:Fn7}(h0:OkF f)(h1:f.Fr=0)(h2:f.code.length≤12)(h:SmU f.code f.code.length):SmallF f :=
  ⟨h0,h1,h2,fun i hi=>by
    obtain ⟨p,hp⟩:=List.mem_iff_getElem?.1 hi
    exact (h p i (List.getElem?_eq_some_iff.1 hp).1 hp).1,fun p i hi=>(h p i (List.getElem?_eq_some_iff.1 hi).1 hi).2⟩
set_option maxRecDepth 1000000 in
set_option maxHeartbeats 16000000 in
theorem small_any (f:Fn7) (C:Option Addr) (cap:Nat) (w:World) (hC:RdI w C f.code) :
    Calls Try.prog 40 #[funcAgg f.nm f.ps f.R f.Fr C f.code.length cap] w fun e w'=>Tru (SmallF f) e∧Below w.heap.size w w':=by
  have hB:=Below.one w (funcObj f.nm f.ps f.R f.Fr C f.code.length cap)
  have bx:=heap_alloc_new w (funcObj f.nm f.ps f.R f.Fr C f.code.length cap)
  have hC1:=hC.below hB
  have hrf:=RightFunc_any f C cap _ hC1
  obtain ⟨W,hW⟩:∃ W,w.alloc (funcObj f.nm f.ps f.R f.Fr C f.code.length cap)=W:=⟨_,rfl⟩
  rw [hW] at hB bx hC1 hrf
  obtain ⟨L,hL⟩:∃ L,f.code.length=L:=⟨_,rfl⟩
  rw [hL] at bx hrf hW ⊢
  simp only [funcObj,funcAgg] at bx hrf hW ⊢
  have g0:=cell_of_heap bx 0 (.string f.nm) rfl
  have g1:=cell_of_heap bx 1 (.int .i64 f.ps) rfl
  have g2:=cell_of_heap bx 2 (.int .i64 f.R) rfl
  have g3:=cell_of_heap bx 3 (.int .i64 f.Fr) rfl
  have g4:=cell_of_heap bx 4 (.slice C L cap) rfl
  have hbl:=(Array.getElem?_eq_some_iff.1 bx).1
  have HB:=Lib.hid hB
  have HBX:=Lib.hid bx
  have HC1:=Lib.hid hC1
  have HL:=Lib.hid hL
  clear hC hB bx hC1 hL
  by_cases hok:OkF f
  case neg =>
    have HT:=Lib.hid (Tru.no (fun h:SmallF f=>hok h.ok))
    have HR:=Lib.hid (hrf.mono fun e w' h=>(⟨tru_no h.1 hok,h.2⟩:e = .returned (.bool false)∧Below W.heap.size W w'))
    clear hrf hok
    go_enter Try.func40,Try.ntmps40
    go_wp2_with fail
    refine HR.out.mono ?_
    rintro e w1 ⟨rfl,hb1⟩
    go_wp2
    go_returns
    exact ⟨HT.out,HB.out.trans (hb1.mono HB.out.size)⟩
  have HR:=Lib.hid (hrf.mono fun e w' h=>(⟨tru_is h.1 hok,h.2⟩:e = .returned (.bool true)∧Below W.heap.size W w'))
  have HOK:=Lib.hid hok
  have hlen:=hok.len
  rw [HL.out] at hlen
  clear hrf
  by_cases hc:f.Fr=0∧L≤12
  case neg =>
    have HT:=Lib.hid (Tru.no (fun h:SmallF f=>hc ⟨h.fr,by rw [← HL.out]; exact h.len⟩))
    have hd:(f.Fr≠0∧(f.Fr == 0)=false∧decide (f.Fr=0)=false)∨(f.Fr=0∧decide ((L:Int) > 12)=true∧decide (12 < L)=true):=by
      by_cases h:f.Fr=0
      · exact Or.inr ⟨h,by simp; omega,by simp; omega⟩
      · exact Or.inl ⟨h,by simp [h],by simp [h]⟩
    obtain ⟨Fr,hFr⟩:∃ Fr,f.Fr=Fr:=⟨_,rfl⟩
    rw [hFr] at g3 hd HBX HR hW ⊢
    have hd:(∃ Fr',Fr=Fr'∧¬ Fr'=0∧(Fr' == 0)=false∧decide (Fr'=0)=false)∨(0=Fr∧decide ((L:Int) > 12)=true∧decide (12 < L)=true):=by
      rcases hd with ⟨h1,h2,h3⟩ | ⟨h1,h2,h3⟩
      · exact Or.inl ⟨Fr,rfl,h1,h2,h3⟩
      · exact Or.inr ⟨h1.symm,h2,h3⟩
    clear hc hok hFr
    rcases hd with ⟨Fr',rfl,d1,d2,d3⟩ | ⟨rfl,d2,d3⟩
    all_goals
      go_enter Try.func40,Try.ntmps40
      go_wp2_with fail
      refine HR.out.mono ?_
      rintro e w1 ⟨rfl,hb1⟩
      have hx1:=(hb1.block _ hbl).trans HBX.out
      have k3:=cell_of_heap hx1 3 _ rfl
      have k4:=cell_of_heap hx1 4 (.slice C L cap) rfl
      clear hx1 g0 g1 g2 g3 g4
      go_wp2
      go_returns
      exact ⟨HT.out,HB.out.trans (hb1.mono HB.out.size)⟩
  obtain ⟨hF0,h12⟩:=hc
  have d0:(f.Fr == 0)=true:=by simp [hF0]
  have d1:decide ((L:Int) > 12)=false:=by simp; omega
  have d2:decide (12 < L)=false:=by simp; omega
  have HF0:=Lib.hid hF0
  have H12:=Lib.hid h12
  clear hok hF0
  go_enter Try.func40,Try.ntmps40
  go_wp2_with fail
  refine HR.out.mono ?_
  rintro e w1 ⟨rfl,hb1⟩
  have hx1:=(hb1.block _ hbl).trans HBX.out
  have k3:=cell_of_heap hx1 3 (.int .i64 f.Fr) rfl
  have k4:=cell_of_heap hx1 4 (.slice C L cap) rfl
  have HB1:=Lib.hid (HB.out.trans (hb1.mono HB.out.size))
  have HRD:=Lib.hid (HC1.out.below hb1)
  clear hx1 g0 g1 g2 g3 g4 hb1 hW
  rw [HF0.out] at k3
  go_wp2_with fail
  go_loopw [24] (fun ix wr=>∃ k:Nat,k≤L∧ix = .int .i64 k∧Below w1.heap.size w1 wr∧SmU f.code k) (fun ix _=>L - (intOf ix).toNat)
  case atStart=>exact ⟨0,by omega,rfl,Below.refl _ _,fun p i h=>by omega⟩
  case round =>
    obtain ⟨k,hk,rfl,hb,hS⟩:=hrel
    have HS:=Lib.hid hS
    have HBR:=Lib.hid hb
    clear hS hb k3 k4
    by_cases hlt:k < L
    · obtain ⟨i,hi⟩:∃ i,f.code[k]? = some i:=⟨_,List.getElem?_eq_getElem (by rw [HL.out]; exact hlt)⟩
      obtain ⟨b,o,rfl,hlb,hcs⟩:=(HRD.out.below HBR.out) k i hi
      obtain ⟨x0,x1,x2,x3,x4,x5,x6,x7,x8,x9,x10,x11,x12,x13,x14⟩:=RdI.load hcs
      have hnx:=fun W=>Next_any i k ⟨by omega,by omega⟩ W
      have hbox:=HBR.out.alloc HBR.out.size (Ins.obj i)
      have hnew:=heap_alloc_new wr (Ins.obj i)
      have HI:=Lib.hid hi
      obtain ⟨kd,op,dst,a,b',n,text,r0,r1,r2,r3,r4,r5,to_,els⟩:=i
      simp only at x0 x1 x2 x3 x4 x5 x6 x7 x8 x9 x10 x11 x12 x13 x14
      simp only [Ins.obj] at hbox hnew
      simp only [Ins.agg] at hnx
      have HNX:=Lib.hid hnx
      have HBO:=Lib.hid hbox
      clear hcs hi hnx hbox
      by_cases h8:kd=8
      · subst h8
        have HT:=Lib.hid (Tru.no (fun h:SmallF f=>h.calls _ (List.mem_of_getElem? HI.out) rfl))
        clear hnew
        go_wp2
        go_returns
        exact ⟨HT.out,HB1.out.trans (HBO.out.mono HB1.out.size)⟩
      · have e8 : (kd == 8)=false:=by simp [h8]
        have H8:=Lib.hid h8
        clear hnew
        obtain ⟨nx,hnxe⟩:∃ nx,Ins.next ⟨kd,op,dst,a,b',n,text,r0,r1,r2,r3,r4,r5,to_,els⟩ k=nx:=⟨_,rfl⟩
        rw [hnxe] at HNX
        have HNXE:=Lib.hid hnxe
        clear hnxe
        go_wp2_with fail
        refine (HNX.out _).mono ?_
        rintro e w3 ⟨⟨A,cp,rfl,hrd⟩,hb3⟩
        dsimp only
        obtain ⟨M,hM⟩:∃ M,nx.length=M:=⟨_,rfl⟩
        rw [hM]
        have HM:=Lib.hid hM
        have HRN:=Lib.hid hrd
        have hM2:M≤2:=by
          rw [← hM,← HNXE.out]
          unfold Ins.next
          split
          · simp
          · split
            · simp
            · split <;> simp
        have HB3:=Lib.hid (HBO.out.trans (hb3.mono HBO.out.size))
        clear hM hrd hb3 x0 x1 x2 x3 x4 x5 x6 x7 x8 x9 x10 x11 x12 x13 x14
        go_wp2_with fail
        go_loopw [36] (fun ix wq=>∃ m:Nat,m≤M∧ix = .int .i64 m∧w3=wq∧∀ (j:Nat) n,j < m→nx[j]? = some n→(k:Int) < n) (fun ix _=>M - (intOf ix).toNat)
        case atStart=>exact ⟨0,by omega,rfl,rfl,fun j n h=>by omega⟩
        case round =>
          obtain ⟨m,hm,rfl,hw,hN⟩:=hrel
          subst hw
          have HNN:=Lib.hid hN
          clear hN
          by_cases hmlt:m < M
          · obtain ⟨n',hn'⟩:∃ n,nx[m]? = some n:=⟨_,List.getElem?_eq_getElem (by rw [HM.out]; exact hmlt)⟩
            obtain ⟨b2,o2,rfl,hlb2,hc2⟩:=HRN.out m n' hn'
            have HN':=Lib.hid hn'
            clear hn'
            by_cases hle:n'≤k
            · have q1:decide (n'≤(k:Int))=true:=by simp; exact hle
              have HT:=Lib.hid (Tru.no (fun h:SmallF f=>by
                have:=h.next k _ HI.out n' (by rw [HNXE.out]; exact List.mem_of_getElem? HN'.out)
                omega))
              go_wp2
              go_returns
              exact ⟨HT.out,HB1.out.trans (HB3.out.mono HB1.out.size)⟩
            · have q1:decide (n'≤(k:Int))=false:=by simp; omega
              have q2:(k:Int) < n':=by omega
              have HQ:=Lib.hid q2
              clear q2 hle
              go_wp2
              exact ⟨⟨m + 1,by omega,by go_num,by simp,fun j n hj hjn=>by
                by_cases hjm:j=m
                · subst hjm
                  have:=HN'.out.symm.trans hjn
                  injection this with this
                  rw [← this]
                  exact HQ.out
                · exact HNN.out j n (by omega) hjn⟩,by simp [intOf]; omega⟩
          · obtain rfl:m=M:=by omega
            have HSS:Hid (SmU f.code (k + 1)):=Lib.hid fun p i hp hpi=>by
              by_cases hpk:p=k
              · subst hpk
                have:=HI.out.symm.trans hpi
                injection this with this
                rw [← this]
                refine ⟨H8.out,fun n hn=>?_⟩
                rw [HNXE.out] at hn
                obtain ⟨j,hj⟩:=List.mem_iff_getElem?.1 hn
                exact HNN.out j n (by have:=(List.getElem?_eq_some_iff.1 hj).1; rw [HM.out] at this; exact this) hj
              · exact HS.out p i (by omega) hpi
            go_wp2
            exact ⟨⟨k + 1,by omega,by go_num,HB3.out,HSS.out⟩,by simp [intOf]; omega⟩
    · obtain rfl:k=L:=by omega
      have HT:Hid (SmallF f):=Lib.hid (SmU.all HOK.out HF0.out (by rw [HL.out]; exact H12.out) (by rw [HL.out]; exact HS.out))
      go_wp2
      go_returns
      exact ⟨Tru.yes HT.out,HB1.out.trans (HBR.out.mono HB1.out.size)⟩
set_option maxRecDepth 1000000 in
set_option maxHeartbeats 16000000 in
theorem rsmall_any (f:Fn7) (C:Option Addr) (cap:Nat) (w:World) (hC:RdI w C f.code) :
    Calls Try.prog 41 #[funcAgg f.nm f.ps f.R f.Fr C f.code.length cap] w fun e w'=>Tru (SmallF f) e∧Below w.heap.size w w':=by
  have hB:=Below.one w (funcObj f.nm f.ps f.R f.Fr C f.code.length cap)
  have bx:=heap_alloc_new w (funcObj f.nm f.ps f.R f.Fr C f.code.length cap)
  have hC1:=hC.below hB
  have hrf:=refRightFunc_any f C cap _ hC1
  obtain ⟨W,hW⟩:∃ W,w.alloc (funcObj f.nm f.ps f.R f.Fr C f.code.length cap)=W:=⟨_,rfl⟩
  rw [hW] at hB bx hC1 hrf
  obtain ⟨L,hL⟩:∃ L,f.code.length=L:=⟨_,rfl⟩
  rw [hL] at bx hrf hW ⊢
  simp only [funcObj,funcAgg] at bx hrf hW ⊢
  have g0:=cell_of_heap bx 0 (.string f.nm) rfl
  have g1:=cell_of_heap bx 1 (.int .i64 f.ps) rfl
  have g2:=cell_of_heap bx 2 (.int .i64 f.R) rfl
  have g3:=cell_of_heap bx 3 (.int .i64 f.Fr) rfl
  have g4:=cell_of_heap bx 4 (.slice C L cap) rfl
  have hbl:=(Array.getElem?_eq_some_iff.1 bx).1
  have HB:=Lib.hid hB
  have HBX:=Lib.hid bx
  have HC1:=Lib.hid hC1
  have HL:=Lib.hid hL
  clear hC hB bx hC1 hL
  by_cases hok:OkF f
  case neg =>
    have HT:=Lib.hid (Tru.no (fun h:SmallF f=>hok h.ok))
    have HR:=Lib.hid (hrf.mono fun e w' h=>(⟨tru_no h.1 hok,h.2⟩:e = .returned (.bool false)∧Below W.heap.size W w'))
    clear hrf hok
    go_enter Try.func41,Try.ntmps41
    go_wp2_with fail
    refine HR.out.mono ?_
    rintro e w1 ⟨rfl,hb1⟩
    go_wp2
    go_returns
    exact ⟨HT.out,HB.out.trans (hb1.mono HB.out.size)⟩
  have HR:=Lib.hid (hrf.mono fun e w' h=>(⟨tru_is h.1 hok,h.2⟩:e = .returned (.bool true)∧Below W.heap.size W w'))
  have HOK:=Lib.hid hok
  have hlen:=hok.len
  rw [HL.out] at hlen
  clear hrf
  by_cases hc:f.Fr=0∧L≤12
  case neg =>
    have HT:=Lib.hid (Tru.no (fun h:SmallF f=>hc ⟨h.fr,by rw [← HL.out]; exact h.len⟩))
    have hd:(f.Fr≠0∧(f.Fr == 0)=false∧decide (f.Fr=0)=false)∨(f.Fr=0∧decide ((L:Int) > 12)=true∧decide (12 < L)=true):=by
      by_cases h:f.Fr=0
      · exact Or.inr ⟨h,by simp; omega,by simp; omega⟩
      · exact Or.inl ⟨h,by simp [h],by simp [h]⟩
    obtain ⟨Fr,hFr⟩:∃ Fr,f.Fr=Fr:=⟨_,rfl⟩
    rw [hFr] at g3 hd HBX HR hW ⊢
    have hd:(∃ Fr',Fr=Fr'∧¬ Fr'=0∧(Fr' == 0)=false∧decide (Fr'=0)=false)∨(0=Fr∧decide ((L:Int) > 12)=true∧decide (12 < L)=true):=by
      rcases hd with ⟨h1,h2,h3⟩ | ⟨h1,h2,h3⟩
      · exact Or.inl ⟨Fr,rfl,h1,h2,h3⟩
      · exact Or.inr ⟨h1.symm,h2,h3⟩
    clear hc hok hFr
    rcases hd with ⟨Fr',rfl,d1,d2,d3⟩ | ⟨rfl,d2,d3⟩
    all_goals
      go_enter Try.func41,Try.ntmps41
      go_wp2_with fail
      refine HR.out.mono ?_
      rintro e w1 ⟨rfl,hb1⟩
      have hx1:=(hb1.block _ hbl).trans HBX.out
      have k3:=cell_of_heap hx1 3 _ rfl
      have k4:=cell_of_heap hx1 4 (.slice C L cap) rfl
      clear hx1 g0 g1 g2 g3 g4
      go_wp2
      go_returns
      exact ⟨HT.out,HB.out.trans (hb1.mono HB.out.size)⟩
  obtain ⟨hF0,h12⟩:=hc
  have d0:(f.Fr == 0)=true:=by simp [hF0]
  have d1:decide ((L:Int) > 12)=false:=by simp; omega
  have d2:decide (12 < L)=false:=by simp; omega
  have HF0:=Lib.hid hF0
  have H12:=Lib.hid h12
  clear hok hF0
  go_enter Try.func41,Try.ntmps41
  go_wp2_with fail
  refine HR.out.mono ?_
  rintro e w1 ⟨rfl,hb1⟩
  have hx1:=(hb1.block _ hbl).trans HBX.out
  have k3:=cell_of_heap hx1 3 (.int .i64 f.Fr) rfl
  have k4:=cell_of_heap hx1 4 (.slice C L cap) rfl
  have HB1:=Lib.hid (HB.out.trans (hb1.mono HB.out.size))
  have HRD:=Lib.hid (HC1.out.below hb1)
  clear hx1 g0 g1 g2 g3 g4 hb1 hW
  rw [HF0.out] at k3
  go_wp2_with fail
  go_loopw [24] (fun ix wr=>∃ k:Nat,k≤L∧ix = .int .i64 k∧Below w1.heap.size w1 wr∧SmU f.code k) (fun ix _=>L - (intOf ix).toNat)
  case atStart=>exact ⟨0,by omega,rfl,Below.refl _ _,fun p i h=>by omega⟩
  case round =>
    obtain ⟨k,hk,rfl,hb,hS⟩:=hrel
    have HS:=Lib.hid hS
    have HBR:=Lib.hid hb
    clear hS hb k3 k4
    by_cases hlt:k < L
    · obtain ⟨i,hi⟩:∃ i,f.code[k]? = some i:=⟨_,List.getElem?_eq_getElem (by rw [HL.out]; exact hlt)⟩
      obtain ⟨b,o,rfl,hlb,hcs⟩:=(HRD.out.below HBR.out) k i hi
      obtain ⟨x0,x1,x2,x3,x4,x5,x6,x7,x8,x9,x10,x11,x12,x13,x14⟩:=RdI.load hcs
      have hnx:=fun W=>refNext_any i k ⟨by omega,by omega⟩ W
      have hbox:=HBR.out.alloc HBR.out.size (Ins.obj i)
      have hnew:=heap_alloc_new wr (Ins.obj i)
      have HI:=Lib.hid hi
      obtain ⟨kd,op,dst,a,b',n,text,r0,r1,r2,r3,r4,r5,to_,els⟩:=i
      simp only at x0 x1 x2 x3 x4 x5 x6 x7 x8 x9 x10 x11 x12 x13 x14
      simp only [Ins.obj] at hbox hnew
      simp only [Ins.agg] at hnx
      have HNX:=Lib.hid hnx
      have HBO:=Lib.hid hbox
      clear hcs hi hnx hbox
      by_cases h8:kd=8
      · subst h8
        have HT:=Lib.hid (Tru.no (fun h:SmallF f=>h.calls _ (List.mem_of_getElem? HI.out) rfl))
        clear hnew
        go_wp2
        go_returns
        exact ⟨HT.out,HB1.out.trans (HBO.out.mono HB1.out.size)⟩
      · have e8 : (kd == 8)=false:=by simp [h8]
        have H8:=Lib.hid h8
        clear hnew
        obtain ⟨nx,hnxe⟩:∃ nx,Ins.next ⟨kd,op,dst,a,b',n,text,r0,r1,r2,r3,r4,r5,to_,els⟩ k=nx:=⟨_,rfl⟩
        rw [hnxe] at HNX
        have HNXE:=Lib.hid hnxe
        clear hnxe
        go_wp2_with fail
        refine (HNX.out _).mono ?_
        rintro e w3 ⟨⟨A,cp,rfl,hrd⟩,hb3⟩
        dsimp only
        obtain ⟨M,hM⟩:∃ M,nx.length=M:=⟨_,rfl⟩
        rw [hM]
        have HM:=Lib.hid hM
        have HRN:=Lib.hid hrd
        have hM2:M≤2:=by
          rw [← hM,← HNXE.out]
          unfold Ins.next
          split
          · simp
          · split
            · simp
            · split <;> simp
        have HB3:=Lib.hid (HBO.out.trans (hb3.mono HBO.out.size))
        clear hM hrd hb3 x0 x1 x2 x3 x4 x5 x6 x7 x8 x9 x10 x11 x12 x13 x14
        go_wp2_with fail
        go_loopw [36] (fun ix wq=>∃ m:Nat,m≤M∧ix = .int .i64 m∧w3=wq∧∀ (j:Nat) n,j < m→nx[j]? = some n→(k:Int) < n) (fun ix _=>M - (intOf ix).toNat)
        case atStart=>exact ⟨0,by omega,rfl,rfl,fun j n h=>by omega⟩
        case round =>
          obtain ⟨m,hm,rfl,hw,hN⟩:=hrel
          subst hw
          have HNN:=Lib.hid hN
          clear hN
          by_cases hmlt:m < M
          · obtain ⟨n',hn'⟩:∃ n,nx[m]? = some n:=⟨_,List.getElem?_eq_getElem (by rw [HM.out]; exact hmlt)⟩
            obtain ⟨b2,o2,rfl,hlb2,hc2⟩:=HRN.out m n' hn'
            have HN':=Lib.hid hn'
            clear hn'
            by_cases hle:n'≤k
            · have q1:decide (n'≤(k:Int))=true:=by simp; exact hle
              have HT:=Lib.hid (Tru.no (fun h:SmallF f=>by
                have:=h.next k _ HI.out n' (by rw [HNXE.out]; exact List.mem_of_getElem? HN'.out)
                omega))
              go_wp2
              go_returns
              exact ⟨HT.out,HB1.out.trans (HB3.out.mono HB1.out.size)⟩
            · have q1:decide (n'≤(k:Int))=false:=by simp; omega
              have q2:(k:Int) < n':=by omega
              have HQ:=Lib.hid q2
              clear q2 hle
              go_wp2
              exact ⟨⟨m + 1,by omega,by go_num,by simp,fun j n hj hjn=>by
                by_cases hjm:j=m
                · subst hjm
                  have:=HN'.out.symm.trans hjn
                  injection this with this
                  rw [← this]
                  exact HQ.out
                · exact HNN.out j n (by omega) hjn⟩,by simp [intOf]; omega⟩
          · obtain rfl:m=M:=by omega
            have HSS:Hid (SmU f.code (k + 1)):=Lib.hid fun p i hp hpi=>by
              by_cases hpk:p=k
              · subst hpk
                have:=HI.out.symm.trans hpi
                injection this with this
                rw [← this]
                refine ⟨H8.out,fun n hn=>?_⟩
                rw [HNXE.out] at hn
                obtain ⟨j,hj⟩:=List.mem_iff_getElem?.1 hn
                exact HNN.out j n (by have:=(List.getElem?_eq_some_iff.1 hj).1; rw [HM.out] at this; exact this) hj
              · exact HS.out p i (by omega) hpi
            go_wp2
            exact ⟨⟨k + 1,by omega,by go_num,HB3.out,HSS.out⟩,by simp [intOf]; omega⟩
    · obtain rfl:k=L:=by omega
      have HT:Hid (SmallF f):=Lib.hid (SmU.all HOK.out HF0.out (by rw [HL.out]; exact H12.out) (by rw [HL.out]; exact HS.out))
      go_wp2
      go_returns
      exact ⟨Tru.yes HT.out,HB1.out.trans (HBR.out.mono HB1.out.size)⟩
end Go.Proofs.Ytkcclefonmnpnaa

