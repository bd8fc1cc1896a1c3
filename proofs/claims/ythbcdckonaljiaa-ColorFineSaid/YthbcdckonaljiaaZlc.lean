import Derived.Test.YthbcdckonaljiaaZe1
namespace Go.Proofs.Ythbcdckonaljiaa
open Go.RowKit Go.BigFrame
def Sm (f:Fn7):Prop:=f.nm.size≤50∧f.code.length≤60∧¬ (40 < f.R∧f.R≤4096)∧∀ i ∈ f.code,i.text.size≤50
theorem Tru.yes {p:Prop}(h:p):Tru p (.returned (.bool true)):=⟨true,rfl,by simp [h]⟩
set_option maxRecDepth 1000000 in
set_option maxHeartbeats 8000000 in
theorem Small_any (f:Fn7) (C:Option Addr) (cap:Nat) (hl9:f.code.length≤9223372036854775807) (w:World) (hC:RdI w C f.code):Calls Try.prog 36 #[funcAgg f.nm f.ps f.R f.Fr C f.code.length cap] w fun e w'=>Tru (Sm f) e∧Below w.heap.size w w':=by
  obtain ⟨nm,ps,R,Fr,l⟩:=f
  obtain ⟨L,hL⟩:∃ L,l.length=L:=⟨_,rfl⟩
  simp only at hC hl9 ⊢
  rw [hL] at hl9 ⊢
  have HL:=Lib.hid hL
  clear hL
  have hB:=Below.one w (funcObj nm ps R Fr C L cap)
  have bx:=heap_alloc_new w (funcObj nm ps R Fr C L cap)
  simp only [funcObj,funcAgg] at hB bx ⊢
  by_cases hc:nm.size≤50∧L≤60∧¬ (40 < R∧R≤4096)
  case neg =>
    have HT:=Lib.hid (Tru.no (fun h:Sm ⟨nm,ps,R,Fr,l⟩=>by
      obtain ⟨h1,h2,h3,_⟩:=h
      simp only at h1 h2 h3
      rw [HL.out] at h2
      exact hc ⟨h1,h2,h3⟩))
    have hd:(decide ((nm.size:Int) > 50)=true∧decide (50 < nm.size)=true)∨(decide ((nm.size:Int) > 50)=false∧decide (50 < nm.size)=false∧decide ((L:Int) > 60)=true∧decide (60 < L)=true)∨(decide ((nm.size:Int) > 50)=false∧decide (50 < nm.size)=false∧decide ((L:Int) > 60)=false∧decide (60 < L)=false∧decide (R > 40)=true∧decide (40 < R)=true∧decide (R≤4096)=true):=by
      simp; omega
    clear hc
    rcases hd with ⟨c0,c1⟩ | ⟨c0,c1,c2,c3⟩ | ⟨c0,c1,c2,c3,c4,c5,c6⟩
    all_goals
      go_enter Try.func36,Try.ntmps36
      go_wp2
      go_returns
      exact ⟨HT.out,hB⟩
  have k0:decide ((nm.size:Int) > 50)=false:=by simp; omega
  have k1:decide (50 < nm.size)=false:=by simp; omega
  have k2:decide ((L:Int) > 60)=false:=by simp; omega
  have k3:decide (60 < L)=false:=by simp; omega
  have hL60:L≤60:=by omega
  have HCC:=Lib.hid hc
  have hd:(decide (R > 40)=false∧decide (40 < R)=false)∨(decide (R > 40)=true∧decide (40 < R)=true∧decide (R≤4096)=false):=by simp; omega
  clear hc
  obtain ⟨W,hW⟩:∃ W,w.alloc (.cells #[.string nm,.int .i64 ps,.int .i64 R,.int .i64 Fr,.slice C L cap] 26)=W:=⟨_,rfl⟩
  have g0:=cell_of_heap bx 0 (.string nm) rfl
  have g1:=cell_of_heap bx 1 (.int .i64 ps) rfl
  have g2:=cell_of_heap bx 2 (.int .i64 R) rfl
  have g4:=cell_of_heap bx 4 (.slice C L cap) rfl
  rw [hW] at bx hB g0 g1 g2 g4
  rcases hd with ⟨c4,c5⟩ | ⟨c4,c5,c6⟩
  all_goals
    go_enter Try.func36,Try.ntmps36
    go_wp2
    clear hW
    go_loopw [28] (fun ix w8=>∃ m:Nat,m≤L∧ix = .int .i64 m∧Below W.heap.size W w8∧∀ (j:Nat) (i:Ins),j < m→l[j]? = some i→i.text.size≤50) (fun ix _=>L - (intOf ix).toNat)
    case atStart=>exact ⟨0,by omega,rfl,Below.refl _ _,fun j i hj=>by omega⟩
    case round =>
      obtain ⟨m,hm,rfl,hb,hno⟩:=hrel
      have hBw:=hB.trans (hb.mono hB.size)
      by_cases hlt:m < L
      · have hi:l[m]? = some (l[m]'(by rw [HL.out]; exact hlt)):=by simp
        generalize l[m]'(by rw [HL.out]; exact hlt)=i at hi
        obtain ⟨b,o,rfl,_,hcs⟩:=(hC.below hBw) m i hi
        obtain ⟨x0,x1,x2,x3,x4,x5,x6,x7,x8,x9,x10,x11,x12,x13,x14⟩:=RdI.load hcs
        obtain ⟨k,op,dst,a,b',n,text,r0,r1,r2,r3,r4,r5,to_,els⟩:=i
        simp only at x0 x1 x2 x3 x4 x5 x6 x7 x8 x9 x10 x11 x12 x13 x14
        clear hcs
        have hlb:b < wr.heap.size:=World.block_lt_of_cell? wr ⟨b,_,none⟩ x0
        have hbox:=hb.alloc hb.size (Ins.obj ⟨k,op,dst,a,b',n,text,r0,r1,r2,r3,r4,r5,to_,els⟩)
        simp only [Ins.obj] at hbox
        have hno2:=Lib.hid hno
        clear hno
        by_cases ht:text.size≤50
        · have t0:decide ((text.size:Int) > 50)=false:=by simp; omega
          have t1:decide (50 < text.size)=false:=by simp; omega
          have HTX:=Lib.hid ht
          clear ht
          go_wp2
          exact ⟨⟨m + 1,by omega,by simp,hbox,fun j i' hj hi'=>by
            by_cases hjm:j=m
            · subst hjm
              rw [hi] at hi'
              injection hi' with hi'
              subst hi'
              exact HTX.out
            · exact hno2.out j i' (by omega) hi'⟩,by simp [intOf]; omega⟩
        · have t0:decide ((text.size:Int) > 50)=true:=by simp; omega
          have t1:decide (50 < text.size)=true:=by simp; omega
          have HTX:=Lib.hid ht
          clear ht
          go_wp2
          go_returns
          exact ⟨Tru.no (fun h:Sm ⟨nm,ps,R,Fr,l⟩=>HTX.out (h.2.2.2 _ (List.mem_of_getElem? hi))),hB.trans (hbox.mono hB.size)⟩
      · have HS:Hid (Sm ⟨nm,ps,R,Fr,l⟩):=Lib.hid ⟨HCC.out.1,by simp only; rw [HL.out]; exact HCC.out.2.1,HCC.out.2.2,fun i hi=>by
          obtain ⟨j,hj⟩:=List.mem_iff_getElem?.1 hi
          exact hno j i (by have h1:=(List.getElem?_eq_some_iff.1 hj).1; simp only at h1; rw [HL.out] at h1; omega) hj⟩
        clear hno
        go_wp2
        go_returns
        exact ⟨Tru.yes HS.out,hBw⟩
end Go.Proofs.Ythbcdckonaljiaa

