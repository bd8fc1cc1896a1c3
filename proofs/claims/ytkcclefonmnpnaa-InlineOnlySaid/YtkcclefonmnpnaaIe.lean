import Derived.Test.YtkcclefonmnpnaaZf
import Derived.Test.YtkcclefonmnpnaaId
namespace Go.Proofs.Ytkcclefonmnpnaa
open Go.RowKit Go.BigFrame
set_option maxRecDepth 1000000 in
set_option maxHeartbeats 16000000 in
theorem Right7_any (u : Un7) (F G:Option Addr) (cF cG:Nat) (w:World) (h:RdU w F G u) (hlf:u.funcs.length≤100000) (hlg:u.globs.length≤100000) :
    Calls Try.prog 70 #[unAgg u F G cF cG] w fun e w'=>Tru (OkU u) e∧Below w.heap.size w w':=by
  have hB:=Below.one w (unObj u F G cF cG)
  have bx:=heap_alloc_new w (unObj u F G cF cG)
  have h1:=h.below hB
  have hfi:=fun nm W h=>Find7_any u F G cF cG nm hlf W h
  obtain ⟨W,hW⟩:∃ W,w.alloc (unObj u F G cF cG)=W:=⟨_,rfl⟩
  rw [hW] at hB bx h1
  obtain ⟨N,hN⟩:∃ N,u.funcs.length=N:=⟨_,rfl⟩
  obtain ⟨M,hM⟩:∃ M,u.globs.length=M:=⟨_,rfl⟩
  simp only [unObj,unAgg] at bx hW hfi ⊢
  rw [hN,hM] at bx hW ⊢
  rw [hN] at hlf
  rw [hM] at hlg
  simp only [hN,hM] at hfi
  have HFI:=Lib.hid hfi
  have HB:=Lib.hid hB
  have H1:=Lib.hid h1
  have HN:=Lib.hid hN
  have HM:=Lib.hid hM
  have HBX:=Lib.hid bx
  have hbl:=(Array.getElem?_eq_some_iff.1 bx).1
  have g0:=cell_of_heap bx 0 (.slice F N cF) rfl
  have g1:=cell_of_heap bx 1 (.slice G M cG) rfl
  have g2:=cell_of_heap bx 2 (.int .i64 u.top) rfl
  clear h hB h1 hN hM bx hfi
  by_cases c1:N≤64
  case neg =>
    have HT:=Lib.hid (Tru.no (fun hU:OkU u=>c1 (by rw [← HN.out]; exact hU.len)))
    have q1:decide ((N:Int) > 64)=true:=by simp; omega
    have q2:decide ((64:Int) < N)=true:=by simp; omega
    go_enter Try.func70,Try.ntmps70
    go_wp2
    go_returns
    exact ⟨HT.out,HB.out⟩
  have q1:decide ((N:Int) > 64)=false:=by simp; omega
  have q2:decide ((64:Int) < N)=false:=by simp; omega
  by_cases c2:1≤u.top
  case neg =>
    have HT:=Lib.hid (Tru.no (fun hU:OkU u=>c2 hU.top.1))
    have q3:decide (u.top < 1)=true:=by simp; omega
    go_enter Try.func70,Try.ntmps70
    go_wp2
    go_returns
    exact ⟨HT.out,HB.out⟩
  have q3:decide (u.top < 1)=false:=by simp; omega
  by_cases c3:u.top≤4096
  case neg =>
    have HT:=Lib.hid (Tru.no (fun hU:OkU u=>c3 hU.top.2))
    have q4:decide (u.top > 4096)=true:=by simp; omega
    have q5:decide (4096 < u.top)=true:=by simp; omega
    go_enter Try.func70,Try.ntmps70
    go_wp2
    go_returns
    exact ⟨HT.out,HB.out⟩
  have q4:decide (u.top > 4096)=false:=by simp; omega
  have q5:decide (4096 < u.top)=false:=by simp; omega
  go_enter Try.func70,Try.ntmps70
  go_wp2
  clear g0 g1 g2
  go_loopw [27] (fun ix wr=>∃ m:Nat,m≤M∧ix = .int .i64 m∧Below W.heap.size W wr∧∀ (j:Nat) g,j < m→u.globs[j]? = some g→OkG u.top g) (fun ix _=>M - (intOf ix).toNat)
  case atStart=>exact ⟨0,by omega,rfl,Below.refl _ _,fun j g hj=>by omega⟩
  case round =>
    obtain ⟨m,hm,rfl,hb,hG⟩:=hrel
    have hx:=(hb.block _ hbl).trans HBX.out
    have g0:=cell_of_heap hx 0 (.slice F N cF) rfl
    have g1:=cell_of_heap hx 1 (.slice G M cG) rfl
    have g2:=cell_of_heap hx 2 (.int .i64 u.top) rfl
    have HBB:=Lib.hid hb
    have HGG:=Lib.hid hG
    have HX:=Lib.hid hx
    have hbr:=(Array.getElem?_eq_some_iff.1 hx).1
    clear hb hG hx
    by_cases hltm:m < M
    · obtain ⟨g,hg⟩:∃ g,u.globs[m]? = some g:=⟨_,List.getElem?_eq_getElem (by rw [HM.out]; exact hltm)⟩
      have hmem:=List.mem_of_getElem? hg
      obtain ⟨b,o,rfl,hbl2,hcs⟩:=(H1.out.gs.below HBB.out) m g hg
      obtain ⟨x0,x1,x2,x3⟩:=gl_cells hcs
      have HGM:=Lib.hid hg
      have HMEM:=Lib.hid hmem
      have hB1:=Below.one wr (.cells #[.string g.nm,.int .i64 g.at_,.int .i64 g.size,.int .i64 g.init] 81)
      have HB1:=Lib.hid (HBB.out.trans (hB1.mono HBB.out.size))
      have hiw:=fun W=>is_any g.init W
      clear hcs hg hmem hB1
      obtain ⟨nm,at_,size,init⟩:=g
      simp only at x0 x1 x2 x3 hiw HB1
      by_cases d1:1≤at_
      case neg =>
        have HT:=Lib.hid (Tru.no (fun hU:OkU u=>d1 (hU.gl _ HMEM.out).1))
        have p1:decide (at_ < 1)=true:=by simp; omega
        go_wp2
        go_returns
        exact ⟨HT.out,HB.out.trans (HB1.out.mono HB.out.size)⟩
      have p1:decide (at_ < 1)=false:=by simp; omega
      by_cases d2:0≤size
      case neg =>
        have HT:=Lib.hid (Tru.no (fun hU:OkU u=>d2 (hU.gl _ HMEM.out).2.1))
        have p2:decide (size < 0)=true:=by simp; omega
        go_wp2
        go_returns
        exact ⟨HT.out,HB.out.trans (HB1.out.mono HB.out.size)⟩
      have p2:decide (size < 0)=false:=by simp; omega
      by_cases d4:size≤u.top
      case neg =>
        have HT:=Lib.hid (Tru.no (fun hU:OkU u=>d4 (hU.gl _ HMEM.out).2.2.2.1))
        have p4:decide (u.top < size)=true:=by simp; omega
        have p4':decide (size > u.top)=true:=by simp; omega
        go_wp2
        go_returns
        exact ⟨HT.out,HB.out.trans (HB1.out.mono HB.out.size)⟩
      have p4:decide (u.top < size)=false:=by simp; omega
      have p4':decide (size > u.top)=false:=by simp; omega
      have hw64:wrap64 (u.top - size)=u.top - size:=by unfold wrap64; omega
      by_cases d5:at_≤u.top - size
      case neg =>
        have HT:=Lib.hid (Tru.no (fun hU:OkU u=>d5 (by have:=(hU.gl _ HMEM.out).2.2.2.2.1; simp only at this; omega)))
        have p5:decide (u.top - size < at_)=true:=by simp; omega
        have p5':decide (at_ > u.top - size)=true:=by simp; omega
        go_wp2
        go_returns
        exact ⟨HT.out,HB.out.trans (HB1.out.mono HB.out.size)⟩
      have p5:decide (u.top - size < at_)=false:=by simp; omega
      have p5':decide (at_ > u.top - size)=false:=by simp; omega
      by_cases d6:-2147483648≤init∧init≤2147483647
      case neg =>
        have HT:=Lib.hid (Tru.no (fun hU:OkU u=>d6 (hU.gl _ HMEM.out).2.2.2.2.2))
        rw [decide_eq_false d6] at hiw
        clear d6
        go_wp2_with (first
          | (go_at_call 89; refine (hiw _).mono ?_; rintro e w3 ⟨rfl,hw3⟩; subst hw3))
        go_returns
        exact ⟨HT.out,HB.out.trans (HB1.out.mono HB.out.size)⟩
      have HOG:Hid (OkG u.top ⟨nm,at_,size,init⟩):=Lib.hid ⟨d1,d2,by simp only; omega,d4,by simp only; omega,d6⟩
      rw [decide_eq_true d6] at hiw
      clear d6
      go_wp2_with (first
        | (go_at_call 89; refine (hiw _).mono ?_; rintro e w3 ⟨rfl,hw3⟩; subst hw3))
      exact ⟨⟨m + 1,by omega,by go_num,HB1.out,fun j g' hj hg'=>by
        by_cases hjk:j=m
        · subst hjk
          have:=HGM.out.symm.trans hg'
          injection this with this
          rw [← this]
          exact HOG.out
        · exact HGG.out j g' (by omega) hg'⟩,by simp [intOf]; omega⟩
    · have HGL : Hid (∀ g ∈ u.globs,OkG u.top g):=Lib.hid (fun g hg=>by
        obtain ⟨j,hj⟩:=List.mem_iff_getElem?.1 hg
        exact HGG.out j g (by have h1:=(List.getElem?_eq_some_iff.1 hj).1; rw [HM.out] at h1; omega) hj)
      obtain rfl:m=M:=by omega
      go_wp2
      obtain ⟨W2,hW2⟩:∃ W2,W2=wr:=⟨_,rfl⟩
      subst hW2
      clear g0 g1 g2 HGG HX hbr
      go_loopw [66] (fun ix wr=>∃ k:Nat,k≤N∧ix = .int .i64 k∧Below W.heap.size W wr∧RiL u k) (fun ix _=>N - (intOf ix).toNat)
      case atStart=>exact ⟨0,by omega,rfl,HBB.out,fun j f hj=>by omega⟩
      case round =>
        obtain ⟨k,hk,rfl,hb,hR⟩:=hrel
        have hx:=(hb.block _ hbl).trans HBX.out
        have g0:=cell_of_heap hx 0 (.slice F N cF) rfl
        have HBR:=Lib.hid hb
        have HRI:=Lib.hid hR
        have HX:=Lib.hid hx
        have hbr:=(Array.getElem?_eq_some_iff.1 hx).1
        have hsr:=hb.size
        clear hb hR hx
        by_cases hlt:k < N
        · obtain ⟨f,hf⟩:∃ f,u.funcs[k]? = some f:=⟨_,List.getElem?_eq_getElem (by rw [HN.out]; exact hlt)⟩
          have hmem:=List.mem_of_getElem? hf
          obtain ⟨b,o,C,cap,rfl,hbl2,hcs,hrI⟩:=(H1.out.fs.below HBR.out) k f hf
          obtain ⟨x0,x1,x2,x3,x4⟩:=fn_cells hcs
          have hB1:=Below.one wr (funcObj f.nm f.ps f.R f.Fr C f.code.length cap)
          have hk1:=heap_alloc_new wr (funcObj f.nm f.ps f.R f.Fr C f.code.length cap)
          have hx1:=(hB1.block _ hbr).trans HX.out
          have HC1:=Lib.hid (hrI.below hB1)
          have hrr:=RightFunc_any f C cap _ HC1.out
          obtain ⟨W3,hW3⟩:∃ W3,wr.alloc (funcObj f.nm f.ps f.R f.Fr C f.code.length cap)=W3:=⟨_,rfl⟩
          rw [hW3] at hB1 hk1 hx1 HC1 hrr
          have HFK:=Lib.hid hf
          have HMEM:=Lib.hid hmem
          obtain ⟨L,hL⟩:∃ L,f.code.length=L:=⟨_,rfl⟩
          simp only [funcObj,funcAgg] at hk1 hrr hW3
          rw [hL] at x4 hk1 hrr hW3
          have k0:=cell_of_heap hk1 0 (.string f.nm) rfl
          have k1:=cell_of_heap hk1 1 (.int .i64 f.ps) rfl
          have k2:=cell_of_heap hk1 2 (.int .i64 f.R) rfl
          have k3:=cell_of_heap hk1 3 (.int .i64 f.Fr) rfl
          have k4:=cell_of_heap hk1 4 (.slice C L cap) rfl
          have HRR:=Lib.hid hrr
          have HK1:=Lib.hid hk1
          have HX1:=Lib.hid hx1
          have HB1:=Lib.hid (HBR.out.trans (hB1.mono hsr))
          have HL:=Lib.hid hL
          clear hf hmem hcs hrI hB1 hk1 hx1 hrr hL
          go_wp2_with fail
          refine HRR.out.mono ?_
          rintro e w4 ⟨⟨bb,rfl,hbb⟩,hb4⟩
          have hk4:=(hb4.block _ (Array.getElem?_eq_some_iff.1 HK1.out).1).trans HK1.out
          have hx4:=(hb4.block _ (Array.getElem?_eq_some_iff.1 HX1.out).1).trans HX1.out
          have HB4:=Lib.hid (HB1.out.trans (hb4.mono HB1.out.size))
          have HC4:=Lib.hid (HC1.out.below hb4)
          have HK4:=Lib.hid hk4
          have HX4:=Lib.hid hx4
          have l0:=cell_of_heap hk4 0 (.string f.nm) rfl
          have m0:=cell_of_heap hx4 0 (.slice (some ⟨b,o,none⟩) N cF) rfl
          have m1:=cell_of_heap hx4 1 (.slice G m cG) rfl
          have m2:=cell_of_heap hx4 2 (.int .i64 u.top) rfl
          have HBO:=Lib.hid hbb
          clear hbb hb4 hk4 hx4 k0 k1 k2 k3 k4 x0 x1 x2 x3 x4 g0 hW3
          cases bb with
          | false =>
            have HT:=Lib.hid (Tru.no (fun hU:OkU u=>absurd (HBO.out.2 (hU.ok f HMEM.out)) (by decide)))
            go_wp2
            go_returns
            exact ⟨HT.out,HB.out.trans (HB4.out.mono HB.out.size)⟩
          | true =>
            have HOF:=Lib.hid (HBO.out.1 rfl)
            have hL8:L≤8192:=by rw [← HL.out]; exact HOF.out.len.2
            go_wp2_with fail
            refine (HFI.out f.nm _ (H1.out.fs.below HB4.out)).mono ?_
            rintro e w5 ⟨rfl,hb5⟩
            have hk5:=(hb5.block _ (Array.getElem?_eq_some_iff.1 HK4.out).1).trans HK4.out
            have hx5:=(hb5.block _ (Array.getElem?_eq_some_iff.1 HX4.out).1).trans HX4.out
            have HK5:=Lib.hid hk5
            have l5:=cell_of_heap hk5 4 (.slice C L cap) rfl
            have HX5:=Lib.hid hx5
            have HB5:=Lib.hid (HB4.out.trans (hb5.mono HB4.out.size))
            have HC5:=Lib.hid (HC4.out.below hb5)
            clear hb5 hk5 hx5 l0 m0 m1 m2 HBO
            by_cases hfk:findI u.funcs f.nm=k
            case neg =>
              have HT:=Lib.hid (Tru.no (fun hU:OkU u=>hfk (findI_eq.2 (hU.one k f HFK.out))))
              have q:decide (findI u.funcs f.nm=(k:Int))=false:=decide_eq_false hfk
              have q2:(findI u.funcs f.nm != (k:Int))=true:=by simpa using hfk
              clear hfk
              go_wp2
              go_returns
              exact ⟨HT.out,HB.out.trans (HB5.out.mono HB.out.size)⟩
            rw [hfk]
            have HFU:=Lib.hid (findI_eq.1 hfk)
            clear hfk
            go_wp2
            clear l5
            go_loopw [85] (fun ix wr=>∃ n:Nat,n≤L∧ix = .int .i64 n∧Below w5.heap.size w5 wr∧∀ (j:Nat) i,j < n→f.code[j]? = some i→CalO u.funcs i) (fun ix _=>L - (intOf ix).toNat)
            case atStart=>exact ⟨0,by omega,rfl,Below.refl _ _,fun j i hj=>by omega⟩
            case round =>
              obtain ⟨n,hn,rfl,hbq,hC⟩:=hrel
              have hkq:=(hbq.block _ (Array.getElem?_eq_some_iff.1 HK5.out).1).trans HK5.out
              have hxq:=(hbq.block _ (Array.getElem?_eq_some_iff.1 HX5.out).1).trans HX5.out
              have l4:=cell_of_heap hkq 4 (.slice C L cap) rfl
              have m0:=cell_of_heap hxq 0 (.slice (some ⟨b,o,none⟩) N cF) rfl
              have m1:=cell_of_heap hxq 1 (.slice G m cG) rfl
              have m2:=cell_of_heap hxq 2 (.int .i64 u.top) rfl
              have HBQ:=Lib.hid (HB5.out.trans (hbq.mono HB5.out.size))
              have HBQ5:=Lib.hid hbq
              have HCQ:=Lib.hid (HC5.out.below hbq)
              have HCC:=Lib.hid hC
              have HKQ:=Lib.hid hkq
              have HXQ:=Lib.hid hxq
              clear hbq hC hkq hxq
              by_cases hltn:n < L
              · obtain ⟨i,hi⟩:∃ i,f.code[n]? = some i:=⟨_,List.getElem?_eq_getElem (by rw [HL.out]; exact hltn)⟩
                obtain ⟨bc,oc,rfl,hbl3,hci⟩:=HCQ.out n i hi
                obtain ⟨y0,y1,y2,y3,y4,y5,y6,y7,y8,y9,y10,y11,y12,y13,y14⟩:=RdI.load hci
                have HII:=Lib.hid hi
                have HIM:=Lib.hid (List.mem_of_getElem? hi)
                obtain ⟨kd,op,dst,a,b',n',text,r0,r1,r2,r3,r4,r5,to_,els⟩:=i
                simp only at y0 y1 y2 y3 y4 y5 y6 y7 y8 y9 y10 y11 y12 y13 y14
                have hbx:=Below.one wr (.cells #[.int .i64 kd,.int .i64 op,.int .i64 dst,.int .i64 a,.int .i64 b',.int .i64 n',.string text,.int .i64 r0,.int .i64 r1,.int .i64 r2,.int .i64 r3,.int .i64 r4,.int .i64 r5,.int .i64 to_,.int .i64 els] 32)
                have hnw:=heap_alloc_new wr (.cells #[.int .i64 kd,.int .i64 op,.int .i64 dst,.int .i64 a,.int .i64 b',.int .i64 n',.string text,.int .i64 r0,.int .i64 r1,.int .i64 r2,.int .i64 r3,.int .i64 r4,.int .i64 r5,.int .i64 to_,.int .i64 els] 32)
                have HNW:=Lib.hid hnw
                have HBX6:=Lib.hid (HBQ.out.trans (hbx.mono HBQ.out.size))
                have HBX5:=Lib.hid (HBQ5.out.trans (hbx.mono HBQ5.out.size))
                have HKX:=Lib.hid ((hbx.block _ (Array.getElem?_eq_some_iff.1 HKQ.out).1).trans HKQ.out)
                have HXX:=Lib.hid ((hbx.block _ (Array.getElem?_eq_some_iff.1 HXQ.out).1).trans HXQ.out)
                clear hi hci hbx hnw
                by_cases hk8:kd=8
                case neg =>
                  have q:decide (kd=8)=false:=decide_eq_false hk8
                  have q':(kd == 8)=false:=by simpa using hk8
                  have q2:(kd != 8)=true:=by simpa using hk8
                  have HOC:Hid (CalO u.funcs ⟨kd,op,dst,a,b',n',text,r0,r1,r2,r3,r4,r5,to_,els⟩):=Lib.hid (fun h=>absurd h hk8)
                  go_wp2
                  exact ⟨⟨n + 1,by omega,by go_num,HBX5.out,fun j i' hj hi'=>by
                    by_cases hjk:j=n
                    · subst hjk
                      have:=HII.out.symm.trans hi'
                      injection this with this
                      rw [← this]
                      exact HOC.out
                    · exact HCC.out j i' (by omega) hi'⟩,by simp [intOf]; omega⟩
                subst hk8
                obtain ⟨W6,hW6⟩:∃ W6,wr.alloc (.cells #[.int .i64 8,.int .i64 op,.int .i64 dst,.int .i64 a,.int .i64 b',.int .i64 n',.string text,.int .i64 r0,.int .i64 r1,.int .i64 r2,.int .i64 r3,.int .i64 r4,.int .i64 r5,.int .i64 to_,.int .i64 els] 32)=W6:=⟨_,rfl⟩
                rw [hW6] at HNW HBX6 HBX5 HKX HXX
                have n0:=cell_of_heap HNW.out 0 (.int .i64 8) rfl
                have n6:=cell_of_heap HNW.out 6 (.string text) rfl
                have m0':=cell_of_heap HXX.out 0 (.slice (some ⟨b,o,none⟩) N cF) rfl
                have m1':=cell_of_heap HXX.out 1 (.slice G m cG) rfl
                have m2':=cell_of_heap HXX.out 2 (.int .i64 u.top) rfl
                go_upto_region 17 with fail
                clear y0 y1 y2 y3 y4 y5 y6 y7 y8 y9 y10 y11 y12 y13 y14 l4 m0 m1 m2 hW6
                go_wp2_with fail
                refine (HFI.out text _ (H1.out.fs.below HBX6.out)).mono ?_
                rintro e w7 ⟨rfl,hb7⟩
                dsimp only
                have hn7:=(hb7.block _ (Array.getElem?_eq_some_iff.1 HNW.out).1).trans HNW.out
                have hx7:=(hb7.block _ (Array.getElem?_eq_some_iff.1 HXX.out).1).trans HXX.out
                have v0:=cell_of_heap hx7 0 (.slice (some ⟨b,o,none⟩) N cF) rfl
                have y5:=cell_of_heap hn7 5 (.int .i64 n') rfl
                have HB7:=Lib.hid (HBX6.out.trans (hb7.mono HBX6.out.size))
                have HB75:=Lib.hid (HBX5.out.trans (hb7.mono HBX5.out.size))
                have HIM:Hid (Ins.mk 8 op dst a b' n' text r0 r1 r2 r3 r4 r5 to_ els ∈ f.code):=HIM
                clear n0 n6 m0' m1' m2' hb7 hn7 hx7
                cases hfu:findU u.funcs text with
                | none =>
                  have hfi:=findI_none hfu
                  rw [hfi]
                  have HT:=Lib.hid (Tru.no (fun hU:OkU u=>by
                    obtain ⟨k',g',h1,_⟩:=hU.calls f HMEM.out _ HIM.out rfl
                    rw [hfu] at h1
                    cases h1))
                  clear hfi hfu
                  go_wp2
                  go_quiet (fail)
                  go_wp2
                  go_returns
                  exact ⟨HT.out,HB.out.trans (Below.mono ⟨HB7.out.os,HB7.out.tape,HB7.out.output,HB7.out.size,HB7.out.block⟩ HB.out.size)⟩
                | some k' =>
                  have hfi:=findI_some hfu
                  rw [hfi]
                  obtain ⟨g,hg,hgn⟩:=findU_lt hfu
                  have hk'N:k' < N:=by rw [← HN.out]; exact (List.getElem?_eq_some_iff.1 hg).1
                  obtain ⟨b',o',C',cap',hF',hbl4,hcs',_⟩:=(H1.out.fs.below HB7.out) k' g hg
                  injection hF' with hF'
                  injection hF' with h1 h2
                  subst h1 h2
                  have u1:=(fn_cells hcs').2.1
                  have HFU':=Lib.hid hfu
                  have HG':=Lib.hid hg
                  clear hfi hfu hcs' hg hgn
                  by_cases hps:g.ps=n'
                  · have q:decide (g.ps=n')=true:=decide_eq_true hps
                    have HOC:Hid (CalO u.funcs ⟨8,op,dst,a,b',n',text,r0,r1,r2,r3,r4,r5,to_,els⟩):=Lib.hid (fun _=>⟨k',g,HFU'.out,HG'.out,hps⟩)
                    rw [hps] at u1
                    clear hps q
                    go_wp2
                    go_quiet (fail)
                    go_wp2
                    exact ⟨⟨n + 1,by omega,by go_num,⟨HB75.out.os,HB75.out.tape,HB75.out.output,HB75.out.size,HB75.out.block⟩,fun j i' hj hi'=>by
                      by_cases hjk:j=n
                      · subst hjk
                        have:=HII.out.symm.trans hi'
                        injection this with this
                        rw [← this]
                        exact HOC.out
                      · exact HCC.out j i' (by omega) hi'⟩,by simp [intOf]; omega⟩
                  · have q:decide (g.ps=n')=false:=decide_eq_false hps
                    have q2:(g.ps != n')=true:=by simpa using hps
                    have HT:=Lib.hid (Tru.no (fun hU:OkU u=>by
                      obtain ⟨k2,g2,h1,h2,h3⟩:=hU.calls f HMEM.out _ HIM.out rfl
                      rw [HFU'.out] at h1
                      injection h1 with h1
                      subst h1
                      rw [HG'.out] at h2
                      injection h2 with h2
                      subst h2
                      exact hps h3))
                    clear hps
                    go_wp2
                    go_quiet (fail)
                    go_wp2
                    go_returns
                    exact ⟨HT.out,HB.out.trans (Below.mono ⟨HB7.out.os,HB7.out.tape,HB7.out.output,HB7.out.size,HB7.out.block⟩ HB.out.size)⟩
              · have HALL:Hid (∀ i ∈ f.code,CalO u.funcs i):=Lib.hid (fun i hi=>by
                  obtain ⟨j,hj⟩:=List.mem_iff_getElem?.1 hi
                  exact HCC.out j i (by have h1:=(List.getElem?_eq_some_iff.1 hj).1; rw [HL.out] at h1; omega) hj)
                obtain rfl:n=L:=by omega
                clear HCC
                go_wp2
                exact ⟨⟨k + 1,by omega,by go_num,HBQ.out,fun j f' hj hf'=>by
                  by_cases hjk:j=k
                  · subst hjk
                    have:=HFK.out.symm.trans hf'
                    injection this with this
                    rw [← this]
                    exact ⟨HOF.out,HFU.out,HALL.out⟩
                  · exact HRI.out j f' (by omega) hf'⟩,by simp [intOf]; omega⟩
        · obtain rfl:k=N:=by omega
          have HT:Hid (Tru (OkU u) (.returned (.bool true))):=Lib.hid (Tru.yes ⟨by rw [HN.out]; exact c1,⟨c2,c3⟩,HGL.out,
            fun f hf=>by
              obtain ⟨j,hj⟩:=List.mem_iff_getElem?.1 hf
              exact (HRI.out j f (by have h1:=(List.getElem?_eq_some_iff.1 hj).1; rw [HN.out] at h1; omega) hj).1,
            fun j f hj=>(HRI.out j f (by have h1:=(List.getElem?_eq_some_iff.1 hj).1; rw [HN.out] at h1; omega) hj).2.1,
            fun f hf=>by
              obtain ⟨j,hj⟩:=List.mem_iff_getElem?.1 hf
              exact (HRI.out j f (by have h1:=(List.getElem?_eq_some_iff.1 hj).1; rw [HN.out] at h1; omega) hj).2.2⟩)
          go_wp2
          go_returns
          exact ⟨HT.out,HB.out.trans (HBR.out.mono HB.out.size)⟩
end Go.Proofs.Ytkcclefonmnpnaa

