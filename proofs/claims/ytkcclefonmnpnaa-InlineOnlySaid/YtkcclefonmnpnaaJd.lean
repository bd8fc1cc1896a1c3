import Derived.Test.YtkcclefonmnpnaaJa
import Derived.Test.YtkcclefonmnpnaaXb
import Derived.Test.YtkcclefonmnpnaaJc
namespace Go.Proofs.Ytkcclefonmnpnaa
open Go.RowKit Go.BigFrame
theorem call_enter13 {P:Program}{f:FuncId}{fn:Func}{c:Code}(hf:P.funcs[f]? = some fn)(hname:(fn.name == "runtime.NumGoroutine")=false)(hb:fn.body=some c)(args:Array Value)(w:World) :
    (callFunc f args).run P w = .ok (.enter f args) w:=by
  have h1:fn.name ≠ "runtime.NumGoroutine" := by simpa using hname
  simp [callFunc,hf,h1,hb]
set_option maxRecDepth 1000000 in
set_option maxHeartbeats 16000000 in
theorem InlineOnly_any (u:Un7) (F G:Option Addr) (cF cG:Nat) (W:World) (h:RdU W F G u) (hlf:u.funcs.length≤9223372036854775807) (hlg:u.globs.length≤9223372036854775807) (h9:∀ f ∈ u.funcs,f.code.length≤9223372036854775807) :
    Calls Try.prog 13 #[unAgg u F G cF cG] W fun e w'=>e = .returned (.bool true)∧Below W.heap.size W w':=by
  have hB:=Below.one W (unObj u F G cF cG)
  have bx:=heap_alloc_new W (unObj u F G cF cG)
  obtain ⟨W1,hW1⟩:∃ W1,W.alloc (unObj u F G cF cG)=W1:=⟨_,rfl⟩
  rw [hW1] at hB bx
  have h1:=h.below hB
  have hfew:=Few7_any u F G cF cG W1 h1 hlf hlg h9
  have hri:=fun W' h a b=>Right_any u F G cF cG W' h a b
  have hsw:=fun (hU:OkU u) (hl:u.funcs.length≤64) W' h=>Swapped_any 23 (fun f l=>l=f.code) u F G cF cG hl (call_enter13 Try.func23 (by kernel_rfl) rfl)
    (fun f hf C cp W hW=>(clone_code f (hU.ok f hf).len C cp W hW).mono fun e w' hh=>⟨by obtain ⟨⟨nb,e1,_,e3⟩,_⟩:=hh; exact ⟨f.code,nb,_,rfl,e1,e3⟩,hh.2⟩) W' h
  obtain ⟨N,hN⟩:∃ N,u.funcs.length=N:=⟨_,rfl⟩
  obtain ⟨M,hM⟩:∃ M,u.globs.length=M:=⟨_,rfl⟩
  have BX0:=Lib.hid bx
  simp only [unObj,unAgg] at bx hfew hri hW1 hsw ⊢
  rw [hN,hM] at bx hfew hW1 ⊢
  simp only [hN,hM] at hri hsw
  have u0:=cell_of_heap bx 0 (.slice F N cF) rfl
  have u1:=cell_of_heap bx 1 (.slice G M cG) rfl
  have u2:=cell_of_heap bx 2 (.int .i64 u.top) rfl
  have hlb:=(Array.getElem?_eq_some_iff.1 bx).1
  have HB:=Lib.hid hB
  have BX:=Lib.hid bx
  have H1:=Lib.hid h1
  have HN:=Lib.hid hN
  have HM:=Lib.hid hM
  have HFEW:=Lib.hid hfew
  have HRI:=Lib.hid hri
  have HSW:=Lib.hid hsw
  clear hB bx h h1 hlf hlg h9 hfew hri hN hM hsw
  go_enter Try.func13,Try.ntmps13
  go_wp2_with fail
  (try rw [hW1])
  refine HFEW.out.mono ?_
  rintro e w2 ⟨⟨bv,rfl,hbv⟩,hb2⟩
  dsimp only
  have HBV:=Lib.hid hbv
  have HB2:=Lib.hid (HB.out.trans (hb2.mono HB.out.size))
  have BX2:=Lib.hid ((hb2.block _ hlb).trans BX.out)
  have BY2:=Lib.hid ((hb2.block _ hlb).trans BX0.out)
  have H2:=Lib.hid (show RdU w2 F G u from ⟨H1.out.fs.below hb2,H1.out.gs.below hb2⟩)
  clear hb2 u0 u1 u2 hlb HB BX BX0 H1 HFEW hW1 hbv
  cases bv
  case false =>
    go_wp2_with fail
    refine (awake13_any _).mono ?_
    rintro e w9 ⟨rfl,hb9⟩
    dsimp only
    have HB9:=Lib.hid (HB2.out.trans (hb9.mono HB2.out.size))
    clear hb9
    go_wp2_with fail
    go_returns
    exact ⟨rfl,HB9.out⟩
  case true =>
    have hfw:=HBV.out.1 rfl
    have hN6:N≤6:=by rw [← HN.out]; exact hfw.1
    have hM10:M≤10:=by rw [← HM.out]; exact hfw.2.1
    have HSM:=Lib.hid hfw.2.2.1
    clear hfw HBV
    have hNi:N≤100000:=by omega
    have hMi:M≤100000:=by omega
    have u0:=cell_of_heap BX2.out 0 (.slice F N cF) rfl
    have u1:=cell_of_heap BX2.out 1 (.slice G M cG) rfl
    have u2:=cell_of_heap BX2.out 2 (.int .i64 u.top) rfl
    have hlb:=(Array.getElem?_eq_some_iff.1 BX2.out).1
    go_wp2_with fail
    refine (HRI.out w2 H2.out hNi hMi).mono ?_
    rintro e w3 ⟨⟨br,rfl,hbr⟩,hb3⟩
    dsimp only
    have HBR:=Lib.hid hbr
    have HB3:=Lib.hid (HB2.out.trans (hb3.mono HB2.out.size))
    have BX3:=Lib.hid ((hb3.block _ hlb).trans BX2.out)
    have BY3:=Lib.hid ((hb3.block _ hlb).trans BY2.out)
    have H3:=Lib.hid (show RdU w3 F G u from ⟨H2.out.fs.below hb3,H2.out.gs.below hb3⟩)
    clear hb3 hbr u0 u1 u2 hlb HB2 BX2 BY2 H2
    cases br
    case false =>
      go_wp2_with fail
      refine (awake13_any _).mono ?_
      rintro e w9 ⟨rfl,hb9⟩
      dsimp only
      have HB9:=Lib.hid (HB3.out.trans (hb9.mono HB3.out.size))
      clear hb9
      go_wp2_with fail
      go_returns
      exact ⟨rfl,HB9.out⟩
    case true =>
      have HU:=Lib.hid (HBR.out.1 rfl)
      have u0:=cell_of_heap BX3.out 0 (.slice F N cF) rfl
      have u1:=cell_of_heap BX3.out 1 (.slice G M cG) rfl
      have u2:=cell_of_heap BX3.out 2 (.int .i64 u.top) rfl
      have hlb:=(Array.getElem?_eq_some_iff.1 BX3.out).1
      go_wp2_with fail
      refine (HSW.out HU.out (by omega) w3 H3.out).mono ?_
      rintro e w4 ⟨⟨gs,A,cap,rfl,hrd,hgl,hgs⟩,hb4⟩
      obtain rfl:gs=u.funcs:=List.ext_getElem? fun k=>by
        cases hk:gs[k]? with
        | none =>
          rw [eq_comm,List.getElem?_eq_none_iff,← hgl]
          exact List.getElem?_eq_none_iff.1 hk
        | some g =>
          have hkl:=(List.getElem?_eq_some_iff.1 hk).1
          obtain ⟨f,hf⟩:∃ f,u.funcs[k]? = some f:=⟨_,List.getElem?_eq_getElem (by rw [← hgl]; exact hkl)⟩
          obtain ⟨l,e1,e2⟩:=hgs k f g hf hk
          rw [hf,e1,e2]
      rw [HN.out,HM.out]
      dsimp only
      have HB4:=Lib.hid (HB3.out.trans (hb4.mono HB3.out.size))
      have BX4:=Lib.hid ((hb4.block _ hlb).trans BX3.out)
      have BY4:=Lib.hid ((hb4.block _ hlb).trans BY3.out)
      have H4:=Lib.hid (show RdU w4 F G u from ⟨H3.out.fs.below hb4,H3.out.gs.below hb4⟩)
      have HO4:=Lib.hid (show RdU w4 A G u from ⟨hrd,H4.out.gs⟩)
      clear hb4 hrd hgl hgs u0 u1 u2 hlb HB3 BX3 BY3 H3 HBR
      have HBo:=Lib.hid (HB4.out.trans ((Below.one w4 (.cells #[.slice A N cap,.slice G M cG,.int .i64 u.top] 43)).mono HB4.out.size))
      have HXo:=Lib.hid (heap_alloc_new w4 (.cells #[.slice A N cap,.slice G M cG,.int .i64 u.top] 43))
      have BYo:=Lib.hid (alloc_keeps BY4.out (.cells #[.slice A N cap,.slice G M cG,.int .i64 u.top] 43))
      have Ho:=Lib.hid (show RdU (w4.alloc (.cells #[.slice A N cap,.slice G M cG,.int .i64 u.top] 43)) F G u from ⟨H4.out.fs.below (Below.one _ _),H4.out.gs.below (Below.one _ _)⟩)
      have HOo:=Lib.hid (show RdU (w4.alloc (.cells #[.slice A N cap,.slice G M cG,.int .i64 u.top] 43)) A G u from ⟨HO4.out.fs.below (Below.one _ _),HO4.out.gs.below (Below.one _ _)⟩)
      go_upto_region 4 with fail
      obtain ⟨wo,hwo⟩:∃ wo,w4.alloc (.cells #[.slice A N cap,.slice G M cG,.int .i64 u.top] 43)=wo:=⟨_,rfl⟩
      obtain ⟨bo,hbo⟩:∃ bo,w4.heap.size=bo:=⟨_,rfl⟩
      rw [hwo] at HBo HXo BYo Ho HOo ⊢
      rw [hbo] at HXo ⊢
      clear hwo hbo HB4 BX4 BY4 H4 HO4
      have hal:=All_yes u A G cap cG HU.out HSM.out (by rw [HN.out]; exact hN6) (by rw [HM.out]; exact hM10) wo HOo.out
      simp only [unAgg] at hal
      rw [HN.out,HM.out] at hal
      have HAL:=Lib.hid hal
      have o0:=cell_of_heap HXo.out 0 (.slice A N cap) rfl
      have o1:=cell_of_heap HXo.out 1 (.slice G M cG) rfl
      have o2:=cell_of_heap HXo.out 2 (.int .i64 u.top) rfl
      have hlo:=(Array.getElem?_eq_some_iff.1 HXo.out).1
      have hly:=(Array.getElem?_eq_some_iff.1 BYo.out).1
      clear hal
      go_wp2_with fail
      refine HAL.out.mono ?_
      rintro e w5 ⟨⟨gs,A2,G2,cap2,cG2,rfl,hrd,hgl,hgs⟩,hb5⟩
      rw [hgl,HN.out,HM.out]
      dsimp only
      rw [HN.out] at hgl
      have HB5:=Lib.hid (HBo.out.trans (hb5.mono HBo.out.size))
      have BY5:=Lib.hid ((hb5.block _ hly).trans BYo.out)
      have HX5:=Lib.hid ((hb5.block _ hlo).trans HXo.out)
      have H5:=Lib.hid (show RdU w5 F G u from ⟨Ho.out.fs.below hb5,Ho.out.gs.below hb5⟩)
      have HO5:=Lib.hid (HOo.out.fs.below hb5)
      have HRD:=Lib.hid hrd
      have HGL:=Lib.hid hgl
      have HGS:=Lib.hid hgs
      clear hb5 hrd hgl hgs o0 o1 o2 hlo hly HBo HXo BYo Ho HOo HAL
      have HBv:=Lib.hid (HB5.out.trans ((Below.one w5 (.cells #[.slice A2 N cap2,.slice G2 M cG2,.int .i64 u.top] 43)).mono HB5.out.size))
      have HXv:=Lib.hid (heap_alloc_new w5 (.cells #[.slice A2 N cap2,.slice G2 M cG2,.int .i64 u.top] 43))
      have HOv:=Lib.hid (alloc_keeps HX5.out (.cells #[.slice A2 N cap2,.slice G2 M cG2,.int .i64 u.top] 43))
      have BYv:=Lib.hid (alloc_keeps BY5.out (.cells #[.slice A2 N cap2,.slice G2 M cG2,.int .i64 u.top] 43))
      have Hv:=Lib.hid (show RdU (w5.alloc (.cells #[.slice A2 N cap2,.slice G2 M cG2,.int .i64 u.top] 43)) F G u from ⟨H5.out.fs.below (Below.one _ _),H5.out.gs.below (Below.one _ _)⟩)
      have HFv:=Lib.hid (HO5.out.below (Below.one w5 (.cells #[.slice A2 N cap2,.slice G2 M cG2,.int .i64 u.top] 43)))
      have HGv:=Lib.hid (HRD.out.below (Below.one w5 (.cells #[.slice A2 N cap2,.slice G2 M cG2,.int .i64 u.top] 43)))
      go_upto_region 5 with fail
      obtain ⟨wv,hwv⟩:∃ wv,w5.alloc (.cells #[.slice A2 N cap2,.slice G2 M cG2,.int .i64 u.top] 43)=wv:=⟨_,rfl⟩
      obtain ⟨bv,hbv⟩:∃ bv,w5.heap.size=bv:=⟨_,rfl⟩
      rw [hwv] at HBv HXv HOv BYv Hv HFv HGv ⊢
      rw [hbv] at HXv ⊢
      clear hwv hbv HB5 BY5 HX5 H5 HO5 HRD
      have BXv:Hid (wv.heap[W.heap.size]? = some (.cells #[.slice F N cF,.slice G M cG,.int .i64 u.top] 43)):=Lib.hid (by rw [← HN.out,← HM.out]; exact BYv.out)
      have u0:=cell_of_heap BXv.out 0 (.slice F N cF) rfl
      have u1:=cell_of_heap BXv.out 1 (.slice G M cG) rfl
      have u2:=cell_of_heap BXv.out 2 (.int .i64 u.top) rfl
      have v0:=cell_of_heap HXv.out 0 (.slice A2 N cap2) rfl
      have v1:=cell_of_heap HXv.out 1 (.slice G2 M cG2) rfl
      have v2:=cell_of_heap HXv.out 2 (.int .i64 u.top) rfl
      have hlu:=(Array.getElem?_eq_some_iff.1 BXv.out).1
      have hlv:=(Array.getElem?_eq_some_iff.1 HXv.out).1
      have z1:((N:Int) != (N:Int))=false:=by simp
      have z2:(u.top != u.top)=false:=by simp
      have z3:((M:Int) != (M:Int))=false:=by simp
      go_wp2_with fail
      refine io_loopA u gs F G A G A2 G2 cF cG cap cG cap2 cG2 N M M M W.heap.size bo bv wv HU.out HN.out HM.out hNi Hv.out BYv.out HOv.out HFv.out HXv.out HGv.out HGL.out HGS.out _ ?_
      intros
      rename_i w6 hb6
      have HB6:=Lib.hid (HBv.out.trans (hb6.mono HBv.out.size))
      clear hb6 u0 u1 u2 v0 v1 v2 hlu hlv
      (try simp only [Exit.inBlock])
      go_wp2_with fail
      refine (awake13_any _).mono ?_
      rintro e w9 ⟨rfl,hb9⟩
      dsimp only
      have HB9:=Lib.hid (HB6.out.trans (hb9.mono HB6.out.size))
      clear hb9
      go_wp2_with fail
      go_returns
      exact ⟨rfl,HB9.out⟩
end Go.Proofs.Ytkcclefonmnpnaa

