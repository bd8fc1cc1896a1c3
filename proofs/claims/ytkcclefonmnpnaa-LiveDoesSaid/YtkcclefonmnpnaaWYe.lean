import Derived.Test.YtkcclefonmnpnaaWe
import Derived.Test.YtkcclefonmnpnaaZg2
namespace Go.Proofs.Ytkcclefonmnpnaa
open Go.RowKit Go.BigFrame
theorem tru_is {p:Prop}{e:Ending}(h:Tru p e)(hp:p):e = .returned (.bool true):=by
  obtain ⟨b,h1,h2⟩:=h
  rw [h1,h2.2 hp]
theorem tru_no {p:Prop}{e:Ending}(h:Tru p e)(hp:¬ p):e = .returned (.bool false):=by
  obtain ⟨b,h1,h2⟩:=h
  cases b with
  | false=>exact h1
  | true=>exact absurd (h2.1 rfl) hp
set_option maxRecDepth 1000000 in
set_option maxHeartbeats 8000000 in
theorem FlowDoes1_any (R:List Ins→Prop)(f:Fn7)(C:Option Addr)(cap:Nat)(w:World)(hC:RdI w C f.code)
    (hIn:∀ W,RdI W C f.code→Calls Try.prog 37 #[funcAgg f.nm f.ps f.R f.Fr C f.code.length cap] W fun e w'=>(∃ l nb cap' n,R l∧e = .returned (.tuple #[funcAgg f.nm f.ps f.R f.Fr (some ⟨nb,0,none⟩) l.length cap',.int .i64 n])∧PreI w' nb l)∧Below W.heap.size W w') :
    Calls Try.prog 36 #[funcAgg f.nm f.ps f.R f.Fr C f.code.length cap] w fun e w'=>(∃ l nb cap',R l∧e = .returned (funcAgg f.nm f.ps f.R f.Fr (some ⟨nb,0,none⟩) l.length cap')∧PreI w' nb l)∧Below w.heap.size w w':=by
  obtain ⟨b0,b1,hB⟩:=made_two w (funcObj f.nm f.ps f.R f.Fr C f.code.length cap) (.cells #[.string ⟨#[]⟩,.int .i64 0,.int .i64 0,.int .i64 0,.slice none 0 0] 24)
  have h1:=hIn _ (hC.below hB)
  obtain ⟨L,hL⟩:∃ L,f.code.length=L:=⟨_,rfl⟩
  rw [hL] at b0 b1 hB h1 ⊢
  simp only [funcObj,funcAgg] at b0 b1 hB h1 ⊢
  have HB:=Lib.hid hB
  have H1:=Lib.hid h1
  have B1:=Lib.hid b1
  clear hIn hC hL hB h1 b1
  have y0:=cell_of_heap b0 0 (.string f.nm) rfl
  have y1:=cell_of_heap b0 1 (.int .i64 f.ps) rfl
  have y2:=cell_of_heap b0 2 (.int .i64 f.R) rfl
  have y3:=cell_of_heap b0 3 (.int .i64 f.Fr) rfl
  have y4:=cell_of_heap b0 4 (.slice C L cap) rfl
  clear b0
  go_enter Try.func36,Try.ntmps36
  go_wp2_with fail
  refine H1.out.mono ?_
  rintro e w1 ⟨⟨l,nb,cap',n,hR,rfl,hP⟩,hb1⟩
  dsimp only
  have hbb:=HB.out.trans (hb1.mono HB.out.size)
  have z1:=(hb1.block _ (Array.getElem?_eq_some_iff.1 B1.out).1).trans B1.out
  have HR:=Lib.hid hR
  have hP2:=Pre.later hP (Below.one w1 (.cells #[.string f.nm,.int .i64 f.ps,.int .i64 f.R,.int .i64 f.Fr,.slice (some ⟨nb,0,none⟩) l.length cap'] 24))
  have hb2:=hbb.alloc hbb.size (.cells #[.string f.nm,.int .i64 f.ps,.int .i64 f.R,.int .i64 f.Fr,.slice (some ⟨nb,0,none⟩) l.length cap'] 24)
  have z2:=alloc_keeps z1 (.cells #[.string f.nm,.int .i64 f.ps,.int .i64 f.R,.int .i64 f.Fr,.slice (some ⟨nb,0,none⟩) l.length cap'] 24)
  have n2:=heap_alloc_new w1 (.cells #[.string f.nm,.int .i64 f.ps,.int .i64 f.R,.int .i64 f.Fr,.slice (some ⟨nb,0,none⟩) l.length cap'] 24)
  have hs:w.heap.size + 1 < w1.heap.size:=(Array.getElem?_eq_some_iff.1 z1).1
  obtain ⟨w2,hw2⟩:∃ w2,w1.alloc (.cells #[.string f.nm,.int .i64 f.ps,.int .i64 f.R,.int .i64 f.Fr,.slice (some ⟨nb,0,none⟩) l.length cap'] 24)=w2:=⟨_,rfl⟩
  rw [hw2] at hP2 hb2 z2 n2
  have hR2:=setRow_heap _ _ _ #[.string f.nm,.int .i64 f.ps,.int .i64 f.R,.int .i64 f.Fr,.slice (some ⟨nb,0,none⟩) l.length cap'] _ _ z2
  have r0:=cell_of_heap hR2 0 (.string f.nm) rfl
  have r1:=cell_of_heap hR2 1 (.int .i64 f.ps) rfl
  have r2:=cell_of_heap hR2 2 (.int .i64 f.R) rfl
  have r3:=cell_of_heap hR2 3 (.int .i64 f.Fr) rfl
  have r4:=cell_of_heap hR2 4 (.slice (some ⟨nb,0,none⟩) l.length cap') rfl
  have HPF:Hid (PreI (w2.setRow (w.heap.size + 1) #[.string f.nm,.int .i64 f.ps,.int .i64 f.R,.int .i64 f.Fr,.slice (some ⟨nb,0,none⟩) l.length cap']) nb l):=Lib.hid (by
    obtain ⟨cs,e1,e2⟩:=hP2
    exact ⟨cs,(setRow_other _ _ _ _ (ty_ne e1 z2 (by decide))).trans e1,e2⟩)
  have HBF:=Lib.hid (below_setRow (g:=w.heap.size + 1) hb2 (by omega) #[.string f.nm,.int .i64 f.ps,.int .i64 f.R,.int .i64 f.Fr,.slice (some ⟨nb,0,none⟩) l.length cap'])
  have n0:=cell_of_heap n2 0 (.string f.nm) rfl
  have n1:=cell_of_heap n2 1 (.int .i64 f.ps) rfl
  have n3:=cell_of_heap n2 2 (.int .i64 f.R) rfl
  have n4:=cell_of_heap n2 3 (.int .i64 f.Fr) rfl
  have n5:=cell_of_heap n2 4 (.slice (some ⟨nb,0,none⟩) l.length cap') rfl
  clear hP hP2 hb1 hbb hb2 z1 hR n2 hR2 y0 y1 y2 y3 y4
  go_upto_region 2 with fail
  go_wp2_with (first
    | (show wpList Try.prog _ _ (⟨none,.store _ (.tmp 2) _,_,_,_,_⟩::_) _ _; refine wpList_store_row rfl 24 (.tmp 2) (.tmp 10) rfl (w.heap.size + 1) #[.string f.nm,.int .i64 f.ps,.int .i64 f.R,.int .i64 f.Fr,.slice (some ⟨nb,0,none⟩) l.length cap'] rfl rfl 24 _ z2 sF rfl (func_one _ _ _ _ _ _ _) ?_))
  (try simp only [Exit.inBlock,Exit.then])
  refine bodyPost_ret (by simp [results,Try.results36,go_sem,r0,r1,r2,r3,r4]; try rfl) rfl ?_
  exact ⟨⟨l,nb,cap',HR.out,rfl,HPF.out⟩,HBF.out⟩
set_option maxRecDepth 1000000 in
set_option maxHeartbeats 8000000 in
theorem LiveDoes1_any (R:List Ins→Prop)(f:Fn7)(C:Option Addr)(cap:Nat)(w:World)(hC:RdI w C f.code)
    (hIn:∀ W,RdI W C f.code→Calls Try.prog 34 #[funcAgg f.nm f.ps f.R f.Fr C f.code.length cap] W fun e w'=>(∃ l nb cap' n,R l∧e = .returned (.tuple #[funcAgg f.nm f.ps f.R f.Fr (some ⟨nb,0,none⟩) l.length cap',.int .i64 n])∧PreI w' nb l)∧Below W.heap.size W w') :
    Calls Try.prog 33 #[funcAgg f.nm f.ps f.R f.Fr C f.code.length cap] w fun e w'=>(∃ l nb cap',R l∧e = .returned (funcAgg f.nm f.ps f.R f.Fr (some ⟨nb,0,none⟩) l.length cap')∧PreI w' nb l)∧Below w.heap.size w w':=by
  obtain ⟨b0,b1,hB⟩:=made_two w (funcObj f.nm f.ps f.R f.Fr C f.code.length cap) (.cells #[.string ⟨#[]⟩,.int .i64 0,.int .i64 0,.int .i64 0,.slice none 0 0] 24)
  have h1:=hIn _ (hC.below hB)
  obtain ⟨L,hL⟩:∃ L,f.code.length=L:=⟨_,rfl⟩
  rw [hL] at b0 b1 hB h1 ⊢
  simp only [funcObj,funcAgg] at b0 b1 hB h1 ⊢
  have HB:=Lib.hid hB
  have H1:=Lib.hid h1
  have B1:=Lib.hid b1
  clear hIn hC hL hB h1 b1
  have y0:=cell_of_heap b0 0 (.string f.nm) rfl
  have y1:=cell_of_heap b0 1 (.int .i64 f.ps) rfl
  have y2:=cell_of_heap b0 2 (.int .i64 f.R) rfl
  have y3:=cell_of_heap b0 3 (.int .i64 f.Fr) rfl
  have y4:=cell_of_heap b0 4 (.slice C L cap) rfl
  clear b0
  go_enter Try.func33,Try.ntmps33
  go_wp2_with fail
  refine H1.out.mono ?_
  rintro e w1 ⟨⟨l,nb,cap',n,hR,rfl,hP⟩,hb1⟩
  dsimp only
  have hbb:=HB.out.trans (hb1.mono HB.out.size)
  have z1:=(hb1.block _ (Array.getElem?_eq_some_iff.1 B1.out).1).trans B1.out
  have HR:=Lib.hid hR
  have hP2:=Pre.later hP (Below.one w1 (.cells #[.string f.nm,.int .i64 f.ps,.int .i64 f.R,.int .i64 f.Fr,.slice (some ⟨nb,0,none⟩) l.length cap'] 24))
  have hb2:=hbb.alloc hbb.size (.cells #[.string f.nm,.int .i64 f.ps,.int .i64 f.R,.int .i64 f.Fr,.slice (some ⟨nb,0,none⟩) l.length cap'] 24)
  have z2:=alloc_keeps z1 (.cells #[.string f.nm,.int .i64 f.ps,.int .i64 f.R,.int .i64 f.Fr,.slice (some ⟨nb,0,none⟩) l.length cap'] 24)
  have n2:=heap_alloc_new w1 (.cells #[.string f.nm,.int .i64 f.ps,.int .i64 f.R,.int .i64 f.Fr,.slice (some ⟨nb,0,none⟩) l.length cap'] 24)
  have hs:w.heap.size + 1 < w1.heap.size:=(Array.getElem?_eq_some_iff.1 z1).1
  obtain ⟨w2,hw2⟩:∃ w2,w1.alloc (.cells #[.string f.nm,.int .i64 f.ps,.int .i64 f.R,.int .i64 f.Fr,.slice (some ⟨nb,0,none⟩) l.length cap'] 24)=w2:=⟨_,rfl⟩
  rw [hw2] at hP2 hb2 z2 n2
  have hR2:=setRow_heap _ _ _ #[.string f.nm,.int .i64 f.ps,.int .i64 f.R,.int .i64 f.Fr,.slice (some ⟨nb,0,none⟩) l.length cap'] _ _ z2
  have r0:=cell_of_heap hR2 0 (.string f.nm) rfl
  have r1:=cell_of_heap hR2 1 (.int .i64 f.ps) rfl
  have r2:=cell_of_heap hR2 2 (.int .i64 f.R) rfl
  have r3:=cell_of_heap hR2 3 (.int .i64 f.Fr) rfl
  have r4:=cell_of_heap hR2 4 (.slice (some ⟨nb,0,none⟩) l.length cap') rfl
  have HPF:Hid (PreI (w2.setRow (w.heap.size + 1) #[.string f.nm,.int .i64 f.ps,.int .i64 f.R,.int .i64 f.Fr,.slice (some ⟨nb,0,none⟩) l.length cap']) nb l):=Lib.hid (by
    obtain ⟨cs,e1,e2⟩:=hP2
    exact ⟨cs,(setRow_other _ _ _ _ (ty_ne e1 z2 (by decide))).trans e1,e2⟩)
  have HBF:=Lib.hid (below_setRow (g:=w.heap.size + 1) hb2 (by omega) #[.string f.nm,.int .i64 f.ps,.int .i64 f.R,.int .i64 f.Fr,.slice (some ⟨nb,0,none⟩) l.length cap'])
  have n0:=cell_of_heap n2 0 (.string f.nm) rfl
  have n1:=cell_of_heap n2 1 (.int .i64 f.ps) rfl
  have n3:=cell_of_heap n2 2 (.int .i64 f.R) rfl
  have n4:=cell_of_heap n2 3 (.int .i64 f.Fr) rfl
  have n5:=cell_of_heap n2 4 (.slice (some ⟨nb,0,none⟩) l.length cap') rfl
  clear hP hP2 hb1 hbb hb2 z1 hR n2 hR2 y0 y1 y2 y3 y4
  go_upto_region 2 with fail
  go_wp2_with (first
    | (show wpList Try.prog _ _ (⟨none,.store _ (.tmp 2) _,_,_,_,_⟩::_) _ _; refine wpList_store_row rfl 24 (.tmp 2) (.tmp 10) rfl (w.heap.size + 1) #[.string f.nm,.int .i64 f.ps,.int .i64 f.R,.int .i64 f.Fr,.slice (some ⟨nb,0,none⟩) l.length cap'] rfl rfl 24 _ z2 sF rfl (func_one _ _ _ _ _ _ _) ?_))
  (try simp only [Exit.inBlock,Exit.then])
  refine bodyPost_ret (by simp [results,Try.results33,go_sem,r0,r1,r2,r3,r4]; try rfl) rfl ?_
  exact ⟨⟨l,nb,cap',HR.out,rfl,HPF.out⟩,HBF.out⟩
end Go.Proofs.Ytkcclefonmnpnaa

