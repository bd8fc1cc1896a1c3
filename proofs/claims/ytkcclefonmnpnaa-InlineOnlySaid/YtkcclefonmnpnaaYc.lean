import Derived.Test.YtkcclefonmnpnaaYb
namespace Go.Proofs.Ytkcclefonmnpnaa
open Go.RowKit Go.BigFrame
def SwapT (R:Fn7→List Ins→Prop)(u:Un7)(G:Option Addr)(cG:Nat)(e:Ending)(w:World):Prop :=
  ∃ (gs:List Fn7) (A:Option Addr) (cap:Nat),e = .returned (.agg #[.slice A gs.length cap,.slice G u.globs.length cG,.int .i64 u.top])∧RdF w A gs∧gs.length=u.funcs.length∧∀ (k:Nat) f g,u.funcs[k]? = some f→gs[k]? = some g→∃ l,g=wcF f l∧R f l
theorem own_slice {w:World}{base:Nat}{e:TypeId}{size n:Nat}{V:Value}{xs:List Value}(h:w.ownsRow base e size V n xs):∃ A m c,V = .slice A m c:=by
  obtain ⟨_,h2⟩:=h
  rcases h2 with ⟨rfl,_⟩ | ⟨g,cap,cur,rfl,_⟩
  · exact ⟨_,_,_,rfl⟩
  · exact ⟨_,_,_,rfl⟩
theorem sUn:(Try.prog.info? 43).map (·.size)=some 3:=by kernel_rfl
theorem un_one (A B:Option Addr)(n m c d:Nat)(t:Int):(#[Value.slice A n c,.slice B m d,.int .i64 t].all (·.oneCell'))=true:=by simp [Value.oneCell']
set_option maxRecDepth 1000000 in
set_option maxHeartbeats 16000000 in
theorem Swapped_any (K:Nat) (R:Fn7→List Ins→Prop) (u:Un7) (F G:Option Addr) (cF cG:Nat) (hl:u.funcs.length≤64) (hK:∀ args w,(callFunc K args).run Try.prog w = .ok (.enter K args) w)
    (hT:∀ f ∈ u.funcs,∀ C cap W,RdI W C f.code→Calls Try.prog K #[funcAgg f.nm f.ps f.R f.Fr C f.code.length cap] W fun e w'=>(∃ l nb cap',R f l∧e = .returned (funcAgg f.nm f.ps f.R f.Fr (some ⟨nb,0,none⟩) l.length cap')∧PreI w' nb l)∧Below W.heap.size W w')
    (w:World) (h:RdU w F G u) :
    Calls Try.prog 27 #[unAgg u F G cF cG,.func (.func K) #[] #[]] w fun e w'=>SwapT R u G cG e w'∧Below w.heap.size w w':=by
  have hB:=((Below.one w (unObj u F G cF cG)).alloc (by simp) (.cells #[.slice none 0 0,.slice none 0 0,.int .i64 0] 43)).alloc (by simp; omega) (.cells #[.slice none 0 0,.slice G u.globs.length cG,.int .i64 u.top] 43)
  have hu0:=alloc_keeps (alloc_keeps (heap_alloc_new w (unObj u F G cF cG)) (.cells #[.slice none 0 0,.slice none 0 0,.int .i64 0] 43)) (.cells #[.slice none 0 0,.slice G u.globs.length cG,.int .i64 u.top] 43)
  have hr0:=alloc_keeps (heap_alloc_new (w.alloc (unObj u F G cF cG)) (.cells #[.slice none 0 0,.slice none 0 0,.int .i64 0] 43)) (.cells #[.slice none 0 0,.slice G u.globs.length cG,.int .i64 u.top] 43)
  have ho0:=heap_alloc_new ((w.alloc (unObj u F G cF cG)).alloc (.cells #[.slice none 0 0,.slice none 0 0,.int .i64 0] 43)) (.cells #[.slice none 0 0,.slice G u.globs.length cG,.int .i64 u.top] 43)
  rw [show (w.alloc (unObj u F G cF cG)).heap.size=w.heap.size + 1 by simp] at hr0
  rw [show ((w.alloc (unObj u F G cF cG)).alloc (.cells #[.slice none 0 0,.slice none 0 0,.int .i64 0] 43)).heap.size=w.heap.size + 1 + 1 by simp] at ho0
  have hS0:SwS w (((w.alloc (unObj u F G cF cG)).alloc (.cells #[.slice none 0 0,.slice none 0 0,.int .i64 0] 43)).alloc (.cells #[.slice none 0 0,.slice G u.globs.length cG,.int .i64 u.top] 43)) u F G cF cG [] (.slice none 0 0) w.heap.size (w.heap.size + 1) (w.heap.size + 1 + 1) :=
    ⟨hB,hu0,⟨_,hr0,rfl⟩,ho0,World.ownsRow_nil _ _ _ _,fun x hx=>nomatch hx⟩
  have hF:=h.fs.below (Below.refl w.heap.size w)
  obtain ⟨N,hN⟩:∃ N,u.funcs.length=N:=⟨_,rfl⟩
  obtain ⟨M,hM⟩:∃ M,u.globs.length=M:=⟨_,rfl⟩
  have HT:=Lib.hid hT
  have HN:=Lib.hid hN
  have HF:=Lib.hid hF
  simp only [unAgg]
  have HS0:=Lib.hid hS0
  simp only [hN,hM]
  rw [hN] at hl
  have HM:=Lib.hid hM
  have HL:=Lib.hid hl
  have hk9:N≤9223372036854775807:=by omega
  clear hT h hN hM hB hu0 hr0 ho0 hS0 hF hl
  go_enter Try.func27,Try.ntmps27
  go_wp2
  obtain ⟨W,hW⟩:∃ W,((w.alloc (.cells #[.slice F N cF,.slice G M cG,.int .i64 u.top] 43)).alloc (.cells #[.slice none 0 0,.slice none 0 0,.int .i64 0] 43)).alloc (.cells #[.slice none 0 0,.slice G M cG,.int .i64 u.top] 43)=W:=⟨_,rfl⟩
  have HS1:Hid (SwS w W u F G cF cG [] (.slice none 0 0) w.heap.size (w.heap.size + 1) (w.heap.size + 1 + 1)):=Lib.hid (by
    have h:=HS0.out
    simp only [unObj,HN.out,HM.out] at h
    rw [← hW]
    exact h)
  rw [hW]
  clear HS0 hW
  go_loopw [13] (fun ix wr=>∃ (k:Nat) (L:List (Fn7 × Nat × Nat)) (V:Value),k≤N∧ix = .int .i64 k∧SwS w wr u F G cF cG L V w.heap.size (w.heap.size + 1) (w.heap.size + 1 + 1)∧L.length=k∧∀ (j:Nat) f x,u.funcs[j]? = some f→L[j]? = some x→∃ l,x.1=wcF f l∧R f l) (fun ix _=>N - (intOf ix).toNat)
  case atStart=>exact ⟨0,[],_,by omega,rfl,HS1.out,rfl,fun j f x _ hx=>nomatch hx⟩
  case round =>
    obtain ⟨k,L,V,hk,rfl,hS,hLk,hrel⟩:=hrel
    have hcu:=hS.ux
    have hco:=hS.ox
    simp only [unObj,HN.out,HM.out] at hcu hco
    have HS:=Lib.hid hS
    have HLK:=Lib.hid hLk
    have HREL:=Lib.hid hrel
    have u0:=cell_of_heap hcu 0 (.slice F N cF) rfl
    have u1:=cell_of_heap hcu 1 (.slice G M cG) rfl
    have u2:=cell_of_heap hcu 2 (.int .i64 u.top) rfl
    have o0:=cell_of_heap hco 0 V rfl
    have o1:=cell_of_heap hco 1 (.slice G M cG) rfl
    have o2:=cell_of_heap hco 2 (.int .i64 u.top) rfl
    have hlo:=(Array.getElem?_eq_some_iff.1 hco).1
    clear hS hLk hrel hcu
    by_cases hlt:k < N
    · obtain ⟨f,hf⟩:∃ f,u.funcs[k]? = some f:=⟨_,List.getElem?_eq_getElem (by rw [HN.out]; exact hlt)⟩
      obtain ⟨bF,oF,C,cap,rfl,hbl,hcs,hrI⟩:=(HF.out.below HS.out.b) k f hf
      obtain ⟨x0,x1,x2,x3,x4⟩:=fn_cells hcs
      have hmem:=List.mem_of_getElem? hf
      have hS1:=HS.out.later (Below.one wr (.cells #[.string f.nm,.int .i64 f.ps,.int .i64 f.R,.int .i64 f.Fr,.slice C f.code.length cap] 24))
      have hI1:=hrI.below (Below.one wr (.cells #[.string f.nm,.int .i64 f.ps,.int .i64 f.R,.int .i64 f.Fr,.slice C f.code.length cap] 24))
      have hn1:=heap_alloc_new wr (.cells #[.string f.nm,.int .i64 f.ps,.int .i64 f.R,.int .i64 f.Fr,.slice C f.code.length cap] 24)
      obtain ⟨w1,hw1⟩:∃ w1,wr.alloc (.cells #[.string f.nm,.int .i64 f.ps,.int .i64 f.R,.int .i64 f.Fr,.slice C f.code.length cap] 24)=w1:=⟨_,rfl⟩
      rw [hw1] at hS1 hI1 hn1
      have HF':=Lib.hid hf
      have HLT:=Lib.hid hlt
      have HMEM:=Lib.hid hmem
      have HS1:=Lib.hid hS1
      have HI1:=Lib.hid hI1
      have HN1:=Lib.hid hn1
      clear hcs hrI hf hmem hS1 hI1 hn1
      have hA9:L.length≤90000:=by
        have h1:=HLK.out
        have h2:=HL.out
        omega
      have HA9:=Lib.hid hA9
      clear hA9
      go_upto_block 1 with fail
      go_cut [7] from 15 to 24 (fun _ wx=>∃ (V':Value) (l:List Ins) (nb cap':Nat),R f l∧SwS w wx u (some ⟨bF,oF,none⟩) G cF cG (L++[(wcF f l,nb,cap')]) V' w.heap.size (w.heap.size + 1) (w.heap.size + 1 + 1))
      case first =>
        go_upto_region 6 with fail
        clear hw1 o0 o1 o2 u0 u1 u2 x0 x1 x2 x3 x4 hlo hbl
        have hb0:SwS w w1.drew u (some ⟨bF,oF,none⟩) G cF cG L V w.heap.size (w.heap.size + 1) (w.heap.size + 1 + 1):=HS1.out.later (Below.refl _ _).drew
        have hI0:RdI w1.drew C f.code:=HI1.out.below (Below.refl _ _).drew
        have HB0:=Lib.hid hb0
        have HI0:=Lib.hid hI0
        have y0:=cell_of_heap HN1.out 0 (.string f.nm) rfl
        have y1:=cell_of_heap HN1.out 1 (.int .i64 f.ps) rfl
        have y2:=cell_of_heap HN1.out 2 (.int .i64 f.R) rfl
        have y3:=cell_of_heap HN1.out 3 (.int .i64 f.Fr) rfl
        have y4:=cell_of_heap HN1.out 4 (.slice C f.code.length cap) rfl
        have z0:=cell_of_heap HS1.out.ox 0 V rfl
        have hlz:=(Array.getElem?_eq_some_iff.1 HS1.out.ox).1
        clear hb0 hI0
        go_region_law (first
          | (go_simp; refine (HT.out f HMEM.out C cap _ HI0.out).mono ?_; rintro e w2 ⟨⟨l,nb,cap',hR,rfl,hP⟩,hb2⟩; have hS2:=HB0.out.later hb2; have v0:=cell_of_heap hS2.ox 0 V rfl; have hlv:=(Array.getElem?_eq_some_iff.1 hS2.ox).1)
          | (have hS4:=hS2.later (Below.one w2 (.cells (fxL (wcF f l,nb,cap')).toArray 24)); have hg4:=heap_alloc_new w2 (.cells (fxL (wcF f l,nb,cap')).toArray 24); refine step_append_fn rfl (.tmp 18) (.tmp 22) rfl w.heap.size V L rfl hS4.own w2.heap.size (wcF f l,nb,cap') rfl hg4 HA9.out hS4.b.size ?_; intro V' w3 ho3 hg3; obtain ⟨A3,n3,c3,rfl⟩:=own_slice ho3; have hS3:=hS4.push (wcF f l,nb,cap') (Pre.later hP (Below.one w2 _)) (by omega) (by omega) (by omega) hg3 ho3; have hx3:=(hg3.block _ (Array.getElem?_eq_some_iff.1 hS4.ox).1 (own_ne hS4.own hS4.ox (by decide)).symm).trans hS4.ox; have v3:=cell_of_heap hx3 0 V rfl; have f3:=free_of_heap hx3 0))
        all_goals (go_wp2_with fail; go_meet)
        all_goals exact ⟨_,l,nb,cap',hR,hS3⟩
      case rest =>
        obtain ⟨V',l,nb,cap',hR,hS'⟩:=hcut
        have HS':=Lib.hid hS'
        have HR:=Lib.hid hR
        clear hS' hR
        go_wp2
        have hl64:=HL.out
        have hlt:=HLT.out
        refine ⟨⟨k + 1,_,V',Nat.succ_le_of_lt HLT.out,by go_num,HS'.out,by rw [List.length_append,HLK.out]; rfl,fun j f' x hf' hx=>?_⟩,by have:=HLT.out; simp [intOf]; omega⟩
        by_cases hjk:j < L.length
        · rw [List.getElem?_append_left hjk] at hx
          exact HREL.out j f' x hf' hx
        · have hj:j=k:=by
            have:=(List.getElem?_eq_some_iff.1 hx).1
            have h2:=HLK.out
            simp at this
            omega
          subst hj
          rw [List.getElem?_append_right (by omega),HLK.out,Nat.sub_self] at hx
          simp at hx
          subst hx
          have h3:=HF'.out
          rw [h3] at hf'
          injection hf' with hf'
          subst hf'
          exact ⟨l,rfl,HR.out⟩
    · obtain rfl:k=N:=by omega
      obtain ⟨A,cap,rfl,hrd⟩:=HS.out.read
      obtain ⟨cs,hre,hsz⟩:=HS.out.rx
      have hR0:=setRow_heap _ _ _ #[.slice A L.length cap,.slice G M cG,.int .i64 u.top] _ _ hre
      have r0:=cell_of_heap hR0 0 (.slice A L.length cap) rfl
      have r1:=cell_of_heap hR0 1 (.slice G M cG) rfl
      have r2:=cell_of_heap hR0 2 (.int .i64 u.top) rfl
      have hbb:=below_setRow (g:=w.heap.size + 1) HS.out.b (by omega) #[.slice A L.length cap,.slice G M cG,.int .i64 u.top]
      have hT:=HS.out.told (row:=#[.slice A L.length cap,.slice G M cG,.int .i64 u.top]) (by omega) (by omega) (by omega) rfl
      obtain ⟨A2,cap2,e2,hrd2⟩:=hT.read
      injection e2 with e2 e3 e4
      subst e2 e4
      clear e3
      have HBB:=Lib.hid hbb
      have HRD:=Lib.hid hrd2
      clear hrd hrd2 hbb hR0 hco hT
      go_wp2_with (first
        | (show wpList Try.prog _ _ (⟨none,.store _ (.tmp 4) _,_,_,_,_⟩::_) _ _; refine wpList_store_row rfl 43 (.tmp 4) (.tmp 26) rfl (w.heap.size + 1) #[.slice A L.length cap,.slice G M cG,.int .i64 u.top] rfl rfl 43 _ hre sUn hsz (un_one _ _ _ _ _ _ _) ?_))
      (try simp only [Exit.inBlock,Exit.then])
      refine bodyPost_ret (by simp [results,Try.results27,go_sem,r0,r1,r2]; try rfl) rfl ?_
      refine ⟨⟨L.map (·.1),A,cap,by simp [HM.out],HRD.out,by rw [List.length_map,HLK.out,HN.out],fun j f g hf hg=>?_⟩,HBB.out⟩
      rw [List.getElem?_map] at hg
      obtain ⟨x,hx,rfl⟩:=Option.map_eq_some_iff.1 hg
      exact HREL.out j f x hf hx
end Go.Proofs.Ytkcclefonmnpnaa

