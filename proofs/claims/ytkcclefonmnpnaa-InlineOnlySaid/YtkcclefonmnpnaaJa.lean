import Derived.Test.YtkcclefonmnpnaaIz
namespace Go.Proofs.Ytkcclefonmnpnaa
open Go.RowKit Go.BigFrame
def AllT (u:Un7)(e:Ending)(w:World):Prop :=
  ∃ (gs:List Fn7) (A Gv:Option Addr) (cap cG':Nat),e = .returned (.agg #[.slice A gs.length cap,.slice Gv u.globs.length cG',.int .i64 u.top])∧RdF w A gs∧gs.length=u.funcs.length∧∀ (k:Nat) f g,u.funcs[k]? = some f→gs[k]? = some g→g=allF u k f
theorem flatGl_len:∀ (v:List Gl),(v.flatMap glL).length=v.length * 4
  | []=>rfl
  | x::v=>by rw [List.flatMap_cons,List.length_append,flatGl_len v,List.length_cons]; simp only [List.length_cons,List.length_nil]; omega
theorem flatGl_one (v:List Gl):∀ u ∈ v.flatMap glL,u.oneCell'=true:=fun u hu=>by
  obtain ⟨x,_,hx⟩:=List.mem_flatMap.1 hu
  simp only [List.mem_cons,List.not_mem_nil,or_false] at hx
  rcases hx with rfl | rfl | rfl | rfl <;> rfl
theorem flatGl_get {v:List Gl}{k r:Nat}{g:Gl}(h:v[k]? = some g)(hr:r < 4):(v.flatMap glL)[k * 4 + r]? = (glL g)[r]?:=by
  have hlt:=(List.getElem?_eq_some_iff.1 h).1
  have hs:=(List.getElem?_eq_some_iff.1 h).2
  have hd:v=v.take k++g::v.drop (k + 1):=by rw [← hs]; simp
  have hl:((v.take k).flatMap glL).length=k * 4:=by rw [flatGl_len,List.length_take]; omega
  conv=>lhs; rw [hd,List.flatMap_append,List.flatMap_cons]
  rw [List.getElem?_append_right (by omega),hl,show k * 4 + r - k * 4=r by omega,List.getElem?_append_left (by simp only [List.length_cons,List.length_nil]; omega)]
theorem info_gl:(Try.prog.info? 81).map (fun i=>(i.zero,i.size,i.bytes))=some (some (.agg #[.string ⟨#[]⟩,.int .i64 0,.int .i64 0,.int .i64 0]),4,40):=by kernel_rfl
theorem run_append_zero {P:Program}{w:World}(base:Nat)(t ty e:TypeId)(i:TypeInfo)(size:Nat)(ht:P.underlying t=some (.slice e))(hi:P.info? e=some i)
    (v:Value) (n:Nat) (xs:List Value) (hown:w.ownsRow base e size v n xs) (G:Option Addr) (c:Nat) :
    (Builtin.append_ #[t,t] ty #[v,.slice G 0 c]).run P w = .ok v w:=by
  rcases hown.2 with ⟨rfl,rfl⟩ | ⟨g,cap,cur,rfl,_,_,hnc,_⟩
  · cases G <;> simp [Builtin.append_,run_underlying ht,sizeOf,typeInfo,hi,Builtin.lenOf,Builtin.firstCells,loadCells,loadCellsFrom]
  · cases G <;> simp [Builtin.append_,run_underlying ht,sizeOf,typeInfo,hi,Builtin.lenOf,Builtin.firstCells,hnc,loadCells,loadCellsFrom,storeCells]
set_option maxRecDepth 100000 in
theorem wpList_append_gl {ops:Array Oper} {rest:List Oper} {o:Oper} {a:Act} {w:World} {Q:Exit→Act→World→Prop} (hgd:o.guard=none) (s x:Operand)
    (ho:o.op = .call { callee:=.builtin .append,args:=#[s,x],argTypes:=#[41,41] }) (base:Nat) (V:Value) (hs:a.eval s=V) (hown:w.ownsRow base 81 4 V 0 [])
    (G:Option Addr) (l:List Gl) (c:Nat) (hx:a.eval x = .slice G l.length c) (hG:RdG w G l) (hn:l.length≤90000) (hb:base≤w.heap.size)
    (h:∀ V' w',w'.ownsRow base 81 4 V' l.length (l.flatMap glL)→w.grownBy w' V.ownBlock→wpList Try.prog ops Q rest (a.put o.dst V') w') :
    wpList Try.prog ops Q (o::rest) a w:=by
  refine wpList_plain hgd fun K hK=>?_
  obtain ⟨i0,hi,hz0,hz1,hz2⟩:=info_parts info_gl
  cases l with
  | nil =>
    have hr:=run_append_zero (P:=Try.prog) (w:=w) base 41 o.type 81 i0 4 (by kernel_rfl) hi V 0 [] hown G c
    simp only [List.length_nil] at hx
    unfold Oper.wp execOp
    simp only [ho,resolve,invoke,builtin,Sem.run_bind,Sem.run_pure,Result.andThen_ok,List.map_toArray,List.map_cons,List.map_nil,hs,hx,hr]
    exact hK _ _ (h V w hown ⟨rfl,rfl,rfl,Nat.le_refl _,fun _ _ _=>rfl⟩)
  | cons g0 l' =>
    obtain ⟨b,o',rfl,hlb,_⟩:=hG 0 g0 rfl
    obtain ⟨V',w',hr,h1,h2,_,h4⟩:=run_append_own_at (P:=Try.prog) w base 41 o.type 81 i0 (.agg #[.string ⟨#[]⟩,.int .i64 0,.int .i64 0,.int .i64 0]) 4 40 (by kernel_rfl) hi hz0 hz1 hz2 rfl (by decide) V 0 [] hown ⟨b,o',none⟩ (g0::l').length c ((g0::l').flatMap glL) (flatGl_len _)
      (fun j u hu=>by
        have hj:j < (g0::l').length * 4:=by rw [← flatGl_len]; exact (List.getElem?_eq_some_iff.1 hu).1
        have hadd:(⟨b,o',none⟩:Addr).add j=⟨b,o' + j,none⟩:=by
          unfold Addr.add; split
          · rename_i h0; rw [h0]; rfl
          · rfl
        obtain ⟨g,hg⟩:∃ g,(g0::l')[j / 4]? = some g:=⟨_,List.getElem?_eq_getElem (by omega)⟩
        obtain ⟨b2,o2,e2,_,hc⟩:=hG (j / 4) g hg
        injection e2 with e2
        injection e2 with e3 e4
        subst e3 e4
        rw [hadd]
        have h5:=hc (j % 4) (Nat.mod_lt _ (by decide))
        have h6:=flatGl_get hg (Nat.mod_lt j (by decide:0 < 4))
        rw [show j / 4 * 4 + j % 4=j by omega] at h5 h6
        rw [h5,← h6,hu]) (flatGl_one _) (by simp only [maxLen]; omega) (by omega) hb
    rw [Nat.zero_add,List.nil_append] at h1
    unfold Oper.wp execOp
    simp only [ho,resolve,invoke,builtin,Sem.run_bind,Sem.run_pure,Result.andThen_ok,List.map_toArray,List.map_cons,List.map_nil,hs,hx,hr]
    exact hK _ _ (h V' w' h1 h2)
theorem own_len {w:World}{base:Nat}{e:TypeId}{size n:Nat}{V:Value}{xs:List Value}(h:w.ownsRow base e size V n xs):∃ A c,V = .slice A n c:=by
  obtain ⟨_,h2⟩:=h
  rcases h2 with ⟨rfl,rfl⟩ | ⟨g,cap,cur,rfl,_⟩
  · exact ⟨_,_,rfl⟩
  · exact ⟨_,_,rfl⟩
theorem SwS.fin {w0 w w':World}{u:Un7}{F G:Option Addr}{cF cG:Nat}{L:List (Fn7 × Nat × Nat)}{V:Value}{ub rb ob:Nat}(h:SwS w0 w u F G cF cG L V ub rb ob)
    (hk:∀ (g:Nat) (cs:Array Value) (ty:TypeId),w.heap[g]? = some (.cells cs ty (0,0))→ty≠43→w'.heap[g]? = w.heap[g]?):∃ A cap,V = .slice A L.length cap∧RdF w' A (L.map (·.1)):=by
  have h0:w'.ownsRow w0.heap.size 24 5 V L.length (L.flatMap fxL):=ownsRow_keep h.own fun g _ _ cur hc=>hk g _ _ hc (by decide)
  have hp:∀ x ∈ L,PreI w' x.2.1 x.1.code:=fun x hx=>by
    obtain ⟨cs,h1,h2⟩:=h.rd x hx
    exact ⟨cs,(hk _ _ _ h1 (by decide)).trans h1,h2⟩
  have h1:=h0
  obtain ⟨_,h2⟩:=h1
  rcases h2 with ⟨rfl,hn⟩ | ⟨g,cap,cur,rfl,hB,hg,_⟩
  · refine ⟨none,0,by rw [hn],fun k f hk=>?_⟩
    have:=(List.getElem?_eq_some_iff.1 hk).1
    simp at this
    omega
  · refine ⟨_,_,rfl,fun k f hk=>?_⟩
    rw [List.getElem?_map] at hk
    obtain ⟨x,hx,rfl⟩:=Option.map_eq_some_iff.1 hk
    have hlt:=(List.getElem?_eq_some_iff.1 hx).1
    refine ⟨g,0,some ⟨x.2.1,0,none⟩,x.2.2,rfl,(Array.getElem?_eq_some_iff.1 hg).1,fun j hj=>?_,PreI.read (hp x (List.mem_of_getElem? hx))⟩
    rw [Nat.zero_add,World.ownsRow.cellAt h0 (k * 5 + j) (by omega)]
    have hs:=(List.getElem?_eq_some_iff.1 hx).2
    have hd:L=L.take k++x::L.drop (k + 1):=by rw [← hs]; simp
    have hl:((L.take k).flatMap fxL).length=k * 5:=by rw [flatFx_len,List.length_take]; omega
    conv=>lhs; rw [hd,List.flatMap_append,List.flatMap_cons]
    rw [List.getElem?_append_right (by omega),hl,show k * 5 + j - k * 5=j by omega,List.getElem?_append_left (by simp only [List.length_cons,List.length_nil]; omega)]
set_option maxRecDepth 1000000 in
set_option maxHeartbeats 16000000 in
theorem All_yes (u:Un7)(F G:Option Addr)(cF cG:Nat)(hU:OkU u)(hFw:∀ f ∈ u.funcs,Sm f)(hN6:u.funcs.length≤6)(hM9:u.globs.length≤10)(w:World)(h:RdU w F G u) :
    Calls Try.prog 44 #[unAgg u F G cF cG] w fun e w'=>AllT u e w'∧Below w.heap.size w w':=by
  obtain ⟨b0,b1,hB⟩:=made_two w (unObj u F G cF cG) (.cells #[.slice none 0 0,.slice none 0 0,.int .i64 0] 43)
  obtain ⟨W,hW⟩:∃ W,(w.alloc (unObj u F G cF cG)).alloc (.cells #[.slice none 0 0,.slice none 0 0,.int .i64 0] 43)=W:=⟨_,rfl⟩
  have hWs:W.heap.size=w.heap.size + 2:=by rw [← hW]; simp
  rw [hW] at b0 b1 hB
  have hr:=(Right7_any u F G cF cG W (h.below hB) (by omega) (by omega)).mono fun e w' h=>(⟨by obtain ⟨⟨bv,h1,h2⟩,_⟩:=h; rw [h1,h2.2 hU],h.2⟩:e = .returned (.bool true)∧Below W.heap.size W w')
  obtain ⟨N,hN⟩:∃ N,u.funcs.length=N:=⟨_,rfl⟩
  obtain ⟨M,hM⟩:∃ M,u.globs.length=M:=⟨_,rfl⟩
  have B0:=Lib.hid b0
  simp only [unObj,unAgg] at b0 hW hr ⊢
  rw [hN,hM] at b0 hW hr ⊢
  rw [hN] at hN6
  rw [hM] at hM9
  have g0:=cell_of_heap b0 0 (.slice F N cF) rfl
  have g1:=cell_of_heap b0 1 (.slice G M cG) rfl
  have g2:=cell_of_heap b0 2 (.int .i64 u.top) rfl
  have hlb:=(Array.getElem?_eq_some_iff.1 b0).1
  have hlr:=(Array.getElem?_eq_some_iff.1 b1).1
  have HB:=Lib.hid hB
  have B1:=Lib.hid b1
  have HU:=Lib.hid hU
  have HFW:=Lib.hid hFw
  have H:=Lib.hid h
  have HN:=Lib.hid hN
  have HM:=Lib.hid hM
  have HR:=Lib.hid hr
  have HWS:=Lib.hid hWs
  have B0N:=Lib.hid b0
  clear hB b0 b1 hr h hU hFw hN hM hWs
  go_enter Try.func44,Try.ntmps44
  go_wp2_with fail
  (try rw [hW])
  refine HR.out.mono ?_
  rintro e w1 ⟨rfl,hb1⟩
  dsimp only
  have HB1:=Lib.hid (HB.out.trans (hb1.mono HB.out.size))
  have C0:=Lib.hid ((hb1.block _ hlb).trans B0.out)
  have C0N:=Lib.hid ((hb1.block _ hlb).trans B0N.out)
  have C1:=Lib.hid ((hb1.block _ hlr).trans B1.out)
  have HS1:=Lib.hid (show w.heap.size + 2≤w1.heap.size by have h1:=hb1.size; rw [HWS.out] at h1; exact h1)
  clear hb1 hlb hlr g0 g1 g2 hW HB B0 B0N B1 HR HWS
  have g0:=cell_of_heap C0N.out 0 (.slice F N cF) rfl
  have g1:=cell_of_heap C0N.out 1 (.slice G M cG) rfl
  have g2:=cell_of_heap C0N.out 2 (.int .i64 u.top) rfl
  have hlb:=(Array.getElem?_eq_some_iff.1 C0N.out).1
  have HSW:Hid (SwS w (w1.alloc (.cells #[.slice none 0 0,.slice G M cG,.int .i64 u.top] 43)) u F G cF cG [] (.slice none 0 0) w.heap.size (w.heap.size + 1) w1.heap.size):=Lib.hid
    ⟨HB1.out.trans ((Below.one w1 _).mono HB1.out.size),alloc_keeps C0.out _,⟨_,alloc_keeps C1.out _,rfl⟩,by rw [HM.out]; exact heap_alloc_new w1 _,World.ownsRow_nil _ _ _ _,fun x hx=>nomatch hx⟩
  have HG0:=Lib.hid (alloc_keeps C0N.out (.cells #[.slice none 0 0,.slice G M cG,.int .i64 u.top] 43))
  go_upto_region 5 with fail
  obtain ⟨w2,hw2⟩:∃ w2,w1.alloc (.cells #[.slice none 0 0,.slice G M cG,.int .i64 u.top] 43)=w2:=⟨_,rfl⟩
  obtain ⟨ob,hob⟩:∃ ob,w1.heap.size=ob:=⟨_,rfl⟩
  rw [hw2] at HSW HG0 ⊢
  rw [hob] at HSW HS1 ⊢
  clear hw2 hob g0 g1 g2 hlb C0 C0N C1 HB1
  have g0:=cell_of_heap HG0.out 0 (.slice F N cF) rfl
  have hlb:=(Array.getElem?_eq_some_iff.1 HG0.out).1
  go_wp2_with fail
  refine all_loop u F G cF cG N M ob w w2 HU.out HFW.out H.out HN.out HM.out hN6 (by omega) HS1.out HSW.out _ ?_
  intros
  rename_i w3 L V hS hL hA
  obtain ⟨A,cap,rfl,_⟩:=hS.read
  have HS:=Lib.hid hS
  have HLL:=Lib.hid hL
  have HAR:=Lib.hid hA
  have hux:=hS.ux
  have hox:=hS.ox
  simp only [unObj] at hux
  rw [HN.out,HM.out] at hux
  rw [HM.out] at hox
  have u1:=cell_of_heap hux 1 (.slice G M cG) rfl
  have o0:=cell_of_heap hox 0 (.slice A L.length cap) rfl
  have o1:=cell_of_heap hox 1 (.slice G M cG) rfl
  have o2:=cell_of_heap hox 2 (.int .i64 u.top) rfl
  have hlu:=(Array.getElem?_eq_some_iff.1 hux).1
  have hlo:=(Array.getElem?_eq_some_iff.1 hox).1
  have hre:=hS.rx
  have HOB:Hid (w.heap.size + 2≤ob):=HS1
  have hO3:(w3.alloc (.cells #[] 81)).ownsRow w.heap.size 81 4 (.slice (some ⟨w3.heap.size,0,none⟩) 0 0) 0 []:=World.ownsRow_lit w3 #[] 0 hS.b.size (by decide) rfl
  have hG3:RdG (w3.alloc (.cells #[] 81)) G u.globs:=(H.out.gs.below hS.b).below (Below.one _ _)
  have HO3:=Lib.hid hO3
  have HG3:=Lib.hid hG3
  have HB3:=Lib.hid (Below.one w3 (.cells #[] 81))
  clear hS hL hA g0 hlb HSW HG0 hux hox hO3 hG3 hre HOB
  (try simp only [Exit.inBlock])
  go_upto_region 12 with (show wpList Try.prog _ _ (⟨some 35,_,_,_,_,_⟩::_) _ _; refine wpList_append_gl rfl (.tmp 32) (.tmp 34) rfl w.heap.size (.slice (some ⟨w3.heap.size,0,none⟩) 0 0) rfl HO3.out G u.globs cG (by rw [HM.out]; rfl) HG3.out (by rw [HM.out]; omega) (Nat.le_trans HS.out.b.size (by simp)) ?_; intro V' w4 hV4 hg4; obtain ⟨A4,c4,rfl⟩:=own_len hV4; have hb4:Below w3.heap.size w3 w4:=HB3.out.grown hg4 (by simp) (fun k hk=>by simp [Value.ownBlock] at hk; omega); have HS4:=Lib.hid (HS.out.later hb4); have hox:=HS4.out.ox; have hox1:=hox; rw [HM.out] at hox1; have v0:=cell_of_heap hox1 0 (.slice A L.length cap) rfl; have v1:=cell_of_heap hox1 1 (.slice G M cG) rfl; have v2:=cell_of_heap hox1 2 (.int .i64 u.top) rfl; have f1:=free_of_heap hox1 1; have hlo4:=(Array.getElem?_eq_some_iff.1 hox).1)
  have hob:=HS1.out
  obtain ⟨cs,hrx,hcs⟩:=HS4.out.rx
  obtain ⟨w5,hw5⟩:∃ w5,w4.setCell ⟨ob,1,none⟩ (.slice A4 u.globs.length c4)=w5:=⟨_,rfl⟩
  have hox5:w5.heap[ob]? = some (.cells #[.slice A L.length cap,.slice A4 u.globs.length c4,.int .i64 u.top] 43 (0,0)):=by rw [← hw5]; exact heap_setCell (j:=1) hox _
  have hrx5:w5.heap[w.heap.size + 1]? = some (.cells cs 43 (0,0)):=by rw [← hw5]; exact (heap_setCell_other w4 ⟨ob,1,none⟩ (w.heap.size + 1) _ (show w.heap.size + 1≠ob by omega)).trans hrx
  have hb5:Below w.heap.size w w5:=by rw [← hw5]; exact HS4.out.b.setCell (show w.heap.size≤ob by omega) _
  have hk5:∀ (g:Nat) (cs:Array Value) (ty:TypeId),w4.heap[g]? = some (.cells cs ty (0,0))→ty≠43→w5.heap[g]? = w4.heap[g]?:=fun g cs ty hg ht=>by rw [← hw5]; exact heap_setCell_other w4 ⟨ob,1,none⟩ g _ (ty_ne hg hox ht)
  obtain ⟨w6,hw6⟩:∃ w6,w5.setRow (w.heap.size + 1) #[.slice A L.length cap,.slice A4 u.globs.length c4,.int .i64 u.top]=w6:=⟨_,rfl⟩
  have hR0:w6.heap[w.heap.size + 1]? = some (.cells #[.slice A L.length cap,.slice A4 u.globs.length c4,.int .i64 u.top] 43 (0,0)):=by rw [← hw6]; exact setRow_heap _ _ _ _ _ _ hrx5
  have hb6:Below w.heap.size w w6:=by rw [← hw6]; exact below_setRow hb5 (by omega) _
  have hk6:∀ (g:Nat) (cs:Array Value) (ty:TypeId),w4.heap[g]? = some (.cells cs ty (0,0))→ty≠43→w6.heap[g]? = w4.heap[g]?:=fun g cs ty hg ht=>by
    have h5:=hk5 g cs ty hg ht
    rw [← hw6]
    exact (setRow_other _ _ _ _ (ty_ne (h5.trans hg) hrx5 ht)).trans h5
  obtain ⟨A6,cap6,e6,hrd⟩:=HS4.out.fin hk6
  injection e6 with e6 e7 e8
  subst e6 e8
  have HRD:=Lib.hid hrd
  have HB6:=Lib.hid hb6
  have HW6:=Lib.hid hw6
  have r0:=cell_of_heap hR0 0 (.slice A L.length cap) rfl
  have r1:=cell_of_heap hR0 1 (.slice A4 u.globs.length c4) rfl
  have r2:=cell_of_heap hR0 2 (.int .i64 u.top) rfl
  have d0:=cell_of_heap hox5 0 (.slice A L.length cap) rfl
  have d1:=cell_of_heap hox5 1 (.slice A4 u.globs.length c4) rfl
  have d2:=cell_of_heap hox5 2 (.int .i64 u.top) rfl
  have hlo5:=(Array.getElem?_eq_some_iff.1 hox5).1
  rw [hw5]
  clear e7 hrd hb6 hb5 hk5 hk6 hR0 hox5 hw5 hw6 v0 v1 v2 f1 hlo4 hox hox1 hb4 hV4 hg4 hrx o0 o1 o2 u1 hlu hlo
  go_wp2_with (first
    | (show wpList Try.prog _ _ (⟨none,.store _ (.tmp 2) _,_,_,_,_⟩::_) _ _; refine wpList_store_row rfl 43 (.tmp 2) (.tmp 37) rfl (w.heap.size + 1) #[.slice A L.length cap,.slice A4 u.globs.length c4,.int .i64 u.top] rfl rfl 43 _ hrx5 sUn hcs (un_one _ _ _ _ _ _ _) ?_; rw [HW6.out]))
  (try simp only [Exit.inBlock,Exit.then])
  refine bodyPost_ret (by simp [results,Try.results44,go_sem,r0,r1,r2]; try rfl) rfl ?_
  refine ⟨⟨L.map (·.1),A,A4,cap,c4,by simp,HRD.out,by rw [List.length_map,HLL.out,HN.out],fun k f g hf hg=>?_⟩,HB6.out⟩
  rw [List.getElem?_map] at hg
  obtain ⟨x,hx,rfl⟩:=Option.map_eq_some_iff.1 hg
  exact HAR.out k f x hf hx
end Go.Proofs.Ytkcclefonmnpnaa

