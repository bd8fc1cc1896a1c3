import Derived.Test.YtkcclefonmnpnaaIn
import Derived.Test.YtkcclefonmnpnaaYc
namespace Go.Proofs.Ytkcclefonmnpnaa
open Go.RowKit Go.BigFrame
noncomputable def allF (u:Un7)(k:Nat)(f:Fn7):Fn7:=⟨f.nm,f.ps,(ofS u k f).R,f.Fr,(ofS u k f).C⟩
theorem wpList_append_fn {ops:Array Oper} {rest:List Oper} {o:Oper} {a:Act} {w:World} {Q:Exit→Act→World→Prop} (hgd:o.guard=none) (s x:Operand)
    (ho:o.op = .call { callee:=.builtin .append,args:=#[s,x],argTypes:=#[40,40] }) (base:Nat) (V:Value) (k:List (Fn7 × Nat × Nat)) (hs:a.eval s=V) (hown:w.ownsRow base 24 5 V k.length (k.flatMap fxL))
    (g:Nat) (y:Fn7 × Nat × Nat) (hx:a.eval x = .slice (some ⟨g,0,none⟩) 1 1) (hg:w.heap[g]? = some (.cells (fxL y).toArray 24 (0,0))) (hn:k.length≤90000) (hb:base≤w.heap.size)
    (h:∀ V' w',w'.ownsRow base 24 5 V' (k++[y]).length ((k++[y]).flatMap fxL)→w.grownBy w' V.ownBlock→wpList Try.prog ops Q rest (a.put o.dst V') w') :
    wpList Try.prog ops Q (o::rest) a w:=by
  refine wpList_plain hgd fun K hK=>?_
  obtain ⟨i0,hi,hz0,hz1,hz2⟩:=info_parts info_fu
  obtain ⟨V',w',hr,h1,h2,_,h4⟩:=run_append_own_at (P:=Try.prog) w base 40 o.type 24 i0 (.agg #[.string ⟨#[]⟩,.int .i64 0,.int .i64 0,.int .i64 0,.slice none 0 0]) 5 64 (by kernel_rfl) hi hz0 hz1 hz2 rfl (by decide) V k.length (k.flatMap fxL) hown ⟨g,0,none⟩ 1 1 (fxL y) (by rfl)
    (fun j u hu=>by
      have hadd:(⟨g,0,none⟩:Addr).add j=⟨g,j,none⟩:=by
        unfold Addr.add; split
        · rename_i h0; rw [h0]
        · simp
      rw [hadd]
      exact cell_of_heap hg j u (by simpa using hu)) (fun u hu=>flatFx_one [y] u (by simpa using hu)) (by simp only [maxLen]; omega) (by omega) hb
  have hfl:(k++[y]).flatMap fxL=k.flatMap fxL++fxL y:=by simp
  unfold Oper.wp execOp
  simp only [ho,resolve,invoke,builtin,Sem.run_bind,Sem.run_pure,Result.andThen_ok,List.map_toArray,List.map_cons,List.map_nil,hs,hx,hr]
  exact hK _ _ (h V' w' (by rw [List.length_append,hfl]; exact h1) h2)
def AlR (u:Un7)(L:List (Fn7 × Nat × Nat)):Prop:=∀ (j:Nat) f x,u.funcs[j]? = some f→L[j]? = some x→x.1=allF u j f
theorem AlR.push {u:Un7}{L:List (Fn7 × Nat × Nat)}(h:AlR u L){f:Fn7}(hf:u.funcs[L.length]? = some f)(nb cp:Nat):AlR u (L++[(allF u L.length f,nb,cp)]):=fun j f' x hf' hx=>by
  by_cases hj:j < L.length
  · rw [List.getElem?_append_left hj] at hx
    exact h j f' x hf' hx
  · obtain rfl:j=L.length:=by
      have h1:=(List.getElem?_eq_some_iff.1 hx).1
      simp at h1
      omega
    rw [List.getElem?_append_right (Nat.le_refl _),Nat.sub_self] at hx
    simp at hx
    subst hx
    rw [hf] at hf'
    injection hf' with hf'
    subst hf'
    rfl
noncomputable def allLoop:Code:=((((Try.f44.body).map loopsI).getD [])[0]?).getD .skip
set_option maxRecDepth 1000000 in
set_option maxHeartbeats 16000000 in
theorem all_loop (u:Un7) (F G:Option Addr) (cF cG N M ob:Nat) (w wm:World) (hU:OkU u) (hFw:∀ f ∈ u.funcs,Sm f) (h:RdU w F G u) (hN:u.funcs.length=N) (hM:u.globs.length=M) (hN6:N≤6) (hM9:M≤100000) (hob:w.heap.size + 2≤ob) (hS:SwS w wm u F G cF cG [] (.slice none 0 0) w.heap.size (w.heap.size + 1) ob) :
    ∀ ⦃x0 x2 x4 x5 x6 x7 x8 x9 x10 x11 x12 x13 x17 x18 x19 x20 x21 x22 x23 x24 x25 x26 x27 x28 x29 x30 x31 x32 x33 x34 x35 x36 x37:Value⦄ (Q:Exit→Act→World→Prop),(∀ ⦃y4 y5 y6 y16 y17 y18 y19 y20 y21 y22 y23 y24 y25 y26 y27 y28 y29 y30 y31:Value⦄ ⦃w':World⦄ (L:List (Fn7 × Nat × Nat)) (V:Value),SwS w w' u F G cF cG L V w.heap.size (w.heap.size + 1) ob→L.length=N→AlR u L→Q (.exit 0) ⟨(x0::.pointer (some ⟨w.heap.size,0,none⟩)::x2::.pointer (some ⟨ob,0,none⟩)::y4::y5::y6::x7::x8::x9::x10::x11::x12::x13::.slice F N cF::.int .i64 (N:Int)::y16::y17::y18::y19::y20::y21::y22::y23::y24::y25::y26::y27::y28::y29::y30::y31::x32::x33::x34::x35::x36::x37::[]).toArray,[]⟩ w')→Code.wp Try.prog allLoop Q ⟨(x0::.pointer (some ⟨w.heap.size,0,none⟩)::x2::.pointer (some ⟨ob,0,none⟩)::x4::x5::x6::x7::x8::x9::x10::x11::x12::x13::.slice F N cF::.int .i64 (N:Int)::.int .i64 0::x17::x18::x19::x20::x21::x22::x23::x24::x25::x26::x27::x28::x29::x30::x31::x32::x33::x34::x35::x36::x37::[]).toArray,[]⟩ wm:=by
  intros
  rename_i Q hQ
  conv=>arg 2; whnf
  have HQ:=Lib.hid hQ
  have HU:=Lib.hid hU
  have HFW:=Lib.hid hFw
  have H:=Lib.hid h
  have HN:=Lib.hid hN
  have HM:=Lib.hid hM
  have HS:=Lib.hid hS
  have HM9:=Lib.hid hM9
  have HOB:=Lib.hid hob
  clear hQ hU hFw h hN hM hS hM9 hob
  go_loopw [16] (fun ix wr=>∃ (k:Nat) (L:List (Fn7 × Nat × Nat)) (V:Value),k≤N∧ix = .int .i64 k∧SwS w wr u F G cF cG L V w.heap.size (w.heap.size + 1) ob∧L.length=k∧AlR u L) (fun ix _=>N - (intOf ix).toNat)
  case atStart=>exact ⟨0,[],_,by omega,rfl,HS.out,rfl,fun j f x _ hx=>nomatch hx⟩
  case round =>
    obtain ⟨k,L,V,hk,rfl,hs,hLk,hrel⟩:=hrel
    have HSS:=Lib.hid hs
    have HREL:=Lib.hid hrel
    have HLK:=Lib.hid hLk
    clear HS hrel
    by_cases hlt:k < N
    · obtain ⟨f,hf⟩:∃ f,u.funcs[k]? = some f:=⟨_,List.getElem?_eq_getElem (by rw [HN.out]; exact hlt)⟩
      have hcu:=hs.ux
      have hco:=hs.ox
      simp only [unObj] at hcu
      rw [HN.out,HM.out] at hcu
      have u0:=cell_of_heap hcu 0 (.slice F N cF) rfl
      have u1:=cell_of_heap hcu 1 (.slice G M cG) rfl
      have u2:=cell_of_heap hcu 2 (.int .i64 u.top) rfl
      have hlu:=(Array.getElem?_eq_some_iff.1 hcu).1
      have hur:RdU wr F G u:=⟨H.out.fs.below hs.b,H.out.gs.below hs.b⟩
      have hof:=Of_yes u F G cF cG k f HU.out HFW.out hf (by rw [HM.out]; exact HM9.out) wr hur
      obtain ⟨S,hSe⟩:∃ S,ofS u k f=S:=⟨_,rfl⟩
      have HSE:=Lib.hid hSe
      rw [hSe] at hof
      obtain ⟨LC,hLC⟩:∃ LC,S.C.length=LC:=⟨_,rfl⟩
      have HLC:=Lib.hid hLC
      simp only [funcAgg,unAgg,hLC] at hof
      rw [HN.out,HM.out] at hof
      have HOF:=Lib.hid hof
      have HF:=Lib.hid hf
      have hA9:L.length≤90000:=by omega
      have HA9:=Lib.hid hA9
      clear hof hf hur hSe hLC hco hcu hs hA9
      go_wp2_with fail
      refine HOF.out.mono ?_
      rintro e w2 ⟨⟨nb,cp,rfl,hnb,hpre⟩,hb2⟩
      dsimp only
      have HS2:=Lib.hid (HSS.out.later hb2)
      have HP2:=Lib.hid hpre
      clear HOF HSS hb2 hpre hnb u0 u1 u2 hlu
      have HS3:=Lib.hid (HS2.out.later (Below.one w2 (.cells #[.string f.nm,.int .i64 f.ps,.int .i64 S.R,.int .i64 f.Fr,.slice (some ⟨nb,0,none⟩) LC cp] 24)))
      have HP3:=Lib.hid (Pre.later HP2.out (Below.one w2 (.cells #[.string f.nm,.int .i64 f.ps,.int .i64 S.R,.int .i64 f.Fr,.slice (some ⟨nb,0,none⟩) LC cp] 24)))
      have HX3:=Lib.hid (heap_alloc_new w2 (.cells #[.string f.nm,.int .i64 f.ps,.int .i64 S.R,.int .i64 f.Fr,.slice (some ⟨nb,0,none⟩) LC cp] 24))
      go_upto_region 9 with fail
      obtain ⟨w3,hw3⟩:∃ w3,w2.alloc (.cells #[.string f.nm,.int .i64 f.ps,.int .i64 S.R,.int .i64 f.Fr,.slice (some ⟨nb,0,none⟩) LC cp] 24)=w3:=⟨_,rfl⟩
      obtain ⟨b5,hb5⟩:∃ b5,w2.heap.size=b5:=⟨_,rfl⟩
      rw [hw3] at HS3 HP3 HX3 ⊢
      rw [hb5] at HX3 ⊢
      clear hw3 hb5 HS2 HP2
      have x0:=cell_of_heap HX3.out 0 (.string f.nm) rfl
      have x1:=cell_of_heap HX3.out 1 (.int .i64 f.ps) rfl
      have x2:=cell_of_heap HX3.out 2 (.int .i64 S.R) rfl
      have x3:=cell_of_heap HX3.out 3 (.int .i64 f.Fr) rfl
      have x4:=cell_of_heap HX3.out 4 (.slice (some ⟨nb,0,none⟩) LC cp) rfl
      have o0:=cell_of_heap HS3.out.ox 0 V rfl
      have hlx:=(Array.getElem?_eq_some_iff.1 HX3.out).1
      have hlo:=(Array.getElem?_eq_some_iff.1 HS3.out.ox).1
      have HFX:Hid (fxL (allF u L.length f,nb,cp)=[.string f.nm,.int .i64 f.ps,.int .i64 S.R,.int .i64 f.Fr,.slice (some ⟨nb,0,none⟩) LC cp]):=Lib.hid (by simp only [allF,HLK.out,HSE.out]; rw [← HLC.out])
      have HS4:=Lib.hid (HS3.out.later (Below.one w3 (.cells #[.string f.nm,.int .i64 f.ps,.int .i64 S.R,.int .i64 f.Fr,.slice (some ⟨nb,0,none⟩) LC cp] 24)))
      have HP4:Hid (PreI (w3.alloc (.cells #[.string f.nm,.int .i64 f.ps,.int .i64 S.R,.int .i64 f.Fr,.slice (some ⟨nb,0,none⟩) LC cp] 24)) ((allF u L.length f,nb,cp):Fn7 × Nat × Nat).2.1 ((allF u L.length f,nb,cp):Fn7 × Nat × Nat).1.code):=Lib.hid (by
        have:=Pre.later HP3.out (Below.one w3 (.cells #[.string f.nm,.int .i64 f.ps,.int .i64 S.R,.int .i64 f.Fr,.slice (some ⟨nb,0,none⟩) LC cp] 24))
        simp only [allF,HLK.out,HSE.out]
        exact this)
      have HG4:Hid ((w3.alloc (.cells #[.string f.nm,.int .i64 f.ps,.int .i64 S.R,.int .i64 f.Fr,.slice (some ⟨nb,0,none⟩) LC cp] 24)).heap[w3.heap.size]? = some (.cells (fxL (allF u L.length f,nb,cp)).toArray 24 (0,0))):=Lib.hid (by rw [HFX.out]; exact heap_alloc_new w3 (.cells #[.string f.nm,.int .i64 f.ps,.int .i64 S.R,.int .i64 f.Fr,.slice (some ⟨nb,0,none⟩) LC cp] 24))
      clear HFX
      have hob2:=HOB.out
      go_wp2_with (first
        | (show wpList Try.prog _ _ (⟨some 29,_,_,_,_,_⟩::_) _ _; refine wpList_append_fn rfl (.tmp 26) (.tmp 28) rfl w.heap.size V L rfl HS4.out.own w3.heap.size (allF u L.length f,nb,cp) rfl HG4.out HA9.out HS4.out.b.size ?_; intro V' w5 ho5 hg5; have hS5:=Lib.hid (HS4.out.push (allF u L.length f,nb,cp) HP4.out (by omega) (by omega) (by omega) hg5 ho5); have hx5:=(hg5.block _ (Array.getElem?_eq_some_iff.1 HS4.out.ox).1 (own_ne HS4.out.own HS4.out.ox (by decide)).symm).trans HS4.out.ox; obtain ⟨A5,n5,c5,rfl⟩:=own_slice ho5; have v5:=cell_of_heap hx5 0 V rfl; have f5:=free_of_heap hx5 0; clear hx5 ho5 hg5))
      refine ⟨⟨k + 1,_,_,hlt,by go_num,hS5.out,by rw [List.length_append,HLK.out]; rfl,?_⟩,by simp [intOf]; omega⟩
      exact HREL.out.push (by rw [HLK.out]; exact HF.out) nb cp
    · obtain rfl:N=k:=by omega
      clear hs hLk
      go_wp2_with fail
      exact HQ.out L V HSS.out HLK.out HREL.out
end Go.Proofs.Ytkcclefonmnpnaa

