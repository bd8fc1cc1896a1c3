import Derived.Test.YtkcclefonmnpnaaWq
namespace Go.Proofs.Ytkcclefonmnpnaa
open Go.RowKit Go.BigFrame
abbrev zeroRe:Obj:=.cells #[.int .i64 0,.int .i64 0,.slice none 0 0] 49
def gmemTo (l:List Gl)(k:Nat):List Int:=(l.take k).foldl (fun m g=>if g.at_ < 4096 then m.set g.at_.toNat g.init else m) (List.replicate 4096 0)
theorem gmemTo_all (l:List Gl):gmemTo l l.length=gmem l:=by unfold gmemTo gmem; rw [List.take_length]
theorem gmemTo_succ {l:List Gl}{k:Nat}{g:Gl}(h:l[k]? = some g):gmemTo l (k + 1)=if g.at_ < 4096 then (gmemTo l k).set g.at_.toNat g.init else gmemTo l k:=by
  unfold gmemTo
  rw [List.take_add_one,h,List.foldl_append]
  rfl
theorem gmemTo_len (l:List Gl):∀ k,(gmemTo l k).length=4096:=by
  have key:∀ (l:List Gl) (m:List Int),(l.foldl (fun m g=>if g.at_ < 4096 then m.set g.at_.toNat g.init else m) m).length=m.length:=by
    intro l
    induction l with
    | nil=>intro m; rfl
    | cons g l ih =>
      intro m
      rw [List.foldl_cons,ih]
      split <;> simp
  intro k
  unfold gmemTo
  rw [key]
  exact List.length_replicate ..
theorem make_4096 (W:World):(Instr.makeSlice 33 (.int .i64 4096) (.int .i64 4096)).run Try.prog W = .ok (.slice (some ⟨W.heap.size,0,none⟩) 4096 4096) (W.alloc (.cells (madeCells #[.int .i64 0] 4096) 3)):=make_regs 4096 (by omega) W
theorem RnS.first {w0 w w':World}{E:Env}{mb rb:Nat}{iv ov sv:Value}(h:RnS w0 w [] E mb rb iv ov sv)(hb:Below w.heap.size w w')(t:Fr7)(hr:w'.heap[w.heap.size]? = some (regO t.ρ))(hf:w'.heap[w.heap.size + 1]? = some (frObj t w.heap.size t.ρ.length)):RnS w0 w' [(t,w.heap.size)] E mb rb iv ov (.slice (some ⟨w.heap.size + 1,0,none⟩) 1 1):=by
  have h1:=h.later hb
  exact { b := h1.b,mem:=h1.mem,ml:=h1.ml,mB:=h1.mB,res:=h1.res,rB:=h1.rB,inp:=h1.inp,out:=h1.out
          stk:=⟨rfl,Or.inr ⟨w.heap.size + 1,1,_,rfl,Nat.le_succ_of_le h.b.size,hf,Nat.le_refl _,by decide,rfl,rfl⟩⟩
          regs:=fun x hx=>by
            obtain rfl:=List.mem_singleton.1 hx
            exact ⟨h.b.size,Ne.symm h.fresh.1,hr⟩
          nd:=by simp }
set_option maxRecDepth 1000000 in
set_option maxHeartbeats 32000000 in
theorem Run_any (u:Un7) (F G:Option Addr) (cF cG:Nat) (I:Option Addr) (icap:Nat) (inp:List Int) (n:Int) (w:World) (h:RdU w F G u) (hU:OkU u) (hlg:u.globs.length≤100000) (hI:RdB w I inp) (hic:inp.length≤icap) (hby:∀ a ∈ inp,0≤a∧a≤255) (hn:n≤5000) :
    Calls Try.prog 30 #[unAgg u F G cF cG,.slice I inp.length icap,.int .i64 n] w fun e w'=>ResT (runU u inp n.toNat) e w'∧Below w.heap.size w w':=by
  have hul:=hU.len
  have hB:=Below.one w (unObj u F G cF cG)
  have hx:=heap_alloc_new w (unObj u F G cF cG)
  have h1:=h.below hB
  have hI1:=hI.below hB
  have hfind:=fun W h=>Find_any u F G cF cG mainNm (by omega) W h
  have hright:=fun W (h:RdU W F G u)=>(Right_any u F G cF cG W h (by omega) hlg).mono fun e w' h=>(⟨by obtain ⟨⟨bb,h1,h2⟩,_⟩:=h; rw [h1,h2.2 hU],h.2⟩:e = .returned (.bool true)∧Below W.heap.size W w')
  have hzW:(w.alloc (unObj u F G cF cG)).heap.size=w.heap.size + 1:=by simp
  obtain ⟨W,hW⟩:∃ W,w.alloc (unObj u F G cF cG)=W:=⟨_,rfl⟩
  rw [hW] at hB hx h1 hI1 hzW
  obtain ⟨ub,hub⟩:∃ ub,w.heap.size=ub:=⟨_,rfl⟩
  rw [hub] at hx hzW hB
  have hB1:=Below.one W zeroRe
  have hr1:=heap_alloc_new W zeroRe
  have hx1:=(hB1.block _ (Array.getElem?_eq_some_iff.1 hx).1).trans hx
  have hz1:(W.alloc zeroRe).heap.size=W.heap.size + 1:=by simp
  obtain ⟨W1,hW1⟩:∃ W1,W.alloc zeroRe=W1:=⟨_,rfl⟩
  rw [hW1] at hB1 hr1 hx1 hz1
  obtain ⟨N,hN⟩:∃ N,u.funcs.length=N:=⟨_,rfl⟩
  obtain ⟨M,hM⟩:∃ M,u.globs.length=M:=⟨_,rfl⟩
  simp only [unObj,unAgg,zeroRe] at hx hx1 hr1 hW hW1 hfind hright ⊢
  simp only [hN,hM] at hx hx1 hW hfind hright ⊢
  simp only [mainNm] at hfind
  have hM9:M≤100000:=by rw [← hM]; exact hlg
  have HN:=Lib.hid hN
  have HM:=Lib.hid hM
  have HB:=Lib.hid hB
  have HX:=Lib.hid hx
  have HX1:=Lib.hid hx1
  have HR1:=Lib.hid hr1
  have H1:=Lib.hid h1
  have HI1:=Lib.hid hI1
  have HB1:=Lib.hid hB1
  have HFIND:=Lib.hid hfind
  have HRIGHT:=Lib.hid hright
  have HU:=Lib.hid hU
  have HBY:=Lib.hid hby
  have HZW:=Lib.hid hzW
  have HZ1:=Lib.hid hz1
  have g0:=cell_of_heap hx1 0 (.slice F N cF) rfl
  have g1:=cell_of_heap hx1 1 (.slice G M cG) rfl
  have g2:=cell_of_heap hx1 2 (.int .i64 u.top) rfl
  clear h hI hB hx h1 hI1 hfind hright hB1 hr1 hx1 hU hby hN hM hzW hz1
  go_enter Try.func30,Try.ntmps30
  go_wp2_with fail
  refine (HFIND.out _ (H1.out.fs.below HB1.out)).mono ?_
  rintro e w2 ⟨rfl,hb2⟩
  dsimp only
  have HX2:=Lib.hid ((hb2.block _ (Array.getElem?_eq_some_iff.1 HX1.out).1).trans HX1.out)
  have HR2:=Lib.hid ((hb2.block _ (Array.getElem?_eq_some_iff.1 HR1.out).1).trans HR1.out)
  have HB2:=Lib.hid (HB1.out.trans (hb2.mono HB1.out.size))
  have k0:=cell_of_heap HX2.out 0 (.slice F N cF) rfl
  have k1:=cell_of_heap HX2.out 1 (.slice G M cG) rfl
  have k2:=cell_of_heap HX2.out 2 (.int .i64 u.top) rfl
  clear hb2 g0 g1 g2
  go_wp2_with fail
  refine (HRIGHT.out _ (H1.out.below HB2.out)).mono ?_
  rintro e w3 ⟨rfl,hb3⟩
  dsimp only
  have HX3:=Lib.hid ((hb3.block _ (Array.getElem?_eq_some_iff.1 HX2.out).1).trans HX2.out)
  have HR3:=Lib.hid ((hb3.block _ (Array.getElem?_eq_some_iff.1 HR2.out).1).trans HR2.out)
  have HB3:=Lib.hid (HB2.out.trans (hb3.mono HB2.out.size))
  have H3:=Lib.hid (H1.out.below HB3.out)
  have m0:=cell_of_heap HX3.out 0 (.slice F N cF) rfl
  have m1:=cell_of_heap HX3.out 1 (.slice G M cG) rfl
  have m2:=cell_of_heap HX3.out 2 (.int .i64 u.top) rfl
  clear hb3 k0 k1 k2
  have hend:∀ e:Int,Fin W (w3.setRow W.heap.size #[.int .i64 e,.int .i64 0,.slice none 0 0]) W.heap.size ⟨e,0,[]⟩:=fun e=>⟨none,0,setRow_heap _ _ _ _ _ _ HR3.out,⟨fun j n hj=>by simp at hj,Nat.le_refl _⟩,below_setRow HB3.out (Nat.le_refl _) _⟩
  have HEND:=Lib.hid hend
  clear hend
  cases hfu:findU u.funcs ⟨#[109,97,105,110]⟩ with
  | none=>as_aux_lemma =>
    rw [findI_none hfu]
    have HRU:Hid (runU u inp n.toNat=⟨4,0,[]⟩):=Lib.hid (by unfold runU mainNm; rw [hfu])
    obtain ⟨A,cap,hc,hrd,hbb⟩:=HEND.out 4
    have e0:=cell_of_heap hc 0 _ rfl
    have e1:=cell_of_heap hc 1 _ rfl
    have e2:=cell_of_heap hc 2 _ rfl
    have HRD:=Lib.hid hrd
    have HBB:=Lib.hid hbb
    clear hc hrd hbb hfu
    go_wp2_with (first
      | (show wpList Try.prog _ _ (⟨none,.store _ (.tmp 6) _,_,_,_,_⟩::_) _ _; refine wpList_store_row rfl 49 (.tmp 6) (.tmp 43) rfl W.heap.size #[.int .i64 4,.int .i64 0,.slice none 0 0] rfl rfl 49 _ HR3.out sRe rfl (re_one _ _ _ _ _) ?_))
    (try simp only [Exit.inBlock,Exit.then])
    refine bodyPost_ret (by simp [results,Try.results30,go_sem,e0,e1,e2]; try rfl) rfl ?_
    rw [HRU.out]
    exact ⟨⟨A,cap,rfl,HRD.out⟩,HB.out.trans (HBB.out.mono (by rw [← hub]; exact HB.out.size))⟩
  | some km =>
    rw [findI_some hfu]
    obtain ⟨f,hfk,hfn⟩:=findU_lt hfu
    have hOf:=HU.out.ok f (List.mem_of_getElem? hfk)
    have hkN:km < N:=by rw [← HN.out]; exact (List.getElem?_eq_some_iff.1 hfk).1
    obtain ⟨bF,oF,C,cap,rfl,hbl,hcs,_⟩:=H3.out.fs km f hfk
    obtain ⟨q0,q1,q2,q3,q4⟩:=fn_cells hcs
    have HFK:=Lib.hid hfk
    have HFU:=Lib.hid hfu
    have HOF:=Lib.hid hOf
    clear hcs hfk hfu hfn
    by_cases hps:0 < f.ps
    · as_aux_lemma =>
      have t1:decide (f.ps > 0)=true:=by simpa using hps
      have t2:decide (0 < f.ps)=true:=by simpa using hps
      have HRU:Hid (runU u inp n.toNat=⟨4,0,[]⟩):=Lib.hid (by unfold runU mainNm; rw [HFU.out]; simp only [HFK.out]; rw [if_pos hps])
      obtain ⟨A,cap',hc,hrd,hbb⟩:=HEND.out 4
      have e0:=cell_of_heap hc 0 _ rfl
      have e1:=cell_of_heap hc 1 _ rfl
      have e2:=cell_of_heap hc 2 _ rfl
      have HRD:=Lib.hid hrd
      have HBB:=Lib.hid hbb
      clear hc hrd hbb hOf hps
      go_wp2_with (first
        | (show wpList Try.prog _ _ (⟨none,.store _ (.tmp 6) _,_,_,_,_⟩::_) _ _; refine wpList_store_row rfl 49 (.tmp 6) (.tmp 43) rfl W.heap.size #[.int .i64 4,.int .i64 0,.slice none 0 0] rfl rfl 49 _ HR3.out sRe rfl (re_one _ _ _ _ _) ?_))
      (try simp only [Exit.inBlock,Exit.then])
      refine bodyPost_ret (by simp [results,Try.results30,go_sem,e0,e1,e2]; try rfl) rfl ?_
      rw [HRU.out]
      exact ⟨⟨A,cap',rfl,HRD.out⟩,HB.out.trans (HBB.out.mono (by rw [← hub]; exact HB.out.size))⟩
    have t1:decide (f.ps > 0)=false:=by simpa using hps
    have t2:decide (0 < f.ps)=false:=by simpa using hps
    have HRU:Hid (runU u inp n.toNat=if 4096 < u.top + f.Fr then ⟨3,0,[]⟩ else urun u n.toNat (startU u km f) ⟨gmem u.globs,inp,[]⟩):=Lib.hid (by unfold runU mainNm; rw [HFU.out]; simp only [HFK.out]; rw [if_neg hps])
    have hmk:=fun W=>make_4096 W
    clear hOf hps
    go_wp2
    have HS0:Hid (RnS W (w3.alloc (.cells (madeCells #[.int .i64 0] 4096) 3)) [] ⟨gmemTo u.globs 0,inp,[]⟩ w3.heap.size W.heap.size (.slice I inp.length icap) (.slice none 0 0) (.slice none 0 0)):=Lib.hid {
      b:=HB3.out.trans ((Below.one w3 _).mono HB3.out.size)
      mem:=(heap_alloc_new w3 _).trans (congrArg some (made_regs 4096))
      ml:=gmemTo_len _ _
      mB:=HB3.out.size
      res:=⟨_,alloc_keeps HR3.out _,rfl⟩
      rB:=Nat.le_refl _
      inp:=⟨I,icap,rfl,HI1.out,hic,HBY.out⟩
      out:=World.ownsRow_nil _ _ _ _
      stk:=World.ownsRow_nil _ _ _ _
      regs:=fun x hx=>nomatch hx
      nd:=List.nodup_nil }
    obtain ⟨rb,hrb⟩:∃ rb,W.heap.size=rb:=⟨_,rfl⟩
    obtain ⟨mb,hmb⟩:∃ mb,w3.heap.size=mb:=⟨_,rfl⟩
    rw [hrb,hmb] at HS0
    rw [hrb,hmb]
    have HHX:=Lib.hid HX.out
    clear hmk m0 m1 m2 q0 q1 q2 q3 q4
    go_loopw [9] (fun ix wr=>∃ k:Nat,k≤M∧ix = .int .i64 k∧RnS W wr [] ⟨gmemTo u.globs k,inp,[]⟩ mb rb (.slice I inp.length icap) (.slice none 0 0) (.slice none 0 0)) (fun ix _=>M - (intOf ix).toNat)
    case atStart=>exact ⟨0,by omega,rfl,HS0.out⟩
    case round =>
      obtain ⟨k,hk,rfl,hs⟩:=hrel
      have HSr:=Lib.hid hs
      have hxr:=(hs.b.block _ (Array.getElem?_eq_some_iff.1 HX.out).1).trans HX.out
      have m0:=cell_of_heap hxr 0 (.slice (some ⟨bF,oF,none⟩) N cF) rfl
      have m1:=cell_of_heap hxr 1 (.slice G M cG) rfl
      have m2:=cell_of_heap hxr 2 (.int .i64 u.top) rfl
      clear hs
      by_cases hlt:k < M
      · as_aux_lemma =>
        have HLT:=Lib.hid hlt
        obtain ⟨g,hg⟩:∃ g,u.globs[k]? = some g:=⟨_,List.getElem?_eq_getElem (by rw [HM.out]; exact hlt)⟩
        obtain ⟨bG,oG,rfl,hbG,hcg⟩:=(H1.out.gs.below HSr.out.b) k g hg
        obtain ⟨z0,z1,z2,z3⟩:=gl_cells hcg
        have hok:=HU.out.gl g (List.mem_of_getElem? hg)
        have hsu:=gmemTo_succ hg
        obtain ⟨a,ha⟩:∃ a:Nat,g.at_=a:=⟨g.at_.toNat,by have:=hok.1; omega⟩
        rw [ha] at z1 hsu
        have HSU:=Lib.hid hsu
        clear hcg hok hsu ha
        by_cases h4:a < 4096
        · have t3:decide ((a:Int) < 4096)=true:=by simp; omega
          have mc:=regs_cell HSr.out.mem (r:=a) (by rw [HSr.out.ml]; exact h4)
          have mf:=free_of_heap HSr.out.mem a
          have HE:Hid (gmemTo u.globs (k + 1)=(gmemTo u.globs k).set a g.init):=Lib.hid (by rw [HSU.out,if_pos (by omega)]; rfl)
          go_wp2
          go_region
          go_wp2
          exact ⟨⟨k + 1,Nat.succ_le_of_lt HLT.out,by go_num,by rw [HE.out]; exact (HSr.out.mem_set a g.init).later (Below.refl _ _).drew⟩,by have:=HLT.out; simp [intOf]; omega⟩
        · have t3:decide ((a:Int) < 4096)=false:=by simp; omega
          have HE:Hid (gmemTo u.globs (k + 1)=gmemTo u.globs k):=Lib.hid (by rw [HSU.out,if_neg (by omega)])
          go_wp2
          exact ⟨⟨k + 1,Nat.succ_le_of_lt HLT.out,by go_num,by rw [HE.out]; exact HSr.out⟩,by have:=HLT.out; simp [intOf]; omega⟩
      · obtain rfl:k=M:=by omega
        have hE:gmemTo u.globs k=gmem u.globs:=by rw [← HM.out]; exact gmemTo_all _
        have HSe:Hid (RnS W wr [] ⟨gmem u.globs,inp,[]⟩ mb rb (.slice I inp.length icap) (.slice none 0 0) (.slice none 0 0)):=Lib.hid (by rw [← hE]; exact HSr.out)
        obtain ⟨b2,o2,C2,cap2,hF2,hbl2,hcs2,_⟩:=(H1.out.fs.below HSr.out.b) km f HFK.out
        injection hF2 with hF2
        injection hF2 with h1 h2
        subst h1 h2
        obtain ⟨q0,q1,q2,q3,q4⟩:=fn_cells hcs2
        have hFr:=HOF.out.Fr
        have hR:=HOF.out.R
        have hps0:=HOF.out.ps
        have htop:=HU.out.top
        clear hE hcs2
        by_cases hov:4096 < u.top + f.Fr
        · as_aux_lemma =>
          have t3:decide (u.top + f.Fr > 4096)=true:=by simpa using hov
          have t4:decide (4096 < u.top + f.Fr)=true:=by simpa using hov
          have HR0:Hid (runU u inp n.toNat=⟨3,0,[]⟩):=Lib.hid (by rw [HRU.out,if_pos hov])
          clear hov
          go_wp2
          go_quiet (fail)
          have HSq:=Lib.hid (HSe.out.later (w':=wr.drewN nq) ⟨rfl,rfl,rfl,Nat.le_refl _,fun _ _=>rfl⟩)
          generalize wr.drewN nq=wq at *
          obtain ⟨A,cap',hov2,A',cap2',hc,hrd,hbb⟩:=HSq.out.told 3 0
          obtain ⟨cs,hres,hsz⟩:=HSq.out.res
          have e0:=cell_of_heap hc 0 _ rfl
          have e1:=cell_of_heap hc 1 _ rfl
          have e2:=cell_of_heap hc 2 _ rfl
          have HRD:=Lib.hid hrd
          have HBB:=Lib.hid hbb
          clear hc hrd hbb hov2
          go_wp2_with (first
            | (show wpList Try.prog _ _ (⟨none,.store _ (.tmp 6) _,_,_,_,_⟩::_) _ _; refine wpList_store_row rfl 49 (.tmp 6) (.tmp 83) rfl rb #[.int .i64 3,.int .i64 0,.slice none 0 0] rfl rfl 49 _ hres sRe hsz (re_one _ _ _ _ _) ?_))
          (try simp only [Exit.inBlock,Exit.then])
          refine bodyPost_ret (by simp [results,Try.results30,go_sem,e0,e1,e2]; try rfl) rfl ?_
          rw [HR0.out]
          exact ⟨⟨A',cap2',rfl,HRD.out⟩,HB.out.trans (HBB.out.mono (by rw [← hub]; exact HB.out.size))⟩
        · have t3 : decide (u.top + f.Fr > 4096)=false:=by simpa using hov
          have t4:decide (4096 < u.top + f.Fr)=false:=by simpa using hov
          have HR0:Hid (runU u inp n.toNat=urun u n.toNat (startU u km f) ⟨gmem u.globs,inp,[]⟩):=Lib.hid (by rw [HRU.out,if_neg hov])
          have HOV:=Lib.hid hov
          clear hov
          go_wp2
          go_quiet (fail)
          have HSq:=Lib.hid (HSe.out.later (w':=wr.drewN nq) ⟨rfl,rfl,rfl,Nat.le_refl _,fun _ _=>rfl⟩)
          generalize wr.drewN nq=wq at *
          obtain ⟨b2,o2,C3,cap3,hF2,hbl3,hcs3,_⟩:=(H1.out.fs.below HSq.out.b) km f HFK.out
          injection hF2 with hF2
          injection hF2 with h1 h2
          subst h1 h2
          obtain ⟨p0,p1,p2,p3,p4⟩:=fn_cells hcs3
          obtain ⟨gr,hgr⟩:∃ gr:Nat,f.R=gr:=⟨f.R.toNat,by omega⟩
          rw [hgr] at p2
          have hmk2:=fun W=>make_regs gr (by omega) W
          have hxq:=(HSq.out.b.block _ (Array.getElem?_eq_some_iff.1 HX.out).1).trans HX.out
          have i0:=cell_of_heap hxq 0 (.slice (some ⟨bF,oF,none⟩) N cF) rfl
          have i2:=cell_of_heap hxq 2 (.int .i64 u.top) rfl
          have hubq:ub < wq.heap.size:=(Array.getElem?_eq_some_iff.1 hxq).1
          have HGR:=Lib.hid hgr
          clear hcs3 hxq m0 m1 m2 q0 q1 q2 q3 q4 t1 t2 t3 t4
          go_wp2
          go_region_held3 (fun w'=>∀ (q o:Nat),q < wq.heap.size→w'.cell? ⟨q,o,none⟩=wq.cell? ⟨q,o,none⟩)
            (first
            | with_reducible exact fun q o h=>rfl
            | exact fun q o h=>(Below.one wq _).cell (p:=⟨q,o,none⟩) h
            | exact fun q o h=>((Below.one wq _).alloc (by simp) _).cell (p:=⟨q,o,none⟩) h
            | exact fun q o h=>rfl)
            (fail)
          have HL0:Hid (LOk u [(⟨km,u.top,0,-1,List.replicate f.R.toNat 0⟩,wq.heap.size)]):=Lib.hid ⟨fun x hx=>by
            obtain rfl:=List.mem_singleton.1 hx
            exact ⟨f,HFK.out,by simp,by simp only; omega,by have:=HOV.out; simp only; omega,by have:=HOF.out.len; simp only; omega⟩,fun l1 x y l2 e=>by
              have:=congrArg List.length e
              simp only [List.length_append,List.length_cons,List.length_nil] at this
              omega⟩
          have hrg:∀ o:Obj,((wq.alloc (.cells (madeCells #[.int .i64 0] gr) 3)).alloc o).drew.heap[wq.heap.size]? = some (regO (List.replicate gr 0)):=fun o=>by
            have h:=(made_two wq (.cells (madeCells #[.int .i64 0] gr) 3) o).1
            exact h.trans (congrArg some (made_regs gr))
          have hfg:=fun o:Obj=>(made_two wq (.cells (madeCells #[.int .i64 0] gr) 3) o).2.1
          have hbg:=fun o:Obj=>(made_two wq (.cells (madeCells #[.int .i64 0] gr) 3) o).2.2
          go_wp2
          clear hmk2 p0 p1 p2 p3 p4 i0 i2
          go_loopw [1,2,10,11] (fun iv fv ov sv wr=>∃ (l:List (Fr7 × Nat)) (E:Env) (j:Int),fv = .int .i64 j∧j≤5000∧RnS W wr l E mb rb iv ov sv∧LOk u l∧l≠[]∧l.length + j.toNat≤5001∧E.out.length + j.toNat≤5000∧urun u j.toNat (stk l) E=runU u inp n.toNat) (fun iv fv ov sv _=>(intOf fv).toNat)
          case atStart =>
            refine ⟨_,_,n,rfl,hn,HSq.out.first (w':=_) ?_ ⟨km,u.top,0,-1,List.replicate gr 0⟩ (hrg _) ?_,?_,by simp,?_,?_,?_⟩
            · exact (hbg _).drew
            · simp only [List.length_replicate]
              exact hfg _
            · have h:=HL0.out
              rw [HGR.out] at h
              exact h
            · simp only [List.length_singleton]; omega
            · simp only [List.length_nil]; omega
            · rw [HR0.out]
              unfold startU stk
              rw [HGR.out]
              rfl
          case round =>
            obtain ⟨l,E,j,rfl,hj,hs,hlo,hne,hll,hoo,hrun⟩:=hrel
            clear hrg hfg hbg
            by_cases hj0:0 < j
            · as_aux_lemma =>
              have t3:decide (j > 0)=true:=by simpa using hj0
              have t4:decide (0 < j)=true:=by simpa using hj0
              rcases List.eq_nil_or_concat l with h | ⟨l1,⟨t,b⟩,hl⟩
              · exact absurd h hne
              rw [List.concat_eq_append] at hl
              subst hl
              obtain ⟨sb,scap,cur,e1,_⟩:=stk_top hs.stk
              subst e1
              have hll2:l1.length + 1 + j.toNat≤5001:=by simpa using hll
              have hub2:W.heap[ub]? = some (unObj u (some ⟨bF,oF,none⟩) G cF cG):=by
                have h:=HX.out
                rw [← HN.out,← HM.out] at h
                exact h
              have HRUN:=Lib.hid hrun
              have HS:=Lib.hid hs
              have HLO:=Lib.hid hlo
              have HJ:Hid (0 < j∧j≤5000∧l1.length + 1 + j.toNat≤5001∧E.out.length + j.toNat≤5000):=Lib.hid ⟨hj0,hj,hll2,hoo⟩
              clear hs hlo hrun hne hll
              go_upto_block 3 with fail
              refine wp_block ?_
              refine run_body u (some ⟨bF,oF,none⟩) G cF cG W wr l1 t b l1.length scap sb mb rb ub E _ _ HU.out hub2 H1.out.fs rfl (by omega) (by omega) HLO.out HS.out _ ?_ ?_
              · intro x hx y12 y13 y14 y15 y16 y17 y18 y19 y20 y21 y22 y23 y24 yA2 yA3 yA4 yA5 yA6 yA7 yA8 yA9 yB0 yB1 yB2 yB3 yB4 yB5 yB6 yB7 yB8 yB9 yC0 yC1 yC2 yC3 yC4 yC5 yC6 yC7 yC8 yC9 yD0 yD1 yD2 yD3 yD4 yD5 yD6 yD7 yD8 yD9 yE0 yE1 yE2 yE3 yE4 yE5 yE6 yE7 yE8 yE9 yF0 yF1 yF2 yF3 yF4 yF5 yF6 yF7 yF8 yF9 yG0 yG1 yG2 yG3 yG4 yG5 yG6 yG7 yG8 yG9 yH0 yH1 yH2 yH3 yH4 yH5 yH6 yH7 yH8 yH9 yI0 yI1 yI2 yI3 yI4 yI5 yI6 yI7 yI8 yI9 yJ0 yJ1 yJ2 yJ3 yJ4 yJ5 yJ6 yJ7 yJ8 yJ9 yK0 yK1 yK2 yK3 yK4 yK5 yK6 yK7 yK8 yK9 yL0 yL1 yL2 yL3 yL4 yL5 yL6 yL7 yL8 yL9 yM0 yM1 yM2 yM3 yM4 yM5 yM6 yM7 yM8 yM9 yN0 yN1 yN2 yN3 yN4 yN5 yN6 yN7 yN8 yN9 yO0 yO1 yO2 yO3 yO4 yO5 yO6 yO7 yO8 yO9 yP0 yP1 yP2 yP3 yP4 yP5 yP6 yP7 yP8 yP9 yQ0 yQ1 yQ2 yQ3 yQ4 yQ5 yQ6 yQ7 yQ8 yQ9 yR0 yR1 yR2 yR3 yR4 yR5 yR6 yR7 yR8 yR9 yS0 yS1 yS2 yS3 yS4 yS5 yS6 yS7 yS8 yS9 yT0 yT1 yT2 yT3 yT4 yT5 yT6 yT7 yT8 yT9 yU0 yU1 yU2 yU3 yU4 yU5 yU6 yU7 yU8 yU9 yV0 yV1 yV2 yV3 yV4 yV5 yV6 yV7 yV8 yV9 yW0 yW1 yW2 yW3 yW4 yW5 yW6 yW7 yW8 yW9 yX0 yX1 yX2 yX3 yX4 yX5 yX6 yX7 yX8 yX9 yY0 yY1 yY2 yY3 yY4 yY5 yY6 yY7 yY8 yY9 yZ0 yZ1 yZ2 yZ3 yZ4 yZ5 yZ6 yZ7 yZ8 yZ9 ya0 ya1 ya2 ya3 ya4 ya5 ya6 ya7 ya8 ya9 yb0 yb1 yb2 yb3 yb4 yb5 w' iv' ov' sv' l2 E' hst hl2 hne2 hlen hout hs2
                have hr2:=HRUN.out
                obtain ⟨a1,a2,a3,a4⟩:=HJ.out
                rw [show j.toNat=(j - 1).toNat + 1 by omega] at hr2
                unfold urun at hr2
                rw [hst] at hr2
                simp only at hr2
                have HFIN:Hid ((∃ (l:List (Fr7 × Nat)) (E:Env) (i:Int),Value.int .i64 (j - 1) = .int .i64 i∧i≤5000∧RnS W w' l E mb rb iv' ov' sv'∧LOk u l∧l≠[]∧l.length + i.toNat≤5001∧E.out.length + i.toNat≤5000∧urun u i.toNat (stk l) E=runU u inp n.toNat)∧(intOf (.int .i64 (j - 1))).toNat < (intOf (.int .i64 j)).toNat):=Lib.hid ⟨⟨l2,E',j - 1,rfl,by omega,hs2,hl2,hne2,by omega,by omega,hr2⟩,by simp only [intOf]; omega⟩
                clear hr2 hst hl2 hne2 hlen hout hs2
                rcases hx with rfl | rfl
                all_goals
                  (try simp only [Exit.inBlock,Exit.then])
                  go_wp2
                  exact HFIN.out
              · intro y12 y13 y14 y15 y16 y17 y18 y19 y20 y21 y22 y23 y24 yA2 yA3 yA4 yA5 yA6 yA7 yA8 yA9 yB0 yB1 yB2 yB3 yB4 yB5 yB6 yB7 yB8 yB9 yC0 yC1 yC2 yC3 yC4 yC5 yC6 yC7 yC8 yC9 yD0 yD1 yD2 yD3 yD4 yD5 yD6 yD7 yD8 yD9 yE0 yE1 yE2 yE3 yE4 yE5 yE6 yE7 yE8 yE9 yF0 yF1 yF2 yF3 yF4 yF5 yF6 yF7 yF8 yF9 yG0 yG1 yG2 yG3 yG4 yG5 yG6 yG7 yG8 yG9 yH0 yH1 yH2 yH3 yH4 yH5 yH6 yH7 yH8 yH9 yI0 yI1 yI2 yI3 yI4 yI5 yI6 yI7 yI8 yI9 yJ0 yJ1 yJ2 yJ3 yJ4 yJ5 yJ6 yJ7 yJ8 yJ9 yK0 yK1 yK2 yK3 yK4 yK5 yK6 yK7 yK8 yK9 yL0 yL1 yL2 yL3 yL4 yL5 yL6 yL7 yL8 yL9 yM0 yM1 yM2 yM3 yM4 yM5 yM6 yM7 yM8 yM9 yN0 yN1 yN2 yN3 yN4 yN5 yN6 yN7 yN8 yN9 yO0 yO1 yO2 yO3 yO4 yO5 yO6 yO7 yO8 yO9 yP0 yP1 yP2 yP3 yP4 yP5 yP6 yP7 yP8 yP9 yQ0 yQ1 yQ2 yQ3 yQ4 yQ5 yQ6 yQ7 yQ8 yQ9 yR0 yR1 yR2 yR3 yR4 yR5 yR6 yR7 yR8 yR9 yS0 yS1 yS2 yS3 yS4 yS5 yS6 yS7 yS8 yS9 yT0 yT1 yT2 yT3 yT4 yT5 yT6 yT7 yT8 yT9 yU0 yU1 yU2 yU3 yU4 yU5 yU6 yU7 yU8 yU9 yV0 yV1 yV2 yV3 yV4 yV5 yV6 yV7 yV8 yV9 yW0 yW1 yW2 yW3 yW4 yW5 yW6 yW7 yW8 yW9 yX0 yX1 yX2 yX3 yX4 yX5 yX6 yX7 yX8 yX9 yY0 yY1 yY2 yY3 yY4 yY5 yY6 yY7 yY8 yY9 yZ0 yZ1 yZ2 yZ3 yZ4 yZ5 yZ6 yZ7 yZ8 yZ9 ya0 ya1 ya2 ya3 ya4 ya5 ya6 ya7 ya8 ya9 yb0 yb1 yb2 yb3 yb4 yb5 iv' ov' sv' w' r hst hfin
                have hr2:=HRUN.out
                obtain ⟨a1,a2,a3,a4⟩:=HJ.out
                rw [show j.toNat=(j - 1).toNat + 1 by omega] at hr2
                unfold urun at hr2
                rw [hst] at hr2
                simp only at hr2
                obtain ⟨A,cap',hc,hrd,hbb⟩:=hfin
                have e0:=cell_of_heap hc 0 _ rfl
                have e1:=cell_of_heap hc 1 _ rfl
                have e2:=cell_of_heap hc 2 _ rfl
                show bodyPost Try.prog Try.f30 (fun e w'=>ResT (runU u inp n.toNat) e w'∧Below w.heap.size w w') .ret _ _
                refine bodyPost_ret (by simp [results,Try.results30,go_sem,e0,e1,e2]; try rfl) rfl ?_
                rw [← hr2]
                refine ⟨⟨A,cap',rfl,hrd⟩,?_⟩
                rw [hub]
                exact HB.out.trans (hbb.mono (by rw [← hub]; exact HB.out.size))
            · as_aux_lemma =>
              have t3:decide (j > 0)=false:=by simpa using hj0
              have t4:decide (0 < j)=false:=by simpa using hj0
              have HRUN:=Lib.hid hrun
              have HJ:=Lib.hid hj0
              obtain ⟨A,cap',hov2,A',cap2',hc,hrd,hbb⟩:=hs.told 4 0
              subst hov2
              obtain ⟨cs,hres,hsz⟩:=hs.res
              have e0:=cell_of_heap hc 0 _ rfl
              have e1:=cell_of_heap hc 1 _ rfl
              have e2:=cell_of_heap hc 2 _ rfl
              have HRD:=Lib.hid hrd
              have HBB:=Lib.hid hbb
              clear hc hrd hbb hs hlo hrun hj0
              go_wp2_with (first
                | (show wpList Try.prog _ _ (⟨none,.store _ (.tmp 6) _,_,_,_,_⟩::_) _ _; refine wpList_store_row rfl 49 (.tmp 6) (.tmp 377) rfl rb #[.int .i64 4,.int .i64 0,.slice A E.out.length cap'] rfl rfl 49 _ hres sRe hsz (re_one _ _ _ _ _) ?_))
              (try simp only [Exit.inBlock,Exit.then])
              refine bodyPost_ret (by simp [results,Try.results30,go_sem,e0,e1,e2]; try rfl) rfl ?_
              have hr2:=HRUN.out
              rw [show j.toNat=0 by have:=HJ.out; omega] at hr2
              rw [← hr2]
              exact ⟨⟨A',cap2',rfl,HRD.out⟩,HB.out.trans (HBB.out.mono (by rw [← hub]; exact HB.out.size))⟩
end Go.Proofs.Ytkcclefonmnpnaa

