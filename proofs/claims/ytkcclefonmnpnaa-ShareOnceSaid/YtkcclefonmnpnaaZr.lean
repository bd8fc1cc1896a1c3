import Derived.Test.YtkcclefonmnpnaaZm
import Derived.Test.YtkcclefonmnpnaaZp2
import Derived.Test.YtkcclefonmnpnaaZq
import Derived.Test.YtkcclefonmnpnaaRs
namespace Go.Proofs.Ytkcclefonmnpnaa
open Go.RowKit Go.BigFrame
theorem RdI.keepS {w w':World}{A:Option Addr}{l:List Ins}(h:RdI w A l)(hs:w.heap.size≤w'.heap.size)(hk:∀ b o,A=some ⟨b,o,none⟩→b < w.heap.size→w'.heap[b]? = w.heap[b]?):RdI w' A l:=fun j i hi=>by
  obtain ⟨b,o,e1,e2,e3⟩:=h j i hi
  exact ⟨b,o,e1,by omega,fun k hk'=>by rw [← e3 k hk']; simp only [World.cell?,hk b o e1 e2]⟩
set_option maxRecDepth 1000000 in
set_option maxHeartbeats 16000000 in
theorem All_no (f:Fn7)(hf:¬ OkF f)(C:Option Addr)(cap:Nat)(w:World)(hC:RdI w C f.code) :
    Calls Try.prog 24 #[funcAgg f.nm f.ps f.R f.Fr C f.code.length cap] w fun e w'=>e = .returned (funcAgg f.nm f.ps f.R f.Fr C f.code.length cap)∧Below w.heap.size w w':=by
  obtain ⟨N,hN⟩:∃ N,f.code.length=N:=⟨_,rfl⟩
  obtain ⟨b0,b1,hB⟩:=two_made w (funcObj f.nm f.ps f.R f.Fr C f.code.length cap) (.cells #[.string ⟨#[]⟩,.int .i64 0,.int .i64 0,.int .i64 0,.slice none 0 0] 24)
  have h1:=fun W h=>Of_no f hf C cap W h
  have h2:=fun W h=>fold_no f hf C cap W h
  have h3:=fun W h=>Sweep_no f hf C cap W h
  rw [hN] at b0 b1 h1 h2 h3 hB ⊢
  simp only [funcObj,funcAgg] at b0 b1 h1 h2 h3 hB ⊢
  have hrd0:=hC.below hB
  have H0:=Lib.hid b0
  have H1:=Lib.hid b1
  have HBB:=Lib.hid hB
  have HRD0:=Lib.hid hrd0
  have HO:=Lib.hid h1
  have HFo:=Lib.hid h2
  have HSw:=Lib.hid h3
  clear hf hC hrd0 hB b0 b1 h1 h2 h3 hN
  go_enter Try.func24,Try.ntmps24
  go_wp2_with fail
  go_loopw [9] (fun ix wr=>ix = .int .i64 0∧wr.heap[w.heap.size]? = some (.cells #[.string f.nm,.int .i64 f.ps,.int .i64 f.R,.int .i64 f.Fr,.slice C N cap] 24)∧wr.heap[w.heap.size + 1]? = some (.cells #[.string ⟨#[]⟩,.int .i64 0,.int .i64 0,.int .i64 0,.slice none 0 0] 24)∧RdI wr C f.code∧Below w.heap.size w wr) (fun _ _=>0)
  case atStart=>exact ⟨rfl,H0.out,H1.out,HRD0.out,HBB.out⟩
  case round =>
    obtain ⟨rfl,hx0,hx1,hrd,hbw⟩:=hrel
    clear H0 H1 HRD0 HBB
    have g0:=cell_of_heap hx0 0 (.string f.nm) rfl
    have g1:=cell_of_heap hx0 1 (.int .i64 f.ps) rfl
    have g2:=cell_of_heap hx0 2 (.int .i64 f.R) rfl
    have g3:=cell_of_heap hx0 3 (.int .i64 f.Fr) rfl
    have g4:=cell_of_heap hx0 4 (.slice C N cap) rfl
    have HX:=Lib.hid hx0
    have HY:=Lib.hid hx1
    have HRD:=Lib.hid hrd
    have HBW:=Lib.hid hbw
    clear hx0 hx1 hrd hbw
    go_wp2_with fail
    refine (HO.out _ HRD.out).mono ?_
    rintro e w1 ⟨rfl,hb1⟩
    obtain ⟨w2,hw2⟩:∃ w2,w1.alloc (.cells #[.string f.nm,.int .i64 f.ps,.int .i64 f.R,.int .i64 f.Fr,.slice C N cap] 24)=w2:=⟨_,rfl⟩
    have hb2:Below w1.heap.size w1 w2:=by rw [← hw2]; exact Below.one _ _
    have hg2:w2.heap[w1.heap.size]? = some (.cells #[.string f.nm,.int .i64 f.ps,.int .i64 f.R,.int .i64 f.Fr,.slice C N cap] 24):=by rw [← hw2]; exact heap_alloc_new _ _
    have hl2:=(Array.getElem?_eq_some_iff.1 hg2).1
    have k0:=cell_of_heap hg2 0 (.string f.nm) rfl
    have k1:=cell_of_heap hg2 1 (.int .i64 f.ps) rfl
    have k2:=cell_of_heap hg2 2 (.int .i64 f.R) rfl
    have k3:=cell_of_heap hg2 3 (.int .i64 f.Fr) rfl
    have k4:=cell_of_heap hg2 4 (.slice C N cap) rfl
    have HB2:=Lib.hid (hb1.trans (hb2.mono hb1.size))
    clear g0 g1 g2 g3 g4 hb1 hb2 hg2
    go_wp2_with fail
    refine (HFo.out  _ (HRD.out.below HB2.out)).mono ?_
    rintro e w3 ⟨rfl,hb3⟩
    obtain ⟨w4,hw4⟩:∃ w4,w3.alloc (.cells #[.string f.nm,.int .i64 f.ps,.int .i64 f.R,.int .i64 f.Fr,.slice C N cap] 24)=w4:=⟨_,rfl⟩
    have hb4:Below w3.heap.size w3 w4:=by rw [← hw4]; exact Below.one _ _
    have hg4:w4.heap[w3.heap.size]? = some (.cells #[.string f.nm,.int .i64 f.ps,.int .i64 f.R,.int .i64 f.Fr,.slice C N cap] 24):=by rw [← hw4]; exact heap_alloc_new _ _
    have hl4:=(Array.getElem?_eq_some_iff.1 hg4).1
    have m0:=cell_of_heap hg4 0 (.string f.nm) rfl
    have m1:=cell_of_heap hg4 1 (.int .i64 f.ps) rfl
    have m2:=cell_of_heap hg4 2 (.int .i64 f.R) rfl
    have m3:=cell_of_heap hg4 3 (.int .i64 f.Fr) rfl
    have m4:=cell_of_heap hg4 4 (.slice C N cap) rfl
    have HB4:=Lib.hid (HB2.out.trans ((hb3.trans (hb4.mono hb3.size)).mono HB2.out.size))
    clear k0 k1 k2 k3 k4 hb3 hb4 hg4 hw2
    go_wp2_with fail
    refine (HSw.out  _ (HRD.out.below HB4.out)).mono ?_
    rintro e w5 ⟨rfl,hb5⟩
    obtain ⟨w6,hw6⟩:∃ w6,w5.alloc (.cells #[.string f.nm,.int .i64 f.ps,.int .i64 f.R,.int .i64 f.Fr,.slice C N cap] 24)=w6:=⟨_,rfl⟩
    have hb6:Below w5.heap.size w5 w6:=by rw [← hw6]; exact Below.one _ _
    have hg6:w6.heap[w5.heap.size]? = some (.cells #[.string f.nm,.int .i64 f.ps,.int .i64 f.R,.int .i64 f.Fr,.slice C N cap] 24):=by rw [← hw6]; exact heap_alloc_new _ _
    have hl6:=(Array.getElem?_eq_some_iff.1 hg6).1
    have n0:=cell_of_heap hg6 0 (.string f.nm) rfl
    have n1:=cell_of_heap hg6 1 (.int .i64 f.ps) rfl
    have n2:=cell_of_heap hg6 2 (.int .i64 f.R) rfl
    have n3:=cell_of_heap hg6 3 (.int .i64 f.Fr) rfl
    have n4:=cell_of_heap hg6 4 (.slice C N cap) rfl
    have HB6:=Lib.hid (HB4.out.trans ((hb5.trans (hb6.mono hb5.size)).mono HB4.out.size))
    have hx6:=(HB6.out.block _ (Array.getElem?_eq_some_iff.1 HX.out).1).trans HX.out
    have hr6:=(HB6.out.block _ (Array.getElem?_eq_some_iff.1 HY.out).1).trans HY.out
    have hst:=setRow_heap _ _ _ #[.string f.nm,.int .i64 f.ps,.int .i64 f.R,.int .i64 f.Fr,.slice C N cap] _ _ hx6
    have q0:=cell_of_heap hst 0 (.string f.nm) rfl
    have q1:=cell_of_heap hst 1 (.int .i64 f.ps) rfl
    have q2:=cell_of_heap hst 2 (.int .i64 f.R) rfl
    have q3:=cell_of_heap hst 3 (.int .i64 f.Fr) rfl
    have q4:=cell_of_heap hst 4 (.slice C N cap) rfl
    have hrt:=(setRow_other w6 w.heap.size (w.heap.size + 1) #[.string f.nm,.int .i64 f.ps,.int .i64 f.R,.int .i64 f.Fr,.slice C N cap] (by omega)).trans hr6
    have hsz6:w.heap.size≤w6.heap.size:=Nat.le_trans HBW.out.size HB6.out.size
    have hfi:=setRow_heap _ _ _ #[.string f.nm,.int .i64 f.ps,.int .i64 f.R,.int .i64 f.Fr,.slice C N cap] _ _ hrt
    have e0:=cell_of_heap hfi 0 (.string f.nm) rfl
    have e1:=cell_of_heap hfi 1 (.int .i64 f.ps) rfl
    have e2:=cell_of_heap hfi 2 (.int .i64 f.R) rfl
    have e3:=cell_of_heap hfi 3 (.int .i64 f.Fr) rfl
    have e4:=cell_of_heap hfi 4 (.slice C N cap) rfl
    have HBF:Hid (Below w.heap.size w ((w6.setRow w.heap.size #[.string f.nm,.int .i64 f.ps,.int .i64 f.R,.int .i64 f.Fr,.slice C N cap]).setRow (w.heap.size + 1) #[.string f.nm,.int .i64 f.ps,.int .i64 f.R,.int .i64 f.Fr,.slice C N cap])):=Lib.hid (below_setRow (below_setRow (HBW.out.trans (HB6.out.mono HBW.out.size)) (Nat.le_refl _) _) (by omega) _)
    clear m0 m1 m2 m3 m4 hb5 hb6 hg6 hw4
    go_wp2_with (first
      | (show wpList Try.prog _ _ (⟨none,.store _ (.tmp 1) _,_,_,_,_⟩::_) _ _; refine wpList_store_row rfl 24 (.tmp 1) (.tmp 26) rfl w.heap.size #[.string f.nm,.int .i64 f.ps,.int .i64 f.R,.int .i64 f.Fr,.slice C N cap] rfl rfl 24 _ hx6 sF rfl (func_one _ _ _ _ _ _ _) ?_)
      | (show wpList Try.prog _ _ (⟨none,.store _ (.tmp 2) _,_,_,_,_⟩::_) _ _; refine wpList_store_row rfl 24 (.tmp 2) (.tmp 34) rfl (w.heap.size + 1) #[.string f.nm,.int .i64 f.ps,.int .i64 f.R,.int .i64 f.Fr,.slice C N cap] rfl rfl 24 _ hrt sF rfl (func_one _ _ _ _ _ _ _) ?_))
    (try simp only [Exit.inBlock,Exit.then])
    refine bodyPost_ret (by simp [results,Try.results24,go_sem,e0,e1,e2,e3,e4]; try rfl) rfl ?_
    exact ⟨rfl,HBF.out⟩
abbrev wc (f:Fn7)(l:List Ins):Fn7:=⟨f.nm,f.ps,f.R,f.Fr,l⟩
def AllT (f:Fn7)(e:Ending)(w:World):Prop:=∃ l C cap,ShR 20 f (wc f l)∧OkF (wc f l)∧e = .returned (funcAgg f.nm f.ps f.R f.Fr C l.length cap)∧RdI w C l∧∃ nb,C=some ⟨nb,0,none⟩∧PreI w nb l
def AllL (f:Fn7)(w wr:World)(k:Nat):Prop:=∃ l C cap,OkF (wc f l)∧l.length≤f.code.length∧wr.heap[w.heap.size]? = some (.cells #[.string f.nm,.int .i64 f.ps,.int .i64 f.R,.int .i64 f.Fr,.slice C l.length cap] 24)∧wr.heap[w.heap.size + 1]? = some (.cells #[.string ⟨#[]⟩,.int .i64 0,.int .i64 0,.int .i64 0,.slice none 0 0] 24)∧RdI wr C l∧(∀ b o,C=some ⟨b,o,none⟩→b≠w.heap.size∧b≠w.heap.size + 1)∧Below w.heap.size w wr∧(∀ g,ShR (20 - k) (wc f l) g→ShR 20 f g)∧(0 < k→∃ nb,C=some ⟨nb,0,none⟩∧PreI wr nb l)
theorem swp_wc {f F:Fn7}{G:Fn7}(h:Swp F G)(hF:OkF F)(h1:F.nm=f.nm)(h2:F.ps=f.ps)(h3:F.R=f.R)(h4:F.Fr=f.Fr):G=wc f G.code∧OkF G∧G.code.length≤F.code.length:=by
  obtain ⟨a,_,_,b,c,d,e,g⟩:=h.end_ hF
  refine ⟨?_,a,g⟩
  obtain ⟨n,p,R,Fr,l⟩:=G
  simp only at b c d e
  simp only [wc,Fn7.mk.injEq]
  exact ⟨b.trans h1,c.trans h2,d.trans h3,e.trans h4,trivial⟩
set_option maxRecDepth 1000000 in
set_option maxHeartbeats 16000000 in
theorem All_yes (f:Fn7) (hf:OkF f) (hsz:f.code.length * (f.R.toNat + 1)≤65536) (C:Option Addr) (cap:Nat) (w:World) (hC:RdI w C f.code) :
    Calls Try.prog 24 #[funcAgg f.nm f.ps f.R f.Fr C f.code.length cap] w fun e w'=>AllT f e w'∧Below w.heap.size w w':=by
  obtain ⟨b0,b1,hB⟩:=two_made w (funcObj f.nm f.ps f.R f.Fr C f.code.length cap) (.cells #[.string ⟨#[]⟩,.int .i64 0,.int .i64 0,.int .i64 0,.slice none 0 0] 24)
  have HL0:Hid (AllL f w ((w.alloc (funcObj f.nm f.ps f.R f.Fr C f.code.length cap)).alloc (.cells #[.string ⟨#[]⟩,.int .i64 0,.int .i64 0,.int .i64 0,.slice none 0 0] 24)) 0):=Lib.hid ⟨f.code,C,cap,hf,Nat.le_refl _,b0,b1,hC.below hB,fun b o h=>by
    obtain ⟨b',o',e1,e2,_⟩:=hC 0 _ (List.getElem?_eq_getElem (show 0 < f.code.length by have:=hf.len; omega))
    rw [e1] at h
    injection h with h
    injection h with h1 h2
    omega,hB,fun g h=>h,fun h=>absurd h (Nat.lt_irrefl 0)⟩
  have HSZ:=Lib.hid hsz
  have hN2:f.code.length≤8192:=hf.len.2
  simp only [funcObj,funcAgg] at HL0 ⊢
  obtain ⟨N,hN⟩:∃ N,f.code.length=N:=⟨_,rfl⟩
  rw [hN] at HL0 hN2 ⊢
  have HN:=Lib.hid hN
  clear hf hC hB b0 b1 hN hsz
  go_enter Try.func24,Try.ntmps24
  go_wp2_with fail
  go_loopw [9] (fun ix wr=>∃ k:Nat,k≤20∧ix = .int .i64 k∧AllL f w wr k) (fun ix _=>20 - (intOf ix).toNat)
  case atStart=>exact ⟨0,by omega,rfl,HL0.out⟩
  case round =>
    obtain ⟨k,hk,rfl,l,C',cap',hok,hlen,hx0,hx1,hrd,hoff,hbw,hR,hPk⟩:=hrel
    clear HL0
    obtain ⟨L,hL⟩:∃ L,l.length=L:=⟨_,rfl⟩
    have hL2:L≤8192:=by have:=HN.out; omega
    by_cases hlt:k < 20
    · have h1:∀ W (_:RdI W C' l),Calls Try.prog 20 #[.agg #[.string f.nm,.int .i64 f.ps,.int .i64 f.R,.int .i64 f.Fr,.slice C' L cap']] W fun e w'=>(∃ cb,e = .returned (.tuple #[.agg #[.string f.nm,.int .i64 f.ps,.int .i64 f.R,.int .i64 f.Fr,.slice (some ⟨cb,0,none⟩) L L],.int .i64 (shN l L:Int)])∧W.heap.size≤cb∧PreI w' cb (shL l))∧Below W.heap.size W w':=fun W h=>by
        have h1:=Of_yes (wc f l) hok C' cap' W h
        unfold OfT at h1
        simp only [funcAgg,hL] at h1
        exact h1
      have hsl:(shL l).length=L:=by rw [shL_len,hL]
      have hokS:=shF_ok hok
      have h2:∀ cb W (_:RdI W (some ⟨cb,0,none⟩) (shL l)),Calls Try.prog 37 #[.agg #[.string f.nm,.int .i64 f.ps,.int .i64 f.R,.int .i64 f.Fr,.slice (some ⟨cb,0,none⟩) L L]] W fun e w'=>(∃ nb M,Ans (shF (wc f l)) M∧e = .returned (.tuple #[.agg #[.string f.nm,.int .i64 f.ps,.int .i64 f.R,.int .i64 f.Fr,.slice (some ⟨nb,0,none⟩) L L],.int .i64 (foldN (shF (wc f l)) M L:Int)])∧W.heap.size≤nb∧PreI w' nb (foldL (shF (wc f l)) M))∧Below W.heap.size W w':=fun cb W h=>by
        have hz:(shF (wc f l)).code.length * ((shF (wc f l)).R.toNat + 1)≤65536:=by
          show (shL l).length * (f.R.toNat + 1)≤65536
          rw [hsl]
          exact Nat.le_trans (Nat.mul_le_mul_right _ (show L≤f.code.length by omega)) HSZ.out
        have h2:=fold_yes (shF (wc f l)) hokS hz (some ⟨cb,0,none⟩) L W h
        unfold FoldT at h2
        rw [show (shF (wc f l)).code.length=L from hsl] at h2
        exact h2
      have hfl:∀ M,(foldF (shF (wc f l)) M).code.length=L:=fun M=>(foldL_len _ _).trans hsl
      have h3:∀ M nb,Ans (shF (wc f l)) M→∀ W (_:RdI W (some ⟨nb,0,none⟩) (foldL (shF (wc f l)) M)),Calls Try.prog 34 #[.agg #[.string f.nm,.int .i64 f.ps,.int .i64 f.R,.int .i64 f.Fr,.slice (some ⟨nb,0,none⟩) L L]] W fun e w'=>(∃ G gb cp,Swp (foldF (shF (wc f l)) M) G∧e = .returned (.tuple #[.agg #[.string f.nm,.int .i64 f.ps,.int .i64 f.R,.int .i64 f.Fr,.slice (some ⟨gb,0,none⟩) G.code.length cp],.int .i64 ((L:Int) - G.code.length)])∧W.heap.size≤gb∧PreI w' gb G.code)∧Below W.heap.size W w':=fun M nb hA W h=>by
        have h3:=Sweep_yes (foldF (shF (wc f l)) M) (foldF_okf hokS hA) (some ⟨nb,0,none⟩) L W h
        unfold SweptF at h3
        rw [hfl M] at h3
        exact h3
      have hGw:∀ M G,Ans (shF (wc f l)) M→Swp (foldF (shF (wc f l)) M) G→G=wc f G.code∧OkF G∧G.code.length≤L:=fun M G hA h=>by
        have h4:=swp_wc (f:=f) h (foldF_okf hokS hA) rfl rfl rfl rfl
        rw [hfl M] at h4
        exact h4
      have HO:=Lib.hid h1
      have HFo:=Lib.hid h2
      have HSw:=Lib.hid h3
      have HGW:=Lib.hid hGw
      have HRR:=Lib.hid hR
      have HLL:=Lib.hid hL
      have HSL:=Lib.hid hsl
      have hN20:shN l L≤8192:=by
        have:shN l L≤(List.range L).length:=List.length_filter_le _ _
        simp at this
        omega
      rw [hL] at hx0
      have HLEN:=Lib.hid hlen
      clear hPk hoff h1 h2 h3 hGw hR hok hL hokS hsl hfl hlen
      have g0:=cell_of_heap hx0 0 (.string f.nm) rfl
      have g1:=cell_of_heap hx0 1 (.int .i64 f.ps) rfl
      have g2:=cell_of_heap hx0 2 (.int .i64 f.R) rfl
      have g3:=cell_of_heap hx0 3 (.int .i64 f.Fr) rfl
      have g4:=cell_of_heap hx0 4 (.slice C' L cap') rfl
      have HX:=Lib.hid hx0
      have HY:=Lib.hid hx1
      have HRD:=Lib.hid hrd
      have HBW:=Lib.hid hbw
      clear hx0 hx1 hrd hbw
      go_wp2_with fail
      refine (HO.out _ HRD.out).mono ?_
      rintro e w1 ⟨⟨cb,rfl,hcb,hP1⟩,hb1⟩
      obtain ⟨w2,hw2⟩:∃ w2,w1.alloc (.cells #[.string f.nm,.int .i64 f.ps,.int .i64 f.R,.int .i64 f.Fr,.slice (some ⟨cb,0,none⟩) L L] 24)=w2:=⟨_,rfl⟩
      have hb2:Below w1.heap.size w1 w2:=by rw [← hw2]; exact Below.one _ _
      have hg2:w2.heap[w1.heap.size]? = some (.cells #[.string f.nm,.int .i64 f.ps,.int .i64 f.R,.int .i64 f.Fr,.slice (some ⟨cb,0,none⟩) L L] 24):=by rw [← hw2]; exact heap_alloc_new _ _
      have hl2:=(Array.getElem?_eq_some_iff.1 hg2).1
      have k0:=cell_of_heap hg2 0 (.string f.nm) rfl
      have k1:=cell_of_heap hg2 1 (.int .i64 f.ps) rfl
      have k2:=cell_of_heap hg2 2 (.int .i64 f.R) rfl
      have k3:=cell_of_heap hg2 3 (.int .i64 f.Fr) rfl
      have k4:=cell_of_heap hg2 4 (.slice (some ⟨cb,0,none⟩) L L) rfl
      have HB2:=Lib.hid (hb1.trans (hb2.mono hb1.size))
      have HP2:=Lib.hid (Pre.later hP1 hb2)
      clear g0 g1 g2 g3 g4 hb1 hb2 hg2 hP1
      go_wp2_with fail
      refine (HFo.out cb _ (PreI.read HP2.out)).mono ?_
      rintro e w3 ⟨⟨nb,M,hA,rfl,hnb,hP3⟩,hb3⟩
      obtain ⟨w4,hw4⟩:∃ w4,w3.alloc (.cells #[.string f.nm,.int .i64 f.ps,.int .i64 f.R,.int .i64 f.Fr,.slice (some ⟨nb,0,none⟩) L L] 24)=w4:=⟨_,rfl⟩
      have hb4:Below w3.heap.size w3 w4:=by rw [← hw4]; exact Below.one _ _
      have hg4:w4.heap[w3.heap.size]? = some (.cells #[.string f.nm,.int .i64 f.ps,.int .i64 f.R,.int .i64 f.Fr,.slice (some ⟨nb,0,none⟩) L L] 24):=by rw [← hw4]; exact heap_alloc_new _ _
      have hl4:=(Array.getElem?_eq_some_iff.1 hg4).1
      have m0:=cell_of_heap hg4 0 (.string f.nm) rfl
      have m1:=cell_of_heap hg4 1 (.int .i64 f.ps) rfl
      have m2:=cell_of_heap hg4 2 (.int .i64 f.R) rfl
      have m3:=cell_of_heap hg4 3 (.int .i64 f.Fr) rfl
      have m4:=cell_of_heap hg4 4 (.slice (some ⟨nb,0,none⟩) L L) rfl
      have HB4:=Lib.hid (HB2.out.trans ((hb3.trans (hb4.mono hb3.size)).mono HB2.out.size))
      have HP4:=Lib.hid (Pre.later hP3 hb4)
      have HA:=Lib.hid hA
      clear k0 k1 k2 k3 k4 hb3 hb4 hg4 hw2 hP3 hA
      go_wp2_with fail
      refine (HSw.out M nb HA.out _ (PreI.read HP4.out)).mono ?_
      rintro e w5 ⟨⟨G,gb,cp,hsw,rfl,hgb,hP5⟩,hb5⟩
      obtain ⟨w6,hw6⟩:∃ w6,w5.alloc (.cells #[.string f.nm,.int .i64 f.ps,.int .i64 f.R,.int .i64 f.Fr,.slice (some ⟨gb,0,none⟩) G.code.length cp] 24)=w6:=⟨_,rfl⟩
      have hb6:Below w5.heap.size w5 w6:=by rw [← hw6]; exact Below.one _ _
      have hg6:w6.heap[w5.heap.size]? = some (.cells #[.string f.nm,.int .i64 f.ps,.int .i64 f.R,.int .i64 f.Fr,.slice (some ⟨gb,0,none⟩) G.code.length cp] 24):=by rw [← hw6]; exact heap_alloc_new _ _
      have hl6:=(Array.getElem?_eq_some_iff.1 hg6).1
      have n0:=cell_of_heap hg6 0 (.string f.nm) rfl
      have n1:=cell_of_heap hg6 1 (.int .i64 f.ps) rfl
      have n2:=cell_of_heap hg6 2 (.int .i64 f.R) rfl
      have n3:=cell_of_heap hg6 3 (.int .i64 f.Fr) rfl
      have n4:=cell_of_heap hg6 4 (.slice (some ⟨gb,0,none⟩) G.code.length cp) rfl
      have HB6:=Lib.hid (HB4.out.trans ((hb5.trans (hb6.mono hb5.size)).mono HB4.out.size))
      have hx6:=(HB6.out.block _ (Array.getElem?_eq_some_iff.1 HX.out).1).trans HX.out
      have hr6:=(HB6.out.block _ (Array.getElem?_eq_some_iff.1 HY.out).1).trans HY.out
      have hst:=setRow_heap _ _ _ #[.string f.nm,.int .i64 f.ps,.int .i64 f.R,.int .i64 f.Fr,.slice (some ⟨gb,0,none⟩) G.code.length cp] _ _ hx6
      have q0:=cell_of_heap hst 0 (.string f.nm) rfl
      have q1:=cell_of_heap hst 1 (.int .i64 f.ps) rfl
      have q2:=cell_of_heap hst 2 (.int .i64 f.R) rfl
      have q3:=cell_of_heap hst 3 (.int .i64 f.Fr) rfl
      have q4:=cell_of_heap hst 4 (.slice (some ⟨gb,0,none⟩) G.code.length cp) rfl
      have hrt:=(setRow_other w6 w.heap.size (w.heap.size + 1) #[.string f.nm,.int .i64 f.ps,.int .i64 f.R,.int .i64 f.Fr,.slice (some ⟨gb,0,none⟩) G.code.length cp] (by omega)).trans hr6
      obtain ⟨hGe,hGok,hGl⟩:=HGW.out M G HA.out hsw
      have hf2:foldN (shF (wc f l)) M L≤8192:=by
        have:=foldN_le (shF (wc f l)) M L
        omega
      have hcn:cnt (wc f l) M G=shN l L + foldN (shF (wc f l)) M L + (L - G.code.length):=by
        unfold cnt
        show shN l l.length + foldN (shF (wc f l)) M l.length + (l.length - G.code.length)=_
        rw [HLL.out]
      have hsb:=HBW.out.size
      have hsb6:=HB6.out.size
      have HP6:=Lib.hid (Pre.later hP5 hb6)
      have hgbn:w.heap.size + 2≤gb:=by
        have h1:=(Array.getElem?_eq_some_iff.1 HY.out).1
        have h2:=HB4.out.size
        omega
      have HRF:=Lib.hid (Pre.of_heap HP6.out (setRow_other w6 w.heap.size gb #[.string f.nm,.int .i64 f.ps,.int .i64 f.R,.int .i64 f.Fr,.slice (some ⟨gb,0,none⟩) G.code.length cp] (by omega)))
      have HBF:Hid (Below w.heap.size w (w6.setRow w.heap.size #[.string f.nm,.int .i64 f.ps,.int .i64 f.R,.int .i64 f.Fr,.slice (some ⟨gb,0,none⟩) G.code.length cp])):=Lib.hid (below_setRow (HBW.out.trans (HB6.out.mono HBW.out.size)) (Nat.le_refl _) _)
      have HST:=Lib.hid hst
      have HRT:=Lib.hid hrt
      have HSWP:=Lib.hid hsw
      have HGE:=Lib.hid hGe
      have HGOK:=Lib.hid hGok
      have HCN:=Lib.hid hcn
      by_cases hz:shN l L + foldN (shF (wc f l)) M L + (L - G.code.length)=0
      · have qz:decide ((shN l L:Int) + (foldN (shF (wc f l)) M L:Int) + ((L:Int) - G.code.length)=0)=true:=by rw [decide_eq_true_eq]; omega
        have hfi:=setRow_heap _ _ _ #[.string f.nm,.int .i64 f.ps,.int .i64 f.R,.int .i64 f.Fr,.slice (some ⟨gb,0,none⟩) G.code.length cp] _ _ hrt
        have e0:=cell_of_heap hfi 0 (.string f.nm) rfl
        have e1:=cell_of_heap hfi 1 (.int .i64 f.ps) rfl
        have e2:=cell_of_heap hfi 2 (.int .i64 f.R) rfl
        have e3:=cell_of_heap hfi 3 (.int .i64 f.Fr) rfl
        have e4:=cell_of_heap hfi 4 (.slice (some ⟨gb,0,none⟩) G.code.length cp) rfl
        have HBF2:Hid (Below w.heap.size w ((w6.setRow w.heap.size #[.string f.nm,.int .i64 f.ps,.int .i64 f.R,.int .i64 f.Fr,.slice (some ⟨gb,0,none⟩) G.code.length cp]).setRow (w.heap.size + 1) #[.string f.nm,.int .i64 f.ps,.int .i64 f.R,.int .i64 f.Fr,.slice (some ⟨gb,0,none⟩) G.code.length cp])):=Lib.hid (below_setRow HBF.out (by omega) _)
        have HRF2:=Lib.hid (Pre.of_heap HRF.out (setRow_other (w6.setRow w.heap.size #[.string f.nm,.int .i64 f.ps,.int .i64 f.R,.int .i64 f.Fr,.slice (some ⟨gb,0,none⟩) G.code.length cp]) (w.heap.size + 1) gb #[.string f.nm,.int .i64 f.ps,.int .i64 f.R,.int .i64 f.Fr,.slice (some ⟨gb,0,none⟩) G.code.length cp] (by omega)))
        clear m0 m1 m2 m3 m4 hb5 hb6 hg6 hw4 hP5 hsw hGe hGok hcn hst
        go_wp2_with (first
          | (show wpList Try.prog _ _ (⟨none,.store _ (.tmp 1) _,_,_,_,_⟩::_) _ _; refine wpList_store_row rfl 24 (.tmp 1) (.tmp 26) rfl w.heap.size #[.string f.nm,.int .i64 f.ps,.int .i64 f.R,.int .i64 f.Fr,.slice (some ⟨gb,0,none⟩) G.code.length cp] rfl rfl 24 _ hx6 sF rfl (func_one _ _ _ _ _ _ _) ?_)
          | (show wpList Try.prog _ _ (⟨none,.store _ (.tmp 2) _,_,_,_,_⟩::_) _ _; refine wpList_store_row rfl 24 (.tmp 2) (.tmp 34) rfl (w.heap.size + 1) #[.string f.nm,.int .i64 f.ps,.int .i64 f.R,.int .i64 f.Fr,.slice (some ⟨gb,0,none⟩) G.code.length cp] rfl rfl 24 _ hrt sF rfl (func_one _ _ _ _ _ _ _) ?_))
        (try simp only [Exit.inBlock,Exit.then])
        refine bodyPost_ret (by simp [results,Try.results24,go_sem,e0,e1,e2,e3,e4]; try rfl) rfl ?_
        refine ⟨⟨G.code,some ⟨gb,0,none⟩,cp,?_,?_,rfl,PreI.read HRF2.out,gb,rfl,HRF2.out⟩,HBF2.out⟩
        · have h:=HRR.out G (by rw [show 20 - k=(19 - k) + 1 by omega]; exact .stop HA.out HSWP.out (by rw [HCN.out]; exact hz))
          rw [HGE.out] at h
          exact h
        · have h:=HGOK.out
          rw [HGE.out] at h
          exact h
      · have qz:decide ((shN l L:Int) + (foldN (shF (wc f l)) M L:Int) + ((L:Int) - G.code.length)=0)=false:=by rw [decide_eq_false_iff_not]; omega
        have qz2:(((shN l L:Int) + (foldN (shF (wc f l)) M L:Int) + ((L:Int) - G.code.length)) == 0)=false:=by rw [beq_eq_false_iff_ne]; omega
        clear m0 m1 m2 m3 m4 hb5 hb6 hg6 hw4 hP5 hsw hGe hGok hcn hst hrt q0 q1 q2 q3 q4
        go_wp2_with (first
          | (show wpList Try.prog _ _ (⟨none,.store _ (.tmp 1) _,_,_,_,_⟩::_) _ _; refine wpList_store_row rfl 24 (.tmp 1) (.tmp 26) rfl w.heap.size #[.string f.nm,.int .i64 f.ps,.int .i64 f.R,.int .i64 f.Fr,.slice (some ⟨gb,0,none⟩) G.code.length cp] rfl rfl 24 _ hx6 sF rfl (func_one _ _ _ _ _ _ _) ?_))
        refine ⟨⟨k + 1,by omega,by go_num,G.code,some ⟨gb,0,none⟩,cp,?_,by have:=HLEN.out; have:=HLL.out; omega,HST.out,HRT.out,PreI.read HRF.out,fun b o h=>by injection h with h; injection h with h1 h2; omega,HBF.out,fun g hg=>HRR.out g ?_,fun _=>⟨gb,rfl,HRF.out⟩⟩,by simp [intOf]; omega⟩
        · have h:=HGOK.out
          rw [HGE.out] at h
          exact h
        · rw [show 20 - k=(20 - (k + 1)) + 1 by omega]
          refine .more HA.out HSWP.out (by rw [HCN.out]; exact hz) ?_
          rw [HGE.out]
          exact hg
    · obtain rfl:k=20:=by omega
      have h:=hR (wc f l) (.zero _)
      have HRR:=Lib.hid h
      have HOK:=Lib.hid hok
      obtain ⟨nb,hCn,hPn⟩:=hPk (by omega)
      have HPN:=Lib.hid (⟨nb,hCn,Pre.of_heap hPn (setRow_other wr (w.heap.size + 1) nb #[.string f.nm,.int .i64 f.ps,.int .i64 f.R,.int .i64 f.Fr,.slice C' L cap'] (hoff nb 0 hCn).2)⟩:∃ nb,C'=some ⟨nb,0,none⟩∧PreI (wr.setRow (w.heap.size + 1) #[.string f.nm,.int .i64 f.ps,.int .i64 f.R,.int .i64 f.Fr,.slice C' L cap']) nb l)
      clear hPk hPn hCn
      have hfi:=setRow_heap _ _ _ #[.string f.nm,.int .i64 f.ps,.int .i64 f.R,.int .i64 f.Fr,.slice C' L cap'] _ _ hx1
      have hx0':=hx0
      rw [hL] at hx0'
      have g0:=cell_of_heap hx0' 0 (.string f.nm) rfl
      have g1:=cell_of_heap hx0' 1 (.int .i64 f.ps) rfl
      have g2:=cell_of_heap hx0' 2 (.int .i64 f.R) rfl
      have g3:=cell_of_heap hx0' 3 (.int .i64 f.Fr) rfl
      have g4:=cell_of_heap hx0' 4 (.slice C' L cap') rfl
      have e0:=cell_of_heap hfi 0 (.string f.nm) rfl
      have e1:=cell_of_heap hfi 1 (.int .i64 f.ps) rfl
      have e2:=cell_of_heap hfi 2 (.int .i64 f.R) rfl
      have e3:=cell_of_heap hfi 3 (.int .i64 f.Fr) rfl
      have e4:=cell_of_heap hfi 4 (.slice C' L cap') rfl
      have HRD2:=Lib.hid (hrd.keepS (w':=wr.setRow (w.heap.size + 1) #[.string f.nm,.int .i64 f.ps,.int .i64 f.R,.int .i64 f.Fr,.slice C' L cap']) (by simp) (fun b o hA _=>setRow_other _ _ _ _ (fun e=>(hoff b o hA).2 e)))
      have HBF2:Hid (Below w.heap.size w (wr.setRow (w.heap.size + 1) #[.string f.nm,.int .i64 f.ps,.int .i64 f.R,.int .i64 f.Fr,.slice C' L cap'])):=Lib.hid (below_setRow hbw (by omega) _)
      have HLL:=Lib.hid hL
      clear hR h hok hrd hbw hoff hx0 hx0' hL
      go_wp2_with (first
        | (show wpList Try.prog _ _ (⟨none,.store _ (.tmp 2) _,_,_,_,_⟩::_) _ _; refine wpList_store_row rfl 24 (.tmp 2) (.tmp 34) rfl (w.heap.size + 1) #[.string f.nm,.int .i64 f.ps,.int .i64 f.R,.int .i64 f.Fr,.slice C' L cap'] rfl rfl 24 _ hx1 sF rfl (func_one _ _ _ _ _ _ _) ?_))
      (try simp only [Exit.inBlock,Exit.then])
      refine bodyPost_ret (by simp [results,Try.results24,go_sem,e0,e1,e2,e3,e4]; try rfl) rfl ?_
      exact ⟨⟨l,C',cap',HRR.out,HOK.out,by rw [HLL.out],HRD2.out,HPN.out⟩,HBF2.out⟩
end Go.Proofs.Ytkcclefonmnpnaa
namespace Go.Proofs.Ytkcclefonmnpnaa
open Go.RowKit Go.BigFrame
theorem run_copy_zero {P:Program}(w:World)(dT sT ty elem:TypeId)(d a:Option Addr)(dLen dCap sLen sCap size:Nat)(hu:P.underlying dT=some (.slice elem))(hs:(P.info? elem).map (·.size)=some size)(hn:Nat.min sLen dLen=0) :
    (Builtin.copy_ #[dT,sT] ty #[.slice d dLen dCap,.slice a sLen sCap]).run P w = .ok (goInt 0) w:=by
  cases hq:P.info? elem with
  | none=>simp [hq] at hs
  | some i =>
    have hl:∀ (x:Addr),(loadCells x 0).run P w = .ok #[] w:=fun x=>by simpa using run_loadCells_list (P:=P) w x [] (by simp)
    cases d <;> cases a <;> simp [Builtin.copy_,run_underlying hu,Builtin.lenOf,Builtin.firstCells,sizeOf,typeInfo,hq,hn,storeCells,hl]
theorem copy_insC {W:World}{C:Option Addr}{L cap:Nat}{v:List Ins}(h:RdI W C v)(hv:v.length=L)(ty:TypeId) :
    ∃ W',(Builtin.copy_ #[22,22] ty #[.slice (some ⟨W.heap.size,0,none⟩) L L,.slice C L cap]).run Try.prog (W.alloc (.cells (madeCells zeroI.l.toArray (L * 15)) 32)) = .ok (goInt L) W'∧PreI W' W.heap.size v∧Below W.heap.size W W'∧W'.heap.size=W.heap.size + 1:=by
  cases v with
  | nil =>
    obtain rfl:L=0:=by rw [← hv]; rfl
    refine ⟨_,run_copy_zero _ 22 22 ty 32 _ _ 0 0 0 cap 15 (by kernel_rfl) sI rfl,⟨_,heap_alloc_new _ _,fun j x hx=>by simp at hx⟩,Below.one _ _,by simp⟩
  | cons i v =>
    obtain ⟨b,o,rfl,_,_⟩:=h 0 i rfl
    exact copy_ins h hv ty
set_option maxRecDepth 1000000 in
set_option maxHeartbeats 4000000 in
theorem clone_all (f:Fn7)(hL0:f.code.length≤8192)(C:Option Addr)(cap:Nat)(w:World)(hC:RdI w C f.code) :
    Calls Try.prog 23 #[funcAgg f.nm f.ps f.R f.Fr C f.code.length cap] w fun e w'=>ClonedF w.heap.size f e w'∧Below w.heap.size w w':=by
  obtain ⟨L,hL⟩:∃ L,f.code.length=L:=⟨_,rfl⟩
  have HL:=Lib.hid hL
  rw [hL] at hL0
  simp only [funcAgg,hL]
  clear hL
  have b0:=heap_alloc_new w (.cells #[.string f.nm,.int .i64 f.ps,.int .i64 f.R,.int .i64 f.Fr,.slice C L cap] 24)
  have b1:=heap_alloc_new (w.alloc (.cells #[.string f.nm,.int .i64 f.ps,.int .i64 f.R,.int .i64 f.Fr,.slice C L cap] 24)) (.cells #[.string ⟨#[]⟩,.int .i64 0,.int .i64 0,.int .i64 0,.slice none 0 0] 24)
  rw [show (w.alloc (.cells #[.string f.nm,.int .i64 f.ps,.int .i64 f.R,.int .i64 f.Fr,.slice C L cap] 24)).heap.size=w.heap.size + 1 by simp] at b1
  have b0:=alloc_keeps b0 (.cells #[.string ⟨#[]⟩,.int .i64 0,.int .i64 0,.int .i64 0,.slice none 0 0] 24)
  have hB:=(Below.one w (.cells #[.string f.nm,.int .i64 f.ps,.int .i64 f.R,.int .i64 f.Fr,.slice C L cap] 24)).alloc (by simp) (.cells #[.string ⟨#[]⟩,.int .i64 0,.int .i64 0,.int .i64 0,.slice none 0 0] 24)
  obtain ⟨W,hW⟩:∃ W,(w.alloc (.cells #[.string f.nm,.int .i64 f.ps,.int .i64 f.R,.int .i64 f.Fr,.slice C L cap] 24)).alloc (.cells #[.string ⟨#[]⟩,.int .i64 0,.int .i64 0,.int .i64 0,.slice none 0 0] 24)=W:=⟨_,rfl⟩
  have hsW:w.heap.size + 2≤W.heap.size:=by rw [← hW]; simp
  rw [hW] at b0 b1 hB
  have y4:=cell_of_heap b0 4 (.slice C L cap) rfl
  have hl0:=(Array.getElem?_eq_some_iff.1 b0).1
  obtain ⟨W2,hcp,hP,hB2,hs2⟩:=copy_insC (cap:=cap) (hC.below hB) HL.out 3
  have hmk:=fun W=>make_ins L (by omega) W
  have c0:=(hB2.block _ hl0).trans b0
  have c1:=(hB2.block _ (Array.getElem?_eq_some_iff.1 b1).1).trans b1
  have hBB:=hB.trans (hB2.mono hB.size)
  have z0:=cell_of_heap c0 0 (.string f.nm) rfl
  have z1:=cell_of_heap c0 1 (.int .i64 f.ps) rfl
  have z2:=cell_of_heap c0 2 (.int .i64 f.R) rfl
  have z3:=cell_of_heap c0 3 (.int .i64 f.Fr) rfl
  have z4:=cell_of_heap c0 4 (.slice C L cap) rfl
  have zf:=free_of_heap c0
  have HP:=Lib.hid hP
  have HS2:=Lib.hid hs2
  clear hC hP hs2 b0 b1
  have d1:=(heap_setCell_other W2 ⟨w.heap.size,4,none⟩ (w.heap.size + 1) (.slice (some ⟨W.heap.size,0,none⟩) L L) (by simp only; omega)).trans c1
  have hR:=setRow_heap _ _ _ #[.string f.nm,.int .i64 f.ps,.int .i64 f.R,.int .i64 f.Fr,.slice (some ⟨W.heap.size,0,none⟩) L L] _ _ d1
  have r0:=cell_of_heap hR 0 (.string f.nm) rfl
  have r1:=cell_of_heap hR 1 (.int .i64 f.ps) rfl
  have r2:=cell_of_heap hR 2 (.int .i64 f.R) rfl
  have r3:=cell_of_heap hR 3 (.int .i64 f.Fr) rfl
  have r4:=cell_of_heap hR 4 (.slice (some ⟨W.heap.size,0,none⟩) L L) rfl
  have HPF:Hid (PreI ((W2.setCell ⟨w.heap.size,4,none⟩ (.slice (some ⟨W.heap.size,0,none⟩) L L)).setRow (w.heap.size + 1) #[.string f.nm,.int .i64 f.ps,.int .i64 f.R,.int .i64 f.Fr,.slice (some ⟨W.heap.size,0,none⟩) L L]) W.heap.size f.code):=Lib.hid (Pre.of_heap (Pre.other HP.out (by simp only; omega) _) (setRow_other _ _ _ _ (by omega)))
  have HBF:Hid (Below w.heap.size w ((W2.setCell ⟨w.heap.size,4,none⟩ (.slice (some ⟨W.heap.size,0,none⟩) L L)).setRow (w.heap.size + 1) #[.string f.nm,.int .i64 f.ps,.int .i64 f.R,.int .i64 f.Fr,.slice (some ⟨W.heap.size,0,none⟩) L L])):=Lib.hid (below_setRow (hBB.setCell (Nat.le_refl _) _) (by omega) _)
  have HSW:=Lib.hid hsW
  clear hR hsW c0 c1 hB hBB hB2
  go_enter Try.func23,Try.ntmps23
  go_wp2_with (first
    | (refine copy_ran (o:=⟨some 11,_,_,_,_,_⟩) rfl (.tmp 8) (.tmp 10) rfl rfl rfl hcp ?_)
    | (show wpList Try.prog _ _ (⟨none,.store _ (.tmp 2) _,_,_,_,_⟩::_) _ _; refine wpList_store_row rfl 24 (.tmp 2) (.tmp 14) rfl (w.heap.size + 1) #[.string f.nm,.int .i64 f.ps,.int .i64 f.R,.int .i64 f.Fr,.slice (some ⟨W.heap.size,0,none⟩) L L] rfl rfl 24 _ d1 sF rfl (func_one _ _ _ _ _ _ _) ?_))
  (try simp only [Exit.inBlock,Exit.then])
  refine bodyPost_ret (by simp [results,Try.results23,go_sem,r0,r1,r2,r3,r4]; try rfl) rfl ?_
  exact ⟨⟨W.heap.size,by rw [HL.out],by have:=HSW.out; omega,HPF.out⟩,HBF.out⟩
end Go.Proofs.Ytkcclefonmnpnaa

