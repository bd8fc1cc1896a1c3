import Derived.Test.YtkcclefonmnpnaaXe
import Derived.Test.YtkcclefonmnpnaaZf
namespace Go.Proofs.Ytkcclefonmnpnaa
open Go.RowKit Go.BigFrame
set_option maxRecDepth 1000000 in
set_option maxHeartbeats 8000000 in
theorem Few7_any (u:Un7) (F G:Option Addr) (cF cG:Nat) (w:World) (h:RdU w F G u) (hlf:u.funcs.length≤9223372036854775807) (hlg:u.globs.length≤9223372036854775807) (h9:∀ f ∈ u.funcs,f.code.length≤9223372036854775807) :
    Calls Try.prog 25 #[unAgg u F G cF cG] w fun e w'=>Tru (FewU u) e∧Below w.heap.size w w':=by
  have hB:=Below.one w (unObj u F G cF cG)
  have bx:=heap_alloc_new w (unObj u F G cF cG)
  have h1:=h.below hB
  obtain ⟨W,hW⟩:∃ W,w.alloc (unObj u F G cF cG)=W:=⟨_,rfl⟩
  rw [hW] at hB bx h1
  obtain ⟨N,hN⟩:∃ N,u.funcs.length=N:=⟨_,rfl⟩
  obtain ⟨M,hM⟩:∃ M,u.globs.length=M:=⟨_,rfl⟩
  simp only [unObj,unAgg] at bx hW ⊢
  rw [hN,hM] at bx hW ⊢
  rw [hN] at hlf
  rw [hM] at hlg
  have HB:=Lib.hid hB
  have H1:=Lib.hid h1
  have HN:=Lib.hid hN
  have HM:=Lib.hid hM
  have H9:=Lib.hid h9
  have HBX:=Lib.hid bx
  have hbl:=(Array.getElem?_eq_some_iff.1 bx).1
  clear h hB h1 hN hM h9 bx
  go_enter Try.func25,Try.ntmps25
  go_wp2
  go_loopw [3] (fun ix wr=>∃ k:Nat,k≤N∧k≤7∧ix = .int .i64 k∧Below W.heap.size W wr∧∀ (j:Nat) f,j < k→u.funcs[j]? = some f→Sm f) (fun ix _=>7 - (intOf ix).toNat)
  case atStart=>exact ⟨0,by omega,by omega,rfl,Below.refl _ _,fun j f hj=>by omega⟩
  case round =>
    obtain ⟨k,hk,hk7,rfl,hb,hS⟩:=hrel
    have hx:=(hb.block _ hbl).trans HBX.out
    have g0:=cell_of_heap hx 0 (.slice F N cF) rfl
    have g1:=cell_of_heap hx 1 (.slice G M cG) rfl
    have HBB:=Lib.hid hb
    have HSS:=Lib.hid hS
    have HX:=Lib.hid hx
    have hblr:=(Array.getElem?_eq_some_iff.1 hx).1
    clear hb hS hx
    by_cases hlt:k < N∧k≤6
    · obtain ⟨hlt,h6⟩:=hlt
      have q1:decide ((k:Int)≤6)=true:=by simp; omega
      obtain ⟨f,hf⟩:∃ f,u.funcs[k]? = some f:=⟨_,List.getElem?_eq_getElem (by rw [HN.out]; exact hlt)⟩
      have hmem:=List.mem_of_getElem? hf
      obtain ⟨b,o,C,cap,rfl,hbl2,hcs,hrI⟩:=(H1.out.fs.below HBB.out) k f hf
      obtain ⟨x0,x1,x2,x3,x4⟩:=fn_cells hcs
      have hsm:=(Small_any f C cap (H9.out f hmem) wr hrI).mono fun e w' h=>(⟨h.1.val,h.2⟩:e = .returned (.bool (tb (Sm f)))∧_)
      simp only [funcAgg] at hsm
      have HSM:=Lib.hid hsm
      have HF:=Lib.hid hf
      have HMEM:=Lib.hid hmem
      clear hsm hcs hf hmem hrI
      by_cases hs:Sm f
      · have ht:=tb_true.2 hs
        have HS:=Lib.hid hs
        rw [ht] at HSM
        clear hs ht
        go_wp2_with fail
        refine HSM.out.mono ?_
        rintro e w2 ⟨rfl,hb2⟩
        go_wp2
        exact ⟨⟨k + 1,by omega,by omega,by go_num,HBB.out.trans (hb2.mono HBB.out.size),fun j f' hj hf'=>by
          by_cases hjk:j=k
          · subst hjk
            have:=HF.out.symm.trans hf'
            injection this with this
            rw [← this]
            exact HS.out
          · exact HSS.out j f' (by omega) hf'⟩,by simp [intOf]; omega⟩
      · have ht:=tb_false.2 hs
        have HT:=Lib.hid (Tru.no (fun hU:FewU u=>hs (hU.2.2.1 f HMEM.out)))
        rw [ht] at HSM
        clear hs ht
        go_wp2_with fail
        refine HSM.out.mono ?_
        rintro e w2 ⟨rfl,hb2⟩
        go_wp2
        go_returns
        exact ⟨HT.out,HB.out.trans ((HBB.out.trans (hb2.mono HBB.out.size)).mono HB.out.size)⟩
    · have hq : decide ((k:Int) < N)=decide (k < N):=by simp
      have HEX:Hid (N≤6→k=N):=Lib.hid (fun h=>by omega)
      by_cases hlt2:k < N
      all_goals
        (try (have q1:decide ((k:Int)≤6)=false:=by simp; omega))
        go_wp2
        obtain ⟨W2,hW2⟩:∃ W2,W2=wr:=⟨_,rfl⟩
        subst hW2
        go_loopw [4] (fun ix wq=>∃ m:Nat,m≤M∧m≤11∧ix = .int .i64 m∧wq=W2∧∀ (j:Nat) g,j < m→u.globs[j]? = some g→g.nm.size≤50) (fun ix _=>11 - (intOf ix).toNat)
        case atStart=>exact ⟨0,by omega,by omega,rfl,rfl,fun j g hj=>by omega⟩
        case round =>
          obtain ⟨m,hm,hm11,rfl,rfl,hG⟩:=hrel
          have HGG:=Lib.hid hG
          clear hG
          by_cases hltm:m < M∧m≤10
          · obtain ⟨hltm,h10⟩:=hltm
            have p1:decide ((m:Int)≤10)=true:=by simp; omega
            obtain ⟨g,hg⟩:∃ g,u.globs[m]? = some g:=⟨_,List.getElem?_eq_getElem (by rw [HM.out]; exact hltm)⟩
            have hmem:=List.mem_of_getElem? hg
            obtain ⟨b,o,rfl,hbl2,hcs⟩:=(H1.out.gs.below HBB.out) m g hg
            obtain ⟨x0,x1,x2,x3⟩:=gl_cells hcs
            have HGM:=Lib.hid hg
            have HMEM:=Lib.hid hmem
            clear hcs hg hmem
            by_cases hs:g.nm.size≤50
            · have p2:decide ((g.nm.size:Int) > 50)=false:=by simp; omega
              have p3:decide ((50:Int) < g.nm.size)=false:=by simp; omega
              have HS:=Lib.hid hs
              clear hs
              go_wp2
              exact ⟨⟨m + 1,by omega,by omega,by go_num,by first | rfl | trivial,fun j g' hj hg'=>by
                by_cases hjk:j=m
                · subst hjk
                  have:=HGM.out.symm.trans hg'
                  injection this with this
                  rw [← this]
                  exact HS.out
                · exact HGG.out j g' (by omega) hg'⟩,by simp [intOf]; omega⟩
            · have p2:decide ((g.nm.size:Int) > 50)=true:=by simp; omega
              have p3:decide ((50:Int) < g.nm.size)=true:=by simp; omega
              have HT:=Lib.hid (Tru.no (fun hU:FewU u=>hs (hU.2.2.2 g HMEM.out)))
              clear hs
              go_wp2
              go_returns
              exact ⟨HT.out,HB.out.trans (HBB.out.mono HB.out.size)⟩
          · have HT:Hid (Tru (FewU u) (.returned (.bool (decide (N≤6) && decide (M≤10))))):=Lib.hid ⟨_,rfl,by
              rw [Bool.and_eq_true,decide_eq_true_eq,decide_eq_true_eq]
              constructor
              · rintro ⟨h6,h10⟩
                obtain rfl:=HEX.out h6
                have hmM:m=M:=by omega
                subst hmM
                refine ⟨by rw [HN.out]; exact h6,by rw [HM.out]; exact h10,fun f hf=>?_,fun g hg=>?_⟩
                · obtain ⟨j,hj⟩:=List.mem_iff_getElem?.1 hf
                  exact HSS.out j f (by rw [← HN.out]; exact (List.getElem?_eq_some_iff.1 hj).1) hj
                · obtain ⟨j,hj⟩:=List.mem_iff_getElem?.1 hg
                  exact HGG.out j g (by rw [← HM.out]; exact (List.getElem?_eq_some_iff.1 hj).1) hj
              · intro hU
                exact ⟨by rw [← HN.out]; exact hU.1,by rw [← HM.out]; exact hU.2.1⟩⟩
            have r1:decide ((N:Int)≤6)=decide (N≤6):=by simp; omega
            have r2:decide ((M:Int)≤10)=decide (M≤10):=by simp; omega
            by_cases hltm2:m < M
            all_goals
              (try (have p1:decide ((m:Int)≤10)=false:=by simp; omega))
              obtain ⟨c1,hc1⟩:∃ c1,decide (N≤6)=c1:=⟨_,rfl⟩
              obtain ⟨c2,hc2⟩:∃ c2,decide (M≤10)=c2:=⟨_,rfl⟩
              rw [hc1] at r1
              rw [hc2] at r2
              rw [hc1,hc2] at HT
              clear hc1 hc2
              cases c1 <;> cases c2
              all_goals
                go_wp2
                go_returns
                exact ⟨HT.out,HB.out.trans (HBB.out.mono HB.out.size)⟩
end Go.Proofs.Ytkcclefonmnpnaa
/- A run's states (plain). -/
