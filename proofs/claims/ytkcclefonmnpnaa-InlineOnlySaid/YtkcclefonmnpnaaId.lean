import Derived.Test.YtkcclefonmnpnaaXe
namespace Go.Proofs.Ytkcclefonmnpnaa
open Go.RowKit Go.BigFrame
abbrev nmV (nb:Nat):Value:=.func (.func 110) #[] #[.pointer (some ⟨nb,0,none⟩)]
theorem Find71_any {w:World}{nb:Nat}{nm:ByteArray}(h:w.cell? ⟨nb,0,none⟩=some (.string nm))(f:Fn7)(C:Option Addr)(L cap:Nat) :
    Calls Try.prog 110 #[funcAgg f.nm f.ps f.R f.Fr C L cap,.pointer (some ⟨nb,0,none⟩)] w fun e w'=>e = .returned (.bool (decide (f.nm=nm)))∧Below w.heap.size w w':=by
  have hB:=Below.one w (funcObj f.nm f.ps f.R f.Fr C L cap)
  have bx:=heap_alloc_new w (funcObj f.nm f.ps f.R f.Fr C L cap)
  have hlt:=World.block_lt_of_cell? w ⟨nb,0,none⟩ h
  have hq:=bytes_beq f.nm nm
  generalize decide (f.nm=nm)=q at *
  simp only [funcObj,funcAgg] at hB bx ⊢
  have g0:=cell_of_heap bx 0 (.string f.nm) rfl
  have g1:=(Below.cell hB (p:=⟨nb,0,none⟩) hlt).trans h
  have HB:=Lib.hid hB
  clear hB bx
  go_enter Try.func110,Try.ntmps110
  go_wp2
  go_returns
  exact ⟨rfl,HB.out⟩
set_option maxRecDepth 1000000 in
set_option maxHeartbeats 8000000 in
theorem IndexFuncF_any {w:World} {nb:Nat} {nm:ByteArray} (h:w.cell? ⟨nb,0,none⟩=some (.string nm)) (F:Option Addr) (l:List Fn7) (cF:Nat) (hF:RdF w F l) (hl:l.length≤100000) :
    Calls Try.prog 109 #[.slice F l.length cF,nmV nb] w fun e w'=>e = .returned (.int .i64 (findI l nm))∧Below w.heap.size w w':=by
  obtain ⟨N,hN⟩:∃ N,l.length=N:=⟨_,rfl⟩
  rw [hN] at hl ⊢
  have hnb:=World.block_lt_of_cell? w ⟨nb,0,none⟩ h
  have H:=Lib.hid h
  have HF:=Lib.hid hF
  have HN:=Lib.hid hN
  clear h hF hN
  simp only [nmV]
  go_enter Try.func109,Try.ntmps109
  go_wp2
  go_loopw [8] (fun ix wr=>∃ k:Nat,k≤N∧ix = .int .i64 k∧Below w.heap.size w wr∧∀ (j:Nat) g,j < k→l[j]? = some g→g.nm≠nm) (fun ix _=>N - (intOf ix).toNat)
  case atStart=>exact ⟨0,by omega,rfl,Below.refl _ _,fun j g hj=>by omega⟩
  case round =>
    obtain ⟨k,hk,rfl,hb,hno⟩:=hrel
    have HNO:=Lib.hid hno
    have HB:=Lib.hid hb
    clear hno hb
    by_cases hlt:k < N
    · obtain ⟨f,hf⟩:∃ f,l[k]? = some f:=⟨_,List.getElem?_eq_getElem (by rw [HN.out]; exact hlt)⟩
      obtain ⟨b,o,C,cap,rfl,hbl,hcs,_⟩:=(HF.out.below HB.out) k f hf
      obtain ⟨x0,x1,x2,x3,x4⟩:=fn_cells hcs
      have hc:=Find71_any (w:=wr) (nb:=nb) (nm:=nm) ((Below.cell HB.out (p:=⟨nb,0,none⟩) hnb).trans H.out) f C f.code.length cap
      have HFF:=Lib.hid hf
      simp only [funcAgg] at hc
      clear hcs hf
      obtain ⟨M,hM⟩:∃ M,f.code.length=M:=⟨_,rfl⟩
      rw [hM] at x4 hc
      have HC:=Lib.hid hc
      clear hc hM
      by_cases hnm:f.nm=nm
      · have hfi:=findI_some (findU_some HFF.out hnm HNO.out)
        have HFI:=Lib.hid hfi
        rw [decide_eq_true hnm] at HC
        clear hfi hnm
        go_wp2_with fail
        refine HC.out.mono ?_
        rintro e w2 ⟨rfl,hb2⟩
        go_wp2
        go_returns
        exact ⟨by rw [HFI.out]; rfl,HB.out.trans (hb2.mono HB.out.size)⟩
      · rw [decide_eq_false hnm] at HC
        have HNM:=Lib.hid hnm
        clear hnm
        go_wp2_with fail
        refine HC.out.mono ?_
        rintro e w2 ⟨rfl,hb2⟩
        go_wp2
        exact ⟨⟨k + 1,by omega,by go_num,HB.out.trans (hb2.mono HB.out.size),fun j g hj hg=>by
          by_cases hjk:j=k
          · subst hjk
            have:=HFF.out.symm.trans hg
            injection this with this
            rw [← this]
            exact HNM.out
          · exact HNO.out j g (by omega) hg⟩,by simp [intOf]; omega⟩
    · obtain rfl:k=N:=by omega
      have hfi:=findI_none (findU_none (l:=l) (nm:=nm) (fun j g hg=>HNO.out j g (by rw [← HN.out]; exact (List.getElem?_eq_some_iff.1 hg).1) hg))
      have HFI:=Lib.hid hfi
      clear hfi
      go_wp2
      go_returns
      exact ⟨by rw [HFI.out]; rfl,HB.out⟩
set_option maxRecDepth 1000000 in
set_option maxHeartbeats 8000000 in
theorem Find7_any (u:Un7)(F G:Option Addr)(cF cG:Nat)(nm:ByteArray)(hl:u.funcs.length≤100000)(w:World)(h:RdF w F u.funcs) :
    Calls Try.prog 90 #[unAgg u F G cF cG,.string nm] w fun e w'=>e = .returned (.int .i64 (findI u.funcs nm))∧Below w.heap.size w w':=by
  obtain ⟨b0,b1,hB⟩:=made_two w (unObj u F G cF cG) (.cells #[.string nm] 9)
  have hi:=IndexFuncF_any (w:=(w.alloc (unObj u F G cF cG)).alloc (.cells #[.string nm] 9)) (nb:=w.heap.size + 1) (nm:=nm) (cell_of_heap b1 0 _ rfl) F u.funcs cF (h.below hB) hl
  obtain ⟨N,hN⟩:∃ N,u.funcs.length=N:=⟨_,rfl⟩
  simp only [unObj,unAgg] at b0 b1 hi hB ⊢
  rw [hN] at b0 hi hB ⊢
  have g0:=cell_of_heap b0 0 (.slice F N cF) rfl
  have HI:=Lib.hid hi
  have HB:=Lib.hid hB
  clear h hB b0 b1 hi hN
  go_enter Try.func90,Try.ntmps90
  go_wp2_with fail
  refine HI.out.mono ?_
  rintro e w1 ⟨rfl,hb1⟩
  go_wp2
  go_returns
  exact ⟨rfl,HB.out.trans (hb1.mono HB.out.size)⟩
end Go.Proofs.Ytkcclefonmnpnaa

