import Derived.Deep.CutBlock
import Derived.Test.YtkcclefonmnpnaaZka
import Derived.Test.YtkcclefonmnpnaaZfs
import Derived.Test.YtkcclefonmnpnaaZg
import Derived.Test.YtkcclefonmnpnaaZft
namespace Go.Proofs.Ytkcclefonmnpnaa
open Go.RowKit Go.BigFrame
abbrev fnL (f:Fn7)(C:Option Addr)(cap:Nat):List Value:=[.string f.nm,.int .i64 f.ps,.int .i64 f.R,.int .i64 f.Fr,.slice C f.code.length cap]
abbrev glL (g:Gl):List Value:=[.string g.nm,.int .i64 g.at_,.int .i64 g.size,.int .i64 g.init]
abbrev unAgg (u:Un7)(F G:Option Addr)(cF cG:Nat):Value:=.agg #[.slice F u.funcs.length cF,.slice G u.globs.length cG,.int .i64 u.top]
abbrev unObj (u:Un7)(F G:Option Addr)(cF cG:Nat):Obj:=.cells #[.slice F u.funcs.length cF,.slice G u.globs.length cG,.int .i64 u.top] 43
def RdF (w:World)(F:Option Addr)(l:List Fn7):Prop:=∀ (k:Nat) f,l[k]? = some f→∃ b o C cap,F=some ⟨b,o,none⟩∧b < w.heap.size∧(∀ j,j < 5→w.cell? ⟨b,o + (k * 5 + j),none⟩=(fnL f C cap)[j]?)∧RdI w C f.code
def RdG (w:World)(G:Option Addr)(l:List Gl):Prop:=∀ (k:Nat) g,l[k]? = some g→∃ b o,G=some ⟨b,o,none⟩∧b < w.heap.size∧∀ j,j < 4→w.cell? ⟨b,o + (k * 4 + j),none⟩=(glL g)[j]?
structure RdU (w:World)(F G:Option Addr)(u:Un7):Prop where
  fs:RdF w F u.funcs
  gs:RdG w G u.globs
theorem RdF.below {w w':World}{F:Option Addr}{l:List Fn7}(h:RdF w F l)(hb:Below w.heap.size w w'):RdF w' F l:=fun k f hk=>by
  obtain ⟨b,o,C,cap,e1,e2,e3,e4⟩:=h k f hk
  exact ⟨b,o,C,cap,e1,Nat.lt_of_lt_of_le e2 hb.size,fun j hj=>(hb.cell (p:=⟨b,o + (k * 5 + j),none⟩) e2).trans (e3 j hj),e4.below hb⟩
theorem RdG.below {w w':World}{F:Option Addr}{l:List Gl}(h:RdG w F l)(hb:Below w.heap.size w w'):RdG w' F l:=fun k f hk=>by
  obtain ⟨b,o,e1,e2,e3⟩:=h k f hk
  exact ⟨b,o,e1,Nat.lt_of_lt_of_le e2 hb.size,fun j hj=>(hb.cell (p:=⟨b,o + (k * 4 + j),none⟩) e2).trans (e3 j hj)⟩
theorem RdU.below {w w':World}{F G:Option Addr}{u:Un7}(h:RdU w F G u)(hb:Below w.heap.size w w'):RdU w' F G u:=⟨h.fs.below hb,h.gs.below hb⟩
theorem fn_cells {w:World}{b o k:Nat}{f:Fn7}{C:Option Addr}{cap:Nat}(h:∀ j,j < 5→w.cell? ⟨b,o + (k * 5 + j),none⟩=(fnL f C cap)[j]?):w.cell? ⟨b,o + k * 5,none⟩=some (.string f.nm)∧w.cell? ⟨b,o + k * 5 + 1,none⟩=some (.int .i64 f.ps)∧w.cell? ⟨b,o + k * 5 + 2,none⟩=some (.int .i64 f.R)∧w.cell? ⟨b,o + k * 5 + 3,none⟩=some (.int .i64 f.Fr)∧w.cell? ⟨b,o + k * 5 + 4,none⟩=some (.slice C f.code.length cap) :=
  ⟨h 0 (by omega),h 1 (by omega),h 2 (by omega),h 3 (by omega),h 4 (by omega)⟩
theorem gl_cells {w:World}{b o k:Nat}{g:Gl}(h:∀ j,j < 4→w.cell? ⟨b,o + (k * 4 + j),none⟩=(glL g)[j]?):w.cell? ⟨b,o + k * 4,none⟩=some (.string g.nm)∧w.cell? ⟨b,o + k * 4 + 1,none⟩=some (.int .i64 g.at_)∧w.cell? ⟨b,o + k * 4 + 2,none⟩=some (.int .i64 g.size)∧w.cell? ⟨b,o + k * 4 + 3,none⟩=some (.int .i64 g.init) :=
  ⟨h 0 (by omega),h 1 (by omega),h 2 (by omega),h 3 (by omega)⟩
def findI (l:List Fn7)(nm:ByteArray):Int:=((findU l nm).map fun k=>(k:Int)).getD (-1)
theorem findU_some {l:List Fn7}{nm:ByteArray}{k:Nat}{f:Fn7}(hk:l[k]? = some f)(hn:f.nm=nm)(hb:∀ (j:Nat) g,j < k→l[j]? = some g→g.nm≠nm):findU l nm=some k:=by
  unfold findU
  rw [List.findIdx?_eq_some_iff_getElem]
  obtain ⟨hlt,e⟩:=List.getElem?_eq_some_iff.1 hk
  refine ⟨hlt,by rw [e]; simpa using hn,fun j hj=>?_⟩
  have:=hb j l[j] hj (List.getElem?_eq_getElem (by omega))
  simpa using this
theorem findU_none {l:List Fn7}{nm:ByteArray}(hb:∀ (j:Nat) g,l[j]? = some g→g.nm≠nm):findU l nm=none:=by
  unfold findU
  rw [List.findIdx?_eq_none_iff]
  intro g hg
  obtain ⟨j,hj⟩:=List.mem_iff_getElem?.1 hg
  simpa using hb j g hj
theorem findI_some {l:List Fn7}{nm:ByteArray}{k:Nat}(h:findU l nm=some k):findI l nm=k:=by unfold findI; rw [h]; rfl
theorem findI_none {l:List Fn7}{nm:ByteArray}(h:findU l nm=none):findI l nm=-1:=by unfold findI; rw [h]; rfl
theorem findU_lt {l:List Fn7}{nm:ByteArray}{k:Nat}(h:findU l nm=some k):∃ f,l[k]? = some f∧f.nm=nm:=by
  unfold findU at h
  rw [List.findIdx?_eq_some_iff_getElem] at h
  obtain ⟨hlt,e,_⟩:=h
  exact ⟨l[k],List.getElem?_eq_getElem hlt,by simpa using e⟩
set_option maxRecDepth 1000000 in
set_option maxHeartbeats 8000000 in
theorem Find_any (u:Un7) (F G:Option Addr) (cF cG:Nat) (nm:ByteArray) (hl:u.funcs.length≤100000) (w:World) (h:RdF w F u.funcs) :
    Calls Try.prog 43 #[unAgg u F G cF cG,.string nm] w fun e w'=>e = .returned (.int .i64 (findI u.funcs nm))∧Below w.heap.size w w':=by
  have hB:=Below.one w (unObj u F G cF cG)
  have bx:=heap_alloc_new w (unObj u F G cF cG)
  have h1:=h.below hB
  obtain ⟨W,hW⟩:∃ W,w.alloc (unObj u F G cF cG)=W:=⟨_,rfl⟩
  rw [hW] at hB bx h1
  obtain ⟨N,hN⟩:∃ N,u.funcs.length=N:=⟨_,rfl⟩
  simp only [unObj,unAgg] at bx hW ⊢
  rw [hN] at bx hW hl ⊢
  have g0:=cell_of_heap bx 0 (.slice F N cF) rfl
  have HB:=Lib.hid hB
  have H1:=Lib.hid h1
  have HN:=Lib.hid hN
  have hbl:=(Array.getElem?_eq_some_iff.1 bx).1
  clear h hB h1 hN bx
  go_enter Try.func43,Try.ntmps43
  go_wp2
  go_loopw [5] (fun ix wr=>∃ k:Nat,k≤N∧ix = .int .i64 k∧wr=W∧∀ (j:Nat) g,j < k→u.funcs[j]? = some g→g.nm≠nm) (fun ix _=>N - (intOf ix).toNat)
  case atStart=>exact ⟨0,by omega,rfl,rfl,fun j g hj=>by omega⟩
  case round =>
    obtain ⟨k,hk,rfl,rfl,hno⟩:=hrel
    by_cases hlt:k < N
    · obtain ⟨f,hf⟩:∃ f,u.funcs[k]? = some f:=⟨_,List.getElem?_eq_getElem (by rw [HN.out]; exact hlt)⟩
      obtain ⟨b,o,C,cap,rfl,hb,hcs,_⟩:=H1.out k f hf
      obtain ⟨x0,x1,x2,x3,x4⟩:=fn_cells hcs
      have HNO:=Lib.hid hno
      have HF:=Lib.hid hf
      clear hno hcs hf
      by_cases hnm:f.nm=nm
      · have hfi:=findI_some (findU_some HF.out hnm HNO.out)
        have HFI:=Lib.hid hfi
        have q:(f.nm.toList == nm.toList)=true:=by rw [bytes_beq]; exact decide_eq_true hnm
        clear hfi hnm
        go_wp2
        go_returns
        exact ⟨by rw [HFI.out]; rfl,HB.out⟩
      · have q:(f.nm.toList == nm.toList)=false:=by rw [bytes_beq]; exact decide_eq_false hnm
        have HNM:=Lib.hid hnm
        clear hnm
        go_wp2
        exact ⟨⟨k + 1,by omega,by go_num,by first | rfl | trivial,fun j g hj hg=>by
          by_cases hjk:j=k
          · subst hjk
            have:=HF.out.symm.trans hg
            injection this with this
            rw [← this]
            exact HNM.out
          · exact HNO.out j g (by omega) hg⟩,by simp [intOf]; omega⟩
    · obtain rfl:k=N:=by omega
      have hfi:=findI_none (findU_none (l:=u.funcs) (nm:=nm) (fun j g hg=>hno j g (by rw [← HN.out]; exact (List.getElem?_eq_some_iff.1 hg).1) hg))
      have HFI:=Lib.hid hfi
      clear hno hfi
      go_wp2
      go_returns
      exact ⟨by rw [HFI.out]; rfl,HB.out⟩
end Go.Proofs.Ytkcclefonmnpnaa
namespace Go.Proofs.Ytkcclefonmnpnaa
open Go.RowKit Go.BigFrame
def FewU (u:Un7):Prop:=u.funcs.length≤6∧u.globs.length≤10∧(∀ f ∈ u.funcs,Sm f)∧∀ g ∈ u.globs,g.nm.size≤50
end Go.Proofs.Ytkcclefonmnpnaa
namespace Go.Proofs.Ytkcclefonmnpnaa
open Go.RowKit Go.BigFrame
def OkG (top:Int)(g:Gl):Prop:=1≤g.at_∧0≤g.size∧g.at_≤top∧g.size≤top∧g.at_ + g.size≤top∧-2147483648≤g.init∧g.init≤2147483647
def CalO (l:List Fn7)(i:Ins):Prop:=i.kind=8→∃ k g,findU l i.text=some k∧l[k]? = some g∧g.ps=i.n
structure OkU (u:Un7):Prop where
  len:u.funcs.length≤64
  top:1≤u.top∧u.top≤4096
  gl:∀ g ∈ u.globs,OkG u.top g
  ok:∀ f ∈ u.funcs,OkF f
  one:∀ (k:Nat) f,u.funcs[k]? = some f→findU u.funcs f.nm=some k
  calls:∀ f ∈ u.funcs,∀ i ∈ f.code,CalO u.funcs i
theorem findI_eq {l:List Fn7}{nm:ByteArray}{k:Nat}:findI l nm=k↔findU l nm=some k:=by
  unfold findI
  cases h:findU l nm with
  | none=>simp
  | some j=>simp; omega
def RiL (u:Un7)(k:Nat):Prop:=∀ (j:Nat) f,j < k→u.funcs[j]? = some f→OkF f∧findU u.funcs f.nm=some j∧∀ i ∈ f.code,CalO u.funcs i
set_option maxRecDepth 1000000 in
set_option maxHeartbeats 16000000 in
theorem Right_any (u:Un7) (F G:Option Addr) (cF cG:Nat) (w:World) (h:RdU w F G u) (hlf:u.funcs.length≤100000) (hlg:u.globs.length≤100000) :
    Calls Try.prog 26 #[unAgg u F G cF cG] w fun e w'=>Tru (OkU u) e∧Below w.heap.size w w':=by
  have hB:=Below.one w (unObj u F G cF cG)
  have bx:=heap_alloc_new w (unObj u F G cF cG)
  have h1:=h.below hB
  have hfi:=fun nm W h=>Find_any u F G cF cG nm hlf W h
  obtain ⟨W,hW⟩:∃ W,w.alloc (unObj u F G cF cG)=W:=⟨_,rfl⟩
  rw [hW] at hB bx h1
  obtain ⟨N,hN⟩:∃ N,u.funcs.length=N:=⟨_,rfl⟩
  obtain ⟨M,hM⟩:∃ M,u.globs.length=M:=⟨_,rfl⟩
  simp only [unObj,unAgg] at bx hW hfi ⊢
  rw [hN,hM] at bx hW ⊢
  rw [hN] at hlf
  rw [hM] at hlg
  simp only [hN,hM] at hfi
  have HFI:=Lib.hid hfi
  have HB:=Lib.hid hB
  have H1:=Lib.hid h1
  have HN:=Lib.hid hN
  have HM:=Lib.hid hM
  have HBX:=Lib.hid bx
  have hbl:=(Array.getElem?_eq_some_iff.1 bx).1
  have g0:=cell_of_heap bx 0 (.slice F N cF) rfl
  have g2:=cell_of_heap bx 2 (.int .i64 u.top) rfl
  clear h hB h1 hN hM bx hfi
  by_cases c1:N≤64
  case neg =>
    have HT:=Lib.hid (Tru.no (fun hU:OkU u=>c1 (by rw [← HN.out]; exact hU.len)))
    have q1:decide ((N:Int) > 64)=true:=by simp; omega
    have q2:decide ((64:Int) < N)=true:=by simp; omega
    go_enter Try.func26,Try.ntmps26
    go_wp2
    go_returns
    exact ⟨HT.out,HB.out⟩
  have q1:decide ((N:Int) > 64)=false:=by simp; omega
  have q2:decide ((64:Int) < N)=false:=by simp; omega
  by_cases c2:1≤u.top
  case neg =>
    have HT:=Lib.hid (Tru.no (fun hU:OkU u=>c2 hU.top.1))
    have q3:decide (u.top < 1)=true:=by simp; omega
    go_enter Try.func26,Try.ntmps26
    go_wp2
    go_returns
    exact ⟨HT.out,HB.out⟩
  have q3:decide (u.top < 1)=false:=by simp; omega
  by_cases c3:u.top≤4096
  case neg =>
    have HT:=Lib.hid (Tru.no (fun hU:OkU u=>c3 hU.top.2))
    have q4:decide (u.top > 4096)=true:=by simp; omega
    have q5:decide (4096 < u.top)=true:=by simp; omega
    go_enter Try.func26,Try.ntmps26
    go_wp2
    go_returns
    exact ⟨HT.out,HB.out⟩
  have q4:decide (u.top > 4096)=false:=by simp; omega
  have q5:decide (4096 < u.top)=false:=by simp; omega
  go_enter Try.func26,Try.ntmps26
  go_wp2
  clear g0 g2
  go_loopw [3] (fun ix wr=>∃ m:Nat,m≤M∧ix = .int .i64 m∧Below W.heap.size W wr∧∀ (j:Nat) g,j < m→u.globs[j]? = some g→OkG u.top g) (fun ix _=>M - (intOf ix).toNat)
  case atStart=>exact ⟨0,by omega,rfl,Below.refl _ _,fun j g hj=>by omega⟩
  case round =>
    obtain ⟨m,hm,rfl,hb,hG⟩:=hrel
    have hx:=(hb.block _ hbl).trans HBX.out
    have g0:=cell_of_heap hx 0 (.slice F N cF) rfl
    have g1:=cell_of_heap hx 1 (.slice G M cG) rfl
    have g2:=cell_of_heap hx 2 (.int .i64 u.top) rfl
    have HBB:=Lib.hid hb
    have HGG:=Lib.hid hG
    have HX:=Lib.hid hx
    have hbr:=(Array.getElem?_eq_some_iff.1 hx).1
    clear hb hG hx
    by_cases hltm:m < M
    · obtain ⟨g,hg⟩:∃ g,u.globs[m]? = some g:=⟨_,List.getElem?_eq_getElem (by rw [HM.out]; exact hltm)⟩
      have hmem:=List.mem_of_getElem? hg
      obtain ⟨b,o,rfl,hbl2,hcs⟩:=(H1.out.gs.below HBB.out) m g hg
      obtain ⟨x0,x1,x2,x3⟩:=gl_cells hcs
      have HGM:=Lib.hid hg
      have HMEM:=Lib.hid hmem
      have hB1:=Below.one wr (.cells #[.string g.nm,.int .i64 g.at_,.int .i64 g.size,.int .i64 g.init] 81)
      have HB1:=Lib.hid (HBB.out.trans (hB1.mono HBB.out.size))
      have hiw:=fun W=>isWord_any g.init W
      clear hcs hg hmem hB1
      obtain ⟨nm,at_,size,init⟩:=g
      simp only at x0 x1 x2 x3 hiw HB1
      by_cases d1:1≤at_
      case neg =>
        have HT:=Lib.hid (Tru.no (fun hU:OkU u=>d1 (hU.gl _ HMEM.out).1))
        have p1:decide (at_ < 1)=true:=by simp; omega
        go_wp2
        go_returns
        exact ⟨HT.out,HB.out.trans (HB1.out.mono HB.out.size)⟩
      have p1:decide (at_ < 1)=false:=by simp; omega
      by_cases d2:0≤size
      case neg =>
        have HT:=Lib.hid (Tru.no (fun hU:OkU u=>d2 (hU.gl _ HMEM.out).2.1))
        have p2:decide (size < 0)=true:=by simp; omega
        go_wp2
        go_returns
        exact ⟨HT.out,HB.out.trans (HB1.out.mono HB.out.size)⟩
      have p2:decide (size < 0)=false:=by simp; omega
      by_cases d3:at_≤u.top
      case neg =>
        have HT:=Lib.hid (Tru.no (fun hU:OkU u=>d3 (hU.gl _ HMEM.out).2.2.1))
        have p3:decide (u.top < at_)=true:=by simp; omega
        go_wp2
        go_returns
        exact ⟨HT.out,HB.out.trans (HB1.out.mono HB.out.size)⟩
      have p3:decide (u.top < at_)=false:=by simp; omega
      by_cases d4:size≤u.top
      case neg =>
        have HT:=Lib.hid (Tru.no (fun hU:OkU u=>d4 (hU.gl _ HMEM.out).2.2.2.1))
        have p4:decide (u.top < size)=true:=by simp; omega
        go_wp2
        go_returns
        exact ⟨HT.out,HB.out.trans (HB1.out.mono HB.out.size)⟩
      have p4:decide (u.top < size)=false:=by simp; omega
      by_cases d5:at_ + size≤u.top
      case neg =>
        have HT:=Lib.hid (Tru.no (fun hU:OkU u=>d5 (hU.gl _ HMEM.out).2.2.2.2.1))
        have p5:decide (u.top < at_ + size)=true:=by simp; omega
        go_wp2
        go_returns
        exact ⟨HT.out,HB.out.trans (HB1.out.mono HB.out.size)⟩
      have p5:decide (u.top < at_ + size)=false:=by simp; omega
      by_cases d6:-2147483648≤init∧init≤2147483647
      case neg =>
        have HT:=Lib.hid (Tru.no (fun hU:OkU u=>d6 (hU.gl _ HMEM.out).2.2.2.2.2))
        rw [decide_eq_false d6] at hiw
        clear d6
        go_wp2_with (first
          | (go_at_call 58; refine (hiw _).mono ?_; rintro e w3 ⟨rfl,hw3⟩; subst hw3))
        go_returns
        exact ⟨HT.out,HB.out.trans (HB1.out.mono HB.out.size)⟩
      have HOG:Hid (OkG u.top ⟨nm,at_,size,init⟩):=Lib.hid ⟨d1,d2,d3,d4,d5,d6⟩
      rw [decide_eq_true d6] at hiw
      clear d6
      go_wp2_with (first
        | (go_at_call 58; refine (hiw _).mono ?_; rintro e w3 ⟨rfl,hw3⟩; subst hw3))
      exact ⟨⟨m + 1,by omega,by go_num,HB1.out,fun j g' hj hg'=>by
        by_cases hjk:j=m
        · subst hjk
          have:=HGM.out.symm.trans hg'
          injection this with this
          rw [← this]
          exact HOG.out
        · exact HGG.out j g' (by omega) hg'⟩,by simp [intOf]; omega⟩
    · have HGL : Hid (∀ g ∈ u.globs,OkG u.top g):=Lib.hid (fun g hg=>by
        obtain ⟨j,hj⟩:=List.mem_iff_getElem?.1 hg
        exact HGG.out j g (by have h1:=(List.getElem?_eq_some_iff.1 hj).1; rw [HM.out] at h1; omega) hj)
      obtain rfl:m=M:=by omega
      go_wp2
      obtain ⟨W2,hW2⟩:∃ W2,W2=wr:=⟨_,rfl⟩
      subst hW2
      clear g0 g1 g2 HGG HX hbr
      go_loopw [5] (fun ix wr=>∃ k:Nat,k≤N∧ix = .int .i64 k∧Below W.heap.size W wr∧RiL u k) (fun ix _=>N - (intOf ix).toNat)
      case atStart=>exact ⟨0,by omega,rfl,HBB.out,fun j f hj=>by omega⟩
      case round =>
        obtain ⟨k,hk,rfl,hb,hR⟩:=hrel
        have hx:=(hb.block _ hbl).trans HBX.out
        have g0:=cell_of_heap hx 0 (.slice F N cF) rfl
        have HBR:=Lib.hid hb
        have HRI:=Lib.hid hR
        have HX:=Lib.hid hx
        have hbr:=(Array.getElem?_eq_some_iff.1 hx).1
        have hsr:=hb.size
        clear hb hR hx
        by_cases hlt:k < N
        · obtain ⟨f,hf⟩:∃ f,u.funcs[k]? = some f:=⟨_,List.getElem?_eq_getElem (by rw [HN.out]; exact hlt)⟩
          have hmem:=List.mem_of_getElem? hf
          obtain ⟨b,o,C,cap,rfl,hbl2,hcs,hrI⟩:=(H1.out.fs.below HBR.out) k f hf
          obtain ⟨x0,x1,x2,x3,x4⟩:=fn_cells hcs
          have hB1:=Below.one wr (funcObj f.nm f.ps f.R f.Fr C f.code.length cap)
          have hk1:=heap_alloc_new wr (funcObj f.nm f.ps f.R f.Fr C f.code.length cap)
          have hx1:=(hB1.block _ hbr).trans HX.out
          have HC1:=Lib.hid (hrI.below hB1)
          have hrr:=refRightFunc_any f C cap _ HC1.out
          obtain ⟨W3,hW3⟩:∃ W3,wr.alloc (funcObj f.nm f.ps f.R f.Fr C f.code.length cap)=W3:=⟨_,rfl⟩
          rw [hW3] at hB1 hk1 hx1 HC1 hrr
          have HFK:=Lib.hid hf
          have HMEM:=Lib.hid hmem
          obtain ⟨L,hL⟩:∃ L,f.code.length=L:=⟨_,rfl⟩
          simp only [funcObj,funcAgg] at hk1 hrr hW3
          rw [hL] at x4 hk1 hrr hW3
          have k0:=cell_of_heap hk1 0 (.string f.nm) rfl
          have k1:=cell_of_heap hk1 1 (.int .i64 f.ps) rfl
          have k2:=cell_of_heap hk1 2 (.int .i64 f.R) rfl
          have k3:=cell_of_heap hk1 3 (.int .i64 f.Fr) rfl
          have k4:=cell_of_heap hk1 4 (.slice C L cap) rfl
          have HRR:=Lib.hid hrr
          have HK1:=Lib.hid hk1
          have HX1:=Lib.hid hx1
          have HB1:=Lib.hid (HBR.out.trans (hB1.mono hsr))
          have HL:=Lib.hid hL
          clear hf hmem hcs hrI hB1 hk1 hx1 hrr hL
          go_wp2_with fail
          refine HRR.out.mono ?_
          rintro e w4 ⟨⟨bb,rfl,hbb⟩,hb4⟩
          have hk4:=(hb4.block _ (Array.getElem?_eq_some_iff.1 HK1.out).1).trans HK1.out
          have hx4:=(hb4.block _ (Array.getElem?_eq_some_iff.1 HX1.out).1).trans HX1.out
          have HB4:=Lib.hid (HB1.out.trans (hb4.mono HB1.out.size))
          have HC4:=Lib.hid (HC1.out.below hb4)
          have HK4:=Lib.hid hk4
          have HX4:=Lib.hid hx4
          have l0:=cell_of_heap hk4 0 (.string f.nm) rfl
          have m0:=cell_of_heap hx4 0 (.slice (some ⟨b,o,none⟩) N cF) rfl
          have m1:=cell_of_heap hx4 1 (.slice G m cG) rfl
          have m2:=cell_of_heap hx4 2 (.int .i64 u.top) rfl
          have HBO:=Lib.hid hbb
          clear hbb hb4 hk4 hx4 k0 k1 k2 k3 k4 x0 x1 x2 x3 x4 g0 hW3
          cases bb with
          | false =>
            have HT:=Lib.hid (Tru.no (fun hU:OkU u=>absurd (HBO.out.2 (hU.ok f HMEM.out)) (by decide)))
            go_wp2
            go_returns
            exact ⟨HT.out,HB.out.trans (HB4.out.mono HB.out.size)⟩
          | true =>
            have HOF:=Lib.hid (HBO.out.1 rfl)
            have hL8:L≤8192:=by rw [← HL.out]; exact HOF.out.len.2
            go_wp2_with fail
            refine (HFI.out f.nm _ (H1.out.fs.below HB4.out)).mono ?_
            rintro e w5 ⟨rfl,hb5⟩
            have hk5:=(hb5.block _ (Array.getElem?_eq_some_iff.1 HK4.out).1).trans HK4.out
            have hx5:=(hb5.block _ (Array.getElem?_eq_some_iff.1 HX4.out).1).trans HX4.out
            have HK5:=Lib.hid hk5
            have HX5:=Lib.hid hx5
            have HB5:=Lib.hid (HB4.out.trans (hb5.mono HB4.out.size))
            have HC5:=Lib.hid (HC4.out.below hb5)
            clear hb5 hk5 hx5 l0 m0 m1 m2 HBO
            by_cases hfk:findI u.funcs f.nm=k
            case neg =>
              have HT:=Lib.hid (Tru.no (fun hU:OkU u=>hfk (findI_eq.2 (hU.one k f HFK.out))))
              have q:decide (findI u.funcs f.nm=(k:Int))=false:=decide_eq_false hfk
              have q2:(findI u.funcs f.nm != (k:Int))=true:=by simpa using hfk
              clear hfk
              go_wp2
              go_returns
              exact ⟨HT.out,HB.out.trans (HB5.out.mono HB.out.size)⟩
            rw [hfk]
            have HFU:=Lib.hid (findI_eq.1 hfk)
            clear hfk
            go_wp2
            go_loopw [7] (fun ix wr=>∃ n:Nat,n≤L∧ix = .int .i64 n∧Below w5.heap.size w5 wr∧∀ (j:Nat) i,j < n→f.code[j]? = some i→CalO u.funcs i) (fun ix _=>L - (intOf ix).toNat)
            case atStart=>exact ⟨0,by omega,rfl,Below.refl _ _,fun j i hj=>by omega⟩
            case round =>
              obtain ⟨n,hn,rfl,hbq,hC⟩:=hrel
              have hkq:=(hbq.block _ (Array.getElem?_eq_some_iff.1 HK5.out).1).trans HK5.out
              have hxq:=(hbq.block _ (Array.getElem?_eq_some_iff.1 HX5.out).1).trans HX5.out
              have l4:=cell_of_heap hkq 4 (.slice C L cap) rfl
              have m0:=cell_of_heap hxq 0 (.slice (some ⟨b,o,none⟩) N cF) rfl
              have m1:=cell_of_heap hxq 1 (.slice G m cG) rfl
              have m2:=cell_of_heap hxq 2 (.int .i64 u.top) rfl
              have HBQ:=Lib.hid (HB5.out.trans (hbq.mono HB5.out.size))
              have HBQ5:=Lib.hid hbq
              have HCQ:=Lib.hid (HC5.out.below hbq)
              have HCC:=Lib.hid hC
              have HKQ:=Lib.hid hkq
              have HXQ:=Lib.hid hxq
              clear hbq hC hkq hxq
              by_cases hltn:n < L
              · obtain ⟨i,hi⟩:∃ i,f.code[n]? = some i:=⟨_,List.getElem?_eq_getElem (by rw [HL.out]; exact hltn)⟩
                obtain ⟨bc,oc,rfl,hbl3,hci⟩:=HCQ.out n i hi
                obtain ⟨y0,y1,y2,y3,y4,y5,y6,y7,y8,y9,y10,y11,y12,y13,y14⟩:=RdI.load hci
                have HII:=Lib.hid hi
                have HIM:=Lib.hid (List.mem_of_getElem? hi)
                clear hi hci y1 y2 y3 y4 y7 y8 y9 y10 y11 y12 y13 y14
                by_cases hk8:i.kind=8
                case neg =>
                  have q:decide (i.kind=8)=false:=decide_eq_false hk8
                  have q':(i.kind == 8)=false:=by simpa using hk8
                  have HOC:Hid (CalO u.funcs i):=Lib.hid (fun h=>absurd h hk8)
                  clear hk8
                  go_wp2
                  exact ⟨⟨n + 1,by omega,by go_num,HBQ5.out,fun j i' hj hi'=>by
                    by_cases hjk:j=n
                    · subst hjk
                      have:=HII.out.symm.trans hi'
                      injection this with this
                      rw [← this]
                      exact HOC.out
                    · exact HCC.out j i' (by omega) hi'⟩,by simp [intOf]; omega⟩
                rw [hk8] at y0
                have HK8:=Lib.hid hk8
                clear hk8
                obtain ⟨W6,hW6⟩:∃ W6,W6=wr:=⟨_,rfl⟩
                subst hW6
                go_wp2
                have e0:=fun s:Later W6=>Later.cell y0 s
                have e5:=fun s:Later W6=>Later.cell y5 s
                have e6:=fun s:Later W6=>Later.cell y6 s
                have f4:=fun s:Later W6=>Later.cell l4 s
                have f0:=fun s:Later W6=>Later.cell m0 s
                have f1:=fun s:Later W6=>Later.cell m1 s
                have f2:=fun s:Later W6=>Later.cell m2 s
                refine wp_region_later (by kernel_rfl) (by kernel_rfl) ?_
                repeat (go_big_quiet_step ((go_at_call 43; exact Calls.later (HFI.out i.text _ (H1.out.fs.below (HBQ.out.trans ((Later.h _).mono HBQ.out.size)))))))
                refine wpQuiet_nil ?_
                rintro w7 ⟨s',rfl⟩
                have hb7:=s'.h
                generalize s'.w=w7 at *
                have hk7:=(hb7.block _ (Array.getElem?_eq_some_iff.1 HKQ.out).1).trans HKQ.out
                have hx7:=(hb7.block _ (Array.getElem?_eq_some_iff.1 HXQ.out).1).trans HXQ.out
                have z4:=cell_of_heap hk7 4 (.slice (some ⟨bc,oc,none⟩) L cap) rfl
                have v0:=cell_of_heap hx7 0 (.slice (some ⟨b,o,none⟩) N cF) rfl
                have y5:=(hb7.cell (p:=⟨bc,oc + n * 15 + 5,none⟩) hbl3).trans y5
                have HB7:=Lib.hid (HBQ.out.trans (hb7.mono HBQ.out.size))
                have HB75:=Lib.hid (HBQ5.out.trans (hb7.mono HBQ5.out.size))
                clear e0 e5 e6 f4 f0 f1 f2 y0 y6 l4 m0 m1 m2 hb7 hk7 hx7
                cases hfu:findU u.funcs i.text with
                | none =>
                  have hfi:=findI_none hfu
                  rw [hfi]
                  have HT:=Lib.hid (Tru.no (fun hU:OkU u=>by
                    obtain ⟨k',g',h1,_⟩:=hU.calls f HMEM.out i HIM.out HK8.out
                    rw [hfu] at h1
                    cases h1))
                  clear hfi hfu
                  go_wp2
                  go_quiet (fail)
                  go_wp2
                  go_returns
                  exact ⟨HT.out,HB.out.trans (Below.mono ⟨HB7.out.os,HB7.out.tape,HB7.out.output,HB7.out.size,HB7.out.block⟩ HB.out.size)⟩
                | some k' =>
                  have hfi:=findI_some hfu
                  rw [hfi]
                  obtain ⟨g,hg,hgn⟩:=findU_lt hfu
                  have hk'N:k' < N:=by rw [← HN.out]; exact (List.getElem?_eq_some_iff.1 hg).1
                  obtain ⟨b',o',C',cap',hF',hbl4,hcs',_⟩:=(H1.out.fs.below HB7.out) k' g hg
                  injection hF' with hF'
                  injection hF' with h1 h2
                  subst h1 h2
                  have u1:=(fn_cells hcs').2.1
                  have HFU':=Lib.hid hfu
                  have HG':=Lib.hid hg
                  clear hfi hfu hcs' hg hgn
                  by_cases hps:g.ps=i.n
                  · have q:decide (g.ps=i.n)=true:=decide_eq_true hps
                    have HOC:Hid (CalO u.funcs i):=Lib.hid (fun _=>⟨k',g,HFU'.out,HG'.out,hps⟩)
                    rw [hps] at u1
                    clear hps q
                    go_wp2
                    go_quiet (fail)
                    go_wp2
                    exact ⟨⟨n + 1,by omega,by go_num,⟨HB75.out.os,HB75.out.tape,HB75.out.output,HB75.out.size,HB75.out.block⟩,fun j i' hj hi'=>by
                      by_cases hjk:j=n
                      · subst hjk
                        have:=HII.out.symm.trans hi'
                        injection this with this
                        rw [← this]
                        exact HOC.out
                      · exact HCC.out j i' (by omega) hi'⟩,by simp [intOf]; omega⟩
                  · have q:decide (g.ps=i.n)=false:=decide_eq_false hps
                    have q2:(g.ps != i.n)=true:=by simpa using hps
                    have HT:=Lib.hid (Tru.no (fun hU:OkU u=>by
                      obtain ⟨k2,g2,h1,h2,h3⟩:=hU.calls f HMEM.out i HIM.out HK8.out
                      rw [HFU'.out] at h1
                      injection h1 with h1
                      subst h1
                      rw [HG'.out] at h2
                      injection h2 with h2
                      subst h2
                      exact hps h3))
                    clear hps
                    go_wp2
                    go_quiet (fail)
                    go_wp2
                    go_returns
                    exact ⟨HT.out,HB.out.trans (Below.mono ⟨HB7.out.os,HB7.out.tape,HB7.out.output,HB7.out.size,HB7.out.block⟩ HB.out.size)⟩
              · have HALL:Hid (∀ i ∈ f.code,CalO u.funcs i):=Lib.hid (fun i hi=>by
                  obtain ⟨j,hj⟩:=List.mem_iff_getElem?.1 hi
                  exact HCC.out j i (by have h1:=(List.getElem?_eq_some_iff.1 hj).1; rw [HL.out] at h1; omega) hj)
                obtain rfl:n=L:=by omega
                clear HCC
                go_wp2
                exact ⟨⟨k + 1,by omega,by go_num,HBQ.out,fun j f' hj hf'=>by
                  by_cases hjk:j=k
                  · subst hjk
                    have:=HFK.out.symm.trans hf'
                    injection this with this
                    rw [← this]
                    exact ⟨HOF.out,HFU.out,HALL.out⟩
                  · exact HRI.out j f' (by omega) hf'⟩,by simp [intOf]; omega⟩
        · obtain rfl:k=N:=by omega
          have HT:Hid (Tru (OkU u) (.returned (.bool true))):=Lib.hid (Tru.yes ⟨by rw [HN.out]; exact c1,⟨c2,c3⟩,HGL.out,
            fun f hf=>by
              obtain ⟨j,hj⟩:=List.mem_iff_getElem?.1 hf
              exact (HRI.out j f (by have h1:=(List.getElem?_eq_some_iff.1 hj).1; rw [HN.out] at h1; omega) hj).1,
            fun j f hj=>(HRI.out j f (by have h1:=(List.getElem?_eq_some_iff.1 hj).1; rw [HN.out] at h1; omega) hj).2.1,
            fun f hf=>by
              obtain ⟨j,hj⟩:=List.mem_iff_getElem?.1 hf
              exact (HRI.out j f (by have h1:=(List.getElem?_eq_some_iff.1 hj).1; rw [HN.out] at h1; omega) hj).2.2⟩)
          go_wp2
          go_returns
          exact ⟨HT.out,HB.out.trans (HBR.out.mono HB.out.size)⟩
end Go.Proofs.Ytkcclefonmnpnaa
namespace Go.Proofs.Ytkcclefonmnpnaa
open Go.RowKit Go.BigFrame
def RdB (w:World)(A:Option Addr)(l:List Int):Prop:=∀ (j:Nat) n,l[j]? = some n→∃ b o,A=some ⟨b,o,none⟩∧b < w.heap.size∧w.cell? ⟨b,o + j,none⟩=some (.int .u8 n)
theorem RdB.below {w w':World}{A:Option Addr}{l:List Int}(h:RdB w A l)(hb:Below w.heap.size w w'):RdB w' A l:=fun j n hn=>by
  obtain ⟨b,o,e1,e2,e3⟩:=h j n hn
  exact ⟨b,o,e1,Nat.lt_of_lt_of_le e2 hb.size,(hb.cell (p:=⟨b,_,none⟩) e2).trans e3⟩
theorem RdB.take {w:World}{A:Option Addr}{l:List Int}(h:RdB w A l)(n:Nat):RdB w A (l.take n):=fun j x hx=>by
  rw [List.getElem?_take] at hx
  split at hx
  · exact h j x hx
  · cases hx
def RdBc (w:World)(A:Option Addr)(l:List Int)(cap:Nat):Prop:=RdB w A l∧l.length≤cap
theorem RdBc.below {w w':World}{A:Option Addr}{l:List Int}{cap:Nat}(h:RdBc w A l cap)(hb:Below w.heap.size w w'):RdBc w' A l cap:=⟨h.1.below hb,h.2⟩
instance:DecidableEq Res:=fun x y=>decidable_of_iff (x.e=y.e∧x.c=y.c∧x.out=y.out)
  ⟨fun h=>by cases x; cases y; simp_all,fun h=>by subst h; simp⟩
theorem made_two (w:World)(a b:Obj):((w.alloc a).alloc b).heap[w.heap.size]? = some a∧((w.alloc a).alloc b).heap[w.heap.size + 1]? = some b∧Below w.heap.size w ((w.alloc a).alloc b):=by
  have h1:=heap_alloc_new (w.alloc a) b
  rw [show (w.alloc a).heap.size=w.heap.size + 1 by simp] at h1
  exact ⟨alloc_keeps (heap_alloc_new w a) b,h1,(Below.one w a).alloc (by simp) b⟩
end Go.Proofs.Ytkcclefonmnpnaa
namespace Go.Proofs.Ytkcclefonmnpnaa
open Go.RowKit Go.BigFrame
abbrev frL (x:Fr7 × Nat):List Value:=[.int .i64 x.1.k,.int .i64 x.1.base,.int .i64 x.1.p,.int .i64 x.1.dst,.slice (some ⟨x.2,0,none⟩) x.1.ρ.length x.1.ρ.length]
abbrev regO (ρ:List Int):Obj:=.cells (ρ.map (.int .i64)).toArray 3 (0,0)
structure RnS (w0 w:World)(l:List (Fr7 × Nat))(E:Env)(mb rb:Nat)(iv ov sv:Value):Prop where
  b:Below w0.heap.size w0 w
  mem:w.heap[mb]? = some (regO E.mem)
  ml:E.mem.length=4096
  mB:w0.heap.size≤mb
  res:∃ cs,w.heap[rb]? = some (.cells cs 49 (0,0))∧cs.size=3
  rB:w0.heap.size≤rb
  inp:∃ A cap,iv = .slice A E.inp.length cap∧RdB w0 A E.inp∧E.inp.length≤cap∧∀ a ∈ E.inp,0≤a∧a≤255
  out:w.ownsRow w0.heap.size 5 1 ov E.out.length (E.out.map (.int .u8))
  stk:w.ownsRow w0.heap.size 84 5 sv l.length (l.flatMap frL)
  regs:∀ x ∈ l,w0.heap.size≤x.2∧x.2≠mb∧w.heap[x.2]? = some (regO x.1.ρ)
  nd:(l.map (·.2)).Nodup
def Fin (w0 w:World)(rb:Nat)(r:Res):Prop:=∃ A cap,w.heap[rb]? = some (.cells #[.int .i64 r.e,.int .i64 r.c,.slice A r.out.length cap] 49 (0,0))∧RdBc w A r.out cap∧Below w0.heap.size w0 w
theorem ownsRow_keep {w w':World}{base:Nat}{e:TypeId}{size n:Nat}{V:Value}{xs:List Value}(h:w.ownsRow base e size V n xs)(hk:∀ g,base≤g→V.ownBlock=some g→∀ cur,w.heap[g]? = some (.cells cur e (0,0))→w'.heap[g]? = w.heap[g]?):w'.ownsRow base e size V n xs:=by
  obtain ⟨h1,h2⟩:=h
  refine ⟨h1,?_⟩
  rcases h2 with h2 | ⟨g,cap,cur,rfl,hB,hg,h3⟩
  · exact Or.inl h2
  · exact Or.inr ⟨g,cap,cur,rfl,hB,(hk g hB rfl cur hg).trans hg,h3⟩
theorem ownsRow_later {w w':World}{base:Nat}{e:TypeId}{size n:Nat}{V:Value}{xs:List Value}(h:w.ownsRow base e size V n xs)(hb:Below w.heap.size w w'):w'.ownsRow base e size V n xs :=
  ownsRow_keep h fun g _ _ _ hg=>hb.block g (Array.getElem?_eq_some_iff.1 hg).1
theorem RnS.later {w0 w w':World}{l:List (Fr7 × Nat)}{E:Env}{mb rb:Nat}{iv ov sv:Value}(h:RnS w0 w l E mb rb iv ov sv)(hb:Below w.heap.size w w'):RnS w0 w' l E mb rb iv ov sv where
  b:=h.b.trans (hb.mono h.b.size)
  mem:=(hb.block _ (Array.getElem?_eq_some_iff.1 h.mem).1).trans h.mem
  ml:=h.ml
  mB:=h.mB
  res:=by
    obtain ⟨cs,h1,h2⟩:=h.res
    exact ⟨cs,(hb.block _ (Array.getElem?_eq_some_iff.1 h1).1).trans h1,h2⟩
  rB:=h.rB
  inp:=h.inp
  out:=ownsRow_later h.out hb
  stk:=ownsRow_later h.stk hb
  regs:=fun x hx=>by
    obtain ⟨h1,h2,h3⟩:=h.regs x hx
    exact ⟨h1,h2,(hb.block _ (Array.getElem?_eq_some_iff.1 h3).1).trans h3⟩
  nd:=h.nd
theorem ty_ne {w:World}{a b:Nat}{x y:Array Value}{s t:TypeId}{f g:Nat × Nat}(h:w.heap[a]? = some (.cells x s f))(h':w.heap[b]? = some (.cells y t g))(hst:s≠t):a≠b:=by
  rintro rfl
  rw [h] at h'
  injection h' with h'
  injection h' with _ h2 _
  exact hst h2
theorem stk_top {w:World}{base:Nat}{l:List (Fr7 × Nat)}{x:Fr7 × Nat}{sv:Value}(h:w.ownsRow base 84 5 sv (l++[x]).length ((l++[x]).flatMap frL)) :
    ∃ sb cap cur,sv = .slice (some ⟨sb,0,none⟩) (l.length + 1) cap∧base≤sb∧w.heap[sb]? = some (.cells cur 84 (0,0))∧(l.length + 1)≤cap∧cap≤maxLen∧cur.size=cap * 5∧cur.toList.take ((l.length + 1) * 5)=(l++[x]).flatMap frL:=by
  obtain ⟨h1,h2⟩:=h
  rw [List.length_append,List.length_singleton] at h2
  rcases h2 with ⟨_,h0⟩ | h2
  · omega
  · obtain ⟨g,cap,cur,e1,e2,e3,e4,e5,e6,e7⟩:=h2
    exact ⟨g,cap,cur,e1,e2,e3,e4,e5,e6,e7⟩
theorem flatFr_len:∀ (v:List (Fr7 × Nat)),(v.flatMap frL).length=v.length * 5
  | []=>rfl
  | x::v=>by rw [List.flatMap_cons,List.length_append,flatFr_len v,List.length_cons]; simp only [List.length_cons,List.length_nil]; omega
theorem top_cell {w:World}{sb m:Nat}{cur:Array Value}{l:List (Fr7 × Nat)}{x:Fr7 × Nat}(hl:l.length=m)(h:w.heap[sb]? = some (.cells cur 84 (0,0)))(ht:cur.toList.take ((m + 1) * 5)=(l++[x]).flatMap frL)(j:Nat)(v:Value)(hv:(frL x)[j]? = some v):w.cell? ⟨sb,m * 5 + j,none⟩=some v:=by
  refine cell_of_heap h _ v ?_
  have hj:j < 5:=(List.getElem?_eq_some_iff.1 hv).1
  have h1:((l++[x]).flatMap frL)[m * 5 + j]? = some v:=by
    rw [List.flatMap_append,List.getElem?_append_right (by rw [flatFr_len,hl]; omega),flatFr_len,hl,show m * 5 + j - m * 5=j by omega]
    simpa using hv
  rw [← ht,List.getElem?_take,if_pos (by omega)] at h1
  simpa using h1
theorem out_read {w:World}{base:Nat}{V:Value}{l:List Int}(h:w.ownsRow base 5 1 V l.length (l.map (.int .u8))):∃ A cap,V = .slice A l.length cap∧RdB w A l∧(∀ g,V.ownBlock=some g→∃ cur,w.heap[g]? = some (.cells cur 5 (0,0))∧base≤g):=by
  have h0:=h
  obtain ⟨h1,h2⟩:=h
  rcases h2 with ⟨rfl,hn⟩ | ⟨g,cap,cur,rfl,hB,hg,hnc,_,hsz,htake⟩
  · refine ⟨none,0,by rw [hn],fun j n hj=>?_,fun g hg=>by simp [Value.ownBlock] at hg⟩
    have:=(List.getElem?_eq_some_iff.1 hj).1
    omega
  · have hlt:=(Array.getElem?_eq_some_iff.1 hg).1
    refine ⟨_,_,rfl,fun j n hj=>⟨g,0,rfl,hlt,?_⟩,fun g' hg'=>by simp [Value.ownBlock] at hg'; subst hg'; exact ⟨cur,hg,hB⟩⟩
    have hjl:=(List.getElem?_eq_some_iff.1 hj).1
    have:=World.ownsRow.cellAt h0 j (by omega)
    rw [Nat.zero_add,this,List.getElem?_map,hj]
    rfl
end Go.Proofs.Ytkcclefonmnpnaa
namespace Go.Proofs.Ytkcclefonmnpnaa
open Go.RowKit Go.BigFrame
theorem own_ne {w:World}{base:Nat}{e:TypeId}{size n:Nat}{V:Value}{xs:List Value}(h:w.ownsRow base e size V n xs){b:Nat}{cs:Array Value}{t:TypeId}{f:Nat × Nat}(hb:w.heap[b]? = some (.cells cs t f))(ht:e≠t):V.ownBlock≠some b:=fun h0=>by
  obtain ⟨_,h2⟩:=h
  rcases h2 with ⟨rfl,_⟩ | ⟨g,cap,cur,rfl,_,hg,_⟩
  · simp [Value.ownBlock] at h0
  · simp [Value.ownBlock] at h0
    subst h0
    exact ty_ne hg hb ht rfl
variable {w0 w:World} {l:List (Fr7 × Nat)} {E:Env} {mb rb:Nat} {iv ov sv:Value}
theorem RnS.told (h:RnS w0 w l E mb rb iv ov sv)(e c:Int):∃ A cap,ov = .slice A E.out.length cap∧Fin w0 (w.setRow rb #[.int .i64 e,.int .i64 c,ov]) rb ⟨e,c,E.out⟩:=by
  obtain ⟨A,cap,rfl,hr,ho⟩:=out_read h.out
  obtain ⟨cs,h1,h2⟩:=h.res
  have hcap:E.out.length≤cap:=by
    obtain ⟨_,h3⟩:=h.out
    rcases h3 with ⟨e,hn⟩ | ⟨g,cap',cur,e,_,_,hnc,_⟩
    · omega
    · injection e with _ _ e3
      omega
  refine ⟨A,cap,rfl,A,cap,setRow_heap _ _ _ _ _ _ h1,⟨fun j n hj=>?_,hcap⟩,below_setRow h.b h.rB _⟩
  obtain ⟨b,o,rfl,e2,e3⟩:=hr j n hj
  refine ⟨b,o,rfl,by simpa using e2,?_⟩
  rw [← e3]
  obtain ⟨cur,hc,_⟩:=ho b rfl
  simp only [World.cell?,setRow_other w rb b _ (ty_ne hc h1 (by decide))]
theorem RnS.top {t:Fr7}{b m sb scap:Nat}(h:RnS w0 w (l++[(t,b)]) E mb rb iv ov (.slice (some ⟨sb,0,none⟩) (m + 1) scap))(hm:l.length=m):(∃ cur,w.heap[sb]? = some (.cells cur 84 (0,0)))∧w.cell? ⟨sb,m * 5,none⟩=some (.int .i64 t.k)∧w.cell? ⟨sb,m * 5 + 1,none⟩=some (.int .i64 t.base)∧w.cell? ⟨sb,m * 5 + 2,none⟩=some (.int .i64 t.p)∧w.cell? ⟨sb,m * 5 + 3,none⟩=some (.int .i64 t.dst)∧w.cell? ⟨sb,m * 5 + 4,none⟩=some (.slice (some ⟨b,0,none⟩) t.ρ.length t.ρ.length):=by
  obtain ⟨sb',cap',cur,e1,e2,e3,e4,e5,e6,e7⟩:=stk_top h.stk
  rw [hm] at e1 e4 e7
  injection e1 with e1 _ e8
  injection e1 with e1
  injection e1 with e1
  subst e1 e8
  exact ⟨⟨cur,e3⟩,top_cell hm e3 e7 0 _ rfl,top_cell hm e3 e7 1 _ rfl,top_cell hm e3 e7 2 _ rfl,top_cell hm e3 e7 3 _ rfl,top_cell hm e3 e7 4 _ rfl⟩
theorem RnS.grown (h:RnS w0 w l E mb rb iv ov sv){w':World}(hg:w.grownBy w' ov.ownBlock){V':Value}{o':List Int}(ho:w'.ownsRow w0.heap.size 5 1 V' o'.length (o'.map (.int .u8))):RnS w0 w' l { E with out:=o' } mb rb iv V' sv:=by
  have hk:∀ (k:Nat) (cs:Array Value) (ty:TypeId),w.heap[k]? = some (.cells cs ty (0,0))→5≠ty→w'.heap[k]? = w.heap[k]?:=fun k cs ty hc ht=>hg.block k (Array.getElem?_eq_some_iff.1 hc).1 (Ne.symm (own_ne h.out hc ht))
  obtain ⟨_,_,_,_,hob⟩:=out_read h.out
  exact {
    b:=⟨hg.os.trans h.b.os,hg.tape.trans h.b.tape,hg.output.trans h.b.output,Nat.le_trans h.b.size hg.size,fun k hk'=>(hg.block k (by have:=h.b.size; omega) (fun e=>by
      obtain ⟨_,_,hB⟩:=hob k e.symm
      omega)).trans (h.b.block k hk')⟩
    mem:=(hk _ _ _ h.mem (by decide)).trans h.mem
    ml:=h.ml
    mB:=h.mB
    res:=by
      obtain ⟨cs,h1,h2⟩:=h.res
      exact ⟨cs,(hk _ _ _ h1 (by decide)).trans h1,h2⟩
    rB:=h.rB
    inp:=h.inp
    out:=ho
    stk:=ownsRow_keep h.stk fun g _ _ cur hc=>hk _ _ _ hc (by decide)
    regs:=fun x hx=>by
      obtain ⟨h1,h2,h3⟩:=h.regs x hx
      exact ⟨h1,h2,(hk _ _ _ h3 (by decide)).trans h3⟩
    nd:=h.nd }
end Go.Proofs.Ytkcclefonmnpnaa
namespace Go.Proofs.Ytkcclefonmnpnaa
def FrOk (u:Un7)(t:Fr7):Prop:=∃ f,u.funcs[t.k]? = some f∧t.ρ.length=f.R.toNat∧0≤t.base∧t.base + f.Fr≤4096∧t.p < f.code.length
structure LOk (u:Un7)(l:List (Fr7 × Nat)):Prop where
  fr:∀ x ∈ l,FrOk u x.1
  dst:∀ l1 x y l2,l=l1++x::y::l2→0≤y.1.dst→y.1.dst.toNat < x.1.ρ.length
def stk (l:List (Fr7 × Nat)):List Fr7:=(l.map (·.1)).reverse
theorem LOk.go {u:Un7} {l:List (Fr7 × Nat)} {t t':Fr7} {b:Nat} (h:LOk u (l++[(t,b)])) (hk:t'.k=t.k) (hb:t'.base=t.base) (hd:t'.dst=t.dst) (hl:t'.ρ.length=t.ρ.length) {f:Fn7} (hf:u.funcs[t.k]? = some f) (hp:t'.p < f.code.length):LOk u (l++[(t',b)]) where
  fr := fun x hx=>by
    rcases List.mem_append.1 hx with hx | hx
    · exact h.fr x (List.mem_append_left _ hx)
    · obtain rfl:=List.mem_singleton.1 hx
      obtain ⟨f',h1,h2,h3,h4,_⟩:=h.fr (t,b) (by simp)
      have e:f'=f:=by
        simp only at h1
        rw [hf] at h1
        injection h1 with h1
        exact h1.symm
      subst e
      exact ⟨f',by simp only; rw [hk]; exact hf,by simp only at h2 ⊢; rw [hl,h2],by simp only at h3 ⊢; omega,by simp only at h4 ⊢; omega,hp⟩
  dst := fun l1 x y l2 e hd'=>by
    rcases List.eq_nil_or_concat l2 with rfl | ⟨l3,z,rfl⟩
    · have e1:l++[(t',b)]=(l1++[x])++[y]:=by simpa using e
      obtain ⟨h1,h2⟩:=List.append_inj' e1 rfl
      injection h2 with h2
      subst h2
      exact h.dst l1 x (t,b) [] (by rw [h1]; simp) (by simp only at hd' ⊢; omega) |> fun h3=>by simp only at h3 ⊢; rw [hd]; exact h3
    · have e1:l++[(t',b)]=(l1++x::y::l3)++[z]:=by simpa using e
      obtain ⟨h1,_⟩:=List.append_inj' e1 rfl
      exact h.dst l1 x y (l3++[(t,b)]) (by rw [h1]; simp) hd'
theorem LOk.push {u:Un7}{l:List (Fr7 × Nat)}{x:Fr7 × Nat}{y:Fr7 × Nat}(h:LOk u (l++[x]))(hy:FrOk u y.1)(hd:0≤y.1.dst→y.1.dst.toNat < x.1.ρ.length):LOk u ((l++[x])++[y]) where
  fr:=fun z hz=>by
    rcases List.mem_append.1 hz with hz | hz
    · exact h.fr z hz
    · obtain rfl:=List.mem_singleton.1 hz
      exact hy
  dst := fun l1 z z' l2 e hd'=>by
    rcases List.eq_nil_or_concat l2 with rfl | ⟨l3,c,rfl⟩
    · have e1:(l++[x])++[y]=(l1++[z])++[z']:=by simpa using e
      obtain ⟨h1,h2⟩:=List.append_inj' e1 rfl
      injection h2 with h2
      subst h2
      obtain ⟨_,h3⟩:=List.append_inj' h1 rfl
      injection h3 with h3
      subst h3
      exact hd hd'
    · have e1:(l++[x])++[y]=(l1++z::z'::l3)++[c]:=by simpa using e
      obtain ⟨h1,_⟩:=List.append_inj' e1 rfl
      exact h.dst l1 z z' l3 h1 hd'
end Go.Proofs.Ytkcclefonmnpnaa

