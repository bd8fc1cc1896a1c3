import Derived.Deep.CutBlock
import Derived.Test.YtkcclefonmnpnaaVZka
import Derived.Test.YtkcclefonmnpnaaVZfs
import Derived.Test.YtkcclefonmnpnaaVZg
import Derived.Test.YtkcclefonmnpnaaVZft
set_option maxRecDepth 1000000
set_option maxHeartbeats 16000000
namespace Go.Proofs.Ytkcclefonmnpnaa
open Go.RowKit Go.BigFrame
abbrev JX (f:aR)(C:Option Addr)(cap:Nat):List Value:=[.string f.nm,.int .i64 f.ps,.int .i64 f.R,.int .i64 f.Fr,.slice C f.code.length cap]
abbrev LB (g:Gl):List Value:=[.string g.nm,.int .i64 g.at_,.int .i64 g.size,.int .i64 g.init]
abbrev cK (u:eH)(F G:Option Addr)(cF cG:Nat):Value:=.agg #[.slice F u.funcs.length cF,.slice G u.globs.length cG,.int .i64 u.top]
abbrev bD (u:eH)(F G:Option Addr)(cF cG:Nat):Obj:=.cells #[.slice F u.funcs.length cF,.slice G u.globs.length cG,.int .i64 u.top] 43
def RdF (w:World)(F:Option Addr)(l:List aR):Prop:=∀ (k:Nat) f,l[k]? = some f→∃ b o C cap,F=some ⟨b,o,none⟩∧b<w.heap.size∧(∀ j,j<5→w.cell? ⟨b,o+(k*5+j),none⟩=(JX f C cap)[j]?)∧RdI w C f.code
def RdG (w:World)(G:Option Addr)(l:List Gl):Prop:=∀ (k:Nat) g,l[k]? = some g→∃ b o,G=some ⟨b,o,none⟩∧b<w.heap.size∧∀ j,j<4→w.cell? ⟨b,o+(k*4+j),none⟩=(LB g)[j]?
structure RdU (w:World)(F G:Option Addr)(u:eH):Prop where
 fs:RdF w F u.funcs
 gs:RdG w G u.globs
theorem RdF.below {w w':World}{F:Option Addr}{l:List aR}(h:RdF w F l)(hb:Below w.heap.size w w'):RdF w' F l:=fun k f hk=>by
 obtain⟨b,o,C,cap,e1,e2,e3,e4⟩:=h k f hk
 exact⟨b,o,C,cap,e1,Nat.lt_of_lt_of_le e2 hb.size,fun j hj=>(hb.cell (p:=⟨b,o+(k*5+j),none⟩) e2).trans (e3 j hj),e4.below hb⟩
theorem RdG.below {w w':World}{F:Option Addr}{l:List Gl}(h:RdG w F l)(hb:Below w.heap.size w w'):RdG w' F l:=fun k f hk=>by
 obtain⟨b,o,e1,e2,e3⟩:=h k f hk
 exact⟨b,o,e1,Nat.lt_of_lt_of_le e2 hb.size,fun j hj=>(hb.cell (p:=⟨b,o+(k*4+j),none⟩) e2).trans (e3 j hj)⟩
theorem RdU.below {w w':World}{F G:Option Addr}{u:eH}(h:RdU w F G u)(hb:Below w.heap.size w w'):RdU w' F G u:=⟨h.fs.below hb,h.gs.below hb⟩
theorem cX {w:World}{b o k:Nat}{f:aR}{C:Option Addr}{cap:Nat}(h:∀ j,j<5→w.cell? ⟨b,o+(k*5+j),none⟩=(JX f C cap)[j]?):w.cell? ⟨b,o+k*5,none⟩=some (.string f.nm)∧w.cell? ⟨b,o+k*5+1,none⟩=some (.int .i64 f.ps)∧w.cell? ⟨b,o+k*5+2,none⟩=some (.int .i64 f.R)∧w.cell? ⟨b,o+k*5+3,none⟩=some (.int .i64 f.Fr)∧w.cell? ⟨b,o+k*5+4,none⟩=some (.slice C f.code.length cap) :=
 ⟨h 0 (by omega),h 1 (by omega),h 2 (by omega),h 3 (by omega),h 4 (by omega)⟩
theorem oP {w:World}{b o k:Nat}{g:Gl}(h:∀ j,j<4→w.cell? ⟨b,o+(k*4+j),none⟩=(LB g)[j]?):w.cell? ⟨b,o+k*4,none⟩=some (.string g.nm)∧w.cell? ⟨b,o+k*4+1,none⟩=some (.int .i64 g.at_)∧w.cell? ⟨b,o+k*4+2,none⟩=some (.int .i64 g.size)∧w.cell? ⟨b,o+k*4+3,none⟩=some (.int .i64 g.init) :=
 ⟨h 0 (by omega),h 1 (by omega),h 2 (by omega),h 3 (by omega)⟩
def jZ (l:List aR)(nm:ByteArray):Int:=((bV l nm).map fun k=>(k:Int)).getD (-1)
theorem vK {l:List aR}{nm:ByteArray}{k:Nat}{f:aR}(hk:l[k]? = some f)(hn:f.nm=nm)(hb:∀ (j:Nat) g,j<k→l[j]? = some g→g.nm≠nm):bV l nm=some k:=by
 unfold bV
 rw[List.findIdx?_eq_some_iff_getElem]
 obtain⟨hlt,e⟩:=Lz hk
 refine⟨hlt,by rw[e];simpa using hn,fun j hj=>?_⟩
 have:=hb j l[j] hj (List.getElem?_eq_getElem (by omega))
 simpa using this
theorem vL {l:List aR}{nm:ByteArray}(hb:∀ (j:Nat) g,l[j]? = some g→g.nm≠nm):bV l nm=none:=by
 unfold bV
 rw[List.findIdx?_eq_none_iff]
 intro g hg
 obtain⟨j,hj⟩:=List.mem_iff_getElem?.1 hg
 simpa using hb j g hj
theorem iB {l:List aR}{nm:ByteArray}{k:Nat}(h:bV l nm=some k):jZ l nm=k:=by unfold jZ;rw[h];rfl
theorem kL {l:List aR}{nm:ByteArray}(h:bV l nm=none):jZ l nm=-1:=by unfold jZ;rw[h];rfl
theorem tI {l:List aR}{nm:ByteArray}{k:Nat}(h:bV l nm=some k):∃ f,l[k]? = some f∧f.nm=nm:=by
 unfold bV at h
 rw[List.findIdx?_eq_some_iff_getElem] at h
 obtain⟨hlt,e,_⟩:=h
 exact⟨l[k],List.getElem?_eq_getElem hlt,by simpa using e⟩
theorem oQ (u:eH)(F G:Option Addr)(cF cG:Nat)(nm:ByteArray)(hl:u.funcs.length≤100000)(w:World)(h:RdF w F u.funcs) :
  Calls Try.prog 43 #[cK u F G cF cG,.string nm] w fun e w'=>e = .returned (.int .i64 (jZ u.funcs nm))∧Below w.heap.size w w':=by
 have hB:=Below.one w (bD u F G cF cG)
 have bx:=heap_alloc_new w (bD u F G cF cG)
 have h1:=h.below hB
 obtain⟨W,hW⟩:∃ W,w.alloc (bD u F G cF cG)=W:=⟨_,rfl⟩
 rw[hW] at hB bx h1
 obtain⟨N,hN⟩:∃ N,u.funcs.length=N:=⟨_,rfl⟩
 simp only[bD,cK] at bx hW ⊢
 rw[hN] at bx hW hl ⊢
 have g0:=aA bx 0 (.slice F N cF) rfl
 have HB:=Hz hB
 have H1:=Hz h1
 have HN:=Hz hN
 have hbl:=(Az bx).1
 clear h hB h1 hN bx
 go_enter Try.func43,Try.ntmps43
 go_wp2
 go_loopw [5] (fun ix wr=>∃ k:Nat,k≤N∧ix = .int .i64 k∧wr=W∧∀ (j:Nat) g,j<k→u.funcs[j]? = some g→g.nm≠nm) (fun ix _=>N-(intOf ix).toNat)
 case atStart=>exact⟨0,by omega,rfl,rfl,fun j g hj=>by omega⟩
 case round =>
  obtain⟨k,hk,rfl,rfl,hno⟩:=hrel
  by_cases hlt:k<N
  ·obtain⟨f,hf⟩:∃ f,u.funcs[k]? = some f:=⟨_,List.getElem?_eq_getElem (by rw[HN.out];exact hlt)⟩
   obtain⟨b,o,C,cap,rfl,hb,hcs,_⟩:=H1.out k f hf
   obtain⟨x0,x1,x2,x3,x4⟩:=cX hcs
   have HNO:=Hz hno
   have HF:=Hz hf
   clear hno hcs hf
   by_cases hnm:f.nm=nm
   ·have hfi:=iB (vK HF.out hnm HNO.out)
    have HFI:=Hz hfi
    have q:(f.nm.toList==nm.toList)=true:=by rw[bytes_beq];exact decide_eq_true hnm
    clear hfi hnm
    go_wp2
    go_returns
    exact⟨by rw[HFI.out];rfl,HB.out⟩
   ·have q:(f.nm.toList==nm.toList)=false:=by rw[bytes_beq];exact decide_eq_false hnm
    have HNM:=Hz hnm
    clear hnm
    go_wp2
    exact⟨⟨k+1,by omega,by go_num,by first | rfl | trivial,fun j g hj hg=>by
     by_cases hjk:j=k
     ·subst hjk
      have:=HF.out.symm.trans hg
      injection this with this
      rw[←this]
      exact HNM.out
     ·exact HNO.out j g (by omega) hg⟩,by simp[intOf];omega⟩
  ·obtain rfl:k=N:=by omega
   have hfi:=kL (vL (l:=u.funcs) (nm:=nm) (fun j g hg=>hno j g (by rw[←HN.out];exact (Lz hg).1) hg))
   have HFI:=Hz hfi
   clear hno hfi
   go_wp2
   go_returns
   exact⟨by rw[HFI.out];rfl,HB.out⟩
def nL (u:eH):Prop:=u.funcs.length≤6∧u.globs.length≤10∧(∀ f ∈ u.funcs,Sm f)∧∀ g ∈ u.globs,g.nm.size≤50
def LD (top:Int)(g:Gl):Prop:=1≤g.at_∧0≤g.size∧g.at_≤top∧g.size≤top∧g.at_+g.size≤top∧-2147483648≤g.init∧g.init≤2147483647
def yK (l:List aR)(i:Ins):Prop:=i.kind=8→∃ k g,bV l i.text=some k∧l[k]? = some g∧g.ps=i.n
structure OkU (u:eH):Prop where
 len:u.funcs.length≤64
 top:1≤u.top∧u.top≤4096
 gl:∀ g ∈ u.globs,LD u.top g
 ok:∀ f ∈ u.funcs,OkF f
 one:∀ (k:Nat) f,u.funcs[k]? = some f→bV u.funcs f.nm=some k
 calls:∀ f ∈ u.funcs,∀ i ∈ f.code,yK u.funcs i
theorem tJ {l:List aR}{nm:ByteArray}{k:Nat}:jZ l nm=k↔bV l nm=some k:=by
 unfold jZ
 cases h:bV l nm with
 | none=>simp
 | some j=>simp;omega
def NP (u:eH)(k:Nat):Prop:=∀ (j:Nat) f,j<k→u.funcs[j]? = some f→OkF f∧bV u.funcs f.nm=some j∧∀ i ∈ f.code,yK u.funcs i
theorem eP (u:eH)(F G:Option Addr)(cF cG:Nat)(w:World)(h:RdU w F G u)(hlf:u.funcs.length≤100000)(hlg:u.globs.length≤100000) :
  Calls Try.prog 26 #[cK u F G cF cG] w fun e w'=>Tru (OkU u) e∧Below w.heap.size w w':=by
 have hB:=Below.one w (bD u F G cF cG)
 have bx:=heap_alloc_new w (bD u F G cF cG)
 have h1:=h.below hB
 have hfi:=fun nm W h=>oQ u F G cF cG nm hlf W h
 obtain⟨W,hW⟩:∃ W,w.alloc (bD u F G cF cG)=W:=⟨_,rfl⟩
 rw[hW] at hB bx h1
 obtain⟨N,hN⟩:∃ N,u.funcs.length=N:=⟨_,rfl⟩
 obtain⟨M,hM⟩:∃ M,u.globs.length=M:=⟨_,rfl⟩
 simp only[bD,cK] at bx hW hfi ⊢
 rw[hN,hM] at bx hW ⊢
 rw[hN] at hlf
 rw[hM] at hlg
 simp only[hN,hM] at hfi
 have HFI:=Hz hfi
 have HB:=Hz hB
 have H1:=Hz h1
 have HN:=Hz hN
 have HM:=Hz hM
 have HBX:=Hz bx
 have hbl:=(Az bx).1
 have g0:=aA bx 0 (.slice F N cF) rfl
 have g2:=aA bx 2 (.int .i64 u.top) rfl
 clear h hB h1 hN hM bx hfi
 by_cases c1:N≤64
 case neg =>
  have HT:=Hz (Tru.no (fun hU:OkU u=>c1 (by rw[←HN.out];exact hU.len)))
  have q1:decide ((N:Int)>64)=true:=by simp;omega
  have q2:decide ((64:Int)<N)=true:=by simp;omega
  go_enter Try.func26,Try.ntmps26
  go_wp2
  go_returns
  exact⟨HT.out,HB.out⟩
 have q1:decide ((N:Int)>64)=false:=by simp;omega
 have q2:decide ((64:Int)<N)=false:=by simp;omega
 by_cases c2:1≤u.top
 case neg =>
  have HT:=Hz (Tru.no (fun hU:OkU u=>c2 hU.top.1))
  have q3:decide (u.top<1)=true:=by simp;omega
  go_enter Try.func26,Try.ntmps26
  go_wp2
  go_returns
  exact⟨HT.out,HB.out⟩
 have q3:decide (u.top<1)=false:=by simp;omega
 by_cases c3:u.top≤4096
 case neg =>
  have HT:=Hz (Tru.no (fun hU:OkU u=>c3 hU.top.2))
  have q4:decide (u.top>4096)=true:=by simp;omega
  have q5:decide (4096<u.top)=true:=by simp;omega
  go_enter Try.func26,Try.ntmps26
  go_wp2
  go_returns
  exact⟨HT.out,HB.out⟩
 have q4:decide (u.top>4096)=false:=by simp;omega
 have q5:decide (4096<u.top)=false:=by simp;omega
 go_enter Try.func26,Try.ntmps26
 go_wp2
 clear g0 g2
 go_loopw [3] (fun ix wr=>∃ m:Nat,m≤M∧ix = .int .i64 m∧Below W.heap.size W wr∧∀ (j:Nat) g,j<m→u.globs[j]? = some g→LD u.top g) (fun ix _=>M-(intOf ix).toNat)
 case atStart=>exact⟨0,by omega,rfl,Below.refl _ _,fun j g hj=>by omega⟩
 case round =>
  obtain⟨m,hm,rfl,hb,hG⟩:=hrel
  have hx:=(hb.block _ hbl).trans HBX.out
  have g0:=aA hx 0 (.slice F N cF) rfl
  have g1:=aA hx 1 (.slice G M cG) rfl
  have g2:=aA hx 2 (.int .i64 u.top) rfl
  have HBB:=Hz hb
  have HGG:=Hz hG
  have HX:=Hz hx
  have hbr:=(Az hx).1
  clear hb hG hx
  by_cases hltm:m<M
  ·obtain⟨g,hg⟩:∃ g,u.globs[m]? = some g:=⟨_,List.getElem?_eq_getElem (by rw[HM.out];exact hltm)⟩
   have hmem:=Mz hg
   obtain⟨b,o,rfl,hbl2,hcs⟩:=(H1.out.gs.below HBB.out) m g hg
   obtain⟨x0,x1,x2,x3⟩:=oP hcs
   have HGM:=Hz hg
   have HMEM:=Hz hmem
   have hB1:=Below.one wr (.cells #[.string g.nm,.int .i64 g.at_,.int .i64 g.size,.int .i64 g.init] 81)
   have HB1:=Hz (HBB.out.trans (hB1.mono HBB.out.size))
   have hiw:=fun W=>eK g.init W
   clear hcs hg hmem hB1
   obtain⟨nm,at_,size,init⟩:=g
   simp only at x0 x1 x2 x3 hiw HB1
   by_cases d1:1≤at_
   case neg =>
    have HT:=Hz (Tru.no (fun hU:OkU u=>d1 (hU.gl _ HMEM.out).1))
    have p1:decide (at_<1)=true:=by simp;omega
    go_wp2
    go_returns
    exact⟨HT.out,HB.out.trans (HB1.out.mono HB.out.size)⟩
   have p1:decide (at_<1)=false:=by simp;omega
   by_cases d2:0≤size
   case neg =>
    have HT:=Hz (Tru.no (fun hU:OkU u=>d2 (hU.gl _ HMEM.out).2.1))
    have p2:decide (size<0)=true:=by simp;omega
    go_wp2
    go_returns
    exact⟨HT.out,HB.out.trans (HB1.out.mono HB.out.size)⟩
   have p2:decide (size<0)=false:=by simp;omega
   by_cases d3:at_≤u.top
   case neg =>
    have HT:=Hz (Tru.no (fun hU:OkU u=>d3 (hU.gl _ HMEM.out).2.2.1))
    have p3:decide (u.top<at_)=true:=by simp;omega
    go_wp2
    go_returns
    exact⟨HT.out,HB.out.trans (HB1.out.mono HB.out.size)⟩
   have p3:decide (u.top<at_)=false:=by simp;omega
   by_cases d4:size≤u.top
   case neg =>
    have HT:=Hz (Tru.no (fun hU:OkU u=>d4 (hU.gl _ HMEM.out).2.2.2.1))
    have p4:decide (u.top<size)=true:=by simp;omega
    go_wp2
    go_returns
    exact⟨HT.out,HB.out.trans (HB1.out.mono HB.out.size)⟩
   have p4:decide (u.top<size)=false:=by simp;omega
   by_cases d5:at_+size≤u.top
   case neg =>
    have HT:=Hz (Tru.no (fun hU:OkU u=>d5 (hU.gl _ HMEM.out).2.2.2.2.1))
    have p5:decide (u.top<at_+size)=true:=by simp;omega
    go_wp2
    go_returns
    exact⟨HT.out,HB.out.trans (HB1.out.mono HB.out.size)⟩
   have p5:decide (u.top<at_+size)=false:=by simp;omega
   by_cases d6:-2147483648≤init∧init≤2147483647
   case neg =>
    have HT:=Hz (Tru.no (fun hU:OkU u=>d6 (hU.gl _ HMEM.out).2.2.2.2.2))
    rw[decide_eq_false d6] at hiw
    clear d6
    go_wp2_with (first
     |(go_at_call 58;refine (hiw _).mono ?_;rintro e w3 ⟨rfl,hw3⟩;subst hw3))
    go_returns
    exact⟨HT.out,HB.out.trans (HB1.out.mono HB.out.size)⟩
   have HOG:Hid (LD u.top ⟨nm,at_,size,init⟩):=Hz ⟨d1,d2,d3,d4,d5,d6⟩
   rw[decide_eq_true d6] at hiw
   clear d6
   go_wp2_with (first
    |(go_at_call 58;refine (hiw _).mono ?_;rintro e w3 ⟨rfl,hw3⟩;subst hw3))
   exact⟨⟨m+1,by omega,by go_num,HB1.out,fun j g' hj hg'=>by
    by_cases hjk:j=m
    ·subst hjk
     have:=HGM.out.symm.trans hg'
     injection this with this
     rw[←this]
     exact HOG.out
    ·exact HGG.out j g' (by omega) hg'⟩,by simp[intOf];omega⟩
  ·have HGL:Hid (∀ g ∈ u.globs,LD u.top g):=Hz (fun g hg=>by
    obtain⟨j,hj⟩:=List.mem_iff_getElem?.1 hg
    exact HGG.out j g (by have h1:=(Lz hj).1;rw[HM.out] at h1;omega) hj)
   obtain rfl:m=M:=by omega
   go_wp2
   obtain⟨W2,hW2⟩:∃ W2,W2=wr:=⟨_,rfl⟩
   subst hW2
   clear g0 g1 g2 HGG HX hbr
   go_loopw [5] (fun ix wr=>∃ k:Nat,k≤N∧ix = .int .i64 k∧Below W.heap.size W wr∧NP u k) (fun ix _=>N-(intOf ix).toNat)
   case atStart=>exact⟨0,by omega,rfl,HBB.out,fun j f hj=>by omega⟩
   case round =>
    obtain⟨k,hk,rfl,hb,hR⟩:=hrel
    have hx:=(hb.block _ hbl).trans HBX.out
    have g0:=aA hx 0 (.slice F N cF) rfl
    have HBR:=Hz hb
    have HRI:=Hz hR
    have HX:=Hz hx
    have hbr:=(Az hx).1
    have hsr:=hb.size
    clear hb hR hx
    by_cases hlt:k<N
    ·obtain⟨f,hf⟩:∃ f,u.funcs[k]? = some f:=⟨_,List.getElem?_eq_getElem (by rw[HN.out];exact hlt)⟩
     have hmem:=Mz hf
     obtain⟨b,o,C,cap,rfl,hbl2,hcs,hrI⟩:=(H1.out.fs.below HBR.out) k f hf
     obtain⟨x0,x1,x2,x3,x4⟩:=cX hcs
     have hB1:=Below.one wr (aD f.nm f.ps f.R f.Fr C f.code.length cap)
     have hk1:=heap_alloc_new wr (aD f.nm f.ps f.R f.Fr C f.code.length cap)
     have hx1:=(hB1.block _ hbr).trans HX.out
     have HC1:=Hz (hrI.below hB1)
     have hrr:=lV f C cap _ HC1.out
     obtain⟨W3,hW3⟩:∃ W3,wr.alloc (aD f.nm f.ps f.R f.Fr C f.code.length cap)=W3:=⟨_,rfl⟩
     rw[hW3] at hB1 hk1 hx1 HC1 hrr
     have HFK:=Hz hf
     have HMEM:=Hz hmem
     obtain⟨L,hL⟩:∃ L,f.code.length=L:=⟨_,rfl⟩
     simp only[aD,aH] at hk1 hrr hW3
     rw[hL] at x4 hk1 hrr hW3
     have k0:=aA hk1 0 (.string f.nm) rfl
     have k1:=aA hk1 1 (.int .i64 f.ps) rfl
     have k2:=aA hk1 2 (.int .i64 f.R) rfl
     have k3:=aA hk1 3 (.int .i64 f.Fr) rfl
     have k4:=aA hk1 4 (.slice C L cap) rfl
     have HRR:=Hz hrr
     have HK1:=Hz hk1
     have HX1:=Hz hx1
     have HB1:=Hz (HBR.out.trans (hB1.mono hsr))
     have HL:=Hz hL
     clear hf hmem hcs hrI hB1 hk1 hx1 hrr hL
     go_wp2_with fail
     refine HRR.out.mono ?_
     rintro e w4 ⟨⟨bb,rfl,hbb⟩,hb4⟩
     have hk4:=(hb4.block _ (Az HK1.out).1).trans HK1.out
     have hx4:=(hb4.block _ (Az HX1.out).1).trans HX1.out
     have HB4:=Hz (HB1.out.trans (hb4.mono HB1.out.size))
     have HC4:=Hz (HC1.out.below hb4)
     have HK4:=Hz hk4
     have HX4:=Hz hx4
     have l0:=aA hk4 0 (.string f.nm) rfl
     have m0:=aA hx4 0 (.slice (some ⟨b,o,none⟩) N cF) rfl
     have m1:=aA hx4 1 (.slice G m cG) rfl
     have m2:=aA hx4 2 (.int .i64 u.top) rfl
     have HBO:=Hz hbb
     clear hbb hb4 hk4 hx4 k0 k1 k2 k3 k4 x0 x1 x2 x3 x4 g0 hW3
     cases bb with
     | false =>
      have HT:=Hz (Tru.no (fun hU:OkU u=>absurd (HBO.out.2 (hU.ok f HMEM.out)) (by decide)))
      go_wp2
      go_returns
      exact⟨HT.out,HB.out.trans (HB4.out.mono HB.out.size)⟩
     | true =>
      have HOF:=Hz (HBO.out.1 rfl)
      have hL8:L≤8192:=by rw[←HL.out];exact HOF.out.len.2
      go_wp2_with fail
      refine (HFI.out f.nm _ (H1.out.fs.below HB4.out)).mono ?_
      rintro e w5 ⟨rfl,hb5⟩
      have hk5:=(hb5.block _ (Az HK4.out).1).trans HK4.out
      have hx5:=(hb5.block _ (Az HX4.out).1).trans HX4.out
      have HK5:=Hz hk5
      have HX5:=Hz hx5
      have HB5:=Hz (HB4.out.trans (hb5.mono HB4.out.size))
      have HC5:=Hz (HC4.out.below hb5)
      clear hb5 hk5 hx5 l0 m0 m1 m2 HBO
      by_cases hfk:jZ u.funcs f.nm=k
      case neg =>
       have HT:=Hz (Tru.no (fun hU:OkU u=>hfk (tJ.2 (hU.one k f HFK.out))))
       have q:decide (jZ u.funcs f.nm=(k:Int))=false:=decide_eq_false hfk
       have q2:(jZ u.funcs f.nm != (k:Int))=true:=by simpa using hfk
       clear hfk
       go_wp2
       go_returns
       exact⟨HT.out,HB.out.trans (HB5.out.mono HB.out.size)⟩
      rw[hfk]
      have HFU:=Hz (tJ.1 hfk)
      clear hfk
      go_wp2
      go_loopw [7] (fun ix wr=>∃ n:Nat,n≤L∧ix = .int .i64 n∧Below w5.heap.size w5 wr∧∀ (j:Nat) i,j<n→f.code[j]? = some i→yK u.funcs i) (fun ix _=>L-(intOf ix).toNat)
      case atStart=>exact⟨0,by omega,rfl,Below.refl _ _,fun j i hj=>by omega⟩
      case round =>
       obtain⟨n,hn,rfl,hbq,hC⟩:=hrel
       have hkq:=(hbq.block _ (Az HK5.out).1).trans HK5.out
       have hxq:=(hbq.block _ (Az HX5.out).1).trans HX5.out
       have l4:=aA hkq 4 (.slice C L cap) rfl
       have m0:=aA hxq 0 (.slice (some ⟨b,o,none⟩) N cF) rfl
       have m1:=aA hxq 1 (.slice G m cG) rfl
       have m2:=aA hxq 2 (.int .i64 u.top) rfl
       have HBQ:=Hz (HB5.out.trans (hbq.mono HB5.out.size))
       have HBQ5:=Hz hbq
       have HCQ:=Hz (HC5.out.below hbq)
       have HCC:=Hz hC
       have HKQ:=Hz hkq
       have HXQ:=Hz hxq
       clear hbq hC hkq hxq
       by_cases hltn:n<L
       ·obtain⟨i,hi⟩:∃ i,f.code[n]? = some i:=⟨_,List.getElem?_eq_getElem (by rw[HL.out];exact hltn)⟩
        obtain⟨bc,oc,rfl,hbl3,hci⟩:=HCQ.out n i hi
        obtain⟨y0,y1,y2,y3,y4,y5,y6,y7,y8,y9,y10,y11,y12,y13,y14⟩:=RdI.load hci
        have HII:=Hz hi
        have HIM:=Hz (Mz hi)
        clear hi hci y1 y2 y3 y4 y7 y8 y9 y10 y11 y12 y13 y14
        by_cases hk8:i.kind=8
        case neg =>
         have q:decide (i.kind=8)=false:=decide_eq_false hk8
         have q':(i.kind==8)=false:=by simpa using hk8
         have HOC:Hid (yK u.funcs i):=Hz (fun h=>absurd h hk8)
         clear hk8
         go_wp2
         exact⟨⟨n+1,by omega,by go_num,HBQ5.out,fun j i' hj hi'=>by
          by_cases hjk:j=n
          ·subst hjk
           have:=HII.out.symm.trans hi'
           injection this with this
           rw[←this]
           exact HOC.out
          ·exact HCC.out j i' (by omega) hi'⟩,by simp[intOf];omega⟩
        rw[hk8] at y0
        have HK8:=Hz hk8
        clear hk8
        obtain⟨W6,hW6⟩:∃ W6,W6=wr:=⟨_,rfl⟩
        subst hW6
        go_wp2
        have e0:=fun s:Later W6=>Later.cell y0 s
        have e5:=fun s:Later W6=>Later.cell y5 s
        have e6:=fun s:Later W6=>Later.cell y6 s
        have f4:=fun s:Later W6=>Later.cell l4 s
        have f0:=fun s:Later W6=>Later.cell m0 s
        have f1:=fun s:Later W6=>Later.cell m1 s
        have f2:=fun s:Later W6=>Later.cell m2 s
        refine cM (by kernel_rfl) (by kernel_rfl) ?_
        repeat (go_big_quiet_step ((go_at_call 43;exact Calls.later (HFI.out i.text _ (H1.out.fs.below (HBQ.out.trans ((Later.h _).mono HBQ.out.size)))))))
        refine wpQuiet_nil ?_
        rintro w7 ⟨s',rfl⟩
        have hb7:=s'.h
        generalize s'.w=w7 at *
        have hk7:=(hb7.block _ (Az HKQ.out).1).trans HKQ.out
        have hx7:=(hb7.block _ (Az HXQ.out).1).trans HXQ.out
        have z4:=aA hk7 4 (.slice (some ⟨bc,oc,none⟩) L cap) rfl
        have v0:=aA hx7 0 (.slice (some ⟨b,o,none⟩) N cF) rfl
        have y5:=(hb7.cell (p:=⟨bc,oc+n*15+5,none⟩) hbl3).trans y5
        have HB7:=Hz (HBQ.out.trans (hb7.mono HBQ.out.size))
        have HB75:=Hz (HBQ5.out.trans (hb7.mono HBQ5.out.size))
        clear e0 e5 e6 f4 f0 f1 f2 y0 y6 l4 m0 m1 m2 hb7 hk7 hx7
        cases hfu:bV u.funcs i.text with
        | none =>
         have hfi:=kL hfu
         rw[hfi]
         have HT:=Hz (Tru.no (fun hU:OkU u=>by
          obtain⟨k',g',h1,_⟩:=hU.calls f HMEM.out i HIM.out HK8.out
          rw[hfu] at h1
          cases h1))
         clear hfi hfu
         go_wp2
         go_quiet (fail)
         go_wp2
         go_returns
         exact⟨HT.out,HB.out.trans (Below.mono ⟨HB7.out.os,HB7.out.tape,HB7.out.output,HB7.out.size,HB7.out.block⟩ HB.out.size)⟩
        | some k' =>
         have hfi:=iB hfu
         rw[hfi]
         obtain⟨g,hg,hgn⟩:=tI hfu
         have hk'N:k'<N:=by rw[←HN.out];exact (Lz hg).1
         obtain⟨b',o',C',cap',hF',hbl4,hcs',_⟩:=(H1.out.fs.below HB7.out) k' g hg
         injection hF' with hF'
         injection hF' with h1 h2
         subst h1 h2
         have u1:=(cX hcs').2.1
         have HFU':=Hz hfu
         have HG':=Hz hg
         clear hfi hfu hcs' hg hgn
         by_cases hps:g.ps=i.n
         ·have q:decide (g.ps=i.n)=true:=decide_eq_true hps
          have HOC:Hid (yK u.funcs i):=Hz (fun _=>⟨k',g,HFU'.out,HG'.out,hps⟩)
          rw[hps] at u1
          clear hps q
          go_wp2
          go_quiet (fail)
          go_wp2
          exact⟨⟨n+1,by omega,by go_num,⟨HB75.out.os,HB75.out.tape,HB75.out.output,HB75.out.size,HB75.out.block⟩,fun j i' hj hi'=>by
           by_cases hjk:j=n
           ·subst hjk
            have:=HII.out.symm.trans hi'
            injection this with this
            rw[←this]
            exact HOC.out
           ·exact HCC.out j i' (by omega) hi'⟩,by simp[intOf];omega⟩
         ·have q:decide (g.ps=i.n)=false:=decide_eq_false hps
          have q2:(g.ps != i.n)=true:=by simpa using hps
          have HT:=Hz (Tru.no (fun hU:OkU u=>by
           obtain⟨k2,g2,h1,h2,h3⟩:=hU.calls f HMEM.out i HIM.out HK8.out
           rw[HFU'.out] at h1
           injection h1 with h1
           subst h1
           rw[HG'.out] at h2
           injection h2 with h2
           subst h2
           exact hps h3))
          clear hps
          go_wp2
          go_quiet (fail)
          go_wp2
          go_returns
          exact⟨HT.out,HB.out.trans (Below.mono ⟨HB7.out.os,HB7.out.tape,HB7.out.output,HB7.out.size,HB7.out.block⟩ HB.out.size)⟩
       ·have HALL:Hid (∀ i ∈ f.code,yK u.funcs i):=Hz (fun i hi=>by
         obtain⟨j,hj⟩:=List.mem_iff_getElem?.1 hi
         exact HCC.out j i (by have h1:=(Lz hj).1;rw[HL.out] at h1;omega) hj)
        obtain rfl:n=L:=by omega
        clear HCC
        go_wp2
        exact⟨⟨k+1,by omega,by go_num,HBQ.out,fun j f' hj hf'=>by
         by_cases hjk:j=k
         ·subst hjk
          have:=HFK.out.symm.trans hf'
          injection this with this
          rw[←this]
          exact⟨HOF.out,HFU.out,HALL.out⟩
         ·exact HRI.out j f' (by omega) hf'⟩,by simp[intOf];omega⟩
    ·obtain rfl:k=N:=by omega
     have HT:Hid (Tru (OkU u) (.returned (.bool true))):=Hz (Tru.yes ⟨by rw[HN.out];exact c1,⟨c2,c3⟩,HGL.out,
      fun f hf=>by
       obtain⟨j,hj⟩:=List.mem_iff_getElem?.1 hf
       exact (HRI.out j f (by have h1:=(Lz hj).1;rw[HN.out] at h1;omega) hj).1,
      fun j f hj=>(HRI.out j f (by have h1:=(Lz hj).1;rw[HN.out] at h1;omega) hj).2.1,
      fun f hf=>by
       obtain⟨j,hj⟩:=List.mem_iff_getElem?.1 hf
       exact (HRI.out j f (by have h1:=(Lz hj).1;rw[HN.out] at h1;omega) hj).2.2⟩)
     go_wp2
     go_returns
     exact⟨HT.out,HB.out.trans (HBR.out.mono HB.out.size)⟩
def RdB (w:World)(A:Option Addr)(l:List Int):Prop:=∀ (j:Nat) n,l[j]? = some n→∃ b o,A=some ⟨b,o,none⟩∧b<w.heap.size∧w.cell? ⟨b,o+j,none⟩=some (.int .u8 n)
theorem RdB.below {w w':World}{A:Option Addr}{l:List Int}(h:RdB w A l)(hb:Below w.heap.size w w'):RdB w' A l:=fun j n hn=>by
 obtain⟨b,o,e1,e2,e3⟩:=h j n hn
 exact⟨b,o,e1,Nat.lt_of_lt_of_le e2 hb.size,(hb.cell (p:=⟨b,_,none⟩) e2).trans e3⟩
theorem RdB.take {w:World}{A:Option Addr}{l:List Int}(h:RdB w A l)(n:Nat):RdB w A (l.take n):=fun j x hx=>by
 rw[List.getElem?_take] at hx
 split at hx
 ·exact h j x hx
 ·cases hx
abbrev oR (x:jQ)(A:Option Addr)(cap:Nat):Value:=.agg #[.int .i64 x.e,.int .i64 x.c,.slice A x.out.length cap]
abbrev kY (x:jQ)(A:Option Addr)(cap:Nat):Obj:=.cells #[.int .i64 x.e,.int .i64 x.c,.slice A x.out.length cap] 49
def RdBc (w:World)(A:Option Addr)(l:List Int)(cap:Nat):Prop:=RdB w A l∧l.length≤cap
theorem RdBc.below {w w':World}{A:Option Addr}{l:List Int}{cap:Nat}(h:RdBc w A l cap)(hb:Below w.heap.size w w'):RdBc w' A l cap:=⟨h.1.below hb,h.2⟩
def DI (r:jQ)(e:Ending)(w:World):Prop:=∃ A cap,e = .returned (oR r A cap)∧RdBc w A r.out cap
instance:DecidableEq jQ:=fun x y=>decidable_of_iff (x.e=y.e∧x.c=y.c∧x.out=y.out)
 ⟨fun h=>by cases x;cases y;simp_all,fun h=>by subst h;simp⟩
theorem iZ (w:World)(a b:Obj):((w.alloc a).alloc b).heap[w.heap.size]? = some a∧((w.alloc a).alloc b).heap[w.heap.size+1]? = some b∧Below w.heap.size w ((w.alloc a).alloc b):=by
 have h1:=heap_alloc_new (w.alloc a) b
 rw[show (w.alloc a).heap.size=w.heap.size+1 by simp] at h1
 exact⟨aC (heap_alloc_new w a) b,h1,(Below.one w a).alloc (by simp) b⟩
theorem tK (x y:jQ)(A B:Option Addr)(ca cb:Nat)(hx:x.out.length≤1000000)(hy:y.out.length≤1000000)(w:World)(hA:RdB w A x.out)(hB:RdB w B y.out) :
  Calls Try.prog 29 #[oR x A ca,oR y B cb] w fun e w'=>e = .returned (.bool (decide (x=y)))∧Below w.heap.size w w':=by
 obtain⟨b0,b1,hBW⟩:=iZ w (kY x A ca) (kY y B cb)
 have hA1:=hA.below hBW
 have hB1:=hB.below hBW
 obtain⟨W,hW⟩:∃ W,(w.alloc (kY x A ca)).alloc (kY y B cb)=W:=⟨_,rfl⟩
 rw[hW] at b0 b1 hBW hA1 hB1
 obtain⟨xe,xc,xo⟩:=x
 obtain⟨ye,yc,yo⟩:=y
 simp only[kY,oR] at b0 b1 hW hA1 hB1 hx hy ⊢
 obtain⟨N,hN⟩:∃ N,xo.length=N:=⟨_,rfl⟩
 obtain⟨M,hM⟩:∃ M,yo.length=M:=⟨_,rfl⟩
 rw[hN] at b0 hW hx ⊢
 rw[hM] at b1 hW hy ⊢
 have g0:=aA b0 0 (.int .i64 xe) rfl
 have g1:=aA b0 1 (.int .i64 xc) rfl
 have g2:=aA b0 2 (.slice A N ca) rfl
 have k0:=aA b1 0 (.int .i64 ye) rfl
 have k1:=aA b1 1 (.int .i64 yc) rfl
 have k2:=aA b1 2 (.slice B M cb) rfl
 have HB:=Hz hBW
 have HA1:=Hz hA1
 have HB1:=Hz hB1
 have HN:=Hz hN
 have HM:=Hz hM
 clear hA hB hA1 hB1 hBW hN hM b0 b1
 by_cases d1:xe=ye
 case neg =>
  have HT:Hid (decide ((⟨xe,xc,xo⟩:jQ)=⟨ye,yc,yo⟩)=false):=Hz (by simp[d1])
  have q:(xe != ye)=true:=by simpa using d1
  have q':decide (xe=ye)=false:=by simpa using d1
  have q2:(xe==ye)=false:=by simpa using d1
  rw[HT.out]
  clear d1
  go_enter Try.func29,Try.ntmps29
  go_wp2
  go_returns
  exact⟨rfl,HB.out⟩
 subst d1
 by_cases d2:xc=yc
 case neg =>
  have HT:Hid (decide ((⟨xe,xc,xo⟩:jQ)=⟨xe,yc,yo⟩)=false):=Hz (by simp[d2])
  have q:(xc != yc)=true:=by simpa using d2
  have q':decide (xc=yc)=false:=by simpa using d2
  have q2:(xc==yc)=false:=by simpa using d2
  rw[HT.out]
  clear d2
  go_enter Try.func29,Try.ntmps29
  go_wp2
  go_returns
  exact⟨rfl,HB.out⟩
 subst d2
 by_cases d3:N=M
 case neg =>
  have HT:Hid (decide ((⟨xe,xc,xo⟩:jQ)=⟨xe,xc,yo⟩)=false):=Hz (by
   rw[decide_eq_false_iff_not]
   intro h
   injection h with _ _ h
   exact d3 (by rw[←HN.out,←HM.out,h]))
  have q:((N:Int) != M)=true:=by simp;omega
  have q':decide ((N:Int)=M)=false:=by simp;omega
  have q2:((N:Int)==M)=false:=by simp;omega
  rw[HT.out]
  clear d3
  go_enter Try.func29,Try.ntmps29
  go_wp2
  go_returns
  exact⟨rfl,HB.out⟩
 subst d3
 go_enter Try.func29,Try.ntmps29
 go_wp2
 go_loopw [30] (fun ix wr=>∃ k:Nat,k≤N∧ix = .int .i64 k∧Below W.heap.size W wr∧∀ j,j<k→xo[j]? = yo[j]?) (fun ix _=>N-(intOf ix).toNat)
 case atStart=>exact⟨0,by omega,rfl,Below.refl _ _,fun j hj=>by omega⟩
 case round =>
  obtain⟨k,hk,rfl,hbr,hS⟩:=hrel
  have HBR:=Hz hbr
  have HS:=Hz hS
  have y2:=(hbr.cell (p:=⟨w.heap.size,2,none⟩) (by rw[←hW];simp;omega)).trans g2
  have z2:=(hbr.cell (p:=⟨w.heap.size+1,2,none⟩) (by rw[←hW];simp)).trans k2
  clear hS hbr
  by_cases hlt:k<N
  ·obtain⟨a,ha⟩:∃ a,xo[k]? = some a:=⟨_,List.getElem?_eq_getElem (by rw[HN.out];exact hlt)⟩
   obtain⟨b,hb⟩:∃ b,yo[k]? = some b:=⟨_,List.getElem?_eq_getElem (by rw[HM.out];exact hlt)⟩
   obtain⟨ga,oa,rfl,hga,ca1⟩:=(HA1.out.below HBR.out) k a ha
   obtain⟨gb,ob,rfl,hgb,cb1⟩:=(HB1.out.below HBR.out) k b hb
   have HAK:=Hz ha
   have HBK:=Hz hb
   clear ha hb
   by_cases hab:a=b
   ·have q:(a != b)=false:=by simpa using hab
    have q':decide (a=b)=true:=by simpa using hab
    have q2:(a==b)=true:=by simpa using hab
    have HAB:=Hz hab
    clear hab
    go_wp2
    go_quiet (fail)
    go_wp2
    exact⟨⟨k+1,by omega,by go_num,⟨HBR.out.os,HBR.out.tape,HBR.out.output,HBR.out.size,HBR.out.block⟩,fun j hj=>by
     by_cases hjk:j=k
     ·subst hjk
      rw[HAK.out,HBK.out,HAB.out]
     ·exact HS.out j (by omega)⟩,by simp[intOf];omega⟩
   ·have q:(a != b)=true:=by simpa using hab
    have q':decide (a=b)=false:=by simpa using hab
    have q2:(a==b)=false:=by simpa using hab
    have HT:Hid (decide ((⟨xe,xc,xo⟩:jQ)=⟨xe,xc,yo⟩)=false):=Hz (by
     rw[decide_eq_false_iff_not]
     intro h
     injection h with _ _ h
     have h1:=HAK.out
     rw[h,HBK.out] at h1
     injection h1 with h1
     exact hab h1.symm)
    clear hab
    go_wp2
    go_quiet (fail)
    go_wp2
    go_returns
    exact⟨by rw[HT.out];rfl,HB.out.trans (Below.mono ⟨HBR.out.os,HBR.out.tape,HBR.out.output,HBR.out.size,HBR.out.block⟩ HB.out.size)⟩
  ·have HT:Hid (decide ((⟨xe,xc,xo⟩:jQ)=⟨xe,xc,yo⟩)=true):=Hz (by
    rw[decide_eq_true_eq]
    congr 1
    apply List.ext_getElem?
    intro j
    by_cases hj:j<k
    ·exact HS.out j hj
    ·have hkN:k=N:=by omega
     rw[List.getElem?_eq_none (by rw[HN.out];omega),List.getElem?_eq_none (by rw[HM.out];omega)])
   obtain rfl:k=N:=by omega
   go_wp2
   go_returns
   exact⟨by rw[HT.out];rfl,HB.out.trans (HBR.out.mono HB.out.size)⟩
abbrev oS (x:cU × Nat):List Value:=[.int .i64 x.1.k,.int .i64 x.1.base,.int .i64 x.1.p,.int .i64 x.1.dst,.slice (some ⟨x.2,0,none⟩) x.1.ρ.length x.1.ρ.length]
abbrev jA (t:cU)(b n:Nat):Obj:=.cells #[.int .i64 t.k,.int .i64 t.base,.int .i64 t.p,.int .i64 t.dst,.slice (some ⟨b,0,none⟩) n n] 84
abbrev lY (ρ:List Int):Obj:=.cells (ρ.map (.int .i64)).toArray 3 (0,0)
structure RnS (w0 w:World)(l:List (cU × Nat))(E:eX)(mb rb:Nat)(iv ov sv:Value):Prop where
 b:Below w0.heap.size w0 w
 mem:w.heap[mb]? = some (lY E.mem)
 ml:E.mem.length=4096
 mB:w0.heap.size≤mb
 res:∃ cs,w.heap[rb]? = some (.cells cs 49 (0,0))∧cs.size=3
 rB:w0.heap.size≤rb
 inp:∃ A cap,iv = .slice A E.inp.length cap∧RdB w0 A E.inp∧E.inp.length≤cap∧∀ a ∈ E.inp,0≤a∧a≤255
 out:w.ownsRow w0.heap.size 5 1 ov E.out.length (E.out.map (.int .u8))
 stk:w.ownsRow w0.heap.size 84 5 sv l.length (l.flatMap oS)
 regs:∀ x ∈ l,w0.heap.size≤x.2∧x.2≠mb∧w.heap[x.2]? = some (lY x.1.ρ)
 nd:(l.map (·.2)).Nodup
def IT (w0 w:World)(rb:Nat)(r:jQ):Prop:=∃ A cap,w.heap[rb]? = some (.cells #[.int .i64 r.e,.int .i64 r.c,.slice A r.out.length cap] 49 (0,0))∧RdBc w A r.out cap∧Below w0.heap.size w0 w
theorem bT {w w':World}{base:Nat}{e:TypeId}{size n:Nat}{V:Value}{xs:List Value}(h:w.ownsRow base e size V n xs)(hk:∀ g,base≤g→V.ownBlock=some g→∀ cur,w.heap[g]? = some (.cells cur e (0,0))→w'.heap[g]? = w.heap[g]?):w'.ownsRow base e size V n xs:=by
 obtain⟨h1,h2⟩:=h
 refine⟨h1,?_⟩
 rcases h2 with h2|⟨g,cap,cur,rfl,hB,hg,h3⟩
 ·exact Or.inl h2
 ·exact Or.inr ⟨g,cap,cur,rfl,hB,(hk g hB rfl cur hg).trans hg,h3⟩
theorem eY {w w':World}{base:Nat}{e:TypeId}{size n:Nat}{V:Value}{xs:List Value}(h:w.ownsRow base e size V n xs)(hb:Below w.heap.size w w'):w'.ownsRow base e size V n xs :=
 bT h fun g _ _ _ hg=>hb.block g (Az hg).1
theorem RnS.later {w0 w w':World}{l:List (cU × Nat)}{E:eX}{mb rb:Nat}{iv ov sv:Value}(h:RnS w0 w l E mb rb iv ov sv)(hb:Below w.heap.size w w'):RnS w0 w' l E mb rb iv ov sv where
 b:=h.b.trans (hb.mono h.b.size)
 mem:=(hb.block _ (Az h.mem).1).trans h.mem
 ml:=h.ml
 mB:=h.mB
 res:=by
  obtain⟨cs,h1,h2⟩:=h.res
  exact⟨cs,(hb.block _ (Az h1).1).trans h1,h2⟩
 rB:=h.rB
 inp:=h.inp
 out:=eY h.out hb
 stk:=eY h.stk hb
 regs:=fun x hx=>by
  obtain⟨h1,h2,h3⟩:=h.regs x hx
  exact⟨h1,h2,(hb.block _ (Az h3).1).trans h3⟩
 nd:=h.nd
theorem dO {w:World}{a b:Nat}{x y:Array Value}{s t:TypeId}{f g:Nat × Nat}(h:w.heap[a]? = some (.cells x s f))(h':w.heap[b]? = some (.cells y t g))(hst:s≠t):a≠b:=by
 rintro rfl
 rw[h] at h'
 injection h' with h'
 injection h' with _ h2 _
 exact hst h2
theorem bZ {w:World}{b:Nat}{ρ:List Int}(h:w.heap[b]? = some (lY ρ)){r:Nat}(hr:r<ρ.length):w.cell? ⟨b,r,none⟩=some (.int .i64 (ρ.getD r 0)):=by
 refine aA h r _ ?_
 rw[List.getElem?_toArray,List.getElem?_map,List.getElem?_eq_getElem hr,List.getD_eq_getElem?_getD,List.getElem?_eq_getElem hr]
 rfl
theorem oT {w:World}{b:Nat}{ρ:List Int}(h:w.heap[b]? = some (lY ρ))(r:Nat)(v:Int):(w.setCell ⟨b,r,none⟩ (.int .i64 v)).heap[b]? = some (lY (ρ.set r v)):=by
 have:=heap_setCell (j:=r) h (.int .i64 v)
 rw[this]
 unfold lY
 rw[List.map_set]
 simp
theorem nV {w:World}{base:Nat}{l:List (cU × Nat)}{x:cU × Nat}{sv:Value}(h:w.ownsRow base 84 5 sv (l++[x]).length ((l++[x]).flatMap oS)) :
  ∃ sb cap cur,sv = .slice (some ⟨sb,0,none⟩) (l.length+1) cap∧base≤sb∧w.heap[sb]? = some (.cells cur 84 (0,0))∧(l.length+1)≤cap∧cap≤maxLen∧cur.size=cap*5∧cur.toList.take ((l.length+1)*5)=(l++[x]).flatMap oS:=by
 obtain⟨h1,h2⟩:=h
 rw[List.length_append,List.length_singleton] at h2
 rcases h2 with ⟨_,h0⟩|h2
 ·omega
 ·obtain⟨g,cap,cur,e1,e2,e3,e4,e5,e6,e7⟩:=h2
  exact⟨g,cap,cur,e1,e2,e3,e4,e5,e6,e7⟩
theorem dB:∀ (v:List (cU × Nat)),(v.flatMap oS).length=v.length*5
 | []=>rfl
 | x::v=>by rw[List.flatMap_cons,List.length_append,dB v,List.length_cons];simp only[List.length_cons,List.length_nil];omega
theorem vM (v:List (cU × Nat)):∀ u ∈ v.flatMap oS,u.oneCell'=true:=fun u hu=>by
 obtain⟨x,_,hx⟩:=List.mem_flatMap.1 hu
 simp only[List.mem_cons,List.not_mem_nil,or_false] at hx
 rcases hx with rfl|rfl|rfl|rfl|rfl <;> rfl
theorem jB {w:World}{sb m:Nat}{cur:Array Value}{l:List (cU × Nat)}{x:cU × Nat}(hl:l.length=m)(h:w.heap[sb]? = some (.cells cur 84 (0,0)))(ht:cur.toList.take ((m+1)*5)=(l++[x]).flatMap oS)(j:Nat)(v:Value)(hv:(oS x)[j]? = some v):w.cell? ⟨sb,m*5+j,none⟩=some v:=by
 refine aA h _ v ?_
 have hj:j<5:=(Lz hv).1
 have h1:((l++[x]).flatMap oS)[m*5+j]? = some v:=by
  rw[List.flatMap_append,List.getElem?_append_right (by rw[dB,hl];omega),dB,hl,show m*5+j-m*5=j by omega]
  simpa using hv
 rw[←ht,List.getElem?_take,if_pos (by omega)] at h1
 simpa using h1
theorem take_set {α:Type}(c:List α)(n j:Nat)(v:α):(c.set j v).take n=(c.take n).set j v:=List.take_set
theorem DJ {base sb cap m:Nat}{cur:Array Value}{l:List (cU × Nat)}{t t':cU}{b:Nat}(hl:l.length=m)(hB:base≤sb)(hc:m+1≤cap)(hcm:cap≤maxLen)(hs:cur.size=cap*5)(ht:cur.toList.take ((m+1)*5)=(l++[(t,b)]).flatMap oS)(w':World)(v:Int)(ht':t'={ t with p:=v.toNat,ρ:=t'.ρ })(hlen:t'.ρ.length=t.ρ.length)(hv:0≤v)
  (hw:w'.heap[sb]? = some (.cells (cur.setIfInBounds (m*5+2) (.int .i64 v)) 84 (0,0))):w'.ownsRow base 84 5 (.slice (some ⟨sb,0,none⟩) (m+1) cap) (l++[(t',b)]).length ((l++[(t',b)]).flatMap oS):=by
 refine⟨by rw[dB],Or.inr ⟨sb,cap,_,by rw[List.length_append,List.length_singleton,hl],hB,hw,by rw[List.length_append,List.length_singleton,hl];exact hc,hcm,by simp[hs],?_⟩⟩
 rw[List.length_append,List.length_singleton,hl,Array.toList_setIfInBounds,take_set,ht,List.flatMap_append,List.set_append_right _ _ (by rw[dB,hl];omega),dB,hl,show m*5+2-m*5=2 by omega,List.flatMap_append]
 congr 1
 rw[ht']
 simp only[List.flatMap_cons,List.flatMap_nil,List.append_nil,oS,List.set_cons_succ,List.set_cons_zero]
 rw[hlen,Int.toNat_of_nonneg hv]
theorem zO:(Try.prog.info? 49).map (·.size)=some 3:=by kernel_rfl
theorem eB (a b:Int)(A:Option Addr)(n c:Nat):(#[Value.int .i64 a,.int .i64 b,.slice A n c].all (·.oneCell'))=true:=by simp[Value.oneCell']
theorem tL {w:World}{base:Nat}{V:Value}{l:List Int}(h:w.ownsRow base 5 1 V l.length (l.map (.int .u8))):∃ A cap,V = .slice A l.length cap∧RdB w A l∧(∀ g,V.ownBlock=some g→∃ cur,w.heap[g]? = some (.cells cur 5 (0,0))∧base≤g):=by
 have h0:=h
 obtain⟨h1,h2⟩:=h
 rcases h2 with ⟨rfl,hn⟩|⟨g,cap,cur,rfl,hB,hg,hnc,_,hsz,htake⟩
 ·refine⟨none,0,by rw[hn],fun j n hj=>?_,fun g hg=>by simp[Value.ownBlock] at hg⟩
  have:=(Lz hj).1
  omega
 ·have hlt:=(Az hg).1
  refine⟨_,_,rfl,fun j n hj=>⟨g,0,rfl,hlt,?_⟩,fun g' hg'=>by simp[Value.ownBlock] at hg';subst hg';exact⟨cur,hg,hB⟩⟩
  have hjl:=(Lz hj).1
  have:=World.ownsRow.cellAt h0 j (by omega)
  rw[Nat.zero_add,this,List.getElem?_map,hj]
  rfl
theorem lZ {w:World}{base:Nat}{e:TypeId}{size n:Nat}{V:Value}{xs:List Value}(h:w.ownsRow base e size V n xs){b:Nat}{cs:Array Value}{t:TypeId}{f:Nat × Nat}(hb:w.heap[b]? = some (.cells cs t f))(ht:e≠t):V.ownBlock≠some b:=fun h0=>by
 obtain⟨_,h2⟩:=h
 rcases h2 with ⟨rfl,_⟩|⟨g,cap,cur,rfl,_,hg,_⟩
 ·simp[Value.ownBlock] at h0
 ·simp[Value.ownBlock] at h0
  subst h0
  exact dO hg hb ht rfl
variable {w0 w:World} {l:List (cU × Nat)} {E:eX} {mb rb:Nat} {iv ov sv:Value}
theorem RnS.mem_set (h:RnS w0 w l E mb rb iv ov sv)(a:Nat)(v:Int):RnS w0 (w.setCell ⟨mb,a,none⟩ (.int .i64 v)) l { E with mem:=E.mem.set a v } mb rb iv ov sv where
 b:=h.b.setCell h.mB _
 mem:=oT h.mem a v
 ml:=by simp[h.ml]
 mB:=h.mB
 res:=by
  obtain⟨cs,h1,h2⟩:=h.res
  exact⟨cs,(heap_setCell_other w ⟨mb,a,none⟩ rb _ (dO h1 h.mem (by decide))).trans h1,h2⟩
 rB:=h.rB
 inp:=h.inp
 out:=bT h.out fun g _ hg cur hc=>heap_setCell_other w ⟨mb,a,none⟩ g _ (dO hc h.mem (by decide))
 stk:=bT h.stk fun g _ hg cur hc=>heap_setCell_other w ⟨mb,a,none⟩ g _ (dO hc h.mem (by decide))
 regs:=fun x hx=>by
  obtain⟨h1,h2,h3⟩:=h.regs x hx
  exact⟨h1,h2,(heap_setCell_other w ⟨mb,a,none⟩ x.2 _ h2).trans h3⟩
 nd:=h.nd
theorem RnS.told (h:RnS w0 w l E mb rb iv ov sv)(e c:Int):∃ A cap,ov = .slice A E.out.length cap∧IT w0 (w.setRow rb #[.int .i64 e,.int .i64 c,ov]) rb ⟨e,c,E.out⟩:=by
 obtain⟨A,cap,rfl,hr,ho⟩:=tL h.out
 obtain⟨cs,h1,h2⟩:=h.res
 have hcap:E.out.length≤cap:=by
  obtain⟨_,h3⟩:=h.out
  rcases h3 with ⟨e,hn⟩|⟨g,cap',cur,e,_,_,hnc,_⟩
  ·omega
  ·injection e with _ _ e3
   omega
 refine⟨A,cap,rfl,A,cap,setRow_heap _ _ _ _ _ _ h1,⟨fun j n hj=>?_,hcap⟩,below_setRow h.b h.rB _⟩
 obtain⟨b,o,rfl,e2,e3⟩:=hr j n hj
 refine⟨b,o,rfl,by simpa using e2,?_⟩
 rw[←e3]
 obtain⟨cur,hc,_⟩:=ho b rfl
 simp only[World.cell?,setRow_other w rb b _ (dO hc h1 (by decide))]
theorem RnS.reg_set {t:cU}{b:Nat}(h:RnS w0 w (l++[(t,b)]) E mb rb iv ov sv)(r:Nat)(v:Int):RnS w0 (w.setCell ⟨b,r,none⟩ (.int .i64 v)) (l++[({ t with ρ:=t.ρ.set r v },b)]) E mb rb iv ov sv:=by
 obtain⟨hb1,hb2,hb3⟩:=h.regs (t,b) (by simp)
 exact {
  b:=h.b.setCell hb1 _
  mem:=(heap_setCell_other w ⟨b,r,none⟩ mb _ (Ne.symm hb2)).trans h.mem
  ml:=h.ml
  mB:=h.mB
  res:=by
   obtain⟨cs,h1,h2⟩:=h.res
   exact⟨cs,(heap_setCell_other w ⟨b,r,none⟩ rb _ (dO h1 hb3 (by decide))).trans h1,h2⟩
  rB:=h.rB
  inp:=h.inp
  out:=bT h.out fun g _ hg cur hc=>heap_setCell_other w ⟨b,r,none⟩ g _ (dO hc hb3 (by decide))
  stk:=by
   have h0:=bT (w':=w.setCell ⟨b,r,none⟩ (.int .i64 v)) h.stk fun g _ hg cur hc=>heap_setCell_other w ⟨b,r,none⟩ g _ (dO hc hb3 (by decide))
   have e:(l++[({ t with ρ:=t.ρ.set r v },b)]).flatMap oS=(l++[(t,b)]).flatMap oS:=by simp[oS]
   rw[e,List.length_append,List.length_singleton]
   rw[List.length_append,List.length_singleton] at h0
   exact h0
  regs:=fun x hx=>by
   rcases List.mem_append.1 hx with hx|hx
   ·obtain⟨h1,h2,h3⟩:=h.regs x (List.mem_append_left _ hx)
    refine⟨h1,h2,(heap_setCell_other w ⟨b,r,none⟩ x.2 _ fun e=>?_).trans h3⟩
    have hn:=h.nd
    rw[List.map_append,List.nodup_append] at hn
    exact hn.2.2 x.2 (List.mem_map_of_mem hx) b (by simp) e
   ·obtain rfl:=List.mem_singleton.1 hx
    exact⟨hb1,hb2,oT hb3 r v⟩
  nd:=by simpa using h.nd }
theorem RnS.at_set {t:cU}{b m sb scap:Nat}(h:RnS w0 w (l++[(t,b)]) E mb rb iv ov (.slice (some ⟨sb,0,none⟩) (m+1) scap))(hm:l.length=m)(q:Nat):RnS w0 (w.setCell ⟨sb,m*5+2,none⟩ (.int .i64 q)) (l++[({ t with p:=q },b)]) E mb rb iv ov (.slice (some ⟨sb,0,none⟩) (m+1) scap):=by
 obtain⟨sb',cap',cur,e1,e2,e3,e4,e5,e6,e7⟩:=nV h.stk
 rw[hm] at e1 e4 e7
 injection e1 with e1 _ e8
 injection e1 with e1
 injection e1 with e1
 subst e1 e8
 have hk:∀ (k:Nat) (cs:Array Value) (ty:TypeId),w.heap[k]? = some (.cells cs ty (0,0))→ty≠84→(w.setCell ⟨sb,m*5+2,none⟩ (.int .i64 q)).heap[k]? = some (.cells cs ty (0,0)):=fun k cs ty hc ht=>(heap_setCell_other w ⟨sb,m*5+2,none⟩ k _ (dO hc e3 ht)).trans hc
 exact {
  b:=h.b.setCell e2 _
  mem:=hk _ _ _ h.mem (by decide)
  ml:=h.ml
  mB:=h.mB
  res:=by
   obtain⟨cs,h1,h2⟩:=h.res
   exact⟨cs,hk _ _ _ h1 (by decide),h2⟩
  rB:=h.rB
  inp:=h.inp
  out:=bT h.out fun g _ hg cur hc=>(hk _ _ _ hc (by decide)).trans hc.symm
  stk:=DJ (v:=(q:Int)) hm e2 e4 e5 e6 e7 _ (by simp) rfl (by omega) (heap_setCell (j:=m*5+2) e3 _)
  regs:=fun x hx=>by
   rcases List.mem_append.1 hx with hx|hx
   ·obtain⟨h1,h2,h3⟩:=h.regs x (List.mem_append_left _ hx)
    exact⟨h1,h2,hk _ _ _ h3 (by decide)⟩
   ·obtain rfl:=List.mem_singleton.1 hx
    obtain⟨h1,h2,h3⟩:=h.regs (t,b) (by simp)
    exact⟨h1,h2,hk _ _ _ h3 (by decide)⟩
  nd:=by simpa using h.nd }
theorem RnS.top {t:cU}{b m sb scap:Nat}(h:RnS w0 w (l++[(t,b)]) E mb rb iv ov (.slice (some ⟨sb,0,none⟩) (m+1) scap))(hm:l.length=m):(∃ cur,w.heap[sb]? = some (.cells cur 84 (0,0)))∧w.cell? ⟨sb,m*5,none⟩=some (.int .i64 t.k)∧w.cell? ⟨sb,m*5+1,none⟩=some (.int .i64 t.base)∧w.cell? ⟨sb,m*5+2,none⟩=some (.int .i64 t.p)∧w.cell? ⟨sb,m*5+3,none⟩=some (.int .i64 t.dst)∧w.cell? ⟨sb,m*5+4,none⟩=some (.slice (some ⟨b,0,none⟩) t.ρ.length t.ρ.length):=by
 obtain⟨sb',cap',cur,e1,e2,e3,e4,e5,e6,e7⟩:=nV h.stk
 rw[hm] at e1 e4 e7
 injection e1 with e1 _ e8
 injection e1 with e1
 injection e1 with e1
 subst e1 e8
 exact⟨⟨cur,e3⟩,jB hm e3 e7 0 _ rfl,jB hm e3 e7 1 _ rfl,jB hm e3 e7 2 _ rfl,jB hm e3 e7 3 _ rfl,jB hm e3 e7 4 _ rfl⟩
theorem cC {fb b n:Nat}{t:cU}(h:w.heap[fb]? = some (jA t b n)):w.cell? ⟨fb,0,none⟩=some (.int .i64 t.k)∧w.cell? ⟨fb,1,none⟩=some (.int .i64 t.base)∧w.cell? ⟨fb,2,none⟩=some (.int .i64 t.p)∧w.cell? ⟨fb,3,none⟩=some (.int .i64 t.dst)∧w.cell? ⟨fb,4,none⟩=some (.slice (some ⟨b,0,none⟩) n n) :=
 ⟨aA h 0 _ rfl,aA h 1 _ rfl,aA h 2 _ rfl,aA h 3 _ rfl,aA h 4 _ rfl⟩
theorem Ok.useA {i:Ins}{R Fr:Int}{L:Nat}(h:Ok i R Fr L)(hk:kA i.kind=true):∃ ra:Nat,i.a=ra∧ra<R.toNat:=by
 obtain⟨h1,h2⟩:=h.uses i.a (by unfold Ins.uses;rw[hk];simp)
 exact⟨i.a.toNat,by omega,by omega⟩
theorem Ok.useB {i:Ins}{R Fr:Int}{L:Nat}(h:Ok i R Fr L)(hk:kB i.kind=true):∃ ra:Nat,i.b=ra∧ra<R.toNat:=by
 obtain⟨h1,h2⟩:=h.uses i.b (by unfold Ins.uses;rw[hk];simp)
 exact⟨i.b.toNat,by omega,by omega⟩
structure JY (w0 w':World)(l:List (cU × Nat))(t:cU)(b:Nat)(i:Ins)(E E':eX)(mb rb:Nat)(iv' ov' sv:Value)(fb ib np:Nat)(v:Int):Prop where
 st:aQ i t.p t.base t.ρ E = .go np (bB i.sets v t.ρ) E'
 S:RnS w0 w' (l++[(t,b)]) E' mb rb iv' ov' sv
 f:w'.heap[fb]? = some (jA t b t.ρ.length)
 i:w'.heap[ib]? = some i.obj
 out:E'.out.length≤E.out.length+1
theorem DK:(Try.prog.info? 5).map (fun i=>(i.zero,i.size,i.bytes))=some (some (.int .u8 0),1,1):=by kernel_rfl
theorem tM {ops:Array Oper}{rest:List Oper}{o:Oper}{a:Act}{w:World}{Q:Exit→Act→World→Prop}(hgd:o.guard=none)(s x:Operand)
  (ho:o.op = .call { callee:=.builtin .append,args:=#[s,x],argTypes:=#[44,44] }) (base:Nat) (V:Value) (k:List Int) (hs:a.eval s=V) (hown:w.ownsRow base 5 1 V k.length (k.map (.int .u8)))
  (g:Nat) (y:Int) (hx:a.eval x = .slice (some ⟨g,0,none⟩) 1 1) (hg:w.heap[g]? = some (.cells #[.int .u8 y] 5 (0,0))) (hn:k.length≤90000) (hb:base≤w.heap.size)
  (h:∀ V' w',w'.ownsRow base 5 1 V' (k++[y]).length ((k++[y]).map (.int .u8))→w.grownBy w' V.ownBlock→(V'.ownBlock=V.ownBlock∨V'.ownBlock=some w.heap.size)→wpList Try.prog ops Q rest (a.put o.dst V') w') :
  wpList Try.prog ops Q (o::rest) a w:=by
 obtain⟨i0,hi,hz0,hz1,hz2⟩:=info_parts DK
 obtain⟨V',w',hr,h1,h2,_,h4⟩:=run_append_own_at (P:=Try.prog) w base 44 o.type 5 i0 (.int .u8 0) 1 1 (by kernel_rfl) hi hz0 hz1 hz2 rfl (by decide) V k.length (k.map (.int .u8)) hown ⟨g,0,none⟩ 1 1 [.int .u8 y] (by simp)
  (fun j u hu=>by
   cases j with
   | succ j=>simp at hu
   | zero =>
    simp at hu
    subst hu
    exact aA hg 0 _ rfl) (fun u hu=>by
     obtain rfl:=List.mem_singleton.1 hu
     rfl) (by simp only[maxLen];omega) (by omega) hb
 exact bW hgd s x ho hs hx hr (h V' w' (by rw[List.length_append,List.map_append];exact h1) h2 h4)
theorem RnS.grown (h:RnS w0 w l E mb rb iv ov sv){w':World}(hg:w.grownBy w' ov.ownBlock){V':Value}{o':List Int}(ho:w'.ownsRow w0.heap.size 5 1 V' o'.length (o'.map (.int .u8))):RnS w0 w' l { E with out:=o' } mb rb iv V' sv:=by
 have hk:∀ (k:Nat) (cs:Array Value) (ty:TypeId),w.heap[k]? = some (.cells cs ty (0,0))→5≠ty→w'.heap[k]? = w.heap[k]?:=fun k cs ty hc ht=>hg.block k (Az hc).1 (Ne.symm (lZ h.out hc ht))
 obtain⟨_,_,_,_,hob⟩:=tL h.out
 exact {
  b:=⟨hg.os.trans h.b.os,hg.tape.trans h.b.tape,hg.output.trans h.b.output,Nat.le_trans h.b.size hg.size,fun k hk'=>(hg.block k (by have:=h.b.size;omega) (fun e=>by
   obtain⟨_,_,hB⟩:=hob k e.symm
   omega)).trans (h.b.block k hk')⟩
  mem:=(hk _ _ _ h.mem (by decide)).trans h.mem
  ml:=h.ml
  mB:=h.mB
  res:=by
   obtain⟨cs,h1,h2⟩:=h.res
   exact⟨cs,(hk _ _ _ h1 (by decide)).trans h1,h2⟩
  rB:=h.rB
  inp:=h.inp
  out:=ho
  stk:=bT h.stk fun g _ _ cur hc=>hk _ _ _ hc (by decide)
  regs:=fun x hx=>by
   obtain⟨h1,h2,h3⟩:=h.regs x hx
   exact⟨h1,h2,(hk _ _ _ h3 (by decide)).trans h3⟩
  nd:=h.nd }
def rR:Code→Nat→Code
 | .seq a _,0=>a
 | .seq _ b,n+1=>rR b n
 | c,_=>c
def AM:Code→Nat→Code
 | c,0=>c
 | .seq _ b,n+1=>AM b n
 | c,_=>c
def GL:Code→Code
 | .block _ c=>c
 | c=>c
noncomputable def DL:Code:=((((Try.f30.body).map cE).getD [])[1]?).getD .skip
noncomputable def rS:Code:=GL (rR (fQ DL) 1)
noncomputable def AN:Code:=rR rS 4
noncomputable def JZ:Code:=AM rS 5
def oU (kd:Int)(X:cU→eX→Int→Prop):Prop:=∀ (w0 w:World) (l:List (cU × Nat)) (t:cU) (b m scap sb fb ib mb rb ub np:Nat) (i:Ins) (E:eX) (iv ov:Value) (R Fr:Int) (L:Nat),
  l.length=m→Ok i R Fr L→i.kind=kd→t.ρ.length=R.toNat→np=t.p+1→X t E Fr →
  RnS w0 w (l++[(t,b)]) E mb rb iv ov (.slice (some ⟨sb,0,none⟩) (m+1) scap)→w.heap[fb]? = some (jA t b t.ρ.length)→w.heap[ib]? = some i.obj→fb≠sb →
  ∀ ⦃x0 x2 x4 x5 x7 x9 x16 x17 x18 x19 x20 x21 x22 x23 x24 x25 x26 x27 x28 x29 x30 x31 x32 x33 x34 x35 x36 x37 x38 x39 x40 x41 x42 x43 x44 x45 x46 x47 x48 x49 x50 x51 x52 x53 x54 x55 x56 x57 x58 x59 x60 x61 x62 x63 x64 x65 x66 x67 x68 x69 x70 x71 x72 x73 x74 x75 x76 x77 x78 x79 x80 x81 x82 x83 x84 x85 x86 x87 x88 x89 x90 x91 x92 x93 x94 x95 x96 x97 x98 x99 xA0 xA1 xA2 xA3 xA4 xA5 xA6 xA7 xA8 xA9 xB0 xB1 xB2 xB3 xB4 xB5 xB6 xB7 xB8 xB9 xC0 xC1 xC2 xC3 xC4 xC5 xC6 xC7 xC8 xC9 xD0 xD1 xD2 xD3 xD4 xD5 xD6 xD7 xD8 xD9 xE0 xE1 xE2 xE3 xE4 xE5 xE6 xE7 xE8 xE9 xF0 xF1 xF2 xF3 xF4 xF5 xF6 xF7 xF8 xF9 xG0 xG1 xG2 xG3 xG4 xG5 xG6 xG7 xG8 xG9 xH0 xH1 xH2 xH3 xH4 xH5 xH6 xH7 xH8 xH9 xI0 xI1 xI2 xI3 xI4 xI5 xI6 xI7 xI8 xI9 xJ0 xJ1 xJ2 xJ3 xJ4 xJ5 xJ6 xJ7 xJ8 xJ9 xK0 xK1 xK2 xK3 xK4 xK5 xK6 xK7 xK8 xK9 xL0 xL1 xL2 xL3 xL4 xL5 xL6 xL7 xL8 xL9 xM0 xM1 xM2 xM3 xM4 xM5 xM6 xM7 xM8 xM9 xN0 xN1 xN2 xN3 xN4 xN5 xN6 xN7 xN8 xN9 xO0 xO1 xO2 xO3 xO4 xO5 xO6 xO7 xO8 xO9 xP0 xP1 xP2 xP3 xP4 xP5 xP6 xP7 xP8 xP9 xQ0 xQ1 xQ2 xQ3 xQ4 xQ5 xQ6 xQ7 xQ8 xQ9 xR0 xR1 xR2 xR3 xR4 xR5 xR6 xR7 xR8 xR9 xS0 xS1 xS2 xS3 xS4 xS5 xS6 xS7 xS8 xS9 xT0 xT1 xT2 xT3 xT4 xT5 xT6 xT7 xT8 xT9 xU0 xU1 xU2 xU3 xU4 xU5 xU6 xU7 xU8 xU9 xV0 xV1 xV2 xV3 xV4 xV5 xV6 xV7 xV8 xV9 xW0 xW1 xW2 xW3 xW4 xW5 xW6 xW7 xW8 xW9 xX0 xX1 xX2 xX3 xX4 xX5 xX6 xX7 xX8 xX9 xY0 xY1 xY2 xY3 xY4 xY5 xY6 xY7 xY8 xY9 xZ0 xZ1 xZ2 xZ3 xZ4 xZ5 xZ6 xZ7 xZ8 xZ9 xa0 xa1 xa2 xa3 xa4 xa5 xa6 xa7 xa8 xa9 xb0 xb1 xb2 xb3 xb4 xb5 xb6 xb7:Value⦄ (K:Act→World→Prop) (Q:Exit→Act→World→Prop),
  (∀ ⦃y16 y17 y18 y19 y20 y21 y22 y23 y24 yC2 yC3 yC4 yC5 yC6 yC7 yC8 yC9 yD0 yD1 yD2 yD3 yD4 yD5 yD6 yD7 yD8 yD9 yE0 yE1 yE2 yE3 yE4 yE5 yE6 yE7 yE8 yE9 yF0 yF1 yF2 yF3 yF4 yF5 yF6 yF7 yF8 yF9 yG0 yG1 yG2 yG3 yG4 yG5 yG6 yG7 yG8 yG9 yH0 yH1 yH2 yH3 yH4 yH5 yH6 yH7 yH8 yH9 yI0 yI1 yI2 yI3 yI4 yI5 yI6 yI7 yI8 yI9 yJ0 yJ1 yJ2 yJ3 yJ4 yJ5 yJ6 yJ7 yJ8 yJ9 yK0 yK1 yK2 yK3 yK4 yK5 yK6 yK7 yK8 yK9 yL0 yL1 yL2 yL3 yL4 yL5 yL6 yL7 yL8 yL9 yM0 yM1 yM2 yM3 yM4 yM5 yM6 yM7 yM8 yM9 yN0 yN1 yN2 yN3 yN4 yN5 yN6 yN7 yN8 yN9 yO0 yO1 yO2 yO3 yO4 yO5 yO6 yO7 yO8 yO9 yP0 yP1 yP2 yP3 yP4 yP5 yP6 yP7 yP8 yP9 yQ0 yQ1 yQ2 yQ3 yQ4 yQ5 yQ6 yQ7 yQ8 yQ9 yR0 yR1 yR2 yR3 yR4 yR5 yR6 yR7 yR8 yR9 yS0 yS1 yS2 yS3 yS4 yS5 yS6 yS7 yS8 yS9 yT0 yT1 yT2 yT3 yT4 yT5 yT6 yT7 yT8 yT9 yU0 yU1 yU2 yU3 yU4 yU5 yU6 yU7 yU8 yU9 yV0 yV1 yV2 yV3 yV4 yV5 yV6 yV7 yV8 yV9 yW0 yW1 yW2 yW3 yW4 yW5 yW6 yW7 yW8 yW9 yX0 yX1 yX2 yX3 yX4 yX5 yX6 yX7 yX8 yX9 yY0 yY1 yY2 yY3 yY4 yY5 yY6 yY7 yY8 yY9 yZ0 yZ1 yZ2 yZ3 yZ4 yZ5 yZ6 yZ7 yZ8 yZ9:Value⦄ (w':World) (iv' ov':Value) (E':eX) (q:Nat) (v:Int),JY w0 w' l t b i E E' mb rb iv' ov' (.slice (some ⟨sb,0,none⟩) (m+1) scap) fb ib q v→K ⟨(x0::iv'::x2::.pointer (some ⟨ub,0,none⟩)::x4::x5::.pointer (some ⟨rb,0,none⟩)::x7::.slice (some ⟨mb,0,none⟩) 4096 4096::x9::ov'::.slice (some ⟨sb,0,none⟩) (m+1) scap::.pointer (some ⟨fb,0,none⟩)::.pointer (some ⟨ib,0,none⟩)::.int .i64 (q:Int)::.int .i64 v::y16::y17::y18::y19::y20::y21::y22::y23::y24::x25::x26::x27::x28::x29::x30::x31::x32::x33::x34::x35::x36::x37::x38::x39::x40::x41::x42::x43::x44::x45::x46::x47::x48::x49::x50::x51::x52::x53::x54::x55::x56::x57::x58::x59::x60::x61::x62::x63::x64::x65::x66::x67::x68::x69::x70::x71::x72::x73::x74::x75::x76::x77::x78::x79::x80::x81::x82::x83::x84::x85::x86::x87::x88::x89::x90::x91::x92::x93::x94::x95::x96::x97::x98::x99::xA0::xA1::xA2::xA3::xA4::xA5::xA6::xA7::xA8::xA9::xB0::xB1::xB2::xB3::xB4::xB5::xB6::xB7::xB8::xB9::xC0::xC1::yC2::yC3::yC4::yC5::yC6::yC7::yC8::yC9::yD0::yD1::yD2::yD3::yD4::yD5::yD6::yD7::yD8::yD9::yE0::yE1::yE2::yE3::yE4::yE5::yE6::yE7::yE8::yE9::yF0::yF1::yF2::yF3::yF4::yF5::yF6::yF7::yF8::yF9::yG0::yG1::yG2::yG3::yG4::yG5::yG6::yG7::yG8::yG9::yH0::yH1::yH2::yH3::yH4::yH5::yH6::yH7::yH8::yH9::yI0::yI1::yI2::yI3::yI4::yI5::yI6::yI7::yI8::yI9::yJ0::yJ1::yJ2::yJ3::yJ4::yJ5::yJ6::yJ7::yJ8::yJ9::yK0::yK1::yK2::yK3::yK4::yK5::yK6::yK7::yK8::yK9::yL0::yL1::yL2::yL3::yL4::yL5::yL6::yL7::yL8::yL9::yM0::yM1::yM2::yM3::yM4::yM5::yM6::yM7::yM8::yM9::yN0::yN1::yN2::yN3::yN4::yN5::yN6::yN7::yN8::yN9::yO0::yO1::yO2::yO3::yO4::yO5::yO6::yO7::yO8::yO9::yP0::yP1::yP2::yP3::yP4::yP5::yP6::yP7::yP8::yP9::yQ0::yQ1::yQ2::yQ3::yQ4::yQ5::yQ6::yQ7::yQ8::yQ9::yR0::yR1::yR2::yR3::yR4::yR5::yR6::yR7::yR8::yR9::yS0::yS1::yS2::yS3::yS4::yS5::yS6::yS7::yS8::yS9::yT0::yT1::yT2::yT3::yT4::yT5::yT6::yT7::yT8::yT9::yU0::yU1::yU2::yU3::yU4::yU5::yU6::yU7::yU8::yU9::yV0::yV1::yV2::yV3::yV4::yV5::yV6::yV7::yV8::yV9::yW0::yW1::yW2::yW3::yW4::yW5::yW6::yW7::yW8::yW9::yX0::yX1::yX2::yX3::yX4::yX5::yX6::yX7::yX8::yX9::yY0::yY1::yY2::yY3::yY4::yY5::yY6::yY7::yY8::yY9::yZ0::yZ1::yZ2::yZ3::yZ4::yZ5::yZ6::yZ7::yZ8::yZ9::xa0::xa1::xa2::xa3::xa4::xa5::xa6::xa7::xa8::xa9::xb0::xb1::xb2::xb3::xb4::xb5::xb6::xb7::[]).toArray,[]⟩ w') →
  (∀ ⦃y16 y17 y18 y19 y20 y21 y22 y23 y24 yC2 yC3 yC4 yC5 yC6 yC7 yC8 yC9 yD0 yD1 yD2 yD3 yD4 yD5 yD6 yD7 yD8 yD9 yE0 yE1 yE2 yE3 yE4 yE5 yE6 yE7 yE8 yE9 yF0 yF1 yF2 yF3 yF4 yF5 yF6 yF7 yF8 yF9 yG0 yG1 yG2 yG3 yG4 yG5 yG6 yG7 yG8 yG9 yH0 yH1 yH2 yH3 yH4 yH5 yH6 yH7 yH8 yH9 yI0 yI1 yI2 yI3 yI4 yI5 yI6 yI7 yI8 yI9 yJ0 yJ1 yJ2 yJ3 yJ4 yJ5 yJ6 yJ7 yJ8 yJ9 yK0 yK1 yK2 yK3 yK4 yK5 yK6 yK7 yK8 yK9 yL0 yL1 yL2 yL3 yL4 yL5 yL6 yL7 yL8 yL9 yM0 yM1 yM2 yM3 yM4 yM5 yM6 yM7 yM8 yM9 yN0 yN1 yN2 yN3 yN4 yN5 yN6 yN7 yN8 yN9 yO0 yO1 yO2 yO3 yO4 yO5 yO6 yO7 yO8 yO9 yP0 yP1 yP2 yP3 yP4 yP5 yP6 yP7 yP8 yP9 yQ0 yQ1 yQ2 yQ3 yQ4 yQ5 yQ6 yQ7 yQ8 yQ9 yR0 yR1 yR2 yR3 yR4 yR5 yR6 yR7 yR8 yR9 yS0 yS1 yS2 yS3 yS4 yS5 yS6 yS7 yS8 yS9 yT0 yT1 yT2 yT3 yT4 yT5 yT6 yT7 yT8 yT9 yU0 yU1 yU2 yU3 yU4 yU5 yU6 yU7 yU8 yU9 yV0 yV1 yV2 yV3 yV4 yV5 yV6 yV7 yV8 yV9 yW0 yW1 yW2 yW3 yW4 yW5 yW6 yW7 yW8 yW9 yX0 yX1 yX2 yX3 yX4 yX5 yX6 yX7 yX8 yX9 yY0 yY1 yY2 yY3 yY4 yY5 yY6 yY7 yY8 yY9 yZ0 yZ1 yZ2 yZ3 yZ4 yZ5 yZ6 yZ7 yZ8 yZ9 z1 z10 z11 z14 z15:Value⦄ (w':World) (c:Int),aQ i t.p t.base t.ρ E = .stop c→IT w0 w' rb ⟨2,c,E.out⟩→Q .ret ⟨(x0::z1::x2::.pointer (some ⟨ub,0,none⟩)::x4::x5::.pointer (some ⟨rb,0,none⟩)::x7::.slice (some ⟨mb,0,none⟩) 4096 4096::x9::z10::z11::.pointer (some ⟨fb,0,none⟩)::.pointer (some ⟨ib,0,none⟩)::z14::z15::y16::y17::y18::y19::y20::y21::y22::y23::y24::x25::x26::x27::x28::x29::x30::x31::x32::x33::x34::x35::x36::x37::x38::x39::x40::x41::x42::x43::x44::x45::x46::x47::x48::x49::x50::x51::x52::x53::x54::x55::x56::x57::x58::x59::x60::x61::x62::x63::x64::x65::x66::x67::x68::x69::x70::x71::x72::x73::x74::x75::x76::x77::x78::x79::x80::x81::x82::x83::x84::x85::x86::x87::x88::x89::x90::x91::x92::x93::x94::x95::x96::x97::x98::x99::xA0::xA1::xA2::xA3::xA4::xA5::xA6::xA7::xA8::xA9::xB0::xB1::xB2::xB3::xB4::xB5::xB6::xB7::xB8::xB9::xC0::xC1::yC2::yC3::yC4::yC5::yC6::yC7::yC8::yC9::yD0::yD1::yD2::yD3::yD4::yD5::yD6::yD7::yD8::yD9::yE0::yE1::yE2::yE3::yE4::yE5::yE6::yE7::yE8::yE9::yF0::yF1::yF2::yF3::yF4::yF5::yF6::yF7::yF8::yF9::yG0::yG1::yG2::yG3::yG4::yG5::yG6::yG7::yG8::yG9::yH0::yH1::yH2::yH3::yH4::yH5::yH6::yH7::yH8::yH9::yI0::yI1::yI2::yI3::yI4::yI5::yI6::yI7::yI8::yI9::yJ0::yJ1::yJ2::yJ3::yJ4::yJ5::yJ6::yJ7::yJ8::yJ9::yK0::yK1::yK2::yK3::yK4::yK5::yK6::yK7::yK8::yK9::yL0::yL1::yL2::yL3::yL4::yL5::yL6::yL7::yL8::yL9::yM0::yM1::yM2::yM3::yM4::yM5::yM6::yM7::yM8::yM9::yN0::yN1::yN2::yN3::yN4::yN5::yN6::yN7::yN8::yN9::yO0::yO1::yO2::yO3::yO4::yO5::yO6::yO7::yO8::yO9::yP0::yP1::yP2::yP3::yP4::yP5::yP6::yP7::yP8::yP9::yQ0::yQ1::yQ2::yQ3::yQ4::yQ5::yQ6::yQ7::yQ8::yQ9::yR0::yR1::yR2::yR3::yR4::yR5::yR6::yR7::yR8::yR9::yS0::yS1::yS2::yS3::yS4::yS5::yS6::yS7::yS8::yS9::yT0::yT1::yT2::yT3::yT4::yT5::yT6::yT7::yT8::yT9::yU0::yU1::yU2::yU3::yU4::yU5::yU6::yU7::yU8::yU9::yV0::yV1::yV2::yV3::yV4::yV5::yV6::yV7::yV8::yV9::yW0::yW1::yW2::yW3::yW4::yW5::yW6::yW7::yW8::yW9::yX0::yX1::yX2::yX3::yX4::yX5::yX6::yX7::yX8::yX9::yY0::yY1::yY2::yY3::yY4::yY5::yY6::yY7::yY8::yY9::yZ0::yZ1::yZ2::yZ3::yZ4::yZ5::yZ6::yZ7::yZ8::yZ9::xa0::xa1::xa2::xa3::xa4::xa5::xa6::xa7::xa8::xa9::xb0::xb1::xb2::xb3::xb4::xb5::xb6::xb7::[]).toArray,[]⟩ w') →
  Code.wp Try.prog AN (Exit.then K Q) ⟨(x0::iv::x2::.pointer (some ⟨ub,0,none⟩)::x4::x5::.pointer (some ⟨rb,0,none⟩)::x7::.slice (some ⟨mb,0,none⟩) 4096 4096::x9::ov::.slice (some ⟨sb,0,none⟩) (m+1) scap::.pointer (some ⟨fb,0,none⟩)::.pointer (some ⟨ib,0,none⟩)::.int .i64 (np:Int)::.int .i64 0::x16::x17::x18::x19::x20::x21::x22::x23::x24::x25::x26::x27::x28::x29::x30::x31::x32::x33::x34::x35::x36::x37::x38::x39::x40::x41::x42::x43::x44::x45::x46::x47::x48::x49::x50::x51::x52::x53::x54::x55::x56::x57::x58::x59::x60::x61::x62::x63::x64::x65::x66::x67::x68::x69::x70::x71::x72::x73::x74::x75::x76::x77::x78::x79::x80::x81::x82::x83::x84::x85::x86::x87::x88::x89::x90::x91::x92::x93::x94::x95::x96::x97::x98::x99::xA0::xA1::xA2::xA3::xA4::xA5::xA6::xA7::xA8::xA9::xB0::xB1::xB2::xB3::xB4::xB5::xB6::xB7::xB8::xB9::xC0::xC1::xC2::xC3::xC4::xC5::xC6::xC7::xC8::xC9::xD0::xD1::xD2::xD3::xD4::xD5::xD6::xD7::xD8::xD9::xE0::xE1::xE2::xE3::xE4::xE5::xE6::xE7::xE8::xE9::xF0::xF1::xF2::xF3::xF4::xF5::xF6::xF7::xF8::xF9::xG0::xG1::xG2::xG3::xG4::xG5::xG6::xG7::xG8::xG9::xH0::xH1::xH2::xH3::xH4::xH5::xH6::xH7::xH8::xH9::xI0::xI1::xI2::xI3::xI4::xI5::xI6::xI7::xI8::xI9::xJ0::xJ1::xJ2::xJ3::xJ4::xJ5::xJ6::xJ7::xJ8::xJ9::xK0::xK1::xK2::xK3::xK4::xK5::xK6::xK7::xK8::xK9::xL0::xL1::xL2::xL3::xL4::xL5::xL6::xL7::xL8::xL9::xM0::xM1::xM2::xM3::xM4::xM5::xM6::xM7::xM8::xM9::xN0::xN1::xN2::xN3::xN4::xN5::xN6::xN7::xN8::xN9::xO0::xO1::xO2::xO3::xO4::xO5::xO6::xO7::xO8::xO9::xP0::xP1::xP2::xP3::xP4::xP5::xP6::xP7::xP8::xP9::xQ0::xQ1::xQ2::xQ3::xQ4::xQ5::xQ6::xQ7::xQ8::xQ9::xR0::xR1::xR2::xR3::xR4::xR5::xR6::xR7::xR8::xR9::xS0::xS1::xS2::xS3::xS4::xS5::xS6::xS7::xS8::xS9::xT0::xT1::xT2::xT3::xT4::xT5::xT6::xT7::xT8::xT9::xU0::xU1::xU2::xU3::xU4::xU5::xU6::xU7::xU8::xU9::xV0::xV1::xV2::xV3::xV4::xV5::xV6::xV7::xV8::xV9::xW0::xW1::xW2::xW3::xW4::xW5::xW6::xW7::xW8::xW9::xX0::xX1::xX2::xX3::xX4::xX5::xX6::xX7::xX8::xX9::xY0::xY1::xY2::xY3::xY4::xY5::xY6::xY7::xY8::xY9::xZ0::xZ1::xZ2::xZ3::xZ4::xZ5::xZ6::xZ7::xZ8::xZ9::xa0::xa1::xa2::xa3::xa4::xa5::xa6::xa7::xa8::xa9::xb0::xb1::xb2::xb3::xb4::xb5::xb6::xb7::[]).toArray,[]⟩ w
def KA (u:eH)(t:cU):Prop:=∃ f,u.funcs[t.k]? = some f∧t.ρ.length=f.R.toNat∧0≤t.base∧t.base+f.Fr≤4096∧t.p<f.code.length
structure LOk (u:eH)(l:List (cU × Nat)):Prop where
 fr:∀ x ∈ l,KA u x.1
 dst:∀ l1 x y l2,l=l1++x::y::l2→0≤y.1.dst→y.1.dst.toNat<x.1.ρ.length
def stk (l:List (cU × Nat)):List cU:=(l.map (·.1)).reverse
theorem aT (l:List (cU × Nat))(t:cU)(b:Nat):stk (l++[(t,b)])=t::stk l:=by simp[stk]
theorem setd_len (d v:Int)(ρ:List Int):(bB d v ρ).length=ρ.length:=by
 unfold bB
 split <;> simp
section
variable {u:eH} {t:cU} {f g:aR} {i:Ins} {E E':eX} {s:List cU}
theorem dP (hf:u.funcs[t.k]? = some f)(hi:f.code[t.p]? = some i){q:Nat}{ρ:List Int}(h:aQ i t.p t.base t.ρ E = .go q ρ E'):cW u (t::s) E = .inl ({ t with p:=q,ρ:=ρ }::s,E'):=by
 unfold cW
 simp only[hf,hi,h]
theorem cN (hf:u.funcs[t.k]? = some f)(hi:f.code[t.p]? = some i){c:Int}(h:aQ i t.p t.base t.ρ E = .stop c):cW u (t::s) E = .inr ⟨2,c,E.out⟩:=by
 unfold cW
 simp only[hf,hi,h]
theorem qR (hf:u.funcs[t.k]? = some f)(hi:f.code[t.p]? = some i)(hk:i.kind=13):cW u (t::s) E=oM t.dst (rg t.ρ i.a) E s:=by
 unfold cW
 simp only[hf,hi,show aQ i t.p t.base t.ρ E = .ret (rg t.ρ i.a) from by unfold aQ;simp[hk]]
theorem vN (hf:u.funcs[t.k]? = some f)(hi:f.code[t.p]? = some i)(hk:i.kind=8){k:Nat}(hfi:bV u.funcs i.text=some k)(hg:u.funcs[k]? = some g)(ho:4096<t.base+f.Fr+g.Fr):cW u (t::s) E = .inr ⟨3,0,E.out⟩:=by
 unfold cW
 simp only[hf,hi,show aQ i t.p t.base t.ρ E = .call i.text ((i.args.take i.n.toNat).map (rg t.ρ)) i.dst from by unfold aQ;simp[hk],hfi,hg]
 rw[if_pos ho]
theorem vO (hf:u.funcs[t.k]? = some f)(hi:f.code[t.p]? = some i)(hk:i.kind=8)(hn:0≤i.n∧i.n≤6){k:Nat}(hfi:bV u.funcs i.text=some k)(hg:u.funcs[k]? = some g)(ho:¬ 4096<t.base+f.Fr+g.Fr) :
  cW u (t::s) E = .inl (⟨k,t.base+f.Fr,0,i.dst,((i.args.take i.n.toNat).map (rg t.ρ))++List.replicate (g.R.toNat-i.n.toNat) 0⟩::{ t with p:=t.p+1 }::s,E):=by
 unfold cW
 simp only[hf,hi,show aQ i t.p t.base t.ρ E = .call i.text ((i.args.take i.n.toNat).map (rg t.ρ)) i.dst from by unfold aQ;simp[hk],hfi,hg]
 rw[if_neg ho,show ((i.args.take i.n.toNat).map (rg t.ρ)).length=i.n.toNat by simp[Ins.args];omega]
end
theorem dQ {f:aR}{i:Ins}{p q:Nat}{base:Int}{ρ ρ':List Int}{E E':eX}(hf:OkF f)(hi:f.code[p]? = some i)(h:aQ i p base ρ E = .go q ρ' E'):q<f.code.length:=by
 have hok:=hf.ok i (Mz hi)
 have hp:=(Lz hi).1
 have hs:i.kind<11→p+1<f.code.length:=fun hk=>by
  by_cases he:p+1=f.code.length
  ·have:=hf.last i (by rw[←he,Nat.add_sub_cancel];exact hi)
   omega
  ·omega
 revert h
 apply gP (P:=fun d=>d = .go q ρ' E'→q<f.code.length)
 all_goals
  intros
  rename_i h
  first
   |(cases h;done)
   |(injection h with h1 _ _;subst h1;first | exact hs (by omega) | skip)
 ·have:=hok.to_ (Or.inl (by assumption))
  omega
 ·have h1:=hok.to_ (Or.inr (by assumption))
  have h2:=hok.els (by assumption)
  split <;> omega
theorem LOk.go {u:eH}{l:List (cU × Nat)}{t t':cU}{b:Nat}(h:LOk u (l++[(t,b)]))(hk:t'.k=t.k)(hb:t'.base=t.base)(hd:t'.dst=t.dst)(hl:t'.ρ.length=t.ρ.length){f:aR}(hf:u.funcs[t.k]? = some f)(hp:t'.p<f.code.length):LOk u (l++[(t',b)]) where
 fr:=fun x hx=>by
  rcases List.mem_append.1 hx with hx|hx
  ·exact h.fr x (List.mem_append_left _ hx)
  ·obtain rfl:=List.mem_singleton.1 hx
   obtain⟨f',h1,h2,h3,h4,_⟩:=h.fr (t,b) (by simp)
   have e:f'=f:=by
    simp only at h1
    rw[hf] at h1
    injection h1 with h1
    exact h1.symm
   subst e
   exact⟨f',by simp only;rw[hk];exact hf,by simp only at h2 ⊢;rw[hl,h2],by simp only at h3 ⊢;omega,by simp only at h4 ⊢;omega,hp⟩
 dst:=fun l1 x y l2 e hd'=>by
  rcases List.eq_nil_or_concat l2 with rfl|⟨l3,z,rfl⟩
  ·have e1:l++[(t',b)]=(l1++[x])++[y]:=by simpa using e
   obtain⟨h1,h2⟩:=List.append_inj' e1 rfl
   injection h2 with h2
   subst h2
   exact h.dst l1 x (t,b) [] (by rw[h1];simp) (by simp only at hd' ⊢;omega) |> fun h3=>by simp only at h3 ⊢;rw[hd];exact h3
  ·have e1:l++[(t',b)]=(l1++x::y::l3)++[z]:=by simpa using e
   obtain⟨h1,_⟩:=List.append_inj' e1 rfl
   exact h.dst l1 x y (l3++[(t,b)]) (by rw[h1];simp) hd'
theorem LOk.pop {u:eH}{l:List (cU × Nat)}{x:cU × Nat}(h:LOk u (l++[x])):LOk u l:=⟨fun y hy=>h.fr y (List.mem_append_left _ hy),fun l1 y z l2 e=>h.dst l1 y z (l2++[x]) (by rw[e];simp)⟩
theorem LOk.push {u:eH}{l:List (cU × Nat)}{x:cU × Nat}{y:cU × Nat}(h:LOk u (l++[x]))(hy:KA u y.1)(hd:0≤y.1.dst→y.1.dst.toNat<x.1.ρ.length):LOk u ((l++[x])++[y]) where
 fr:=fun z hz=>by
  rcases List.mem_append.1 hz with hz|hz
  ·exact h.fr z hz
  ·obtain rfl:=List.mem_singleton.1 hz
   exact hy
 dst:=fun l1 z z' l2 e hd'=>by
  rcases List.eq_nil_or_concat l2 with rfl|⟨l3,c,rfl⟩
  ·have e1:(l++[x])++[y]=(l1++[z])++[z']:=by simpa using e
   obtain⟨h1,h2⟩:=List.append_inj' e1 rfl
   injection h2 with h2
   subst h2
   obtain⟨_,h3⟩:=List.append_inj' h1 rfl
   injection h3 with h3
   subst h3
   exact hd hd'
  ·have e1:(l++[x])++[y]=(l1++z::z'::l3)++[c]:=by simpa using e
   obtain⟨h1,_⟩:=List.append_inj' e1 rfl
   exact h.dst l1 z z' l3 h1 hd'
end Go.Proofs.Ytkcclefonmnpnaa
