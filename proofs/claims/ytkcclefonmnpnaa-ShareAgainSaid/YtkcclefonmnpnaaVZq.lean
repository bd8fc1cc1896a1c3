import Derived.Test.YtkcclefonmnpnaaVZj
import Derived.Test.YtkcclefonmnpnaaVZg2
set_option maxRecDepth 1000000
set_option maxHeartbeats 16000000
namespace Go.Proofs.Ytkcclefonmnpnaa
open Go.RowKit Go.BigFrame
noncomputable def NE:Code:=((((Try.f62.body).map cE).getD [])[0]?).getD .skip
noncomputable def NU:Code:=((((Try.f62.body).map cE).getD [])[1]?).getD .skip
def uI (G:Nat→Bool)(N k:Nat):List Value:=(List.range N).map fun j=>.int .i64 (if j<k then (cT G j:Int) else 0)
theorem eG {G:Nat→Bool}{N k j:Nat}(hj:j<N):(uI G N k)[j]? = some (.int .i64 (if j<k then (cT G j:Int) else 0)):=by simp[uI,hj]
theorem tZ (G:Nat→Bool)(N:Nat):uI G N 0=List.replicate N (.int .i64 0):=by
 apply List.ext_getElem?
 intro j
 by_cases hj:j<N
 ·rw[eG hj,if_neg (Nat.not_lt_zero j)];simp[hj]
 ·rw[List.getElem?_eq_none (by simp[uI];omega),List.getElem?_eq_none (by simp;omega)]
theorem EK {G:Nat→Bool}{N k:Nat}(hk:k<N):(uI G N k).set k (.int .i64 (cT G k:Int))=uI G N (k+1):=by
 apply List.ext_getElem?
 intro j
 by_cases hj:j<N
 ·rw[List.getElem?_set,eG hj,eG hj]
  by_cases h1:k=j
  ·subst h1;rw[if_pos rfl,if_pos (by simp[uI,hk]),if_pos (by omega)]
  ·rw[if_neg h1]
   by_cases h2:j<k
   ·rw[if_pos h2,if_pos (by omega)]
   ·rw[if_neg h2,if_neg (by omega)]
 ·rw[List.getElem?_eq_none (by simp[uI];omega),List.getElem?_eq_none (by simp[uI];omega)]
def cQ (G:Nat→Bool)(l:List Ins)(k:Nat):List Ins:=(kl G k).map (bA l)
theorem fP (G:Nat→Bool)(l:List Ins)(k:Nat):(cQ G l k).length=cT G k:=by simp[cQ,cT]
theorem pI (G:Nat→Bool)(l:List Ins)(k:Nat):cQ G l (k+1)=if G k=true then cQ G l k else cQ G l k++[bA l k]:=by
 unfold cQ
 rw[nW]
 split <;> simp
theorem CB (w:World)(o:Obj)(p:Addr)(v:Value):((w.setCell p v).alloc o).heap.size=w.heap.size+1:=by simp
structure Wo1 (W wr:World)(G:Nat→Bool)(l:List Ins)(N k:Nat)(V:Value):Prop where
 t:Pre g1 1 3 wr W.heap.size (uI G N k)
 o:OwnI wr (W.heap.size+1) V (cQ G l k)
 b:Below W.heap.size W wr
theorem OwnI.base2 {w:World}{base:Nat}{V:Value}{l:List Ins}(h:OwnI w base V l):∀ g,V.ownBlock=some g→base≤g:=fun g hg=>by
 obtain⟨_,h2⟩:=h
 rcases h2 with ⟨rfl,_⟩|⟨g',cap,cur,rfl,hB,_⟩
 ·cases hg
 ·simp[Value.ownBlock] at hg
  omega
theorem OwnI.form {w:World}{base:Nat}{V:Value}{l:List Ins}(h:OwnI w base V l):∃ A cap,V = .slice A l.length cap:=by
 obtain⟨_,h2⟩:=h
 rcases h2 with ⟨rfl,h0⟩|⟨g',cap,cur,rfl,hB,_⟩
 ·exact⟨none,0,by rw[h0]⟩
 ·exact⟨_,cap,rfl⟩
theorem Wo1.mark {W wr:World}{G:Nat→Bool}{l:List Ins}{N k:Nat}{V:Value}(h:Wo1 W wr G l N k V)(hk:k<N){o:Obj} :
  Pre g1 1 3 ((wr.alloc o).setCell ⟨W.heap.size,k,none⟩ (.int .i64 (cT G k:Int))) W.heap.size (uI G N (k+1))∧OwnI ((wr.alloc o).setCell ⟨W.heap.size,k,none⟩ (.int .i64 (cT G k:Int))) (W.heap.size+1) V (cQ G l k)∧Below W.heap.size W ((wr.alloc o).setCell ⟨W.heap.size,k,none⟩ (.int .i64 (cT G k:Int))):=by
 have hb:=Below.one wr o
 have h1:=Pre1.set (Pre.later h.t hb) (j:=k) (by simp[uI,hk]) (.int .i64 (cT G k:Int))
 rw[EK hk] at h1
 refine⟨h1,h.o.keep fun g hg hl _=>?_,(h.b.alloc h.b.size _).setCell (Nat.le_refl _) _⟩
 rw[heap_setCell_other (wr.alloc o) ⟨W.heap.size,k,none⟩ g _ (by simp only;omega)]
 exact hb.block g hl
theorem CC (G:Nat→Bool)(l:List Ins)(N:Nat)(hN:l.length=N)(hN2:N≤8192)(C:Option Addr)(cap:Nat)(W w:World)(hC:RdI W C l)(cb:Nat)
  (hG:∀ W',Below W.heap.size W W'→∀ p:Nat,p<N→Calls Try.prog 63 #[.int .i64 p,.pointer (some ⟨cb,0,none⟩)] W' fun e w'=>e = .returned (.bool (G p))∧W'=w')
  (h0:Wo1 W w G l N 0 (.slice none 0 0))
  {x0 x2 x3 x4 x7 x8 x9 x10 x11 x12 x13 x14 x15 x19 x20 x21 x22 x23 x24 x25 x26 x27 x28 x29 x30 x31 x32 x33 x34 x35 x36 x37 x38 x39 x40 x41 x42 x43 x44 x45 x46 x47 x48 x49 x50 x51 x52 x53 x54 x55 x56 x57 x58 x59 x60 x61 x62 x63 x64 x65 x66 x67 x68 x69 x70 x71 x72 x73 x74 x75 x76:Value} (Q:Exit→Act→World→Prop)
  (hexit:∀ (y6 y7 y8 y19 y20 y21 y22 y23 y24 y25 y26 y27 y28 y29 y30 y31 y32 y33 y34 y35 y36:Value) (w':World),Wo1 W w' G l N N y6→Q (.exit 0) ⟨(x0::.func (.func 63) #[] #[.pointer (some ⟨cb,0,none⟩)]::x2::x3::x4::.slice (some ⟨W.heap.size,0,none⟩) N N::y6::y7::y8::x9::x10::x11::x12::x13::x14::x15::.slice C N cap::.int .i64 (N:Int)::.int .i64 (N:Int)::y19::y20::y21::y22::y23::y24::y25::y26::y27::y28::y29::y30::y31::y32::y33::y34::y35::y36::x37::x38::x39::x40::x41::x42::x43::x44::x45::x46::x47::x48::x49::x50::x51::x52::x53::x54::x55::x56::x57::x58::x59::x60::x61::x62::x63::x64::x65::x66::x67::x68::x69::x70::x71::x72::x73::x74::x75::x76::[]).toArray,[]⟩ w') :
  Code.wp Try.prog NE Q ⟨(x0::.func (.func 63) #[] #[.pointer (some ⟨cb,0,none⟩)]::x2::x3::x4::.slice (some ⟨W.heap.size,0,none⟩) N N::.slice none 0 0::x7::x8::x9::x10::x11::x12::x13::x14::x15::.slice C N cap::.int .i64 (N:Int)::.int .i64 0::x19::x20::x21::x22::x23::x24::x25::x26::x27::x28::x29::x30::x31::x32::x33::x34::x35::x36::x37::x38::x39::x40::x41::x42::x43::x44::x45::x46::x47::x48::x49::x50::x51::x52::x53::x54::x55::x56::x57::x58::x59::x60::x61::x62::x63::x64::x65::x66::x67::x68::x69::x70::x71::x72::x73::x74::x75::x76::[]).toArray,[]⟩ w:=by
 conv=>arg 2;whnf
 have HE:=Hz hexit
 have HN:=Hz hN
 have HC:=Hz hC
 have HG:=Hz hG
 have H0:=Hz h0
 clear hexit hN hC hG h0
 go_loopw [6,18] (fun V ix wr=>∃ k:Nat,k≤N∧ix = .int .i64 k∧Wo1 W wr G l N k V) (fun _ ix _=>N-(intOf ix).toNat)
 case atStart=>exact⟨0,by omega,rfl,H0.out⟩
 case round =>
  obtain⟨k,hk,rfl,hw⟩:=hrel
  clear H0
  by_cases hlt:k<N
  ·have hi:=cH (l:=l) (p:=k) (by rw[HN.out];exact hlt)
   obtain⟨bb,oo,rfl,hbl,hcs⟩:=(HC.out.below hw.b) k _ hi
   obtain⟨x0,x1,x2,x3,x4,x5,x6,x7,x8,x9,x10,x11,x12,x13,x14⟩:=RdI.load hcs
   obtain⟨VA,vc,hVf⟩:=hw.o.form
   rw[fP] at hVf
   have hct:=Pre1.cell hw.t (eG (G:=G) (k:=k) hlt)
   have hcf:=Pre.free hw.t k
   have htl:=Pre.lt hw.t
   have hkl:=fD G k
   have hks:=pI G l k
   have hm:=hw.mark hlt (o:=(bA l k).obj)
   have kx:=heap_alloc_new wr (bA l k).obj
   have HW:=Hz hw
   generalize bA l k=i at *
   obtain⟨kk,op,dst,a',b',n,text,r0,r1,r2,r3,r4,r5,to_,els⟩:=i
   simp only[Ins.obj] at x0 x1 x2 x3 x4 x5 x6 x7 x8 x9 x10 x11 x12 x13 x14 hm kx
   have HM:=Hz hm
   have HKS:=Hz hks
   have hkx2:((wr.alloc (.cells #[.int .i64 kk,.int .i64 op,.int .i64 dst,.int .i64 a',.int .i64 b',.int .i64 n,.string text,.int .i64 r0,.int .i64 r1,.int .i64 r2,.int .i64 r3,.int .i64 r4,.int .i64 r5,.int .i64 to_,.int .i64 els] 32)).setCell ⟨W.heap.size,k,none⟩ (.int .i64 (cT G k:Int))).heap[wr.heap.size]? = _:=(heap_setCell_other _ ⟨W.heap.size,k,none⟩ wr.heap.size _ (by simp only;omega)).trans kx
   have ⟨d0,d1,d2,d3,d4,d5,d6,d7,d8,d9,d10,d11,d12,d13,d14⟩:=Ins.cells (i:=⟨kk,op,dst,a',b',n,text,r0,r1,r2,r3,r4,r5,to_,els⟩) hkx2
   simp only at d0 d1 d2 d3 d4 d5 d6 d7 d8 d9 d10 d11 d12 d13 d14
   have hge:=HG.out _ HM.out.2.2 k hlt
   have hins:=nE HM.out.2.1 ⟨kk,op,dst,a',b',n,text,r0,r1,r2,r3,r4,r5,to_,els⟩ (by rw[fP];omega) (by have:=HW.out.b.size;simp;omega) 3
   have epast:=World.setCell_alloc_past (w:=wr) (.cells #[.int .i64 kk,.int .i64 op,.int .i64 dst,.int .i64 a',.int .i64 b',.int .i64 n,.string text,.int .i64 r0,.int .i64 r1,.int .i64 r2,.int .i64 r3,.int .i64 r4,.int .i64 r5,.int .i64 to_,.int .i64 els] 32) W.heap.size k (.int .i64 (cT G k:Int)) htl
   rw[epast] at hge hins d0 d1 d2 d3 d4 d5 d6 d7 d8 d9 d10 d11 d12 d13 d14 HM
   clear epast
   clear hw hi hm hks hcs kx hkx2
   cases hgk:G k with
   | true =>
    rw[hgk] at hge
    have HGE:=Hz hge
    have HNX:Hid (cQ G l (k+1)=cQ G l k):=Hz (by rw[HKS.out,if_pos hgk])
    clear hge hgk hins
    subst hVf
    go_wp2_with fail
    refine HGE.out.mono ?_
    rintro e w5 ⟨rfl,rfl⟩
    go_wp2
    exact⟨⟨k+1,by omega,by go_num,⟨HM.out.1,by rw[HNX.out];exact HM.out.2.1,HM.out.2.2⟩⟩,by simp[intOf];omega⟩
   | false =>
    rw[hgk] at hge
    have HGE:=Hz hge
    have HNX:Hid (cQ G l (k+1)=cQ G l k++[⟨kk,op,dst,a',b',n,text,r0,r1,r2,r3,r4,r5,to_,els⟩]):=Hz (by rw[HKS.out,if_neg (by rw[hgk];simp)])
    obtain⟨V',W',hap,hO,hg,_⟩:=hins
    have hT2:Pre g1 1 3 W' W.heap.size (uI G N (k+1)):=by
     have h1:=Pre.later HM.out.1 (Below.one _ (.cells (Ins.l ⟨kk,op,dst,a',b',n,text,r0,r1,r2,r3,r4,r5,to_,els⟩).toArray 32))
     exact h1.of_heap (hg.block _ (Pre.lt h1) (fun e=>by have:=HW.out.o.base2 _ e.symm;omega))
    have hB2:Below W.heap.size W W':=Below.grown (HM.out.2.2.alloc HM.out.2.2.size _) hg (by have:=HM.out.2.2.size;simp at this ⊢;omega) (fun b hb=>by have:=HW.out.o.base2 _ hb;omega)
    have HR:=Hz (show Wo1 W W' G l N (k+1) V' from ⟨hT2,by rw[HNX.out];exact hO,hB2⟩)
    simp only[Ins.l,CB] at hap
    clear hge hgk hO hg hT2 hB2
    subst hVf
    go_wp2_with fail
    refine HGE.out.mono ?_
    rintro e w5 ⟨rfl,rfl⟩
    go_wp2_with (first
     |(refine bW (o:=⟨some 35,_,_,_,_,_⟩) rfl (.tmp 32) (.tmp 34) rfl rfl rfl hap ?_))
    exact⟨⟨k+1,by omega,by go_num,HR.out⟩,by simp[intOf];omega⟩
  ·obtain rfl:k=N:=by omega
   have HX:=fun (y7 y8 y19 y20 y21 y22 y23 y24 y25 y26 y27 y28 y29 y30 y31 y32 y33 y34 y35 y36:Value)=>Hz (HE.out u6 y7 y8 y19 y20 y21 y22 y23 y24 y25 y26 y27 y28 y29 y30 y31 y32 y33 y34 y35 y36 wr hw)
   clear hw HE
   go_wp2
   exact (HX _ _ _ _ _ _ _ _ _ _ _ _ _ _ _ _ _ _ _ _).out
theorem CD (G:Nat→Bool)(l:List Ins)(N:Nat)(hN:l.length=N)(hN2:N≤8192)(C:Option Addr)(cap:Nat)(W w:World)(hC:RdI W C l)(cb:Nat)
  (hG:∀ W',Below W.heap.size W W'→∀ p:Nat,p<N→Calls Try.prog 64 #[.int .i64 p,.pointer (some ⟨cb,0,none⟩)] W' fun e w'=>e = .returned (.bool (G p))∧W'=w')
  (h0:Wo1 W w G l N 0 (.slice none 0 0))
  {x0 x2 x3 x4 x7 x8 x9 x10 x11 x12 x13 x14 x15 x19 x20 x21 x22 x23 x24 x25 x26 x27 x28 x29 x30 x31 x32 x33 x34 x35 x36 x37 x38 x39 x40 x41 x42 x43 x44 x45 x46 x47 x48 x49 x50 x51 x52 x53 x54 x55 x56 x57 x58 x59 x60 x61 x62 x63 x64 x65 x66 x67 x68 x69 x70 x71 x72 x73 x74 x75 x76:Value} (Q:Exit→Act→World→Prop)
  (hexit:∀ (y6 y7 y8 y19 y20 y21 y22 y23 y24 y25 y26 y27 y28 y29 y30 y31 y32 y33 y34 y35 y36:Value) (w':World),Wo1 W w' G l N N y6→Q (.exit 0) ⟨(x0::.func (.func 64) #[] #[.pointer (some ⟨cb,0,none⟩)]::x2::x3::x4::.slice (some ⟨W.heap.size,0,none⟩) N N::y6::y7::y8::x9::x10::x11::x12::x13::x14::x15::.slice C N cap::.int .i64 (N:Int)::.int .i64 (N:Int)::y19::y20::y21::y22::y23::y24::y25::y26::y27::y28::y29::y30::y31::y32::y33::y34::y35::y36::x37::x38::x39::x40::x41::x42::x43::x44::x45::x46::x47::x48::x49::x50::x51::x52::x53::x54::x55::x56::x57::x58::x59::x60::x61::x62::x63::x64::x65::x66::x67::x68::x69::x70::x71::x72::x73::x74::x75::x76::[]).toArray,[]⟩ w') :
  Code.wp Try.prog NE Q ⟨(x0::.func (.func 64) #[] #[.pointer (some ⟨cb,0,none⟩)]::x2::x3::x4::.slice (some ⟨W.heap.size,0,none⟩) N N::.slice none 0 0::x7::x8::x9::x10::x11::x12::x13::x14::x15::.slice C N cap::.int .i64 (N:Int)::.int .i64 0::x19::x20::x21::x22::x23::x24::x25::x26::x27::x28::x29::x30::x31::x32::x33::x34::x35::x36::x37::x38::x39::x40::x41::x42::x43::x44::x45::x46::x47::x48::x49::x50::x51::x52::x53::x54::x55::x56::x57::x58::x59::x60::x61::x62::x63::x64::x65::x66::x67::x68::x69::x70::x71::x72::x73::x74::x75::x76::[]).toArray,[]⟩ w:=by
 conv=>arg 2;whnf
 have HE:=Hz hexit
 have HN:=Hz hN
 have HC:=Hz hC
 have HG:=Hz hG
 have H0:=Hz h0
 clear hexit hN hC hG h0
 go_loopw [6,18] (fun V ix wr=>∃ k:Nat,k≤N∧ix = .int .i64 k∧Wo1 W wr G l N k V) (fun _ ix _=>N-(intOf ix).toNat)
 case atStart=>exact⟨0,by omega,rfl,H0.out⟩
 case round =>
  obtain⟨k,hk,rfl,hw⟩:=hrel
  clear H0
  by_cases hlt:k<N
  ·have hi:=cH (l:=l) (p:=k) (by rw[HN.out];exact hlt)
   obtain⟨bb,oo,rfl,hbl,hcs⟩:=(HC.out.below hw.b) k _ hi
   obtain⟨x0,x1,x2,x3,x4,x5,x6,x7,x8,x9,x10,x11,x12,x13,x14⟩:=RdI.load hcs
   obtain⟨VA,vc,hVf⟩:=hw.o.form
   rw[fP] at hVf
   have hct:=Pre1.cell hw.t (eG (G:=G) (k:=k) hlt)
   have hcf:=Pre.free hw.t k
   have htl:=Pre.lt hw.t
   have hkl:=fD G k
   have hks:=pI G l k
   have hm:=hw.mark hlt (o:=(bA l k).obj)
   have kx:=heap_alloc_new wr (bA l k).obj
   have HW:=Hz hw
   generalize bA l k=i at *
   obtain⟨kk,op,dst,a',b',n,text,r0,r1,r2,r3,r4,r5,to_,els⟩:=i
   simp only[Ins.obj] at x0 x1 x2 x3 x4 x5 x6 x7 x8 x9 x10 x11 x12 x13 x14 hm kx
   have HM:=Hz hm
   have HKS:=Hz hks
   have hkx2:((wr.alloc (.cells #[.int .i64 kk,.int .i64 op,.int .i64 dst,.int .i64 a',.int .i64 b',.int .i64 n,.string text,.int .i64 r0,.int .i64 r1,.int .i64 r2,.int .i64 r3,.int .i64 r4,.int .i64 r5,.int .i64 to_,.int .i64 els] 32)).setCell ⟨W.heap.size,k,none⟩ (.int .i64 (cT G k:Int))).heap[wr.heap.size]? = _:=(heap_setCell_other _ ⟨W.heap.size,k,none⟩ wr.heap.size _ (by simp only;omega)).trans kx
   have ⟨d0,d1,d2,d3,d4,d5,d6,d7,d8,d9,d10,d11,d12,d13,d14⟩:=Ins.cells (i:=⟨kk,op,dst,a',b',n,text,r0,r1,r2,r3,r4,r5,to_,els⟩) hkx2
   simp only at d0 d1 d2 d3 d4 d5 d6 d7 d8 d9 d10 d11 d12 d13 d14
   have hge:=HG.out _ HM.out.2.2 k hlt
   have hins:=nE HM.out.2.1 ⟨kk,op,dst,a',b',n,text,r0,r1,r2,r3,r4,r5,to_,els⟩ (by rw[fP];omega) (by have:=HW.out.b.size;simp;omega) 3
   have epast:=World.setCell_alloc_past (w:=wr) (.cells #[.int .i64 kk,.int .i64 op,.int .i64 dst,.int .i64 a',.int .i64 b',.int .i64 n,.string text,.int .i64 r0,.int .i64 r1,.int .i64 r2,.int .i64 r3,.int .i64 r4,.int .i64 r5,.int .i64 to_,.int .i64 els] 32) W.heap.size k (.int .i64 (cT G k:Int)) htl
   rw[epast] at hge hins d0 d1 d2 d3 d4 d5 d6 d7 d8 d9 d10 d11 d12 d13 d14 HM
   clear epast
   clear hw hi hm hks hcs kx hkx2
   cases hgk:G k with
   | true =>
    rw[hgk] at hge
    have HGE:=Hz hge
    have HNX:Hid (cQ G l (k+1)=cQ G l k):=Hz (by rw[HKS.out,if_pos hgk])
    clear hge hgk hins
    subst hVf
    go_wp2_with fail
    refine HGE.out.mono ?_
    rintro e w5 ⟨rfl,rfl⟩
    go_wp2
    exact⟨⟨k+1,by omega,by go_num,⟨HM.out.1,by rw[HNX.out];exact HM.out.2.1,HM.out.2.2⟩⟩,by simp[intOf];omega⟩
   | false =>
    rw[hgk] at hge
    have HGE:=Hz hge
    have HNX:Hid (cQ G l (k+1)=cQ G l k++[⟨kk,op,dst,a',b',n,text,r0,r1,r2,r3,r4,r5,to_,els⟩]):=Hz (by rw[HKS.out,if_neg (by rw[hgk];simp)])
    obtain⟨V',W',hap,hO,hg,_⟩:=hins
    have hT2:Pre g1 1 3 W' W.heap.size (uI G N (k+1)):=by
     have h1:=Pre.later HM.out.1 (Below.one _ (.cells (Ins.l ⟨kk,op,dst,a',b',n,text,r0,r1,r2,r3,r4,r5,to_,els⟩).toArray 32))
     exact h1.of_heap (hg.block _ (Pre.lt h1) (fun e=>by have:=HW.out.o.base2 _ e.symm;omega))
    have hB2:Below W.heap.size W W':=Below.grown (HM.out.2.2.alloc HM.out.2.2.size _) hg (by have:=HM.out.2.2.size;simp at this ⊢;omega) (fun b hb=>by have:=HW.out.o.base2 _ hb;omega)
    have HR:=Hz (show Wo1 W W' G l N (k+1) V' from ⟨hT2,by rw[HNX.out];exact hO,hB2⟩)
    simp only[Ins.l,CB] at hap
    clear hge hgk hO hg hT2 hB2
    subst hVf
    go_wp2_with fail
    refine HGE.out.mono ?_
    rintro e w5 ⟨rfl,rfl⟩
    go_wp2_with (first
     |(refine bW (o:=⟨some 35,_,_,_,_,_⟩) rfl (.tmp 32) (.tmp 34) rfl rfl rfl hap ?_))
    exact⟨⟨k+1,by omega,by go_num,HR.out⟩,by simp[intOf];omega⟩
  ·obtain rfl:k=N:=by omega
   have HX:=fun (y7 y8 y19 y20 y21 y22 y23 y24 y25 y26 y27 y28 y29 y30 y31 y32 y33 y34 y35 y36:Value)=>Hz (HE.out u6 y7 y8 y19 y20 y21 y22 y23 y24 y25 y26 y27 y28 y29 y30 y31 y32 y33 y34 y35 y36 wr hw)
   clear hw HE
   go_wp2
   exact (HX _ _ _ _ _ _ _ _ _ _ _ _ _ _ _ _ _ _ _ _).out
def jJ (G:Nat→Bool)(l:List Ins)(k:Nat):List Ins:=(List.range l.length).map fun j=>if j<k then cY G (bA l j) else bA l j
theorem fX {G:Nat→Bool}{l:List Ins}{k j:Nat}(hj:j<l.length):(jJ G l k)[j]? = some (if j<k then cY G (bA l j) else bA l j):=by simp[jJ,hj]
theorem fY (G:Nat→Bool)(l:List Ins)(k:Nat):(jJ G l k).length=l.length:=by simp[jJ]
theorem rD (G:Nat→Bool)(l:List Ins):jJ G l 0=l:=by
 apply List.ext_getElem?
 intro j
 by_cases hj:j<l.length
 ·rw[fX hj,if_neg (Nat.not_lt_zero j),cH hj]
 ·rw[List.getElem?_eq_none (by rw[fY];omega),List.getElem?_eq_none (by omega)]
theorem uA (G:Nat→Bool)(l:List Ins):jJ G l l.length=l.map (cY G):=by
 apply List.ext_getElem?
 intro j
 by_cases hj:j<l.length
 ·rw[fX hj,if_pos hj,List.getElem?_map,cH hj];rfl
 ·rw[List.getElem?_eq_none (by rw[fY];omega),List.getElem?_eq_none (by simp;omega)]
theorem pJ {G:Nat→Bool}{l:List Ins}{k:Nat}(hk:k<l.length){i:Ins}(hi:i=cY G (bA l k)):(jJ G l k).set k i=jJ G l (k+1):=by
 subst hi
 apply List.ext_getElem?
 intro j
 by_cases hj:j<l.length
 ·rw[List.getElem?_set,fX hj,fX hj]
  by_cases h1:k=j
  ·subst h1;rw[if_pos rfl,if_pos (by rw[fY];exact hk),if_pos (by omega)]
  ·rw[if_neg h1]
   by_cases h2:j<k
   ·rw[if_pos h2,if_pos (by omega)]
   ·rw[if_neg h2,if_neg (by omega)]
 ·rw[List.getElem?_eq_none (by rw[List.length_set,fY];omega),List.getElem?_eq_none (by rw[fY];omega)]
theorem zI {G:Nat→Bool}{l:List Ins}{k:Nat}(hk:k<l.length)(h:cY G (bA l k)=bA l k):jJ G l (k+1)=jJ G l k:=by
 have h1:(jJ G l k).set k (bA l k)=jJ G l (k+1):=pJ hk h.symm
 rw[←h1]
 apply List.ext_getElem?
 intro j
 rw[List.getElem?_set]
 by_cases h2:k=j
 ·subst h2
  rw[if_pos rfl,if_pos (by rw[fY];exact hk),fX hk,if_neg (by omega)]
 ·rw[if_neg h2]
theorem PreI.st13 {W:World}{g k:Nat}{l:List Ins}{i:Ins}(h:PreI W g l)(hi:l[k]? = some i)(v:Int):PreI (W.setCell ⟨g,k*15+13,none⟩ (.int .i64 v)) g (l.set k { i with to_:=v }) :=
 Pre.store h hi (by omega) rfl rfl (fun k' hk'=>by
  obtain⟨kk,op,dst,a',b',n,text,r0,r1,r2,r3,r4,r5,to_,els⟩:=i
  match k',hk' with
  | 0,_ | 1,_ | 2,_ | 3,_ | 4,_ | 5,_ | 6,_ | 7,_ | 8,_ | 9,_ | 10,_ | 11,_ | 12,_ | 14,_=>rfl
  | 13,h=>exact absurd rfl h
  | n+15,_=>rfl)
theorem PreI.st14 {W:World}{g k:Nat}{l:List Ins}{i:Ins}(h:PreI W g l)(hi:l[k]? = some i)(v:Int):PreI (W.setCell ⟨g,k*15+14,none⟩ (.int .i64 v)) g (l.set k { i with els:=v }) :=
 Pre.store h hi (by omega) rfl rfl (fun k' hk'=>by
  obtain⟨kk,op,dst,a',b',n,text,r0,r1,r2,r3,r4,r5,to_,els⟩:=i
  match k',hk' with
  | 0,_ | 1,_ | 2,_ | 3,_ | 4,_ | 5,_ | 6,_ | 7,_ | 8,_ | 9,_ | 10,_ | 11,_ | 12,_ | 13,_=>rfl
  | 14,h=>exact absurd rfl h
  | n+15,_=>rfl)
structure Wo2 (W wr:World)(G:Nat→Bool)(l:List Ins)(N g k:Nat):Prop where
 t:Pre g1 1 3 wr W.heap.size (uI G N N)
 i:PreI wr g (jJ G l k)
 b:Below W.heap.size W wr
theorem Wo2.box {W wr:World}{G:Nat→Bool}{l:List Ins}{N g k k':Nat}(h:Wo2 W wr G l N g k)(he:jJ G l k'=jJ G l k)(o:Obj):Wo2 W (wr.alloc o) G l N g k' :=
 ⟨Pre.later h.t (Below.one wr o),by rw[he];exact Pre.later h.i (Below.one wr o),h.b.alloc h.b.size _⟩
theorem Wo2.st13 {W wr:World}{G:Nat→Bool}{l:List Ins}{N g k:Nat}(h:Wo2 W wr G l N g k)(hgW:W.heap.size<g)(hk:k<l.length)(v:Int) :
  Pre g1 1 3 (wr.setCell ⟨g,k*15+13,none⟩ (.int .i64 v)) W.heap.size (uI G N N)∧PreI (wr.setCell ⟨g,k*15+13,none⟩ (.int .i64 v)) g ((jJ G l k).set k { bA l k with to_:=v })∧Below W.heap.size W (wr.setCell ⟨g,k*15+13,none⟩ (.int .i64 v)) :=
 ⟨Pre.other h.t (by simp only;omega) _,PreI.st13 h.i (by rw[fX hk,if_neg (by omega)]) v,h.b.setCell (by simp only;omega) _⟩
theorem Wo2.j {W wr:World}{G:Nat→Bool}{l:List Ins}{N g k:Nat}(h:Wo2 W wr G l N g k)(hgW:W.heap.size<g)(hk:k<l.length)(h11:(bA l k).kind=11)(o:Obj) :
  Wo2 W ((wr.setCell ⟨g,k*15+13,none⟩ (.int .i64 (cT G (bA l k).to_.toNat:Int))).alloc o) G l N g (k+1):=by
 obtain⟨h1,h2,h3⟩:=h.st13 hgW hk (cT G (bA l k).to_.toNat:Int)
 rw[pJ hk (by simp[cY,h11])] at h2
 exact Wo2.box (k:=k+1) ⟨h1,h2,h3⟩ rfl o
theorem Wo2.br {W wr:World}{G:Nat→Bool}{l:List Ins}{N g k:Nat}(h:Wo2 W wr G l N g k)(hgW:W.heap.size<g)(hk:k<l.length)(h12:(bA l k).kind=12)(o:Obj) :
  Wo2 W (((wr.setCell ⟨g,k*15+13,none⟩ (.int .i64 (cT G (bA l k).to_.toNat:Int))).setCell ⟨g,k*15+14,none⟩ (.int .i64 (cT G (bA l k).els.toNat:Int))).alloc o) G l N g (k+1):=by
 obtain⟨h1,h2,h3⟩:=h.st13 hgW hk (cT G (bA l k).to_.toNat:Int)
 have h4:=PreI.st14 h2 (List.getElem?_set_self (by rw[fY];exact hk)) (cT G (bA l k).els.toNat:Int)
 rw[List.set_set,pJ hk (by simp[cY,h12])] at h4
 exact Wo2.box (k:=k+1) ⟨Pre.other h1 (by simp only;omega) _,h4,h3.setCell (by simp only;omega) _⟩ rfl o
theorem xN (G:Nat→Bool)(l:List Ins)(N M:Nat)(hM:l.length=M)(hM2:M≤8192)(g cap:Nat)(W w:World)(hgW:W.heap.size<g)
  (hto:∀ (j:Nat) i,l[j]? = some i→i.kind=11∨i.kind=12→∃ tt:Nat,i.to_=tt∧tt<N)
  (hel:∀ (j:Nat) i,l[j]? = some i→i.kind=12→∃ ee:Nat,i.els=ee∧ee<N)
  (h0:Wo2 W w G l N g 0)
  {x0 x1 x2 x3 x4 x7 x8 x9 x10 x11 x12 x13 x14 x15 x16 x17 x18 x19 x20 x21 x22 x23 x24 x25 x26 x27 x28 x29 x30 x31 x32 x33 x34 x35 x36 x40 x41 x42 x43 x44 x45 x46 x47 x48 x49 x50 x51 x52 x53 x54 x55 x56 x57 x58 x59 x60 x61 x62 x63 x64 x65 x66 x67 x68 x69 x70 x71 x72 x73 x74 x75 x76:Value} (Q:Exit→Act→World→Prop)
  (hexit:∀ (y9 y10 y40 y41 y42 y43 y44 y45 y46 y47 y48 y49 y50 y51 y52 y53 y54 y55 y56 y57 y58 y59 y60 y61 y62 y63 y64 y65 y66 y67 y68 y69 y70 y71 y72 y73:Value) (w':World),Wo2 W w' G l N g M→Q (.exit 2) ⟨(x0::x1::x2::x3::x4::.slice (some ⟨W.heap.size,0,none⟩) N N::.slice (some ⟨g,0,none⟩) M cap::x7::x8::y9::y10::x11::x12::x13::x14::x15::x16::x17::x18::x19::x20::x21::x22::x23::x24::x25::x26::x27::x28::x29::x30::x31::x32::x33::x34::x35::x36::.slice (some ⟨g,0,none⟩) M cap::.int .i64 (M:Int)::.int .i64 (M:Int)::y40::y41::y42::y43::y44::y45::y46::y47::y48::y49::y50::y51::y52::y53::y54::y55::y56::y57::y58::y59::y60::y61::y62::y63::y64::y65::y66::y67::y68::y69::y70::y71::y72::y73::x74::x75::x76::[]).toArray,[]⟩ w') :
  Code.wp Try.prog NU Q ⟨(x0::x1::x2::x3::x4::.slice (some ⟨W.heap.size,0,none⟩) N N::.slice (some ⟨g,0,none⟩) M cap::x7::x8::x9::x10::x11::x12::x13::x14::x15::x16::x17::x18::x19::x20::x21::x22::x23::x24::x25::x26::x27::x28::x29::x30::x31::x32::x33::x34::x35::x36::.slice (some ⟨g,0,none⟩) M cap::.int .i64 (M:Int)::.int .i64 0::x40::x41::x42::x43::x44::x45::x46::x47::x48::x49::x50::x51::x52::x53::x54::x55::x56::x57::x58::x59::x60::x61::x62::x63::x64::x65::x66::x67::x68::x69::x70::x71::x72::x73::x74::x75::x76::[]).toArray,[]⟩ w:=by
 conv=>arg 2;whnf
 have HE:=Hz hexit
 have HM:=Hz hM
 have HT:=Hz hto
 have HL:=Hz hel
 have H0:=Hz h0
 have HG:=Hz hgW
 clear hexit hM hto hel h0
 go_loopw [39] (fun ix wr=>∃ k:Nat,k≤M∧ix = .int .i64 k∧Wo2 W wr G l N g k) (fun ix _=>M-(intOf ix).toNat)
 case atStart=>exact⟨0,by omega,rfl,H0.out⟩
 case round =>
  obtain⟨k,hk,rfl,hw⟩:=hrel
  clear H0
  by_cases hlt:k<M
  ·have hkl:k<l.length:=by rw[HM.out];exact hlt
   have hi:(jJ G l k)[k]? = some (bA l k):=by rw[fX hkl,if_neg (by omega)]
   have hli:=cH hkl
   obtain⟨bb,oo,he,hbl,hcs⟩:=hw.i.read k _ hi
   cases he
   obtain⟨x0,x1,x2,x3,x4,x5,x6,x7,x8,x9,x10,x11,x12,x13,x14⟩:=RdI.load hcs
   have ht2:=HT.out k _ hli
   have he2:=HL.out k _ hli
   have hcf:=Pre.free hw.i
   have hgl:=Pre.lt hw.i
   have htl:=Pre.lt hw.t
   have hj:=fun h11=>hw.j hgW hkl h11 (bA l k).obj
   have hbr:=fun h12=>hw.br hgW hkl h12 (bA l k).obj
   have hsame:=fun h=>hw.box (zI hkl h) (bA l k).obj
   have hf11:(bA l k).kind≠11→(bA l k).kind≠12→cY G (bA l k)=bA l k:=fun h1 h2=>by
    generalize bA l k=i at *
    obtain⟨kk,op,dst,a',b',n,text,r0,r1,r2,r3,r4,r5,to_,els⟩:=i
    simp only at h1 h2
    simp[cY,h1,h2]
   have hnx:Hid ((bA l k).kind≠11→(bA l k).kind≠12→Wo2 W (wr.alloc (bA l k).obj) G l N g (k+1)):=Hz fun h1 h2=>hsame (hf11 h1 h2)
   have HW:=Hz hw
   clear hsame hf11 hi hli hw hcs hkl
   generalize bA l k=i at *
   obtain⟨kk,op,dst,a',b',n,text,r0,r1,r2,r3,r4,r5,to_,els⟩:=i
   simp only[Ins.obj,Nat.zero_add] at x0 x1 x2 x3 x4 x5 x6 x7 x8 x9 x10 x11 x12 x13 x14 ht2 he2 hj hbr hnx
   have HJ:=Hz hj
   have HB:=Hz hbr
   clear hj hbr
   have kx:=heap_alloc_new wr (Ins.obj ⟨kk,op,dst,a',b',n,text,r0,r1,r2,r3,r4,r5,to_,els⟩)
   have ⟨d0,d1,d2,d3,d4,d5,d6,d7,d8,d9,da,db,dc,dd,de⟩:=Ins.cells (i:=⟨kk,op,dst,a',b',n,text,r0,r1,r2,r3,r4,r5,to_,els⟩) kx
   simp only[Ins.obj] at d0 d1 d2 d3 d4 d5 d6 d7 d8 d9 da db dc dd de
   rcases (by omega:kk=11∨kk=12∨(kk≠11∧kk≠12)) with rfl|rfl|⟨n11,n12⟩
   ·obtain⟨tt,rfl,htt⟩:=ht2 (.inl rfl)
    have c1:=Pre1.cell HW.out.t (eG (G:=G) (k:=N) htt)
    rw[if_pos htt] at c1
    have hne:W.heap.size≠g:=by have:=HG.out;omega
    have c2:=(Pre1.cell (Pre.later HW.out.t (Below.one wr (Ins.obj ⟨11,op,dst,a',b',n,text,r0,r1,r2,r3,r4,r5,tt,els⟩))) (eG (G:=G) (k:=N) htt))
    rw[if_pos htt] at c2
    simp only[Ins.obj] at c2
    have kxq:=heap_alloc_new (wr.setCell ⟨g,k*15+13,none⟩ (.int .i64 (cT G tt:Int))) (Ins.obj ⟨11,op,dst,a',b',n,text,r0,r1,r2,r3,r4,r5,tt,els⟩)
    rw[show (wr.setCell ⟨g,k*15+13,none⟩ (.int .i64 (cT G tt:Int))).heap.size=wr.heap.size by simp] at kxq
    have ⟨d0q,d1q,d2q,d3q,d4q,d5q,d6q,d7q,d8q,d9q,daq,dbq,dcq,ddq,deq⟩:=Ins.cells (i:=⟨11,op,dst,a',b',n,text,r0,r1,r2,r3,r4,r5,tt,els⟩) kxq
    simp only[Ins.obj] at d0q d1q d2q d3q d4q d5q d6q d7q d8q d9q daq dbq dcq ddq deq
    have HX:=Hz (HJ.out rfl)
    simp only[Int.toNat_natCast] at HX
    clear hnx ht2 he2 HJ HB
    go_wp2
    exact⟨⟨k+1,by omega,by go_num,HX.out⟩,by simp[intOf];omega⟩
   ·obtain⟨tt,rfl,htt⟩:=ht2 (.inr rfl)
    obtain⟨ee,rfl,hee⟩:=he2 rfl
    have c1:=Pre1.cell HW.out.t (eG (G:=G) (k:=N) htt)
    rw[if_pos htt] at c1
    have hne:W.heap.size≠g:=by have:=HG.out;omega
    have c2:=(Pre1.cell (Pre.later HW.out.t (Below.one wr (Ins.obj ⟨12,op,dst,a',b',n,text,r0,r1,r2,r3,r4,r5,tt,ee⟩))) (eG (G:=G) (k:=N) htt))
    rw[if_pos htt] at c2
    simp only[Ins.obj] at c2
    have kxq:=heap_alloc_new (wr.setCell ⟨g,k*15+13,none⟩ (.int .i64 (cT G tt:Int))) (Ins.obj ⟨12,op,dst,a',b',n,text,r0,r1,r2,r3,r4,r5,tt,ee⟩)
    rw[show (wr.setCell ⟨g,k*15+13,none⟩ (.int .i64 (cT G tt:Int))).heap.size=wr.heap.size by simp] at kxq
    have ⟨d0q,d1q,d2q,d3q,d4q,d5q,d6q,d7q,d8q,d9q,daq,dbq,dcq,ddq,deq⟩:=Ins.cells (i:=⟨12,op,dst,a',b',n,text,r0,r1,r2,r3,r4,r5,tt,ee⟩) kxq
    simp only[Ins.obj] at d0q d1q d2q d3q d4q d5q d6q d7q d8q d9q daq dbq dcq ddq deq
    have kxr:=heap_alloc_new ((wr.setCell ⟨g,k*15+13,none⟩ (.int .i64 (cT G tt:Int))).setCell ⟨g,k*15+14,none⟩ (.int .i64 (cT G ee:Int))) (Ins.obj ⟨12,op,dst,a',b',n,text,r0,r1,r2,r3,r4,r5,tt,ee⟩)
    rw[show ((wr.setCell ⟨g,k*15+13,none⟩ (.int .i64 (cT G tt:Int))).setCell ⟨g,k*15+14,none⟩ (.int .i64 (cT G ee:Int))).heap.size=wr.heap.size by simp] at kxr
    have ⟨d0r,d1r,d2r,d3r,d4r,d5r,d6r,d7r,d8r,d9r,dar,dbr,dcr,ddr,der⟩:=Ins.cells (i:=⟨12,op,dst,a',b',n,text,r0,r1,r2,r3,r4,r5,tt,ee⟩) kxr
    simp only[Ins.obj] at d0r d1r d2r d3r d4r d5r d6r d7r d8r d9r dar dbr dcr ddr der
    have c3:=Pre1.cell (Pre.other HW.out.t (a:=⟨g,k*15+13,none⟩) (by simp only;omega) (.int .i64 (cT G tt:Int))) (eG (G:=G) (k:=N) hee)
    have c4:=Pre1.cell (Pre.later (Pre.other HW.out.t (a:=⟨g,k*15+13,none⟩) (by simp only;omega) (.int .i64 (cT G tt:Int))) (Below.one _ (Ins.obj ⟨12,op,dst,a',b',n,text,r0,r1,r2,r3,r4,r5,tt,ee⟩))) (eG (G:=G) (k:=N) hee)
    rw[if_pos hee] at c3 c4
    simp only[Ins.obj] at c4
    have HX:=Hz (HB.out rfl)
    simp only[Int.toNat_natCast] at HX
    clear hnx ht2 he2 HJ HB
    go_wp2
    exact⟨⟨k+1,by omega,by go_num,HX.out⟩,by simp[intOf];omega⟩
   ·have q1:(kk==11)=false:=by simp[n11]
    have q2:(kk==12)=false:=by simp[n12]
    have HX:=Hz (hnx.out n11 n12)
    clear hnx ht2 he2 HJ HB n11 n12
    go_wp2
    exact⟨⟨k+1,by omega,by go_num,HX.out⟩,by simp[intOf];omega⟩
  ·obtain rfl:k=M:=by omega
   have HX:=fun (y9 y10 y40 y41 y42 y43 y44 y45 y46 y47 y48 y49 y50 y51 y52 y53 y54 y55 y56 y57 y58 y59 y60 y61 y62 y63 y64 y65 y66 y67 y68 y69 y70 y71 y72 y73:Value)=>Hz (HE.out y9 y10 y40 y41 y42 y43 y44 y45 y46 y47 y48 y49 y50 y51 y52 y53 y54 y55 y56 y57 y58 y59 y60 y61 y62 y63 y64 y65 y66 y67 y68 y69 y70 y71 y72 y73 wr hw)
   clear hw HE
   go_wp2
   exact (HX _ _ _ _ _ _ _ _ _ _ _ _ _ _ _ _ _ _ _ _ _ _ _ _ _ _ _ _ _ _ _ _ _ _ _ _).out
theorem rE (L:Nat)(hL:L≤100000)(W:World):(Instr.makeSlice 33 (.int .i64 L) (.int .i64 L)).run Try.prog W = .ok (.slice (some ⟨W.heap.size,0,none⟩) L L) (W.alloc (.cells (madeCells #[.int .i64 0] L) 3)):=by
 obtain⟨i0,hi,hz0,hz1,hz2⟩:=info_parts lS
 have:=run_make (P:=Try.prog) W 33 3 i0 (.int .i64 0) (by kernel_rfl) hi hz0 .i64 .i64 L L (by omega) (by omega) (by rw[hz2];omega) (by omega)
 simpa[hz1,Value.cells] using this
theorem OwnI.pre {w:World}{base:Nat}{V:Value}{l:List Ins}(h:OwnI w base V l)(h0:0<l.length):∃ g cap,V = .slice (some ⟨g,0,none⟩) l.length cap∧base≤g∧PreI w g l:=by
 obtain⟨ha,hh⟩:=h
 rcases hh with ⟨rfl,h1⟩|⟨g,cap,cur,rfl,hB,hg,hnc,_,hsz,htake⟩
 ·omega
 ·refine⟨g,cap,rfl,hB,cur,hg,fun j y hj k hk=>?_⟩
  have hf:=gN l j k hk
  rw[hj] at hf
  simp only[Option.bind_some] at hf
  rw[←hf,←htake,List.getElem?_take]
  have hjl:=(Lz hj).1
  rw[if_pos (by omega)]
  simp
theorem mZ (G:Nat→Bool)(l:List Ins):(cQ G l l.length).map (cY G)=cZ G l:=by
 simp[cQ,cZ,List.map_map,Function.comp_def]
theorem jR {G:Nat→Bool}{l:List Ins}{N:Nat}(hN:l.length=N){q:Nat}{i:Ins}(h:(cQ G l N)[q]? = some i):∃ p,l[p]? = some i∧G p=false:=by
 subst hN
 have h2:(cZ G l)[q]? = some (cY G i):=by rw[←mZ,List.getElem?_map,h];rfl
 unfold cQ at h
 rw[List.getElem?_map] at h
 obtain⟨p,hp,rfl⟩:=Option.map_eq_some_iff.1 h
 have hm:=Mz hp
 rw[kl,List.mem_filter] at hm
 obtain⟨hm1,hm2⟩:=hm
 exact⟨p,cH (List.mem_range.1 hm1),by simpa using hm2⟩
def FC (base:Nat)(f:aR)(G:Nat→Bool)(e:Ending)(w:World):Prop:=∃ g cap,e = .returned (aH f.nm f.ps f.R f.Fr (some ⟨g,0,none⟩) (cZ G f.code).length cap)∧base≤g∧PreI w g (cZ G f.code)
theorem sH (f:aR)(hf:OkF f)(G:Nat→Bool)(hpos:0<cT G f.code.length)(C:Option Addr)(cap:Nat)(w:World)(hC:RdI w C f.code)(cb:Nat)
  (hG:∀ W',Below w.heap.size w W'→∀ p:Nat,p<f.code.length→Calls Try.prog 63 #[.int .i64 p,.pointer (some ⟨cb,0,none⟩)] W' fun e w'=>e = .returned (.bool (G p))∧W'=w') :
  Calls Try.prog 62 #[aH f.nm f.ps f.R f.Fr C f.code.length cap,.func (.func 63) #[] #[.pointer (some ⟨cb,0,none⟩)]] w fun e w'=>FC w.heap.size f G e w'∧Below w.heap.size w w':=by
 obtain⟨N,hN⟩:∃ N,f.code.length=N:=⟨_,rfl⟩
 have hN2:N≤8192:=by rw[←hN];exact hf.len.2
 have HF:=Hz hf
 have HPOS:=Hz hpos
 have HN:=Hz hN
 have HG:=Hz hG
 have HC:=Hz hC
 rw[hN]
 clear hf hpos hN hG hC
 have b0:=heap_alloc_new w (.cells #[.string f.nm,.int .i64 f.ps,.int .i64 f.R,.int .i64 f.Fr,.slice C N cap] 24)
 have b1:=heap_alloc_new (w.alloc (.cells #[.string f.nm,.int .i64 f.ps,.int .i64 f.R,.int .i64 f.Fr,.slice C N cap] 24)) (.cells #[.string ⟨#[]⟩,.int .i64 0,.int .i64 0,.int .i64 0,.slice none 0 0] 24)
 rw[show (w.alloc (.cells #[.string f.nm,.int .i64 f.ps,.int .i64 f.R,.int .i64 f.Fr,.slice C N cap] 24)).heap.size=w.heap.size+1 by simp] at b1
 have b0:=aC b0 (.cells #[.string ⟨#[]⟩,.int .i64 0,.int .i64 0,.int .i64 0,.slice none 0 0] 24)
 have hB:=(Below.one w (.cells #[.string f.nm,.int .i64 f.ps,.int .i64 f.R,.int .i64 f.Fr,.slice C N cap] 24)).alloc (by simp) (.cells #[.string ⟨#[]⟩,.int .i64 0,.int .i64 0,.int .i64 0,.slice none 0 0] 24)
 obtain⟨W,hW⟩:∃ W,(w.alloc (.cells #[.string f.nm,.int .i64 f.ps,.int .i64 f.R,.int .i64 f.Fr,.slice C N cap] 24)).alloc (.cells #[.string ⟨#[]⟩,.int .i64 0,.int .i64 0,.int .i64 0,.slice none 0 0] 24)=W:=⟨_,rfl⟩
 have hsW:w.heap.size+2=W.heap.size:=by rw[←hW];simp
 rw[hW] at b0 b1 hB
 have hmk:=rE N (by omega) W
 have g4:=aA b0 4 _ rfl
 have HB0:=Hz b0
 have HB1:=Hz b1
 have HB:=Hz hB
 have HSZ:=Hz hsW
 have hl0:w.heap.size<W.heap.size:=by omega
 have hl1:w.heap.size+1<W.heap.size:=by omega
 have g4':=aA (aC b0 (.cells (madeCells #[.int .i64 0] N) 3)) 4 _ rfl
 have hpm:=dX (g:=g1) (d:=1) (t:=3) W #[.int .i64 0] N (.int .i64 0) rfl (fun k hk=>by
  obtain rfl:k=0:=by omega
  rfl)
 rw[Nat.mul_one,←tZ G N] at hpm
 have H0:=Hz (show Wo1 W (W.alloc (.cells (madeCells #[.int .i64 0] N) 3)) G f.code N 0 (.slice none 0 0) from ⟨hpm,OwnI.nil _ _,Below.one _ _⟩)
 have HGG:Hid (∀ W',Below W.heap.size W W'→∀ p:Nat,p<N→Calls Try.prog 63 #[.int .i64 p,.pointer (some ⟨cb,0,none⟩)] W' fun e w'=>e = .returned (.bool (G p))∧W'=w'):=Hz fun W' hb p hp=>HG.out W' (HB.out.trans (hb.mono HB.out.size)) p (by rw[HN.out];exact hp)
 have HC1:=Hz (HC.out.below hB)
 clear b0 b1 hB hsW hpm HG HC
 go_enter Try.func62,Try.ntmps62
 go_wp2
 clear hmk g4 g4' hW
 refine CC G f.code N HN.out hN2 C cap W _ HC1.out cb HGG.out H0.out _ ?_
 intro z6 z7 z8 z19 z20 z21 z22 z23 z24 z25 z26 z27 z28 z29 z30 z31 z32 z33 z34 z35 z36 w2 h2
 have hlK:(cQ G f.code N).length=cT G N:=fP _ _ _
 have hp0:0<cT G N:=by have:=HPOS.out;rwa [HN.out] at this
 obtain⟨g,cap2,rfl,hgW,hPI⟩:=OwnI.pre h2.o (by rw[hlK];exact hp0)
 obtain⟨M,hM⟩:∃ M,cT G N=M:=⟨_,rfl⟩
 rw[hM] at hlK
 have hMM:=Hz hM
 have hM2:M≤8192:=by have:=fD G N;omega
 rw[hlK]
 have HLK:=Hz hlK
 have H2:=Hz (show Wo2 W w2 G (cQ G f.code N) N g 0 from ⟨h2.t,by rw[rD];exact hPI,h2.b⟩)
 have HGW:=Hz hgW
 have HTO:Hid (∀ (j:Nat) i,(cQ G f.code N)[j]? = some i→i.kind=11∨i.kind=12→∃ tt:Nat,i.to_=tt∧tt<N):=Hz fun j i hi hk=>by
  obtain⟨p,hp,_⟩:=jR HN.out hi
  have:=(HF.out.ok i (Mz hp)).to_ hk
  rw[HN.out] at this
  exact⟨i.to_.toNat,by omega,by omega⟩
 have HEL:Hid (∀ (j:Nat) i,(cQ G f.code N)[j]? = some i→i.kind=12→∃ ee:Nat,i.els=ee∧ee<N):=Hz fun j i hi hk=>by
  obtain⟨p,hp,_⟩:=jR HN.out hi
  have:=(HF.out.ok i (Mz hp)).els hk
  rw[HN.out] at this
  exact⟨i.els.toNat,by omega,by omega⟩
 clear h2 hPI hlK hp0 hM hgW H0
 go_wp2
 refine xN G (cQ G f.code N) N M HLK.out hM2 g cap2 W _ HGW.out HTO.out HEL.out H2.out _ ?_
 intro t9 t10 t40 t41 t42 t43 t44 t45 t46 t47 t48 t49 t50 t51 t52 t53 t54 t55 t56 t57 t58 t59 t60 t61 t62 t63 t64 t65 t66 t67 t68 t69 t70 t71 t72 t73 w3 h3
 have hPG:PreI w3 g (cZ G f.code):=by
  have h:=h3.i
  rw[←HLK.out,uA,←HN.out,mZ] at h
  exact h
 have hWL:(cZ G f.code).length=M:=by rw[dS,HN.out,hMM.out]
 have c0:=(h3.b.block _ hl0).trans HB0.out
 have c1:=(h3.b.block _ hl1).trans HB1.out
 have hBB:=HB.out.trans (h3.b.mono HB.out.size)
 have z0:=aA c0 0 (.string f.nm) rfl
 have z1:=aA c0 1 (.int .i64 f.ps) rfl
 have z2:=aA c0 2 (.int .i64 f.R) rfl
 have z3:=aA c0 3 (.int .i64 f.Fr) rfl
 have z4:=aA c0 4 (.slice C N cap) rfl
 have zf:=aK c0
 have zf1:=aK c1
 have d0:=heap_setCell_same _ _ 4 _ _ (.slice (some ⟨g,0,none⟩) M cap2) c0
 have d1:=(heap_setCell_other w3 ⟨w.heap.size,4,none⟩ (w.heap.size+1) (.slice (some ⟨g,0,none⟩) M cap2) (by simp only;omega)).trans c1
 have hR:=setRow_heap _ _ _ #[.string f.nm,.int .i64 f.ps,.int .i64 f.R,.int .i64 f.Fr,.slice (some ⟨g,0,none⟩) M cap2] _ _ d1
 have r0:=aA hR 0 (.string f.nm) rfl
 have r1:=aA hR 1 (.int .i64 f.ps) rfl
 have r2:=aA hR 2 (.int .i64 f.R) rfl
 have r3:=aA hR 3 (.int .i64 f.Fr) rfl
 have r4:=aA hR 4 (.slice (some ⟨g,0,none⟩) M cap2) rfl
 have HPF:Hid (PreI ((w3.setCell ⟨w.heap.size,4,none⟩ (.slice (some ⟨g,0,none⟩) M cap2)).setRow (w.heap.size+1) #[.string f.nm,.int .i64 f.ps,.int .i64 f.R,.int .i64 f.Fr,.slice (some ⟨g,0,none⟩) M cap2]) g (cZ G f.code)):=Hz (Pre.of_heap (Pre.other hPG (by simp only;have:=HGW.out;omega) _) (setRow_other _ _ _ _ (by have:=HGW.out;omega)))
 have HBF:Hid (Below w.heap.size w ((w3.setCell ⟨w.heap.size,4,none⟩ (.slice (some ⟨g,0,none⟩) M cap2)).setRow (w.heap.size+1) #[.string f.nm,.int .i64 f.ps,.int .i64 f.R,.int .i64 f.Fr,.slice (some ⟨g,0,none⟩) M cap2])):=Hz (below_setRow (hBB.setCell (Nat.le_refl _) _) (by omega) _)
 have HWL:=Hz hWL
 clear hR c0 c1 hBB hWL hPG h3 d0
 go_wp2_with (first
  |(show wpList Try.prog _ _ (⟨none,.store _ (.tmp 4) _,_,_,_,_⟩::_) _ _;refine wpList_store_row rfl 24 (.tmp 4) (.tmp 76) rfl (w.heap.size+1) #[.string f.nm,.int .i64 f.ps,.int .i64 f.R,.int .i64 f.Fr,.slice (some ⟨g,0,none⟩) M cap2] rfl rfl 24 _ d1 sF rfl (cS _ _ _ _ _ _ _) ?_))
 (try simp only[Exit.inBlock,Exit.then])
 refine bodyPost_ret (by simp[results,Try.results62,go_sem,r0,r1,r2,r3,r4];try rfl) rfl ?_
 exact⟨⟨g,cap2,by rw[HWL.out],by have:=HGW.out;omega,HPF.out⟩,HBF.out⟩
theorem sJ (f:aR)(hf:OkF f)(G:Nat→Bool)(hpos:0<cT G f.code.length)(C:Option Addr)(cap:Nat)(w:World)(hC:RdI w C f.code)(cb:Nat)
  (hG:∀ W',Below w.heap.size w W'→∀ p:Nat,p<f.code.length→Calls Try.prog 64 #[.int .i64 p,.pointer (some ⟨cb,0,none⟩)] W' fun e w'=>e = .returned (.bool (G p))∧W'=w') :
  Calls Try.prog 62 #[aH f.nm f.ps f.R f.Fr C f.code.length cap,.func (.func 64) #[] #[.pointer (some ⟨cb,0,none⟩)]] w fun e w'=>FC w.heap.size f G e w'∧Below w.heap.size w w':=by
 obtain⟨N,hN⟩:∃ N,f.code.length=N:=⟨_,rfl⟩
 have hN2:N≤8192:=by rw[←hN];exact hf.len.2
 have HF:=Hz hf
 have HPOS:=Hz hpos
 have HN:=Hz hN
 have HG:=Hz hG
 have HC:=Hz hC
 rw[hN]
 clear hf hpos hN hG hC
 have b0:=heap_alloc_new w (.cells #[.string f.nm,.int .i64 f.ps,.int .i64 f.R,.int .i64 f.Fr,.slice C N cap] 24)
 have b1:=heap_alloc_new (w.alloc (.cells #[.string f.nm,.int .i64 f.ps,.int .i64 f.R,.int .i64 f.Fr,.slice C N cap] 24)) (.cells #[.string ⟨#[]⟩,.int .i64 0,.int .i64 0,.int .i64 0,.slice none 0 0] 24)
 rw[show (w.alloc (.cells #[.string f.nm,.int .i64 f.ps,.int .i64 f.R,.int .i64 f.Fr,.slice C N cap] 24)).heap.size=w.heap.size+1 by simp] at b1
 have b0:=aC b0 (.cells #[.string ⟨#[]⟩,.int .i64 0,.int .i64 0,.int .i64 0,.slice none 0 0] 24)
 have hB:=(Below.one w (.cells #[.string f.nm,.int .i64 f.ps,.int .i64 f.R,.int .i64 f.Fr,.slice C N cap] 24)).alloc (by simp) (.cells #[.string ⟨#[]⟩,.int .i64 0,.int .i64 0,.int .i64 0,.slice none 0 0] 24)
 obtain⟨W,hW⟩:∃ W,(w.alloc (.cells #[.string f.nm,.int .i64 f.ps,.int .i64 f.R,.int .i64 f.Fr,.slice C N cap] 24)).alloc (.cells #[.string ⟨#[]⟩,.int .i64 0,.int .i64 0,.int .i64 0,.slice none 0 0] 24)=W:=⟨_,rfl⟩
 have hsW:w.heap.size+2=W.heap.size:=by rw[←hW];simp
 rw[hW] at b0 b1 hB
 have hmk:=rE N (by omega) W
 have g4:=aA b0 4 _ rfl
 have HB0:=Hz b0
 have HB1:=Hz b1
 have HB:=Hz hB
 have HSZ:=Hz hsW
 have hl0:w.heap.size<W.heap.size:=by omega
 have hl1:w.heap.size+1<W.heap.size:=by omega
 have g4':=aA (aC b0 (.cells (madeCells #[.int .i64 0] N) 3)) 4 _ rfl
 have hpm:=dX (g:=g1) (d:=1) (t:=3) W #[.int .i64 0] N (.int .i64 0) rfl (fun k hk=>by
  obtain rfl:k=0:=by omega
  rfl)
 rw[Nat.mul_one,←tZ G N] at hpm
 have H0:=Hz (show Wo1 W (W.alloc (.cells (madeCells #[.int .i64 0] N) 3)) G f.code N 0 (.slice none 0 0) from ⟨hpm,OwnI.nil _ _,Below.one _ _⟩)
 have HGG:Hid (∀ W',Below W.heap.size W W'→∀ p:Nat,p<N→Calls Try.prog 64 #[.int .i64 p,.pointer (some ⟨cb,0,none⟩)] W' fun e w'=>e = .returned (.bool (G p))∧W'=w'):=Hz fun W' hb p hp=>HG.out W' (HB.out.trans (hb.mono HB.out.size)) p (by rw[HN.out];exact hp)
 have HC1:=Hz (HC.out.below hB)
 clear b0 b1 hB hsW hpm HG HC
 go_enter Try.func62,Try.ntmps62
 go_wp2
 clear hmk g4 g4' hW
 refine CD G f.code N HN.out hN2 C cap W _ HC1.out cb HGG.out H0.out _ ?_
 intro z6 z7 z8 z19 z20 z21 z22 z23 z24 z25 z26 z27 z28 z29 z30 z31 z32 z33 z34 z35 z36 w2 h2
 have hlK:(cQ G f.code N).length=cT G N:=fP _ _ _
 have hp0:0<cT G N:=by have:=HPOS.out;rwa [HN.out] at this
 obtain⟨g,cap2,rfl,hgW,hPI⟩:=OwnI.pre h2.o (by rw[hlK];exact hp0)
 obtain⟨M,hM⟩:∃ M,cT G N=M:=⟨_,rfl⟩
 rw[hM] at hlK
 have hMM:=Hz hM
 have hM2:M≤8192:=by have:=fD G N;omega
 rw[hlK]
 have HLK:=Hz hlK
 have H2:=Hz (show Wo2 W w2 G (cQ G f.code N) N g 0 from ⟨h2.t,by rw[rD];exact hPI,h2.b⟩)
 have HGW:=Hz hgW
 have HTO:Hid (∀ (j:Nat) i,(cQ G f.code N)[j]? = some i→i.kind=11∨i.kind=12→∃ tt:Nat,i.to_=tt∧tt<N):=Hz fun j i hi hk=>by
  obtain⟨p,hp,_⟩:=jR HN.out hi
  have:=(HF.out.ok i (Mz hp)).to_ hk
  rw[HN.out] at this
  exact⟨i.to_.toNat,by omega,by omega⟩
 have HEL:Hid (∀ (j:Nat) i,(cQ G f.code N)[j]? = some i→i.kind=12→∃ ee:Nat,i.els=ee∧ee<N):=Hz fun j i hi hk=>by
  obtain⟨p,hp,_⟩:=jR HN.out hi
  have:=(HF.out.ok i (Mz hp)).els hk
  rw[HN.out] at this
  exact⟨i.els.toNat,by omega,by omega⟩
 clear h2 hPI hlK hp0 hM hgW H0
 go_wp2
 refine xN G (cQ G f.code N) N M HLK.out hM2 g cap2 W _ HGW.out HTO.out HEL.out H2.out _ ?_
 intro t9 t10 t40 t41 t42 t43 t44 t45 t46 t47 t48 t49 t50 t51 t52 t53 t54 t55 t56 t57 t58 t59 t60 t61 t62 t63 t64 t65 t66 t67 t68 t69 t70 t71 t72 t73 w3 h3
 have hPG:PreI w3 g (cZ G f.code):=by
  have h:=h3.i
  rw[←HLK.out,uA,←HN.out,mZ] at h
  exact h
 have hWL:(cZ G f.code).length=M:=by rw[dS,HN.out,hMM.out]
 have c0:=(h3.b.block _ hl0).trans HB0.out
 have c1:=(h3.b.block _ hl1).trans HB1.out
 have hBB:=HB.out.trans (h3.b.mono HB.out.size)
 have z0:=aA c0 0 (.string f.nm) rfl
 have z1:=aA c0 1 (.int .i64 f.ps) rfl
 have z2:=aA c0 2 (.int .i64 f.R) rfl
 have z3:=aA c0 3 (.int .i64 f.Fr) rfl
 have z4:=aA c0 4 (.slice C N cap) rfl
 have zf:=aK c0
 have zf1:=aK c1
 have d0:=heap_setCell_same _ _ 4 _ _ (.slice (some ⟨g,0,none⟩) M cap2) c0
 have d1:=(heap_setCell_other w3 ⟨w.heap.size,4,none⟩ (w.heap.size+1) (.slice (some ⟨g,0,none⟩) M cap2) (by simp only;omega)).trans c1
 have hR:=setRow_heap _ _ _ #[.string f.nm,.int .i64 f.ps,.int .i64 f.R,.int .i64 f.Fr,.slice (some ⟨g,0,none⟩) M cap2] _ _ d1
 have r0:=aA hR 0 (.string f.nm) rfl
 have r1:=aA hR 1 (.int .i64 f.ps) rfl
 have r2:=aA hR 2 (.int .i64 f.R) rfl
 have r3:=aA hR 3 (.int .i64 f.Fr) rfl
 have r4:=aA hR 4 (.slice (some ⟨g,0,none⟩) M cap2) rfl
 have HPF:Hid (PreI ((w3.setCell ⟨w.heap.size,4,none⟩ (.slice (some ⟨g,0,none⟩) M cap2)).setRow (w.heap.size+1) #[.string f.nm,.int .i64 f.ps,.int .i64 f.R,.int .i64 f.Fr,.slice (some ⟨g,0,none⟩) M cap2]) g (cZ G f.code)):=Hz (Pre.of_heap (Pre.other hPG (by simp only;have:=HGW.out;omega) _) (setRow_other _ _ _ _ (by have:=HGW.out;omega)))
 have HBF:Hid (Below w.heap.size w ((w3.setCell ⟨w.heap.size,4,none⟩ (.slice (some ⟨g,0,none⟩) M cap2)).setRow (w.heap.size+1) #[.string f.nm,.int .i64 f.ps,.int .i64 f.R,.int .i64 f.Fr,.slice (some ⟨g,0,none⟩) M cap2])):=Hz (below_setRow (hBB.setCell (Nat.le_refl _) _) (by omega) _)
 have HWL:=Hz hWL
 clear hR c0 c1 hBB hWL hPG h3 d0
 go_wp2_with (first
  |(show wpList Try.prog _ _ (⟨none,.store _ (.tmp 4) _,_,_,_,_⟩::_) _ _;refine wpList_store_row rfl 24 (.tmp 4) (.tmp 76) rfl (w.heap.size+1) #[.string f.nm,.int .i64 f.ps,.int .i64 f.R,.int .i64 f.Fr,.slice (some ⟨g,0,none⟩) M cap2] rfl rfl 24 _ d1 sF rfl (cS _ _ _ _ _ _ _) ?_))
 (try simp only[Exit.inBlock,Exit.then])
 refine bodyPost_ret (by simp[results,Try.results62,go_sem,r0,r1,r2,r3,r4];try rfl) rfl ?_
 exact⟨⟨g,cap2,by rw[HWL.out],by have:=HGW.out;omega,HPF.out⟩,HBF.out⟩
theorem wL {w:World}{cb ob N:Nat}{m:Nat→Bool}(hc:w.cell? ⟨cb,0,none⟩=some (.slice (some ⟨ob,0,none⟩) N N))(hP:Pre gB 1 4 w ob (bl N m))(p:Nat)(hp:p<N) :
  Calls Try.prog 63 #[.int .i64 p,.pointer (some ⟨cb,0,none⟩)] w fun e w'=>e = .returned (.bool (!m p))∧w=w':=by
 have h1:=PreB.cell hP (fW (m:=m) hp)
 clear hP
 generalize m p=b at *
 go_enter Try.func63,Try.ntmps63
 go_wp2
 go_returns
 exact⟨rfl,rfl⟩
theorem wM {w:World}{cb:Nat}{A:Option Addr}{l:List Int}{cap:Nat}(hc:w.cell? ⟨cb,0,none⟩=some (.slice A l.length cap))(hR:RdN w A l)(hl:l.length≤100000)(p:Nat) :
  Calls Try.prog 64 #[.int .i64 p,.pointer (some ⟨cb,0,none⟩)] w fun e w'=>e = .returned (.bool (l.contains (p:Int)))∧w=w':=by
 obtain⟨L,hL⟩:∃ L,l.length=L:=⟨_,rfl⟩
 have h1:=nG A l cap p w hR hl
 rw[hL] at hc h1
 clear hL hl hR
 generalize l.contains (p:Int)=b at *
 go_enter Try.func64,Try.ntmps64
 go_wp2_with fail
 refine h1.mono ?_
 rintro e w1 ⟨rfl,hw⟩
 subst hw
 go_wp2
 go_returns
 exact⟨rfl,rfl⟩
theorem zJ {f:aR}{p:Nat}(hp:p<f.code.length):(fV f.code).contains (p:Int)=dG f.code p:=by
 have h1:(p:Int) ∈ fV f.code↔dG f.code p=true:=by
  unfold fV fF
  constructor
  ·intro h
   obtain⟨q,hq,e⟩:=List.mem_map.1 h
   have:q=p:=by omega
   subst this
   exact (List.mem_filter.1 hq).2
  ·intro h
   exact List.mem_map.2 ⟨p,List.mem_filter.2 ⟨List.mem_range.2 hp,h⟩,rfl⟩
 cases hd:dG f.code p with
 | true=>exact List.contains_iff_mem.2 (h1.2 hd)
 | false =>
  rw[Bool.eq_false_iff]
  intro h
  have:=h1.1 (List.contains_iff_mem.1 h)
  rw[hd] at this
  cases this
theorem EL {f:aR}(h:fV f.code≠[]):(dF f).code.length<f.code.length:=by
 obtain⟨x,hx⟩:=List.exists_mem_of_ne_nil _ h
 unfold fV fF at hx
 obtain⟨q,hq,_⟩:=List.mem_map.1 hx
 obtain⟨h1,h2⟩:=List.mem_filter.1 hq
 have h1:=List.mem_range.1 h1
 show (cZ _ _).length<_
 rw[dS]
 have ha:=dH (dG f.code) q
 rw[h2] at ha
 have hb:=fD (dG f.code) q
 have hc:∀ n,q+1≤n→cT (dG f.code) n+(q+1)≤n+cT (dG f.code) (q+1):=by
  intro n
  induction n with
  | zero=>intro h;omega
  | succ n ih =>
   intro h
   by_cases h3:q+1=n+1
   ·rw[h3];omega
   ·have h4:=ih (by omega)
    have h5:=dH (dG f.code) n
    rw[h5]
    split <;> omega
 have:=hc f.code.length (by omega)
 simp at ha
 omega
structure SwI (f c:aR)(w wr:World):Prop where
 ok:OkF c
 nm:c.nm=f.nm∧c.ps=f.ps∧c.R=f.R∧c.Fr=f.Fr
 le:c.code.length≤f.code.length
 box:∃ gb cap,wr.heap[w.heap.size]? = some (.cells #[.string f.nm,.int .i64 f.ps,.int .i64 f.R,.int .i64 f.Fr,.slice (some ⟨gb,0,none⟩) c.code.length cap] 24)∧PreI wr gb c.code∧w.heap.size+2≤gb
 res:wr.heap[w.heap.size+1]? = some (.cells #[.string ⟨#[]⟩,.int .i64 0,.int .i64 0,.int .i64 0,.slice none 0 0] 24)
 b:Below w.heap.size w wr
 s:w.heap.size+2≤wr.heap.size
theorem SwI.put {f c:aR}{w wr w5:World}{G:Nat→Bool}{g cap:Nat}(h:SwI f c w wr)(hfit:Fits G c)(hb:Below wr.heap.size wr w5)(hg:wr.heap.size≤g)(hP:PreI w5 g (cZ G c.code)) :
  SwI f (wF G c) w (w5.setRow w.heap.size #[.string f.nm,.int .i64 f.ps,.int .i64 f.R,.int .i64 f.Fr,.slice (some ⟨g,0,none⟩) (cZ G c.code).length cap]):=by
 have hs:=h.s
 obtain⟨gb,cp,hbx,_,_⟩:=h.box
 refine⟨hfit.ok h.ok,h.nm,?_,⟨g,cap,setRow_heap _ _ _ _ _ _ ((hb.block _ (by omega)).trans hbx),Pre.of_heap hP (setRow_other _ _ _ _ (by omega)),by omega⟩,
  (setRow_other _ _ _ _ (by omega)).trans ((hb.block _ (by omega)).trans h.res),below_setRow (h.b.trans (hb.mono (by omega))) (Nat.le_refl _) _,by have:=hb.size;simp;omega⟩
 have h1:(wF G c).code.length≤c.code.length:=by show (cZ _ _).length≤_;rw[dS];exact fD _ _
 have:=h.le
 omega
theorem EM (l:List Ins):(fV l).length≤l.length:=by
 unfold fV fF
 rw[List.length_map]
 exact Nat.le_trans (List.length_filter_le _ _) (by simp)
def CE (base:Nat)(f:aR)(e:Ending)(w:World):Prop:=∃ g gb cap,Swp f g∧e = .returned (.tuple #[aH f.nm f.ps f.R f.Fr (some ⟨gb,0,none⟩) g.code.length cap,.int .i64 ((f.code.length:Int)-g.code.length)])∧base≤gb∧PreI w gb g.code
theorem zK (f:aR)(hf:OkF f)(C:Option Addr)(cap:Nat)(w:World)(hC:RdI w C f.code) :
  Calls Try.prog 34 #[aH f.nm f.ps f.R f.Fr C f.code.length cap] w fun e w'=>CE w.heap.size f e w'∧Below w.heap.size w w':=by
 obtain⟨N,hN⟩:∃ N,f.code.length=N:=⟨_,rfl⟩
 have b0:=heap_alloc_new w (.cells #[.string f.nm,.int .i64 f.ps,.int .i64 f.R,.int .i64 f.Fr,.slice C N cap] 24)
 have b1:=heap_alloc_new (w.alloc (.cells #[.string f.nm,.int .i64 f.ps,.int .i64 f.R,.int .i64 f.Fr,.slice C N cap] 24)) (.cells #[.string ⟨#[]⟩,.int .i64 0,.int .i64 0,.int .i64 0,.slice none 0 0] 24)
 rw[show (w.alloc (.cells #[.string f.nm,.int .i64 f.ps,.int .i64 f.R,.int .i64 f.Fr,.slice C N cap] 24)).heap.size=w.heap.size+1 by simp] at b1
 have b0:=aC b0 (.cells #[.string ⟨#[]⟩,.int .i64 0,.int .i64 0,.int .i64 0,.slice none 0 0] 24)
 have hB:=(Below.one w (.cells #[.string f.nm,.int .i64 f.ps,.int .i64 f.R,.int .i64 f.Fr,.slice C N cap] 24)).alloc (by simp) (.cells #[.string ⟨#[]⟩,.int .i64 0,.int .i64 0,.int .i64 0,.slice none 0 0] 24)
 obtain⟨W,hW⟩:∃ W,(w.alloc (.cells #[.string f.nm,.int .i64 f.ps,.int .i64 f.R,.int .i64 f.Fr,.slice C N cap] 24)).alloc (.cells #[.string ⟨#[]⟩,.int .i64 0,.int .i64 0,.int .i64 0,.slice none 0 0] 24)=W:=⟨_,rfl⟩
 have hsW:w.heap.size+2=W.heap.size:=by rw[←hW];simp
 rw[hW] at b0 b1 hB
 have hl0:w.heap.size<W.heap.size:=by omega
 have hl1:w.heap.size+1<W.heap.size:=by omega
 have HB0:=Hz b0
 have HB1:=Hz b1
 have HB:=Hz hB
 have HSZ:=Hz hsW
 have y0:=aA b0 0 (.string f.nm) rfl
 have y1:=aA b0 1 (.int .i64 f.ps) rfl
 have y2:=aA b0 2 (.int .i64 f.R) rfl
 have y3:=aA b0 3 (.int .i64 f.Fr) rfl
 have y4:=aA b0 4 (.slice C N cap) rfl
 have hR0:=gK f hf C cap W (hC.below hB)
 have hcl:=fun W' (hb:Below W.heap.size W W')=>kK f hf.len C cap W' ((hC.below hB).below hb)
 rw[hN] at hR0 hcl ⊢
 have HR:=Hz hR0
 have HCL:=Hz hcl
 have HF:=Hz hf
 have HN:=Hz hN
 clear hf hC hN hR0 hcl b0 b1 hB hsW
 go_enter Try.func34,Try.ntmps34
 go_wp2_with fail
 refine HR.out.mono ?_
 rintro e w1 ⟨rfl,hb1⟩
 have c0:=(hb1.block _ hl0).trans HB0.out
 have c1:=(hb1.block _ hl1).trans HB1.out
 have z0:=aA c0 0 (.string f.nm) rfl
 have z1:=aA c0 1 (.int .i64 f.ps) rfl
 have z2:=aA c0 2 (.int .i64 f.R) rfl
 have z3:=aA c0 3 (.int .i64 f.Fr) rfl
 have z4:=aA c0 4 (.slice C N cap) rfl
 have HC0:=Hz c0
 have HC1:=Hz c1
 have HBB:=Hz hb1
 clear c0 c1 hb1 hW
 go_wp2_with fail
 refine (HCL.out _ HBB.out).mono ?_
 rintro e w2 ⟨⟨nb,rfl,hnb,hP⟩,hb2⟩
 have hs1:=HBB.out.size
 have c0:=(hb2.block _ (by omega)).trans HC0.out
 have c1:=(hb2.block _ (by omega)).trans HC1.out
 have hbb:=HB.out.trans ((HBB.out.trans (hb2.mono hs1)).mono HB.out.size)
 have H0:=Hz (show SwI f f w (w2.setRow w.heap.size #[.string f.nm,.int .i64 f.ps,.int .i64 f.R,.int .i64 f.Fr,.slice (some ⟨nb,0,none⟩) f.code.length f.code.length]) from
  ⟨HF.out,⟨rfl,rfl,rfl,rfl⟩,Nat.le_refl _,⟨nb,f.code.length,setRow_heap _ _ _ _ _ _ c0,Pre.of_heap hP (setRow_other _ _ _ _ (by omega)),by have:=HSZ.out;omega⟩,
   (setRow_other _ _ _ _ (by omega)).trans c1,below_setRow hbb (Nat.le_refl _) _,by have:=hb2.size;have:=HSZ.out;simp;omega⟩)
 rw[HN.out] at H0
 simp only[HN.out,aH]
 clear hP hb2 hbb c1
 go_wp2_with (first
  |(show wpList Try.prog _ _ (⟨none,.store _ (.tmp 1) _,_,_,_,_⟩::_) _ _;refine wpList_store_row rfl 24 (.tmp 1) (.tmp 15) rfl w.heap.size #[.string f.nm,.int .i64 f.ps,.int .i64 f.R,.int .i64 f.Fr,.slice (some ⟨nb,0,none⟩) N N] rfl rfl 24 _ c0 sF rfl (cS _ _ _ _ _ _ _) ?_))
 dsimp only[Act.put]
 go_loopg [5] N (fun n V wr=>∃ c:aR,n=c.code.length∧SwI f c w wr∧∀ g,Swp c g→Swp f g)
 case atStart=>exact⟨f,HN.out.symm,H0.out,fun _ h=>h⟩
 case round =>
  obtain⟨c,hn,hs,hfin⟩:=hrel
  obtain⟨gb,cp,hbx,hP,hgb⟩:=hs.box
  have hss:=hs.s
  have e0:=aA hbx 0 (.string f.nm) rfl
  have e1:=aA hbx 1 (.int .i64 f.ps) rfl
  have e2:=aA hbx 2 (.int .i64 f.R) rfl
  have e3:=aA hbx 3 (.int .i64 f.Fr) rfl
  have e4:=aA hbx 4 _ rfl
  have hr:=tT c hs.ok (some ⟨gb,0,none⟩) cp wr hP.read
  obtain⟨n1,n2,n3,n4⟩:=hs.nm
  rw[n1,n2,n3,n4] at hr
  obtain⟨n,hcn⟩:∃ n,c.code.length=n:=⟨_,rfl⟩
  rw[hcn] at hr e4 hbx
  have HR2:=Hz hr
  have HS:=Hz hs
  have HFIN:=Hz hfin
  have HP:=Hz hP
  have HBX:=Hz hbx
  have HCN:=Hz hcn
  have HNM:=Hz hs.nm
  clear hr hs hfin hP hbx hcn n1 n2 n3 n4
  simp only[aH] at HR2
  go_wp2_with fail
  refine HR2.out.mono ?_
  rintro e w3 ⟨⟨ob,rfl,hob,hPB⟩,hb3⟩
  obtain⟨w4,hw4⟩:∃ w4,w3.alloc (.cells #[.slice (some ⟨ob,0,none⟩) n n] 27)=w4:=⟨_,rfl⟩
  have hb4:Below w3.heap.size w3 w4:=by rw[←hw4];exact Below.one _ _
  have hc4:w4.heap[w3.heap.size]? = some (.cells #[.slice (some ⟨ob,0,none⟩) n n] 27):=by rw[←hw4];exact heap_alloc_new _ _
  have hb34:=hb3.trans (hb4.mono hb3.size)
  have hx4:=(hb34.block _ (by omega)).trans HBX.out
  have f0:=aA hx4 0 (.string f.nm) rfl
  have f1:=aA hx4 1 (.int .i64 f.ps) rfl
  have f2:=aA hx4 2 (.int .i64 f.R) rfl
  have f3:=aA hx4 3 (.int .i64 f.Fr) rfl
  have f4:=aA hx4 4 (.slice (some ⟨gb,0,none⟩) n cp) rfl
  have hl4:w3.heap.size<w4.heap.size:=(Az hc4).1
  have hob4:ob<w4.heap.size:=Nat.lt_trans (Pre.lt hPB) hl4
  have hwo:=sH c HS.out.ok (GU c) (nX HS.out.ok).pos (some ⟨gb,0,none⟩) cp w4 (HP.out.read.below hb34) w3.heap.size (fun W' hb' p hp=>by
   have h1:=wL (cb:=w3.heap.size) (ob:=ob) (N:=n) (m:=fun p=>tb (Rch c.code p)) (aA ((hb'.block _ hl4).trans hc4) 0 _ rfl) (Pre.later (Pre.later hPB hb4) hb') p (by rw[←HCN.out];exact hp)
   exact h1)
  rw[HNM.out.1,HNM.out.2.1,HNM.out.2.2.1,HNM.out.2.2.2,HCN.out] at hwo
  simp only[aH] at hwo
  have HWO:=Hz hwo
  have HB34:=Hz hb34
  have HX4:=Hz hx4
  clear hwo hPB hb3 hb4 hc4 hx4 hb34
  go_wp2_with fail
  refine HWO.out.mono ?_
  rintro e w5 ⟨⟨g2,cp2,rfl,hg2,hP2⟩,hb5⟩
  clear hw4 e0 e1 e2 e3 e4 f0 f1 f2 f3 f4
  have hb5':=HB34.out.trans (hb5.mono HB34.out.size)
  have hg2':wr.heap.size≤g2:=by have:=HB34.out.size;omega
  have hI6:=HS.out.put (cap:=cp2) (nX HS.out.ok) hb5' hg2' hP2
  have c5:=(hb5.block _ (by have:=HB34.out.size;omega)).trans HX4.out
  have hx6:=setRow_heap _ _ _ #[.string f.nm,.int .i64 f.ps,.int .i64 f.R,.int .i64 f.Fr,.slice (some ⟨g2,0,none⟩) (cZ (GU c) c.code).length cp2] _ _ c5
  obtain⟨u,hu⟩:∃ u,uF c=u:=⟨_,rfl⟩
  rw[show wF (GU c) c=u from hu,show cZ (GU c) c.code=u.code by rw[←hu];rfl] at *
  obtain⟨n6,hn6⟩:∃ n6,u.code.length=n6:=⟨_,rfl⟩
  rw[hn6] at hI6 hx6
  simp only[HNM.out.1,HNM.out.2.1,HNM.out.2.2.1,HNM.out.2.2.2,hn6,aH]
  have HU:=Hz hu
  have HN6:=Hz hn6
  have HI6:=Hz hI6
  have hPr:PreI (w5.setRow w.heap.size #[.string f.nm,.int .i64 f.ps,.int .i64 f.R,.int .i64 f.Fr,.slice (some ⟨g2,0,none⟩) n6 cp2]) g2 u.code:=Pre.of_heap hP2 (setRow_other _ _ _ _ (by omega))
  have HPR:=Hz hPr
  have hUO:OkF u:=by rw[←HU.out];exact qW HS.out.ok
  have HUO:=Hz hUO
  have hD:=AY u hUO (some ⟨g2,0,none⟩) cp2 (w5.setRow w.heap.size #[.string f.nm,.int .i64 f.ps,.int .i64 f.R,.int .i64 f.Fr,.slice (some ⟨g2,0,none⟩) n6 cp2]) (PreI.read hPr)
  rw[show u.nm=f.nm by rw[←HU.out];exact HNM.out.1,show u.ps=f.ps by rw[←HU.out];exact HNM.out.2.1,show u.R=f.R by rw[←HU.out];exact HNM.out.2.2.1,show u.Fr=f.Fr by rw[←HU.out];exact HNM.out.2.2.2,hn6] at hD
  simp only[aH] at hD
  have HD:=Hz hD
  have h0:=aA hx6 0 (.string f.nm) rfl
  have h1:=aA hx6 1 (.int .i64 f.ps) rfl
  have h2:=aA hx6 2 (.int .i64 f.R) rfl
  have h3:=aA hx6 3 (.int .i64 f.Fr) rfl
  have h4:=aA hx6 4 (.slice (some ⟨g2,0,none⟩) n6 cp2) rfl
  have HX6:=Hz hx6
  have HG2:=Hz hg2'
  have HP2:=Hz hP2
  clear hb5 hb5' hI6 hu hn6 hP2 hD hx6 hPr hUO
  go_wp2_with (first
   |(show wpList Try.prog _ _ (⟨none,.store _ (.tmp 1) _,_,_,_,_⟩::_) _ _;refine wpList_store_row rfl 24 (.tmp 1) (.tmp 20) rfl w.heap.size #[.string f.nm,.int .i64 f.ps,.int .i64 f.R,.int .i64 f.Fr,.slice (some ⟨g2,0,none⟩) n6 cp2] rfl rfl 24 _ c5 sF rfl (cS _ _ _ _ _ _ _) ?_))
  refine HD.out.mono ?_
  rintro e w7 ⟨⟨A,capd,rfl,hRd⟩,hb7⟩
  have hs6:=HI6.out.s
  obtain⟨nd,hnd⟩:∃ nd,(fV u.code).length=nd:=⟨_,rfl⟩
  rw[hnd]
  obtain⟨w8,hw8⟩:∃ w8,w7.alloc (.cells #[.slice A nd capd] 33)=w8:=⟨_,rfl⟩
  have hb8:Below w7.heap.size w7 w8:=by rw[←hw8];exact Below.one _ _
  have hc8:w8.heap[w7.heap.size]? = some (.cells #[.slice A nd capd] 33):=by rw[←hw8];exact heap_alloc_new _ _
  have hb78:=hb7.trans (hb8.mono hb7.size)
  have hx8:=(hb78.block _ (by omega)).trans HX6.out
  have k0:=aA hx8 0 (.string f.nm) rfl
  have k1:=aA hx8 1 (.int .i64 f.ps) rfl
  have k2:=aA hx8 2 (.int .i64 f.R) rfl
  have k3:=aA hx8 3 (.int .i64 f.Fr) rfl
  have k4:=aA hx8 4 (.slice (some ⟨g2,0,none⟩) n6 cp2) rfl
  have kd:=aA hc8 0 (.slice A nd capd) rfl
  have hl8:w7.heap.size<w8.heap.size:=(Az hc8).1
  have HB78:=Hz hb78
  have HX8:=Hz hx8
  have HC8:=Hz hc8
  have HRD:=Hz hRd
  have HND:=Hz hnd
  have HB8:=Hz hb8
  clear hb7 hb8 hc8 hb78 hx8 hRd hnd h0 h1 h2 h3 h4
  by_cases hz:nd=0
  ·subst hz
   have hr8:=(HB78.out.block _ (by have:=HI6.out.s;omega)).trans HI6.out.res
   have t0:=aA hr8 0 (.string ⟨#[]⟩) rfl
   have t1:=aA hr8 1 (.int .i64 0) rfl
   have t2:=aA hr8 2 (.int .i64 0) rfl
   have t3:=aA hr8 3 (.int .i64 0) rfl
   have t4:=aA hr8 4 (.slice none 0 0) rfl
   have tf:=aK hr8
   have hlr:=(Az hr8).1
   have HR8:=Hz hr8
   clear hr8
   have hg2:=HG2.out
   have hne2:(w.heap.size+1:Nat)≠g2:=by omega
   have HPZ:Hid (PreI (((((w8.setCell ⟨w.heap.size+1,0,none⟩ (.string f.nm)).setCell ⟨w.heap.size+1,1,none⟩ (.int .i64 f.ps)).setCell ⟨w.heap.size+1,2,none⟩ (.int .i64 f.R)).setCell ⟨w.heap.size+1,3,none⟩ (.int .i64 f.Fr)).setCell ⟨w.heap.size+1,4,none⟩ (.slice (some ⟨g2,0,none⟩) n6 cp2)) g2 u.code):=Hz (Pre.other (Pre.other (Pre.other (Pre.other (Pre.other (Pre.later HPR.out HB78.out) hne2 _) hne2 _) hne2 _) hne2 _) hne2 _)
   have HBZ:Hid (Below w.heap.size w (((((w8.setCell ⟨w.heap.size+1,0,none⟩ (.string f.nm)).setCell ⟨w.heap.size+1,1,none⟩ (.int .i64 f.ps)).setCell ⟨w.heap.size+1,2,none⟩ (.int .i64 f.R)).setCell ⟨w.heap.size+1,3,none⟩ (.int .i64 f.Fr)).setCell ⟨w.heap.size+1,4,none⟩ (.slice (some ⟨g2,0,none⟩) n6 cp2))):=Hz ((((((HI6.out.b.trans (HB78.out.mono HI6.out.b.size)).setCell (by simp) _).setCell (by simp) _).setCell (by simp) _).setCell (by simp) _).setCell (by simp) _)
   have hN2:N≤8192:=by have:=HF.out.len;rw[HN.out] at this;omega
   have hn6N:n6≤N:=by have:=HI6.out.le;rw[HN6.out,HN.out] at this;exact this
   have HSW:Hid (Swp f u):=Hz (HFIN.out u (by rw[←HU.out];exact Swp.done (by rw[HU.out];exact List.eq_nil_of_length_eq_zero HND.out)))
   have hq0:=heap_setCell_same _ _ 0 _ _ (.string f.nm) HR8.out
   have hq1:=heap_setCell_same _ _ 1 _ _ (.int .i64 f.ps) hq0
   have hq2:=heap_setCell_same _ _ 2 _ _ (.int .i64 f.R) hq1
   have hq3:=heap_setCell_same _ _ 3 _ _ (.int .i64 f.Fr) hq2
   have hq4:=heap_setCell_same _ _ 4 _ _ (.slice (some ⟨g2,0,none⟩) n6 cp2) hq3
   have q0:(((((w8.setCell ⟨w.heap.size+1,0,none⟩ (.string f.nm)).setCell ⟨w.heap.size+1,1,none⟩ (.int .i64 f.ps)).setCell ⟨w.heap.size+1,2,none⟩ (.int .i64 f.R)).setCell ⟨w.heap.size+1,3,none⟩ (.int .i64 f.Fr)).setCell ⟨w.heap.size+1,4,none⟩ (.slice (some ⟨g2,0,none⟩) n6 cp2)).drew.cell? ⟨w.heap.size+1,0,none⟩=some (.string f.nm):=aA (w:=(((((w8.setCell ⟨w.heap.size+1,0,none⟩ (.string f.nm)).setCell ⟨w.heap.size+1,1,none⟩ (.int .i64 f.ps)).setCell ⟨w.heap.size+1,2,none⟩ (.int .i64 f.R)).setCell ⟨w.heap.size+1,3,none⟩ (.int .i64 f.Fr)).setCell ⟨w.heap.size+1,4,none⟩ (.slice (some ⟨g2,0,none⟩) n6 cp2)).drew) hq4 0 _ rfl
   have q1:(((((w8.setCell ⟨w.heap.size+1,0,none⟩ (.string f.nm)).setCell ⟨w.heap.size+1,1,none⟩ (.int .i64 f.ps)).setCell ⟨w.heap.size+1,2,none⟩ (.int .i64 f.R)).setCell ⟨w.heap.size+1,3,none⟩ (.int .i64 f.Fr)).setCell ⟨w.heap.size+1,4,none⟩ (.slice (some ⟨g2,0,none⟩) n6 cp2)).drew.cell? ⟨w.heap.size+1,1,none⟩=some (.int .i64 f.ps):=aA (w:=(((((w8.setCell ⟨w.heap.size+1,0,none⟩ (.string f.nm)).setCell ⟨w.heap.size+1,1,none⟩ (.int .i64 f.ps)).setCell ⟨w.heap.size+1,2,none⟩ (.int .i64 f.R)).setCell ⟨w.heap.size+1,3,none⟩ (.int .i64 f.Fr)).setCell ⟨w.heap.size+1,4,none⟩ (.slice (some ⟨g2,0,none⟩) n6 cp2)).drew) hq4 1 _ rfl
   have q2:(((((w8.setCell ⟨w.heap.size+1,0,none⟩ (.string f.nm)).setCell ⟨w.heap.size+1,1,none⟩ (.int .i64 f.ps)).setCell ⟨w.heap.size+1,2,none⟩ (.int .i64 f.R)).setCell ⟨w.heap.size+1,3,none⟩ (.int .i64 f.Fr)).setCell ⟨w.heap.size+1,4,none⟩ (.slice (some ⟨g2,0,none⟩) n6 cp2)).drew.cell? ⟨w.heap.size+1,2,none⟩=some (.int .i64 f.R):=aA (w:=(((((w8.setCell ⟨w.heap.size+1,0,none⟩ (.string f.nm)).setCell ⟨w.heap.size+1,1,none⟩ (.int .i64 f.ps)).setCell ⟨w.heap.size+1,2,none⟩ (.int .i64 f.R)).setCell ⟨w.heap.size+1,3,none⟩ (.int .i64 f.Fr)).setCell ⟨w.heap.size+1,4,none⟩ (.slice (some ⟨g2,0,none⟩) n6 cp2)).drew) hq4 2 _ rfl
   have q3:(((((w8.setCell ⟨w.heap.size+1,0,none⟩ (.string f.nm)).setCell ⟨w.heap.size+1,1,none⟩ (.int .i64 f.ps)).setCell ⟨w.heap.size+1,2,none⟩ (.int .i64 f.R)).setCell ⟨w.heap.size+1,3,none⟩ (.int .i64 f.Fr)).setCell ⟨w.heap.size+1,4,none⟩ (.slice (some ⟨g2,0,none⟩) n6 cp2)).drew.cell? ⟨w.heap.size+1,3,none⟩=some (.int .i64 f.Fr):=aA (w:=(((((w8.setCell ⟨w.heap.size+1,0,none⟩ (.string f.nm)).setCell ⟨w.heap.size+1,1,none⟩ (.int .i64 f.ps)).setCell ⟨w.heap.size+1,2,none⟩ (.int .i64 f.R)).setCell ⟨w.heap.size+1,3,none⟩ (.int .i64 f.Fr)).setCell ⟨w.heap.size+1,4,none⟩ (.slice (some ⟨g2,0,none⟩) n6 cp2)).drew) hq4 3 _ rfl
   have q4:(((((w8.setCell ⟨w.heap.size+1,0,none⟩ (.string f.nm)).setCell ⟨w.heap.size+1,1,none⟩ (.int .i64 f.ps)).setCell ⟨w.heap.size+1,2,none⟩ (.int .i64 f.R)).setCell ⟨w.heap.size+1,3,none⟩ (.int .i64 f.Fr)).setCell ⟨w.heap.size+1,4,none⟩ (.slice (some ⟨g2,0,none⟩) n6 cp2)).drew.cell? ⟨w.heap.size+1,4,none⟩=some (.slice (some ⟨g2,0,none⟩) n6 cp2):=aA (w:=(((((w8.setCell ⟨w.heap.size+1,0,none⟩ (.string f.nm)).setCell ⟨w.heap.size+1,1,none⟩ (.int .i64 f.ps)).setCell ⟨w.heap.size+1,2,none⟩ (.int .i64 f.R)).setCell ⟨w.heap.size+1,3,none⟩ (.int .i64 f.Fr)).setCell ⟨w.heap.size+1,4,none⟩ (.slice (some ⟨g2,0,none⟩) n6 cp2)).drew) hq4 4 _ rfl
   clear hq0 hq1 hq2 hq3 hq4
   have HQ:=Hz (And.intro q0 (And.intro q1 (And.intro q2 (And.intro q3 q4))))
   clear q0 q1 q2 q3 q4
   clear hg2 hne2
   go_wp2_with fail
   go_region
   go_wp2
   (try simp only[Exit.inBlock,Exit.then])
   obtain⟨q0,q1,q2,q3,q4⟩:=HQ.out
   refine bodyPost_ret (by simp[results,Try.results34,go_sem,q0,q1,q2,q3,q4];try rfl) rfl ?_
   exact⟨⟨u,g2,cp2,HSW.out,by rw[HN6.out,HN.out],by have:=HG2.out;omega,HPZ.out⟩,HBZ.out.drew⟩
  ·have hz1:((nd:Int)==0)=false:=by simp[hz]
   have hwo:=sJ u HUO.out (dG u.code) (rW HUO.out).pos (some ⟨g2,0,none⟩) cp2 w8 ((PreI.read HPR.out).below HB78.out) w7.heap.size (fun W' hb' p hp=>by
    have h1:=wM (cb:=w7.heap.size) (l:=fV u.code) (A:=A) (cap:=capd) (by rw[HND.out];exact aA ((hb'.block _ hl8).trans HC8.out) 0 _ rfl) ((HRD.out.below HB8.out).below hb') (by rw[HND.out];have:=EM u.code;rw[HND.out,HN6.out] at this;have:=HUO.out.len;rw[HN6.out] at this;omega) p
    rw[zJ hp] at h1
    exact h1)
   rw[show u.nm=f.nm by rw[←HU.out];exact HNM.out.1,show u.ps=f.ps by rw[←HU.out];exact HNM.out.2.1,show u.R=f.R by rw[←HU.out];exact HNM.out.2.2.1,show u.Fr=f.Fr by rw[←HU.out];exact HNM.out.2.2.2,HN6.out] at hwo
   simp only[aH] at hwo
   have HWO2:=Hz hwo
   clear hwo
   go_wp2_with fail
   refine HWO2.out.mono ?_
   rintro e w9 ⟨⟨g3,cp3,rfl,hg3,hP3⟩,hb9⟩
   have hb9':=HB78.out.trans (hb9.mono HB78.out.size)
   have hI9:=HI6.out.put (cap:=cp3) (rW HUO.out) hb9' (by have:=HB78.out.size;omega) hP3
   have c9:=(hb9.block _ (by have:=HB78.out.size;have:=HI6.out.s;omega)).trans HX8.out
   obtain⟨v,hv⟩:∃ v,dF u=v:=⟨_,rfl⟩
   rw[show wF (dG u.code) u=v from hv,show cZ (dG u.code) u.code=v.code by rw[←hv];rfl] at hI9
   rw[show cZ (dG u.code) u.code=v.code by rw[←hv];rfl]
   obtain⟨n9,hn9⟩:∃ n9,v.code.length=n9:=⟨_,rfl⟩
   rw[hn9] at hI9
   simp only[show u.nm=f.nm by rw[←HU.out];exact HNM.out.1,show u.ps=f.ps by rw[←HU.out];exact HNM.out.2.1,show u.R=f.R by rw[←HU.out];exact HNM.out.2.2.1,show u.Fr=f.Fr by rw[←HU.out];exact HNM.out.2.2.2,hn9,aH]
   have hne:fV u.code≠[]:=fun h=>hz (by rw[←HND.out,h];rfl)
   have hlt:n9<n:=by
    have h1:=EL hne
    rw[hv,hn9,HN6.out] at h1
    have h2:(uF c).code.length≤c.code.length:=by show (cZ _ _).length≤_;rw[dS];exact fD _ _
    rw[HU.out,HN6.out,HCN.out] at h2
    omega
   have HFV:Hid (∀ g,Swp v g→Swp f g):=Hz fun g hg=>HFIN.out g (Swp.more (by rw[HU.out];exact hne) (by rw[HU.out,hv];exact hg))
   have HV:=Hz hn9
   have HI9:=Hz hI9
   clear hI9 hP3 hb9 hb9' hne hv hn9
   go_wp2_with (first
    |(show wpList Try.prog _ _ (⟨none,.store _ (.tmp 1) _,_,_,_,_⟩::_) _ _;refine wpList_store_row rfl 24 (.tmp 1) (.tmp 34) rfl w.heap.size #[.string f.nm,.int .i64 f.ps,.int .i64 f.R,.int .i64 f.Fr,.slice (some ⟨g3,0,none⟩) n9 cp3] rfl rfl 24 _ c9 sF rfl (cS _ _ _ _ _ _ _) ?_))
   go_roundg n9
   case measure=>have h1:=HCN.out;omega
   case rel=>exact⟨v,HV.out.symm,HI9.out,HFV.out⟩
end Go.Proofs.Ytkcclefonmnpnaa
