import Derived.Carry
import Derived.Test.YtkcclefonmnpnaaShelf
import Derived.StillTailTactics
import Derived.RegionTactic
import Derived.BigRegion
import Derived.Laws.OwnMore
import Derived.Test.YtkcclefonmnpnaaVZi
import Derived.Test.YtkcclefonmnpnaaVZf
set_option maxRecDepth 1000000
set_option maxHeartbeats 16000000
namespace Go.Proofs.Ytkcclefonmnpnaa
open Go.RowKit Go.BigFrame
theorem Fl.rebox {W1 w:World}{sb N:Nat}{S:cP}{cb:Nat}{ch:Bool}(h:Fl W1 w sb N S cb ch):Fl W1 (w.alloc (.cells #[.bool ch] 4)) sb N S w.heap.size ch:=by
 have h1:=h.later (Below.one w (.cells #[.bool ch] 4))
 have:=h.cn
 have:=h.lt
 exact⟨h1.h,h1.bx,h1.r,heap_alloc_new w _,by omega,h1.b⟩
def AS (f:aR)(Rn:Nat)(W1:World)(sb N:Nat)(g:Nat)(cp:Value)(wr:World):Prop :=
 ∃ (cb:Nat) (S:cP) (ch:Bool),cp = .pointer (some ⟨cb,0,none⟩)∧Fl W1 wr sb N S cb ch∧(∀ p r,S p r=true→Lv f.code p r)∧(ch=true→g=tR N Rn S+1)∧(ch=false→g=0∧∀ q,q<N→Cl f.code S q)
theorem DW (f:aR)(hf:OkF f)(Rn:Nat)(hRn:f.R.toNat=Rn)(N:Nat)(hN:f.code.length=N)(C:Option Addr)(cap:Nat)(W1 w:World)(sb B cb0:Nat)(hsb:sb=W1.heap.size)
  (hB:W1.heap[B]? = some (aD f.nm f.ps f.R f.Fr C N cap)) (hC:RdI W1 C f.code) (hF:Fl W1 w sb N (fun _ _=>false) cb0 true)
  {x0 x2 x4 x6 x7 x8 x9 x10 x11 x12 x13 x14 x15 x16 x17 x18 x19 x20 x21 x22 x23 x24 x25 x26 x27 x28 x29 x30 x31 x32 x33 x34 x35 x36 x37 x38 x39 x40 x41 x42 x43 x44 x45 x46 x47 x48 x49 x50 x51 x52 x53 x54 x55 x56 x57 x58 x59 x60 x61 x62 x63 x64 x65 x66 x67 x68 x69 x70 x71 x72 x73 x74 x75 x76 x77 x78 x79 x80 x81:Value} (Q:Exit→Act→World→Prop)
  (hexit:∀ (y5 y6 y7 y8 y10 y12 y13 y28 y29 y30 y31 y32 y33 y34 y35 y36 y37 y38 y39 y40 y41 y42 y43 y44 y45 y46 y47 y48 y49 y50 y51 y52 y53 y54 y55 y56 y57 y58 y59 y60 y61 y62 y63 y64 y65 y66 y67 y68 y69 y70 y71 y72 y73 y74 y75 y76 y77 y78 y79 y80:Value) (w':World) (S:cP) (cb:Nat),Fl W1 w' sb N S cb false→(∀ p,p<N→∀ r,S p r=true↔Lv f.code p r)→Q (.exit 2) ⟨(x0::.pointer (some ⟨B,0,none⟩)::x2::.pointer (some ⟨sb+1,0,none⟩)::x4::y5::y6::y7::y8::x9::y10::x11::y12::y13::x14::x15::x16::x17::x18::x19::x20::x21::x22::x23::x24::x25::x26::x27::y28::y29::y30::y31::y32::y33::y34::y35::y36::y37::y38::y39::y40::y41::y42::y43::y44::y45::y46::y47::y48::y49::y50::y51::y52::y53::y54::y55::y56::y57::y58::y59::y60::y61::y62::y63::y64::y65::y66::y67::y68::y69::y70::y71::y72::y73::y74::y75::y76::y77::y78::y79::y80::x81::[]).toArray,[]⟩ w') :
  Code.wp Try.prog MS Q ⟨(x0::.pointer (some ⟨B,0,none⟩)::x2::.pointer (some ⟨sb+1,0,none⟩)::x4::.pointer (some ⟨cb0,0,none⟩)::x6::x7::x8::x9::x10::x11::x12::x13::x14::x15::x16::x17::x18::x19::x20::x21::x22::x23::x24::x25::x26::x27::x28::x29::x30::x31::x32::x33::x34::x35::x36::x37::x38::x39::x40::x41::x42::x43::x44::x45::x46::x47::x48::x49::x50::x51::x52::x53::x54::x55::x56::x57::x58::x59::x60::x61::x62::x63::x64::x65::x66::x67::x68::x69::x70::x71::x72::x73::x74::x75::x76::x77::x78::x79::x80::x81::[]).toArray,[]⟩ w:=by
 conv=>arg 2;whnf
 have HE:=Hz hexit
 have H0:=Hz (show AS f Rn W1 sb N (tR N Rn (fun _ _=>false)+1) (.pointer (some ⟨cb0,0,none⟩)) w from ⟨cb0,_,true,rfl,hF,(fun p r h=>by cases h),(fun _=>rfl),fun h=>by cases h⟩)
 have HF:=Hz hf
 have HRN:=Hz hRn
 have HN:=Hz hN
 have HB:=Hz hB
 have HC:=Hz hC
 have HSB:=Hz hsb
 have hN2:N≤8192:=by rw[←hN];exact hf.len.2
 clear hexit hf hRn hN hB hC hF hsb
 generalize tR N Rn (fun _ _=>false)+1=g0 at H0
 go_loopg [5] g0 (fun g cp wr=>AS f Rn W1 sb N g cp wr)
 case atStart=>exact H0.out
 case round =>
  obtain⟨cb,S,ch,rfl,hfl,hlo,hg1,hg2⟩:=hrel
  clear H0
  have c0:=aA hfl.c 0 _ rfl
  have cf:=aK hfl.c 0
  cases ch with
  | false =>
   have hcl:=(hg2 rfl).2
   have HX:=fun y5 y6 y7 y8 y10 y12 y13 y28 y29 y30 y31 y32 y33 y34 y35 y36 y37 y38 y39 y40 y41 y42 y43 y44 y45 y46 y47 y48 y49 y50 y51 y52 y53 y54 y55 y56 y57 y58 y59 y60 y61 y62 y63 y64 y65 y66 y67 y68 y69 y70 y71 y72 y73 y74 y75 y76 y77 y78 y79 y80=>Hz (HE.out y5 y6 y7 y8 y10 y12 y13 y28 y29 y30 y31 y32 y33 y34 y35 y36 y37 y38 y39 y40 y41 y42 y43 y44 y45 y46 y47 y48 y49 y50 y51 y52 y53 y54 y55 y56 y57 y58 y59 y60 y61 y62 y63 y64 y65 y66 y67 y68 y69 y70 y71 y72 y73 y74 y75 y76 y77 y78 y79 y80 wr S cb hfl (fun p hp r=>⟨hlo p r,fun h=>Cl.all (fun q hq=>hcl q (by rw[←HN.out];exact hq)) h⟩))
   clear HE hfl hlo hg1 hg2 hcl
   go_wp2
   exact (HX _ _ _ _ _ _ _ _ _ _ _ _ _ _ _ _ _ _ _ _ _ _ _ _ _ _ _ _ _ _ _ _ _ _ _ _ _ _ _ _ _ _ _ _ _ _ _ _ _ _ _ _ _ _ _ _ _ _ _ _).out
  | true =>
   have HG:=Hz (hg1 rfl)
   have hm:=hfl.mark false
   have hbb:=hfl.b
   have hcn:=hfl.cn
   have hBl:=(Az HB.out).1
   rw[←HSB.out] at hBl
   have hbx:wr.heap[B]? = _:=(hbb.block B hBl).trans HB.out
   have hbx2:(wr.setCell ⟨cb,0,none⟩ (.bool false)).heap[B]? = _:=(heap_setCell_other wr ⟨cb,0,none⟩ B _ (by simp only;omega)).trans hbx
   have g4:=aA hbx2 4 (.slice C N cap) rfl
   have HM:=Hz hm.1
   have HLO:=Hz hlo
   clear hg1 hg2 hm hlo hfl hbx hbb hbx2
   have hnew:=heap_alloc_new (wr.setCell ⟨cb,0,none⟩ (.bool false)) (.cells #[.int .i64 ((N:Int)-1)] 3)
   rw[World.size_setCell] at hnew
   have HNEW:=Hz hnew
   clear hnew
   go_wp2
   refine DV f HF.out Rn HRN.out N HN.out C cap W1 _ sb B cb wr.heap.size S HSB.out HB.out HC.out (HM.out.later (Below.one _ _)) HLO.out HNEW.out _ ?_
   intro z6 z7 z8 z10 z12 z13 z33 z34 z35 z36 z37 z38 z39 z40 z41 z42 z43 z44 z45 z46 z47 z48 z49 z50 z51 z52 z53 z54 z55 z56 z57 z58 z59 z60 z61 z62 z63 z64 z65 z66 z67 z68 z69 z70 z71 z72 z73 z74 z75 z76 z77 z78 z79 w3 S' ch' hf3 hps3 hcl3
   have c3:=aA hf3.c 0 _ rfl
   obtain⟨g',hg',HO⟩:∃ g',g'<gk∧Hid (AS f Rn W1 sb N g' (.pointer (some ⟨w3.heap.size,0,none⟩)) (w3.alloc (.cells #[.bool ch'] 4))):=by
    have hre:=hf3.rebox
    cases ch' with
    | false=>exact⟨0,by rw[HG.out];omega,Hz ⟨_,S',false,rfl,hre,hps3.lo,(fun e=>by cases e),fun _=>⟨rfl,by rw[hps3.st rfl];exact hcl3 rfl⟩⟩⟩
    | true=>exact⟨tR N Rn S'+1,by rw[HG.out];have:=hps3.mv rfl;omega,Hz ⟨_,S',true,rfl,hre,hps3.lo,(fun _=>rfl),fun e=>by cases e⟩⟩
   clear hf3 hps3 hcl3
   go_wp2
   go_roundg g'
   case measure=>exact hg'
   case rel=>exact HO.out
theorem AT:(Try.prog.info? 115).map (fun i=>(i.zero,i.size,i.bytes))=some (some (.map none),1,8):=by kernel_rfl
theorem yT (L:Nat)(hL:L≤100000)(W:World):(Instr.makeSlice 113 (.int .i64 L) (.int .i64 L)).run Try.prog W = .ok (.slice (some ⟨W.heap.size,0,none⟩) L L) (W.alloc (.cells (madeCells #[.map none] L) 115)):=by
 obtain⟨i0,hi,hz0,hz1,hz2⟩:=info_parts AT
 have:=run_make (P:=Try.prog) W 113 115 i0 (.map none) (by kernel_rfl) hi hz0 .i64 .i64 L L (by omega) (by omega) (by rw[hz2];omega) (by omega)
 simpa[hz1,Value.cells] using this
structure MapsW (w:World)(sb N:Nat)(S:cP):Prop where
 h:Pre g1 1 115 w sb ((List.range N).map fun p=>.map (some (sb+2+p)))
 r:∀ p,p<N→SetI w (sb+2+p) (S p)
theorem MapsW.later {w w':World}{sb N:Nat}{S:cP}(h:MapsW w sb N S)(hb:Below w.heap.size w w'):MapsW w' sb N S:=⟨Pre.later h.h hb,fun p hp=>(h.r p hp).below hb (h.r p hp).lt⟩
theorem MapsW.cell {w:World}{sb N:Nat}{S:cP}(h:MapsW w sb N S){p:Nat}(hp:p<N):w.cell? ⟨sb,p,none⟩=some (.map (some (sb+2+p))):=Pre1.cell h.h (by simp[hp])
def EZ (f:aR)(N base:Nat)(e:Ending)(w:World):Prop:=∃ sb S,e = .returned (.slice (some ⟨sb,0,none⟩) N N)∧base≤sb∧MapsW w sb N S∧∀ p,p<N→∀ r,S p r=true↔Lv f.code p r
def mF (N sb k:Nat):List Value:=(List.range N).map fun j=>if j<k then .map (some (sb+2+j)) else .map none
theorem jE {N sb k j:Nat}(hj:j<N):(mF N sb k)[j]? = some (if j<k then .map (some (sb+2+j)) else .map none):=by simp[mF,hj]
theorem yU (N sb:Nat):mF N sb 0=List.replicate N (.map none):=by
 apply List.ext_getElem?
 intro j
 by_cases hj:j<N
 ·rw[jE hj,if_neg (Nat.not_lt_zero j)];simp[hj]
 ·rw[List.getElem?_eq_none (by simp[mF];omega),List.getElem?_eq_none (by simp;omega)]
theorem AU {N sb k:Nat}(hk:k<N):(mF N sb k).set k (.map (some (sb+2+k)))=mF N sb (k+1):=by
 apply List.ext_getElem?
 intro j
 by_cases hj:j<N
 ·rw[List.getElem?_set,jE hj,jE hj]
  by_cases h1:k=j
  ·subst h1;rw[if_pos rfl,if_pos (by simp[mF,hk]),if_pos (by omega)]
  ·rw[if_neg h1]
   by_cases h2:j<k
   ·rw[if_pos h2,if_pos (by omega)]
   ·rw[if_neg h2,if_neg (by omega)]
 ·rw[List.getElem?_eq_none (by simp[mF];omega),List.getElem?_eq_none (by simp[mF];omega)]
theorem AV (N sb:Nat):mF N sb N=(List.range N).map fun p=>.map (some (sb+2+p)):=by
 apply List.ext_getElem?
 intro j
 by_cases hj:j<N
 ·rw[jE hj,if_pos hj];simp[hj]
 ·rw[List.getElem?_eq_none (by simp[mF];omega),List.getElem?_eq_none (by simp;omega)]
structure Lpm (W1 wr:World)(N k:Nat):Prop where
 h:Pre g1 1 115 wr W1.heap.size (mF N W1.heap.size k)
 bx:wr.heap[W1.heap.size+1]? = some (.cells #[.slice (some ⟨W1.heap.size,0,none⟩) N N] 113 (0,0))
 r:∀ j,j<k→SetI wr (W1.heap.size+2+j) (fun _=>false)
 s:wr.heap.size=W1.heap.size+2+k
 b:Below W1.heap.size W1 wr
theorem Lpm.start (W1:World)(N:Nat):Lpm W1 ((W1.alloc (.cells (madeCells #[.map none] N) 115)).alloc (.cells #[.slice (some ⟨W1.heap.size,0,none⟩) N N] 113)) N 0:=by
 have h:=dX (g:=g1) (d:=1) (t:=115) W1 #[.map none] N (.map none) rfl (fun k hk=>by
  obtain rfl:k=0:=by omega
  rfl)
 rw[Nat.mul_one] at h
 have hb:=Below.one (W1.alloc (.cells (madeCells #[.map none] N) 115)) (.cells #[.slice (some ⟨W1.heap.size,0,none⟩) N N] 113)
 refine⟨by rw[yU];exact Pre.later h hb,?_,fun j hj=>by omega,by simp,(Below.one _ _).trans (hb.mono (by simp))⟩
 have h2:=heap_alloc_new (W1.alloc (.cells (madeCells #[.map none] N) 115)) (.cells #[.slice (some ⟨W1.heap.size,0,none⟩) N N] 113)
 rwa [show (W1.alloc (.cells (madeCells #[.map none] N) 115)).heap.size=W1.heap.size+1 by simp] at h2
theorem Lpm.next {W1 wr:World}{N k:Nat}(h:Lpm W1 wr N k)(hk:k<N):Lpm W1 ((wr.alloc (.map #[] 0)).setCell ⟨W1.heap.size,k,none⟩ (.map (some wr.heap.size))) N (k+1):=by
 have hb:=Below.one wr (.map #[] 0)
 have h1:=Pre1.set (Pre.later h.h hb) (j:=k) (by simp[mF,hk]) (.map (some (W1.heap.size+2+k)))
 rw[AU hk] at h1
 have hs:=h.s
 have hm:=SetI.made wr
 have ho:∀ b,b≠W1.heap.size→((wr.alloc (.map #[] 0)).setCell ⟨W1.heap.size,k,none⟩ (.map (some wr.heap.size))).heap[b]? = (wr.alloc (.map #[] 0)).heap[b]?:=fun b hb=>heap_setCell_other _ ⟨W1.heap.size,k,none⟩ b _ hb
 rw[hs] at hm ho ⊢
 refine⟨h1,(ho _ (by omega)).trans ((hb.block _ (by omega)).trans h.bx),fun j hj=>?_,by simp[hs];omega,(h.b.alloc (by omega) _).setCell (Nat.le_refl _) _⟩
 by_cases hjk:j<k
 ·exact ((h.r j hjk).below hb (by omega)).of_block (ho _ (by omega))
 ·obtain rfl:j=k:=by omega
  exact hm.of_block (ho _ (by omega))
theorem Lpm.cell {W1 wr:World}{N k:Nat}(h:Lpm W1 wr N k)(hk:k<N):wr.cell? ⟨W1.heap.size,k,none⟩=some (.map none):=by
 have:=Pre1.cell h.h (jE hk)
 rwa [if_neg (Nat.lt_irrefl k)] at this
theorem Lpm.done {W1 wr:World}{N:Nat}(h:Lpm W1 wr N N):Fl W1 (wr.alloc (.cells #[.bool true] 4)) W1.heap.size N (fun _ _=>false) wr.heap.size true:=by
 have hb:=Below.one wr (.cells #[.bool true] 4)
 have hs:=h.s
 have h1:=Pre.later h.h hb
 rw[AV] at h1
 exact⟨h1,(hb.block _ (by omega)).trans h.bx,fun p hp=>(h.r p hp).below hb (by omega),heap_alloc_new _ _,by omega,h.b.trans (hb.mono (by omega))⟩
theorem yV (f:aR)(hf:OkF f)(C:Option Addr)(cap:Nat)(w:World)(hC:RdI w C f.code) :
  Calls Try.prog 102 #[aH f.nm f.ps f.R f.Fr C f.code.length cap] w fun e w'=>EZ f f.code.length w.heap.size e w'∧Below w.heap.size w w':=by
 obtain⟨N,hN⟩:∃ N,f.code.length=N:=⟨_,rfl⟩
 rw[hN]
 have hN2:N≤8192:=by rw[←hN];exact hf.len.2
 have hB:=Below.one w (aD f.nm f.ps f.R f.Fr C N cap)
 have bx:=heap_alloc_new w (aD f.nm f.ps f.R f.Fr C N cap)
 have hsz:(w.alloc (aD f.nm f.ps f.R f.Fr C N cap)).heap.size=w.heap.size+1:=by simp
 have hC1:=hC.below hB
 simp only[aD,aH] at hB bx hC1 hsz ⊢
 have HF:=Hz hf
 have HN:=Hz hN
 clear hf hN hC
 obtain⟨W,hW⟩:∃ W,w.alloc (.cells #[.string f.nm,.int .i64 f.ps,.int .i64 f.R,.int .i64 f.Fr,.slice C N cap] 24)=W:=⟨_,rfl⟩
 rw[hW] at hB bx hC1 hsz
 have hmk:=yT N (by omega) W
 have g4:=aA bx 4 (.slice C N cap) rfl
 have HBX:=Hz bx
 have HSZ:=Hz hsz
 have HC1:=Hz hC1
 have hmm:=@run_makeMap Try.prog
 clear bx hsz hC1
 go_enter Try.func102,Try.ntmps102
 go_wp2
 have H0:=Hz (Lpm.start W N)
 clear hW hmk
 go_loopw [20] (fun ix wr=>∃ k:Nat,k≤N∧ix = .int .i64 k∧Lpm W wr N k) (fun ix _=>N-(intOf ix).toNat)
 case atStart=>exact⟨0,by omega,rfl,H0.out⟩
 case round =>
  obtain⟨k,hk,rfl,hl⟩:=hrel
  clear H0
  by_cases hlt:k<N
  ·have c0:=aA hl.bx 0 _ rfl
   have c1:=hl.cell hlt
   have cf:=Pre.free hl.h k
   have hs:=hl.s
   have HL:Hid (Lpm W ((wr.setCell ⟨W.heap.size,k,none⟩ (.map (some wr.heap.size))).alloc (.map #[] 0)) N (k+1)):=Hz (by rw[←World.setCell_alloc_past _ _ _ _ (Pre.lt hl.h)];exact hl.next hlt)
   have hls:W.heap.size<wr.heap.size:=by omega
   clear hl hs
   go_wp2
   exact⟨⟨k+1,by omega,by go_num,HL.out⟩,by simp[intOf];omega⟩
  ·obtain rfl:k=N:=by omega
   have HD:=Hz hl.done
   clear hl
   go_wp2
   refine DW f HF.out _ rfl k HN.out C cap W _ W.heap.size w.heap.size wr.heap.size rfl HBX.out HC1.out HD.out _ ?_
   intro z5 z6 z7 z8 z10 z12 z13 z28 z29 z30 z31 z32 z33 z34 z35 z36 z37 z38 z39 z40 z41 z42 z43 z44 z45 z46 z47 z48 z49 z50 z51 z52 z53 z54 z55 z56 z57 z58 z59 z60 z61 z62 z63 z64 z65 z66 z67 z68 z69 z70 z71 z72 z73 z74 z75 z76 z77 z78 z79 z80 w3 S cb hf3 hS
   have c3:=aA hf3.bx 0 _ rfl
   have HR:Hid (EZ f k w.heap.size (.returned (.slice (some ⟨W.heap.size,0,none⟩) k k)) w3∧Below w.heap.size w w3):=Hz ⟨⟨W.heap.size,S,rfl,by have:=HSZ.out;omega,⟨hf3.h,hf3.r⟩,hS⟩,hB.trans (hf3.b.mono (by have:=HSZ.out;omega))⟩
   clear hf3 hS
   go_wp2
   go_returns
   exact HR.out
def iK (l:List Int):List Int:=l.mergeSort fun x y=>decide (x≤y)
theorem qU (l:List Int):(iK l).length=l.length:=List.length_mergeSort l
theorem qV (l:List Int)(x:Int):x ∈ iK l↔x ∈ l:=(List.mergeSort_perm l _).mem_iff
theorem AW {l:List Int}(h:l.Nodup):(iK l).Pairwise (· < ·):=by
 have h1:(iK l).Pairwise (fun x y=>decide (x≤y)=true):=List.pairwise_mergeSort (by intro a b c h1 h2;simp at h1 h2 ⊢;omega) (by intro a b;simp;omega) l
 have h2:(iK l).Pairwise (·≠·):=((List.mergeSort_perm l _).nodup_iff).2 h
 exact (h1.and h2).imp fun ⟨a,b⟩=>by simp at a;omega
theorem AX (base:Nat)(W0 w:World)(hb:Below base W0 w)(hw:base≤w.heap.size)(V:Value)(l:List Int)(hown:OwnN w V l)(hV:∀ b,V.ownBlock=some b→base≤b)(hl:l.length≤100000) :
  Calls Try.prog 114 #[V] w fun e w'=>e = .returned (.tuple #[])∧Below base W0 w'∧∃ A cap,V = .slice A l.length cap∧RdN w' A (iK l):=by
 have h0:=hown
 obtain⟨h1,h2⟩:=hown
 rcases h2 with ⟨rfl,hn⟩|⟨g,cap,cur,rfl,hB,hg,hnc,hcm,hsz,htake⟩
 ·obtain rfl:l=[]:=List.eq_nil_of_length_eq_zero hn
  exact (Try.slices_Sort_int_none none 0 w).mono fun e w' ⟨h1,h2⟩=>by
   subst h2
   exact⟨h1,hb,none,0,rfl,fun j n hj=>by simp[iK] at hj⟩
 ·have hlt:=(Az hg).1
  have hH:Sort.Holds (Value.int .i64) w g 0 l.toArray:=fun j hj=>by
   have hj':j<l.length:=by simpa using hj
   have:=World.ownsRow.cellAt h0 j (by omega)
   refine⟨?_,aK hg _⟩
   rw[Nat.zero_add,this,List.getElem?_map,List.getElem?_eq_getElem hj']
   simp[hj']
  refine (Try.slices_Sort_int g 0 cap l w hH hlt (by omega)).mono fun e w' ⟨h1,n,os,h2⟩=>?_
  subst h2
  have hls:(iK l).toArray.size=l.toArray.size:=by simp[qU]
  refine⟨h1,⟨hb.os,hb.tape,hb.output,?_,fun k hk=>?_⟩,_,cap,rfl,fun j x hj=>⟨g,0,rfl,?_,?_⟩⟩
  ·have:=hb.size
   simp[Sort.grow,Sort.putRow,Sort.mapBlock];omega
  ·have:=hV g rfl
   have h3:=hb.block k hk
   simp only[Sort.grow,Sort.putRow,Sort.mapBlock]
   rw[Array.getElem?_append_left (by simp;omega),Array.getElem?_modify,if_neg (by omega)]
   exact h3
  ·simp[Sort.grow,Sort.putRow,Sort.mapBlock];omega
  ·have hjl:=(Lz hj).1
   have hc:=Sort.cell?_putRow (Value.int .i64) (Sort.ahead w n) g 0 l.toArray (iK l).toArray hH hls j (by simpa using hjl)
   rw[Sort.cell?_grow _ _ _ (by simpa using hlt)]
   rw[show (iK l)=l.mergeSort fun x y=>decide (x≤y) from rfl] at hc
   rw[hc]
   rw[List.getElem?_eq_getElem hjl] at hj
   injection hj with hj
   rw[←hj]
   simp[iK] at hjl ⊢
   simp[hjl]
def KD (S:Int→Bool)(e:Ending)(w:World):Prop:=∃ A l cap,e = .returned (.slice A l.length cap)∧RdN w A l∧l.Pairwise (· < ·)∧∀ x,x ∈ l↔S x=true
theorem vU (b:Nat)(S:Int→Bool)(R:Nat)(hR:R≤5000)(w:World)(hS:SetI w b S)(hbd:∀ x,S x=true→0≤x∧x<(R:Int)):Calls Try.prog 103 #[.map (some b)] w fun e w'=>KD S e w'∧Below w.heap.size w w':=by
 have HS:=Hz hS
 have HBD:=Hz hbd
 have hbl:=hS.lt
 clear hS hbd
 go_enter Try.func103,Try.ntmps103
 go_wp2_with (first
  |(at_range;refine eQ _ rfl _ 115 rfl vT b S rfl HS.out ?_;intro lst o' hrg hnd hall))
 go_frame
 have H0:Hid (∃ (lst' acc:List Int),lst.length=lst'.length∧RgD (w.alloc o') w.heap.size b S lst'∧OwnN (w.alloc o') (.slice none 0 0) acc∧(∀ k,(Value.slice none 0 0).ownBlock=some k→w.heap.size<k)∧acc.Nodup∧(∀ x,x ∈ acc↔S x=true∧x ∉ lst')∧acc.length+lst'.length≤R∧Below w.heap.size w (w.alloc o')) :=
  Hz ⟨lst,[],rfl,hrg,OwnN.nil _,(fun k hk=>by simp[Value.ownBlock] at hk),List.nodup_nil,(fun x=>⟨fun h=>by simp at h,fun ⟨h1,h2⟩=>absurd ((hall x).2 h1) h2⟩),by
   have:=jD R lst hnd (fun x hx=>HBD.out x ((hall x).1 hx))
   simpa using this,Below.one _ _⟩
 clear hrg hnd hall
 go_loopg [3] lst.length (fun g V wr=>∃ (lst' acc:List Int),g=lst'.length∧RgD wr w.heap.size b S lst'∧OwnN wr V acc∧(∀ k,V.ownBlock=some k→w.heap.size<k)∧acc.Nodup∧(∀ x,x ∈ acc↔S x=true∧x ∉ lst')∧acc.length+lst'.length≤R∧Below w.heap.size w wr)
 case atStart=>exact H0.out
 case round =>
  obtain⟨lst',acc,hg,hrg,hown,hV,hnd,hmem,hlen,hb⟩:=hrel
  have HG:=Hz hg
  have HRG:=Hz hrg
  have HOWN:=Hz hown
  have HV:=Hz hV
  have HND:=Hz hnd
  have HM:=Hz hmem
  have HB:=Hz hb
  have hsz:=hb.size
  clear hg hrg hown hV hnd hmem hb H0
  go_wp2_with (first
   |(at_next;refine fC _ rfl _ rfl w.heap.size b S lst' rfl HRG.out ?_ ?_))
  ·intro hl
   have hso:=AX w.heap.size w wr HB.out hsz u3 acc HOWN.out (fun k hk=>by have:=HV.out k hk;omega) (by omega)
   have HSO:=Hz hso
   have HL:=Hz hl
   clear hso hl
   go_wp2_with (first
    |(refine HSO.out.mono ?_;rintro e w3 ⟨rfl,hb3,A,cap,rfl,hrd⟩;have HRD:=Hz hrd;clear hrd))
   go_returns
   exact⟨⟨A,iK acc,cap,(by rw[qU];rfl),HRD.out,AW HND.out,fun x=>⟨fun h=>((HM.out x).1 ((qV _ _).1 h)).1,fun h=>(qV _ _).2 ((HM.out x).2 ⟨h,by rw[HL.out];simp⟩)⟩⟩,hb3⟩
  ·intro s l' w2 hm hs hmem hlt hrg2 hg2 hz2 hen
   have hlr:=HRG.out.lt
   have ho2:OwnN w2 u3 acc:=World.ownsRow.kept HOWN.out hg2 (Or.inr fun e=>by have:=HV.out _ e;omega)
   have hb2:Below w.heap.size w w2:=Below.grown HB.out hg2 hsz (fun k hk=>by injection hk;omega)
   have HO2:=Hz (OwnN.alloc ho2 (.cells #[.int .i64 s] 3))
   have HG2:=Hz (hrg2.below (Below.one w2 (.cells #[.int .i64 s] 3)))
   have HB2:=Hz (hb2.alloc (by omega) (.cells #[.int .i64 s] 3))
   have HX:=Hz (show s ∉ acc from fun h=>((HM.out s).1 h).2 hm)
   have HS2:=Hz hs
   have HME:=Hz hmem
   have HLT:=Hz hlt
   have hsz2:w.heap.size≤w2.heap.size:=by omega
   have hal:acc.length≤90000:=by omega
   clear hm hs hmem hlt hrg2 hg2 hz2 ho2 hb2
   go_wp2_with (first
    |(at_builtin;refine dA rfl (.tmp 11) (.tmp 13) rfl u3 acc rfl HO2.out w2.heap.size s rfl (heap_alloc_new _ _) hal ?_;intro V' w4 ho4 hg4 hb4;have HO4:=Hz ho4;have HG4:=Hz hg4;have HB4:=Hz hb4;clear ho4 hg4 hb4))
   go_roundg l'.length
   case measure=>rw[HG.out];exact HLT.out
   case rel =>
    have hne:∀ k,u3.ownBlock=some k→w.heap.size<k:=HV.out
    have hl2:=HG2.out.lt
    have hk:∀ x,x<(w2.alloc (.cells #[.int .i64 s] 3)).heap.size→x≤w.heap.size→w4.heap[x]? = (w2.alloc (.cells #[.int .i64 s] 3)).heap[x]?:=fun x h1 h2=>HG4.out.block x h1 (fun e=>by have:=hne x e.symm;omega)
    refine⟨l',acc++[s],rfl,HG2.out.of_blocks (hk _ hl2.1 (by omega)) (hk _ hl2.2 (Nat.le_refl _)),HO4.out,fun k hk2=>?_,?_,fun x=>?_,?_,Below.grown HB2.out HG4.out (by simp;omega) (fun k hk2=>by have:=hne k hk2;omega)⟩
    ·rcases HB4.out with e|e
     ·rw[e] at hk2;exact hne k hk2
     ·rw[e] at hk2;injection hk2 with hk2;simp at hk2;omega
    ·rw[List.nodup_append]
     exact⟨HND.out,by simp,fun a ha b' hb' e=>by
      simp only[List.mem_singleton] at hb'
      subst hb' e
      exact HX.out ha⟩
    ·rw[List.mem_append,List.mem_singleton,HM.out,HME.out]
     constructor
     ·rintro (⟨h1,h2⟩|rfl)
      ·exact⟨h1,fun h=>h2 h.1⟩
      ·exact⟨HS2.out,fun h=>h.2 rfl⟩
     ·rintro ⟨h1,h2⟩
      by_cases hxs:x=s
      ·exact Or.inr hxs
      ·exact Or.inl ⟨h1,fun h=>h2 ⟨h,hxs⟩⟩
    ·have:=HLT.out
     rw[List.length_append]
     simp
     omega
theorem yW:(Try.prog.info? 33).map (fun i=>(i.zero,i.size,i.bytes))=some (some (.slice none 0 0),1,24):=by kernel_rfl
theorem vV (L:Nat)(hL:L≤100000)(W:World):(Instr.makeSlice 105 (.int .i64 L) (.int .i64 L)).run Try.prog W = .ok (.slice (some ⟨W.heap.size,0,none⟩) L L) (W.alloc (.cells (madeCells #[.slice none 0 0] L) 33)):=by
 obtain⟨i0,hi,hz0,hz1,hz2⟩:=info_parts yW
 have:=run_make (P:=Try.prog) W 105 33 i0 (.slice none 0 0) (by kernel_rfl) hi hz0 .i64 .i64 L L (by omega) (by omega) (by rw[hz2];omega) (by omega)
 simpa[hz1,Value.cells] using this
theorem gK (f:aR)(hf:OkF f)(C:Option Addr)(cap:Nat)(w:World)(hC:RdI w C f.code):Calls Try.prog 48 #[aH f.nm f.ps f.R f.Fr C f.code.length cap] w fun e w'=>e = .returned (.bool true)∧Below w.heap.size w w' :=
 (jX f C cap w hC).mono fun e w' ⟨⟨b,h1,h2⟩,hb⟩=>⟨by rw[h1,h2.2 hf],hb⟩
theorem RdN.store_other {w:World}{A:Option Addr}{l:List Int}(h:RdN w A l){ob k:Nat}{v0:Value}(hc:w.cell? ⟨ob,k,none⟩=some v0)(hv:∀ n,v0≠.int .i64 n)(v:Value):RdN (w.setCell ⟨ob,k,none⟩ v) A l:=fun j n hn=>by
 obtain⟨b,o,e1,e2,e3⟩:=h j n hn
 refine⟨b,o,e1,by simpa using e2,?_⟩
 rw[World.cell?_setCell_other]
 ·exact e3
 ·intro e
  injection e with e4 e5
  subst e4 e5
  rw[hc] at e3
  injection e3 with e3
  exact hv n e3
def RowV (w:World)(v:Value)(P:Int→Prop):Prop:=∃ A l cap,v = .slice A l.length cap∧RdN w A l∧l.Pairwise (· < ·)∧∀ x,x ∈ l↔P x
theorem RowV.below {w w':World}{v:Value}{P:Int→Prop}(h:RowV w v P)(hb:Below w.heap.size w w'):RowV w' v P:=by
 obtain⟨A,l,cap,h1,h2,h3⟩:=h
 exact⟨A,l,cap,h1,h2.below hb,h3⟩
def RowsK (w:World)(ob N k:Nat)(P:Nat→Int→Prop):Prop:=∃ vs:List Value,vs.length=N∧Pre g1 1 33 w ob vs∧(∀ (j:Nat) (v:Value),vs[j]? = some v→∃ A n c,v=Value.slice A n c)∧∀ j,j<k→∃ v,vs[j]? = some v∧RowV w v (P j)
theorem RowsK.later {w w':World}{ob N k:Nat}{P:Nat→Int→Prop}(h:RowsK w ob N k P)(hb:Below w.heap.size w w'):RowsK w' ob N k P:=by
 obtain⟨vs,h1,h2,h3,h4⟩:=h
 exact⟨vs,h1,Pre.later h2 hb,h3,fun j hj=>by obtain⟨v,h5,h6⟩:=h4 j hj;exact⟨v,h5,h6.below hb⟩⟩
theorem RowsK.lt {w:World}{ob N k:Nat}{P:Nat→Int→Prop}(h:RowsK w ob N k P):ob<w.heap.size:=by
 obtain⟨vs,h1,h2,h3,h4⟩:=h
 exact Pre.lt h2
theorem RowsK.cell {w:World}{ob N k p:Nat}{P:Nat→Int→Prop}(h:RowsK w ob N k P)(hp:p<N):(∃ A n c,w.cell? ⟨ob,p,none⟩=some (Value.slice A n c))∧w.frozen? ⟨ob,p,none⟩=false:=by
 obtain⟨vs,h1,h2,h3,h4⟩:=h
 have hv:vs[p]? = some (vs[p]'(by omega)):=List.getElem?_eq_getElem (by omega)
 obtain⟨A,n,c,h5⟩:=h3 p _ hv
 exact⟨⟨A,n,c,by rw[Pre1.cell h2 hv,h5]⟩,Pre.free h2 p⟩
theorem RowsK.set {w:World}{ob N k:Nat}{P:Nat→Int→Prop}(h:RowsK w ob N k P)(hk:k<N){v:Value}(hv:RowV w v (P k)):RowsK (w.setCell ⟨ob,k,none⟩ v) ob N (k+1) P:=by
 obtain⟨⟨A,n,c,hc⟩,_⟩:=h.cell hk
 obtain⟨vs,h1,h2,h3,h4⟩:=h
 have hst:∀ {u:Value} {Q:Int→Prop},RowV w u Q→RowV (w.setCell ⟨ob,k,none⟩ v) u Q:=fun ⟨A',l,c',e1,e2,e3⟩=>⟨A',l,c',e1,e2.store_other hc (fun n h=>by cases h) v,e3⟩
 refine⟨vs.set k v,by simp[h1],Pre1.set h2 (by omega) v,fun j u hu=>?_,fun j hj=>?_⟩
 ·rw[List.getElem?_set] at hu
  split at hu
  ·rename_i e
   subst e
   rw[if_pos (by omega)] at hu
   injection hu with hu
   subst hu
   obtain⟨A',l,c',e1,_⟩:=hv
   exact⟨A',_,c',e1⟩
  ·exact h3 j u hu
 ·by_cases e:j=k
  ·subst e
   exact⟨v,by rw[List.getElem?_set_self (by omega)],hst hv⟩
  ·obtain⟨u,h5,h6⟩:=h4 j (by omega)
   exact⟨u,by rw[List.getElem?_set_ne (by omega)];exact h5,hst h6⟩
theorem RowsK.made (W:World)(N:Nat)(P:Nat→Int→Prop):RowsK (W.alloc (.cells (madeCells #[.slice none 0 0] N) 33)) W.heap.size N 0 P:=by
 have h:=dX (g:=g1) (d:=1) (t:=33) W #[.slice none 0 0] N (.slice none 0 0) rfl (fun k hk=>by
  obtain rfl:k=0:=by omega
  rfl)
 rw[Nat.mul_one] at h
 exact⟨_,by simp,h,fun j v hj=>by
  have:=Mz hj
  exact⟨none,0,0,List.eq_of_mem_replicate this⟩,fun j hj=>by omega⟩
theorem RowsK.done {w:World}{ob N:Nat}{P:Nat→Int→Prop}(h:RowsK w ob N N P){p:Nat}(hp:p<N):∃ v,w.cell? ⟨ob,p,none⟩=some v∧RowV w v (P p):=by
 obtain⟨vs,h1,h2,h3,h4⟩:=h
 obtain⟨v,h5,h6⟩:=h4 p hp
 exact⟨v,Pre1.cell h2 h5,h6⟩
def FA (N:Nat)(P:Nat→Int→Prop)(e:Ending)(w:World):Prop:=∃ ob,e = .returned (.slice (some ⟨ob,0,none⟩) N N)∧RowsK w ob N N P
theorem MapsW.other {w:World}{sb N:Nat}{S:cP}(h:MapsW w sb N S){ob k:Nat}(hob:ob<sb)(v:Value):MapsW (w.setCell ⟨ob,k,none⟩ v) sb N S :=
 ⟨Pre.other h.h (by simp only;omega) v,fun p hp=>(h.r p hp).of_block (heap_setCell_other w ⟨ob,k,none⟩ _ v (by simp only;omega))⟩
noncomputable def NS:Code:=((((Try.f85.body).map cE).getD [])[0]?).getD .skip
noncomputable def MU:Code:=((cE (fQ NS))[0]?).getD .skip
noncomputable def NT:Code:=((cE (fQ MU))[0]?).getD .skip
theorem RdN.kp1 {w w':World}{mb:Nat}{S:Int→Bool}{A:Option Addr}{l:List Int}(h:RdN w A l)(hm:SetI w mb S)(hk:Kp w w' mb mb):RdN w' A l:=fun j n hn=>by
 obtain⟨b,o,e1,e2,e3⟩:=h j n hn
 have hne:b≠mb:=fun e=>by
  subst e
  obtain⟨es,clock,h2,_⟩:=hm
  simp[World.cell?,h2] at e3
 have hb:w'.heap[b]? = w.heap[b]?:=hk.k b e2 hne hne
 exact⟨b,o,e1,Nat.lt_of_lt_of_le e2 hk.s,by rw[←e3];simp only[World.cell?,hb]⟩
theorem MapsW.kp {w w':World}{sb N mb:Nat}{S:cP}(h:MapsW w sb N S)(hk:Kp w w' mb mb)(hm:sb+2+N≤mb):MapsW w' sb N S :=
 ⟨Pre.of_heap h.h (hk.k _ (Pre.lt h.h) (by omega) (by omega)),fun p hp=>(h.r p hp).of_block (hk.k _ (h.r p hp).lt (by omega) (by omega))⟩
theorem Kp.grown {w w':World}{mb:Nat}(hg:w.grownBy w' (some mb))(hz:w'.heap.size=w.heap.size):Kp w w' mb mb:=⟨by omega,fun b hb h1 _=>hg.block b hb (fun e=>h1 (by injection e))⟩
theorem DX (w0 w:World)(mb rb b:Nat)(S T0:Int→Bool)(lst:List Int)(hm:SetI w mb T0)(hR:RgD w rb b S lst)(hall:∀ x,x ∈ lst↔S x=true)(hk:Kp w0 w mb mb)(hbw:Below mb w0 w)(hmb:mb<w0.heap.size)(hrb:w0.heap.size≤rb)(hb:b≠mb)
  {x0 x1 x2 x3 x4 x5 x6 x8 x9 x10 x11 x12 x13 x14 x15 x16 x17 x18 x19 x20 x21 x22 x23 x24 x25 x26 x27 x28 x29 x30 x31 x32 x33 x34 x35 x36 x37 x38 x39 x40 x42 x43 x44 x45 x46 x47 x48 x49 x50 x51 x52 x53 x54 x55:Value} (Q:Exit→Act→World→Prop)
  (hexit:∀ (y10 y42 y43 y44 y45 y46 y47:Value) (w':World) (T:Int→Bool),SetI w' mb T→Kp w0 w' mb mb→Below mb w0 w'→(∀ x,T x=true↔T0 x=true∨S x=true)→Q (.exit 4) ⟨(x0::x1::x2::x3::x4::x5::x6::.map (some mb)::x8::x9::y10::x11::x12::x13::x14::x15::x16::x17::x18::x19::x20::x21::x22::x23::x24::x25::x26::x27::x28::x29::x30::x31::x32::x33::x34::x35::x36::x37::x38::x39::x40::.pointer (some ⟨rb,0,none⟩)::y42::y43::y44::y45::y46::y47::x48::x49::x50::x51::x52::x53::x54::x55::[]).toArray,[]⟩ w') :
  Code.wp Try.prog NT Q ⟨(x0::x1::x2::x3::x4::x5::x6::.map (some mb)::x8::x9::x10::x11::x12::x13::x14::x15::x16::x17::x18::x19::x20::x21::x22::x23::x24::x25::x26::x27::x28::x29::x30::x31::x32::x33::x34::x35::x36::x37::x38::x39::x40::.pointer (some ⟨rb,0,none⟩)::x42::x43::x44::x45::x46::x47::x48::x49::x50::x51::x52::x53::x54::x55::[]).toArray,[]⟩ w:=by
 conv=>arg 2;whnf
 have HE:=Hz hexit
 have H0:Hid (∃ (lst':List Int) (T:Int→Bool),lst.length=lst'.length∧RgD w rb b S lst'∧SetI w mb T∧Kp w0 w mb mb∧Below mb w0 w∧(∀ x,T x=true↔T0 x=true∨(S x=true∧x ∉ lst'))) :=
  Hz ⟨lst,T0,rfl,hR,hm,hk,hbw,fun x=>⟨Or.inl,fun h=>h.elim (fun h=>h) (fun h=>absurd ((hall x).2 h.1) h.2)⟩⟩
 clear hexit hm hR hall hk hbw
 go_loopg [42] lst.length (fun g _ wr=>∃ (lst':List Int) (T:Int→Bool),g=lst'.length∧RgD wr rb b S lst'∧SetI wr mb T∧Kp w0 wr mb mb∧Below mb w0 wr∧(∀ x,T x=true↔T0 x=true∨(S x=true∧x ∉ lst')))
 case atStart=>exact H0.out
 case round =>
  obtain⟨lst',T,hg,hrg,hm,hk,hbw,hT⟩:=hrel
  have HG:=Hz hg
  have HRG:=Hz hrg
  have HM:=Hz hm
  have HK:=Hz hk
  have HT:=Hz hT
  have HBW:=Hz hbw
  clear hg hrg hm hk hT H0 hbw
  go_wp2_with (first
   |(at_next;refine fC _ rfl _ rfl rb b S lst' rfl HRG.out ?_ ?_))
  ·intro hl
   have HX:=fun y10 y42 y43 y44 y45 y46 y47=>Hz (HE.out y10 y42 y43 y44 y45 y46 y47 wr T HM.out HK.out HBW.out (fun x=>(HT.out x).trans (by rw[hl];simp)))
   clear HE
   go_wp2
   exact (HX _ _ _ _ _ _ _).out
  ·intro s l' w2 hms hs hmem hlt hrg2 hg2 hz2 hen
   have hks:=HK.out.s
   have hm2:SetI w2 mb T:=HM.out.kept hg2 (fun e=>by injection e;omega)
   have hk2:Kp w0 w2 mb mb:=⟨by omega,fun x hx h1 h2=>(hg2.block x (by omega) (fun e=>by injection e;omega)).trans (HK.out.k x hx h1 h2)⟩
   have HB2:=Hz (Below.grown HBW.out hg2 (by omega) (fun k hk=>by injection hk;omega))
   have HM2:=Hz hm2
   have HK2:=Hz hk2
   have HRG2:=Hz hrg2
   have HME:=Hz hmem
   have HS:=Hz hs
   have HMS:=Hz hms
   have HLT:=Hz hlt
   clear hms hs hmem hlt hrg2 hg2 hz2 hm2 hk2
   go_wp2_with (first
    |(refine lB _ rfl _ _ _ 115 rfl vT DR mb T rfl HM2.out s rfl rfl ?_;intro w3 hm3 hg3 hz3))
   go_roundg l'.length
   case measure=>rw[HG.out];exact HLT.out
   case rel =>
    have hl2:=HRG2.out.lt
    have hk3:=Kp.grown hg3 hz3
    refine⟨l',_,rfl,HRG2.out.of_blocks (hk3.k _ hl2.1 hb hb) (hk3.k _ hl2.2 (by omega) (by omega)),hm3,HK2.out.trans hk3,Below.grown HB2.out hg3 (by omega) (fun k hk=>by injection hk;omega),fun x=>?_⟩
    rw[HME.out]
    simp only[fU,Bool.or_eq_true,decide_eq_true_eq]
    rw[HT.out]
    constructor
    ·rintro (rfl|h|⟨h1,h2⟩)
     ·exact Or.inr ⟨HS.out,fun h=>h.2 rfl⟩
     ·exact Or.inl h
     ·exact Or.inr ⟨h1,fun h=>h2 h.1⟩
    ·rintro (h|⟨h1,h2⟩)
     ·exact Or.inr (Or.inl h)
     ·by_cases hx:x=s
      ·exact Or.inl hx
      ·exact Or.inr (Or.inr ⟨h1,fun h=>h2 ⟨h,hx⟩⟩)
theorem DY (w:World)(sb N mb:Nat)(S:cP)(T0:Int→Bool)(hT0:∀ x,T0 x=false)(nx:List Int)(A:Option Addr)(cap Ln:Nat)(hLn:nx.length=Ln)(hLn2:Ln≤100)(hM:MapsW w sb N S)(hm:SetI w mb T0)(hmb:sb+2+N≤mb)(hR:RdN w A nx)(hin:∀ n ∈ nx,0≤n∧n.toNat<N)
  {x0 x1 x2 x4 x5 x6 x8 x9 x10 x11 x12 x13 x14 x15 x16 x17 x18 x19 x20 x21 x22 x23 x24 x25 x26 x27 x28 x29 x30 x34 x35 x36 x37 x38 x39 x40 x41 x42 x43 x44 x45 x46 x47 x48 x49 x50 x51 x52 x53 x54 x55:Value} (Q:Exit→Act→World→Prop)
  (hexit:∀ (y9 y10 y34 y35 y36 y37 y38 y39 y40 y41 y42 y43 y44 y45 y46 y47 y48:Value) (w':World) (T:Int→Bool),SetI w' mb T→Kp w w' mb mb→Below mb w w'→(∀ x,T x=true↔∃ n ∈ nx,S n.toNat x=true)→Q (.exit 2) ⟨(x0::x1::x2::.slice (some ⟨sb,0,none⟩) N N::x4::x5::x6::.map (some mb)::x8::y9::y10::x11::x12::x13::x14::x15::x16::x17::x18::x19::x20::x21::x22::x23::x24::x25::x26::x27::x28::x29::x30::.slice A Ln cap::.int .i64 (Ln:Int)::.int .i64 (Ln:Int)::y34::y35::y36::y37::y38::y39::y40::y41::y42::y43::y44::y45::y46::y47::y48::x49::x50::x51::x52::x53::x54::x55::[]).toArray,[]⟩ w') :
  Code.wp Try.prog MU Q ⟨(x0::x1::x2::.slice (some ⟨sb,0,none⟩) N N::x4::x5::x6::.map (some mb)::x8::x9::x10::x11::x12::x13::x14::x15::x16::x17::x18::x19::x20::x21::x22::x23::x24::x25::x26::x27::x28::x29::x30::.slice A Ln cap::.int .i64 (Ln:Int)::.int .i64 0::x34::x35::x36::x37::x38::x39::x40::x41::x42::x43::x44::x45::x46::x47::x48::x49::x50::x51::x52::x53::x54::x55::[]).toArray,[]⟩ w:=by
 conv=>arg 2;whnf
 have HE:=Hz hexit
 have HLN:=Hz hLn
 have HR:=Hz hR
 have HIN:=Hz hin
 have HM:=Hz hM
 have hml:=hm.lt
 have HM0:=Hz hm
 have HT0:=Hz hT0
 clear hexit hLn hR hin hM hm hT0
 go_loopw [33] (fun ix wr=>∃ (k:Nat) (T:Int→Bool),k≤Ln∧ix = .int .i64 k∧SetI wr mb T∧Kp w wr mb mb∧Below mb w wr∧(∀ x,T x=true↔∃ (j:Nat) (n:Int),j<k∧nx[j]? = some n∧S n.toNat x=true)) (fun ix _=>Ln-(intOf ix).toNat)
 case atStart=>exact⟨0,T0,by omega,rfl,HM0.out,Kp.refl _ _ _,Below.refl _ _,fun x=>⟨fun h=>(by rw[HT0.out] at h;cases h),fun ⟨j,n,hj,_⟩=>by omega⟩⟩
 case round =>
  obtain⟨k,T,hk,rfl,hm,hkp,hbw,hT⟩:=hrel
  by_cases hlt:k<Ln
  ·obtain⟨n,hn⟩:∃ n,nx[k]? = some n:=⟨_,List.getElem?_eq_getElem (by rw[HLN.out];exact hlt)⟩
   have hnb:=HIN.out n (Mz hn)
   obtain⟨m,rfl⟩:∃ m:Nat,n=(m:Int):=⟨n.toNat,by omega⟩
   have hmN:m<N:=by have:=hnb.2;rwa [Int.toNat_natCast] at this
   obtain⟨b,o,rfl,hbl,hc⟩:=(HR.out.kp1 HM0.out hkp) k _ hn
   have hmw:=HM.out.kp hkp hmb
   have c1:=hmw.cell hmN
   have HSET:=Hz (hmw.r m hmN)
   have HNN:=Hz hn
   have HMM:=Hz hm
   have HK:=Hz hkp
   have HT:=Hz hT
   have HBW:=Hz hbw
   have hmlt:=hm.lt
   clear hn hnb hm hkp hT hmw hbw
   go_wp2_with (first
    |(at_range;refine eQ _ rfl _ 115 rfl vT (sb+2+m) (S m) rfl HSET.out ?_;intro lst o' hrg hnd hall))
   go_frame
   refine DX wr (wr.alloc o') mb wr.heap.size (sb+2+m) (S m) T lst (HMM.out.below (Below.one _ _) hmlt) hrg hall (Kp.below (Below.one _ _)) ((Below.one _ _).mono (by omega)) hmlt (Nat.le_refl _) (by omega) _ ?_
   intro z10 z42 z43 z44 z45 z46 z47 w' T' hm' hk' hb' hT'
   have HN:Hid (∃ (k':Nat) (T2:Int→Bool),k'≤Ln∧Value.int IntKind.i64 ((k:Int)+1) = .int .i64 k'∧SetI w' mb T2∧Kp w w' mb mb∧Below mb w w'∧(∀ x,T2 x=true↔∃ (j:Nat) (n:Int),j<k'∧nx[j]? = some n∧S n.toNat x=true)):=Hz ⟨k+1,T',by omega,by go_num,hm',HK.out.trans hk',HBW.out.trans hb',fun x=>by
    rw[hT',HT.out]
    constructor
    ·rintro (⟨j,n,h1,h2,h3⟩|h)
     ·exact⟨j,n,by omega,h2,h3⟩
     ·exact⟨k,m,by omega,HNN.out,by rw[Int.toNat_natCast];exact h⟩
    ·rintro ⟨j,n,h1,h2,h3⟩
     by_cases hjk:j=k
     ·subst hjk
      rw[HNN.out] at h2
      injection h2 with h2
      subst h2
      rw[Int.toNat_natCast] at h3
      exact Or.inr h3
     ·exact Or.inl ⟨j,n,by omega,h2,h3⟩⟩
   clear hm' hk' hT' hb'
   go_wp2
   exact⟨HN.out,by simp[intOf];omega⟩
  ·obtain rfl:k=Ln:=by omega
   have HX:=fun y9 y10 y34 y35 y36 y37 y38 y39 y40 y41 y42 y43 y44 y45 y46 y47 y48=>Hz (HE.out y9 y10 y34 y35 y36 y37 y38 y39 y40 y41 y42 y43 y44 y45 y46 y47 y48 wr T hm hkp hbw (fun x=>(hT x).trans ⟨fun ⟨j,n,h1,h2,h3⟩=>⟨n,Mz h2,h3⟩,fun ⟨n,h1,h2⟩=>by
    obtain⟨j,hj⟩:=List.mem_iff_getElem?.1 h1
    exact⟨j,n,by have:=(Lz hj).1;rw[HLN.out] at this;exact this,hj,h2⟩⟩))
   clear hm hkp HE hT hbw
   go_wp2
   exact (HX _ _ _ _ _ _ _ _ _ _ _ _ _ _ _ _ _).out
theorem MapsW.other2 {w:World}{sb N:Nat}{S:cP}(h:MapsW w sb N S){ob k:Nat}(hob:sb+2+N≤ob)(v:Value):MapsW (w.setCell ⟨ob,k,none⟩ v) sb N S :=
 ⟨Pre.other h.h (by simp only;omega) v,fun p hp=>(h.r p hp).of_block (heap_setCell_other w ⟨ob,k,none⟩ _ v (by simp only;omega))⟩
theorem RowV.kp {w w':World}{mb:Nat}{S:Int→Bool}{v:Value}{P:Int→Prop}(h:RowV w v P)(hm:SetI w mb S)(hk:Kp w w' mb mb):RowV w' v P:=by
 obtain⟨A,l,cap,h1,h2,h3⟩:=h
 exact⟨A,l,cap,h1,h2.kp1 hm hk,h3⟩
theorem RowsK.kp {w w':World}{ob N k mb:Nat}{P:Nat→Int→Prop}{S:Int→Bool}(h:RowsK w ob N k P)(hm:SetI w mb S)(hk:Kp w w' mb mb)(hne:ob≠mb):RowsK w' ob N k P:=by
 obtain⟨vs,h1,h2,h3,h4⟩:=h
 exact⟨vs,h1,Pre.of_heap h2 (hk.k _ (Pre.lt h2) hne hne),h3,fun j hj=>by obtain⟨v,h5,h6⟩:=h4 j hj;exact⟨v,h5,h6.kp hm hk⟩⟩
def Bh (l:List Ins)(p:Nat)(r:Int):Prop:=∃ i,l[p]? = some i∧∃ n ∈ i.next p,Lv l n.toNat r
theorem vW (f:aR)(hf:OkF f)(C:Option Addr)(cap:Nat)(w:World)(hC:RdI w C f.code) :
  Calls Try.prog 85 #[aH f.nm f.ps f.R f.Fr C f.code.length cap] w fun e w'=>FA f.code.length (Bh f.code) e w'∧Below w.heap.size w w':=by
 obtain⟨N,hN⟩:∃ N,f.code.length=N:=⟨_,rfl⟩
 have hN2:N≤8192:=by rw[←hN];exact hf.len.2
 have hR0:0≤f.R∧f.R≤4096:=by have:=hf.R;have:=hf.ps;omega
 have hB:=Below.one w (aD f.nm f.ps f.R f.Fr C f.code.length cap)
 have bx:=heap_alloc_new w (aD f.nm f.ps f.R f.Fr C f.code.length cap)
 have hC1:=hC.below hB
 have hR:=gK f hf C cap _ hC1
 have hM:=fun W h=>yV f hf C cap W h
 have hbd:∀ p r,Lv f.code p r→0≤r∧r<(f.R.toNat:Int):=fun p r h=>by have:=(h.bound hf).1;omega
 rw[hN] at hR hM hB bx hC1 ⊢
 simp only[aD,aH] at hR hB bx hC1 hM ⊢
 have HR:=Hz hR
 have HM:=Hz hM
 have HC1:=Hz hC1
 have HBD:=Hz hbd
 have HB:=Hz hB
 have HF:=Hz hf
 have HN:=Hz hN
 have hRn:f.R.toNat≤5000:=by omega
 obtain⟨W,hW⟩:∃ W,w.alloc (.cells #[.string f.nm,.int .i64 f.ps,.int .i64 f.R,.int .i64 f.Fr,.slice C N cap] 24)=W:=⟨_,rfl⟩
 rw[hW] at bx HR HC1 HB
 have HBX:=Hz bx
 have hBl:=(Az bx).1
 have hmk:=fun W=>vV N (by omega) W
 have g0:=aA bx 0 _ rfl
 have g1:=aA bx 1 _ rfl
 have g2:=aA bx 2 _ rfl
 have g3:=aA bx 3 _ rfl
 have g4:=aA bx 4 _ rfl
 clear hf hN hC hB hR hM hC1 hbd bx
 go_enter Try.func85,Try.ntmps85
 go_wp2_with (first
  |(refine HR.out.mono ?_;rintro e w3 ⟨rfl,hb3⟩;have hx3:=(hb3.block _ hBl).trans HBX.out;have h0:=aA hx3 0 _ rfl;have h1:=aA hx3 1 _ rfl;have h2:=aA hx3 2 _ rfl;have h3:=aA hx3 3 _ rfl;have h4:=aA hx3 4 _ rfl;have hl3:=(Az hx3).1;have HX3:=Hz hx3;clear hx3)
  |(refine (HM.out _ (HC1.out.below hb3)).mono ?_;rintro e w5 ⟨⟨sb,S,rfl,hbase,hmw,hS⟩,hb5⟩;have hx5:=(hb5.block _ hl3).trans HX3.out;have h5:=aA hx5 4 _ rfl;have hl5:=(Az hx5).1;have HMW:=Hz hmw;have HX5:=Hz hx5;clear hmw hx5))
 have HS:=Hz hS
 have hw3:w.heap.size≤w3.heap.size:=Nat.le_trans HB.out.size hb3.size
 have hmN:=fun (h:0<N)=>(HMW.out.r (N-1) (by omega)).lt
 have H0:=Hz (show RowsK (w5.alloc (.cells (madeCells #[.slice none 0 0] N) 33)) w5.heap.size N 0 (Bh f.code)∧MapsW (w5.alloc (.cells (madeCells #[.slice none 0 0] N) 33)) sb N S∧Below w5.heap.size w5 (w5.alloc (.cells (madeCells #[.slice none 0 0] N) 33)) from ⟨RowsK.made w5 N (Bh f.code),HMW.out.later (Below.one _ _),Below.one _ _⟩)
 have HW5:=Hz (show Below W.heap.size W w5 from hb3.trans (hb5.mono hb3.size))
 have hw5:w.heap.size≤w5.heap.size:=Nat.le_trans hw3 hb5.size
 have hsbl:sb<w5.heap.size:=Pre.lt HMW.out.h
 clear hS hbase hb5 hb3 h0 h1 h2 h3 h4 h5 g0 g1 g2 g3 g4 hW hmk
 go_loopw [23] (fun ix wr=>∃ k:Nat,k≤N∧ix = .int .i64 k∧RowsK wr w5.heap.size N k (Bh f.code)∧MapsW wr sb N S∧Below w5.heap.size w5 wr) (fun ix _=>N-(intOf ix).toNat)
 case atStart=>exact⟨0,by omega,rfl,H0.out⟩
 case round =>
  obtain⟨k,hk,rfl,hrk,hmw,hb⟩:=hrel
  clear H0
  by_cases hlt:k<N
  ·have hmN:=hmN (by omega)
   obtain⟨i,hi⟩:∃ i,f.code[k]? = some i:=⟨_,List.getElem?_eq_getElem (by rw[HN.out];exact hlt)⟩
   obtain⟨bb,oo,rfl,hbl,hcs⟩:=((HC1.out.below HW5.out).below hb) k i hi
   obtain⟨x0,x1,x2,x3,x4,x5,x6,x7,x8,x9,x10,x11,x12,x13,x14⟩:=RdI.load hcs
   have kx:=heap_alloc_new wr i.obj
   have hnxt:=HF.out.next hi
   rw[HN.out] at hnxt
   have hnl:=Ins.next_len i k
   have hna:=fun W=>oC i k (by omega) W
   have HBH:Hid (∀ x,Bh f.code k x↔∃ n ∈ i.next k,Lv f.code n.toNat x):=Hz fun x=>⟨fun ⟨i',h1,h2⟩=>by
    rw[hi] at h1
    injection h1 with h1
    subst h1
    exact h2,fun h=>⟨i,hi,h⟩⟩
   obtain⟨nx,hnx⟩:∃ nx,i.next k=nx:=⟨_,rfl⟩
   rw[hnx] at hnl hna hnxt HBH
   clear hnx
   obtain⟨Ln,hLn⟩:∃ Ln,nx.length=Ln:=⟨_,rfl⟩
   obtain⟨kk,op,dst,a,b',n,text,r0,r1,r2,r3,r4,r5,to_,els⟩:=i
   have hNA:∀ W,Calls Try.prog 49 #[.agg #[.int .i64 kk,.int .i64 op,.int .i64 dst,.int .i64 a,.int .i64 b',.int .i64 n,.string text,.int .i64 r0,.int .i64 r1,.int .i64 r2,.int .i64 r3,.int .i64 r4,.int .i64 r5,.int .i64 to_,.int .i64 els],.int .i64 k] W fun e w'=>(∃ A c,e = .returned (.slice A Ln c)∧RdN w' A nx)∧Below W.heap.size W w':=fun W=>(hna W).mono fun e w' ⟨⟨A,c,h1,h2⟩,h3⟩=>⟨⟨A,c,by rw[h1,hLn],h2⟩,h3⟩
   have HNA:=Hz hNA
   have HNXT:=Hz hnxt
   have HLn:=Hz hLn
   have HN10:Hid (Ln≤100):=Hz (by omega)
   have kx2:=aC kx (.map #[] 0)
   have ⟨d0,d1,d2,d3,d4,d5,d6,d7,d8,d9,d10,d11,d12,d13,d14⟩:=Ins.cells (i:=⟨kk,op,dst,a,b',n,text,r0,r1,r2,r3,r4,r5,to_,els⟩) kx
   simp only at x0 x1 x2 x3 x4 x5 x6 x7 x8 x9 x10 x11 x12 x13 x14 d0 d1 d2 d3 d4 d5 d6 d7 d8 d9 d10 d11 d12 d13 d14
   have hm0:=SetI.made (wr.alloc (Ins.obj ⟨kk,op,dst,a,b',n,text,r0,r1,r2,r3,r4,r5,to_,els⟩))
   rw[show (wr.alloc (Ins.obj ⟨kk,op,dst,a,b',n,text,r0,r1,r2,r3,r4,r5,to_,els⟩)).heap.size=wr.heap.size+1 by simp] at hm0
   have hb2:Below wr.heap.size wr ((wr.alloc (Ins.obj ⟨kk,op,dst,a,b',n,text,r0,r1,r2,r3,r4,r5,to_,els⟩)).alloc (.map #[] 0)):=(Below.one wr _).alloc (by simp) _
   have hw5r:=hb.size
   have HM0:=Hz hm0
   have HB2:=Hz hb2
   have HRK:=Hz hrk
   have HMW2:=Hz hmw
   have HBB:=Hz hb
   clear hna hNA hnxt hLn hnl hi kx kx2 hcs hm0 hb2 hrk hmw hb
   have hmm:=@run_makeMap Try.prog
   go_wp2_with (first
    |(refine (HNA.out _).mono ?_;rintro e w6 ⟨⟨A4,c4,rfl,hrd⟩,hb6⟩;have HB6:=Hz hb6;have HRD:=Hz hrd;clear hrd hb6))
   have hmb:sb+2+N≤wr.heap.size+1:=by
    have:=(HMW2.out.r (N-1) (by omega)).lt
    omega
   have hB26:=HB2.out.trans (HB6.out.mono HB2.out.size)
   have hrk6:=HRK.out.later hB26
   have hmw6:=HMW2.out.later hB26
   have hm6:=HM0.out.below HB6.out HM0.out.lt
   have hobl:=HRK.out.lt
   refine DY w6 sb N (wr.heap.size+1) S (fun _=>false) (fun _=>rfl) nx A4 c4 Ln HLn.out HN10.out hmw6 hm6 hmb HRD.out HNXT.out _ ?_
   intro z9 z10 z34 z35 z36 z37 z38 z39 z40 z41 z42 z43 z44 z45 z46 z47 z48 w7 T hm7 hk7 hb7 hT7
   have hrk7:=hrk6.kp hm6 hk7 (by omega)
   have hmw7:=hmw6.kp hk7 hmb
   have hTL:∀ x,T x=true↔Bh f.code k x:=fun x=>(hT7 x).trans ⟨fun ⟨n,h1,h2⟩=>(HBH.out x).2 ⟨n,h1,(HS.out _ (HNXT.out n h1).2 x).1 h2⟩,fun h=>by
    obtain⟨n,h1,h2⟩:=(HBH.out x).1 h
    exact⟨n,h1,(HS.out _ (HNXT.out n h1).2 x).2 h2⟩⟩
   have hso:=vU (wr.heap.size+1) T _ hRn w7 hm7 (fun x hx=>by
    obtain⟨i',h1,n,h2,h3⟩:=(hTL x).1 hx
    exact HBD.out _ x h3)
   have hB7:=HBB.out.trans ((hB26.trans (hb7.mono (by omega))).mono hw5r)
   have HSO:=Hz hso
   have HRK7:=Hz hrk7
   have HMW7:=Hz hmw7
   have HTL:=Hz hTL
   have HB7:=Hz hB7
   clear hB26 hrk6 hmw6 hm6 hm7 hk7 hb7 hT7 hrk7 hmw7 hTL hso hB7
   go_wp2_with (first
    |(refine HSO.out.mono ?_;rintro e w8 ⟨⟨A,l,c,rfl,hrd,hpw,hmem⟩,hb8⟩;have hrk8:=HRK7.out.later hb8;have ⟨⟨A0,n0,c0',hc8⟩,hf8⟩:=hrk8.cell hlt;have hl8:=hrk8.lt;have HRK8:=Hz hrk8;have HV:=Hz (show RowV w8 (.slice A l.length c) (Bh f.code k) from ⟨A,l,c,rfl,hrd,hpw,fun x=>(hmem x).trans (HTL.out x)⟩);have HB8:=Hz hb8;clear hrk8 hrd hpw hmem hb8))
   exact⟨⟨k+1,by omega,by go_num,HRK8.out.set hlt HV.out,(HMW7.out.later HB8.out).other2 (by omega) _,(HB7.out.trans (HB8.out.mono HB7.out.size)).setCell (by simp only;omega) _⟩,by simp[intOf];omega⟩
  ·obtain rfl:k=N:=by omega
   have HR2:=Hz (show FA k (Bh f.code) (.returned (.slice (some ⟨w5.heap.size,0,none⟩) k k)) wr∧Below w.heap.size w wr from ⟨⟨_,rfl,hrk⟩,HB.out.trans ((HW5.out.mono HB.out.size).trans (hb.mono hw5))⟩)
   clear hrk hmw hb
   go_wp2
   go_returns
   exact HR2.out
def mG (op:Int):Bool:=decide (1≤op∧op≤23∧¬ (4≤op∧op≤7))
def mH (i:Ins):Bool:=decide (i.kind=1∨i.kind=2∨i.kind=4∨i.kind=5) || (decide (i.kind=3) && mG i.op)
theorem vX (op:Int)(w:World):Calls Try.prog 82 #[.int .i64 op] w fun e w'=>e = .returned (.bool (mG op))∧w=w':=by
 have h1:=wX op
 have h2:=wY op
 have hc:(decide (20≤op∧op≤23)=true∧mG op=true)∨(decide (20≤op∧op≤23)=false∧decide (1≤op∧op≤19)=false∧mG op=false)∨(decide (20≤op∧op≤23)=false∧decide (1≤op∧op≤19)=true∧decide (op<4)=true∧mG op=true) ∨
   (decide (20≤op∧op≤23)=false∧decide (1≤op∧op≤19)=true∧decide (op<4)=false∧decide (op>7)=true∧decide (7<op)=true∧mG op=true)∨(decide (20≤op∧op≤23)=false∧decide (1≤op∧op≤19)=true∧decide (op<4)=false∧decide (op>7)=false∧decide (7<op)=false∧mG op=false):=by
  unfold mG
  simp only[decide_eq_true_eq,decide_eq_false_iff_not]
  omega
 generalize mG op=z at *
 generalize decide (20≤op∧op≤23)=a1 at *
 generalize decide (1≤op∧op≤19)=a2 at *
 rcases hc with ⟨q1,q2⟩|⟨q1,q2,q3⟩|⟨q1,q2,q3,q4⟩|⟨q1,q2,q3,q4,q5,q6⟩|⟨q1,q2,q3,q4,q5,q6⟩
 all_goals
  subst_vars
  have H1:=Hz h1
  have H2:=Hz h2
  clear h1 h2
  go_enter Try.func82,Try.ntmps82
  go_wp2_with (first
   |(go_at_call 99;refine (H1.out _).mono ?_;rintro e w3 ⟨rfl,rfl⟩)
   |(go_at_call 100;refine (H2.out _).mono ?_;rintro e w3 ⟨rfl,rfl⟩))
  go_returns
  exact⟨rfl,rfl⟩
theorem oZ (i:Ins)(w:World):Calls Try.prog 52 #[i.agg] w fun e w'=>e = .returned (.bool (mH i))∧Below w.heap.size w w':=by
 have HST:=Hz (fun W=>vX i.op W)
 have hB:=Below.one w i.obj
 obtain⟨z,hz⟩:∃ z,mH i=z:=⟨_,rfl⟩
 rw[hz]
 obtain⟨k,op,dst,a,b,n,text,r0,r1,r2,r3,r4,r5,to_,els⟩:=i
 unfold mH at hz
 simp only[Ins.agg,Ins.obj] at hB hz HST ⊢
 obtain⟨s,hs⟩:∃ s,mG op=s:=⟨_,rfl⟩
 rw[hs] at hz HST
 rcases kD k with rfl|rfl|rfl|rfl|rfl|rfl|rfl|rfl|rfl|rfl|rfl|rfl|rfl|hk
 case inr.inr.inr.inr.inr.inr.inr.inr.inr.inr.inr.inr.inr =>
  have q1:(k==1)=false:=by simp;omega
  have q2:(k==2)=false:=by simp;omega
  have q4:(k==4)=false:=by simp;omega
  have q5:(k==5)=false:=by simp;omega
  have q3:(k==3)=false:=by simp;omega
  have hz2:z=false:=by
   rw[←hz]
   simp
   omega
  subst hz2
  clear hz hs hk
  go_enter Try.func52,Try.ntmps52
  go_wp2
  go_returns
  exact⟨rfl,hB⟩
 all_goals
  simp at hz
  subst hz
  clear hs
  go_enter Try.func52,Try.ntmps52
  go_wp2_with (first
   |(go_at_call 82;refine (HST.out _).mono ?_;rintro e w3 ⟨rfl,rfl⟩))
  go_returns
  exact⟨rfl,hB⟩
theorem nG (A:Option Addr)(l:List Int)(cap:Nat)(x:Int)(w:World)(h:RdN w A l)(hl:l.length≤100000):Calls Try.prog 65 #[.slice A l.length cap,.int .i64 x] w fun e w'=>e = .returned (.bool (l.contains x))∧w=w':=by
 cases l with
 | nil=>exact (Try.slices_Contains_int_empty A cap x w).mono fun e w' ⟨h1,h2⟩=>⟨h1,h2.symm⟩
 | cons y l =>
  obtain⟨b,o,rfl,_,_⟩:=h 0 y rfl
  refine (Try.slices_Contains_int b o (y::l).length cap (y::l) x w (Nat.le_refl _) (by omega) (fun j hj=>?_)).mono fun e w' ⟨h1,h2⟩=>⟨by rw[h1,List.take_length],h2.symm⟩
  obtain⟨b',o',e1,_,e3⟩:=h j ((y::l)[j]) (List.getElem?_eq_getElem hj)
  injection e1 with e1
  injection e1 with e1 e2
  subst e1 e2
  rw[e3,List.getD_eq_getElem?_getD,List.getElem?_eq_getElem hj]
  rfl
noncomputable def dG (l:List Ins)(p:Nat):Bool:=tb (∃ i,l[p]? = some i∧mH i=true∧¬ Bh l p i.dst)
noncomputable def fF (l:List Ins)(k:Nat):List Int:=((List.range k).filter (dG l)).map fun (n:Nat)=>(n:Int)
noncomputable def fV (l:List Ins):List Int:=fF l l.length
theorem OwnN.later {w w':World}{V:Value}{l:List Int}(h:OwnN w V l)(hb:Below w.heap.size w w'):OwnN w' V l:=by
 obtain⟨h1,h2⟩:=h
 refine⟨h1,?_⟩
 rcases h2 with h2|⟨g,cap,cur,e1,e2,e3,e4⟩
 ·exact Or.inl h2
 ·exact Or.inr ⟨g,cap,cur,e1,e2,(hb.block g (Az e3).1).trans e3,e4⟩
theorem pA (l:List Ins)(k:Nat):fF l (k+1)=if dG l k=true then fF l k++[(k:Int)] else fF l k:=by
 unfold fF
 rw[List.range_succ,List.filter_append,List.map_append]
 by_cases h:dG l k=true
 ·simp[h]
 ·simp[h]
theorem yX (l:List Ins)(k:Nat):(fF l k).length≤k:=by
 unfold fF
 have:=List.length_filter_le (dG l) (List.range k)
 simpa using this
theorem mI {l:List Ins}{p:Nat}{i:Ins}(h:l[p]? = some i):dG l p=true↔mH i=true∧¬ Bh l p i.dst:=by
 unfold dG
 rw[gZ]
 constructor
 ·rintro ⟨i',h1,h2⟩
  rw[h] at h1
  injection h1 with h1
  subst h1
  exact h2
 ·exact fun h2=>⟨i,h,h2⟩
theorem AY (f:aR)(hf:OkF f)(C:Option Addr)(cap:Nat)(w:World)(hC:RdI w C f.code) :
  Calls Try.prog 60 #[aH f.nm f.ps f.R f.Fr C f.code.length cap] w fun e w'=>SlN (fV f.code) e w'∧Below w.heap.size w w':=by
 obtain⟨N,hN⟩:∃ N,f.code.length=N:=⟨_,rfl⟩
 have hN2:N≤8192:=by rw[←hN];exact hf.len.2
 have hB:=Below.one w (aD f.nm f.ps f.R f.Fr C f.code.length cap)
 have bx:=heap_alloc_new w (aD f.nm f.ps f.R f.Fr C f.code.length cap)
 have hC1:=hC.below hB
 have hR:=vW f hf C cap _ hC1
 rw[show fV f.code=fF f.code f.code.length from rfl]
 rw[hN] at hR hB bx hC1 ⊢
 simp only[aD,aH] at hR hB bx hC1 ⊢
 have HR:=Hz hR
 have HC1:=Hz hC1
 have HB:=Hz hB
 have HF:=Hz hf
 have HN:=Hz hN
 obtain⟨W,hW⟩:∃ W,w.alloc (.cells #[.string f.nm,.int .i64 f.ps,.int .i64 f.R,.int .i64 f.Fr,.slice C N cap] 24)=W:=⟨_,rfl⟩
 rw[hW] at bx HR HC1 HB
 have HBX:=Hz bx
 have hBl:=(Az bx).1
 have g0:=aA bx 0 _ rfl
 have g1:=aA bx 1 _ rfl
 have g2:=aA bx 2 _ rfl
 have g3:=aA bx 3 _ rfl
 have g4:=aA bx 4 _ rfl
 clear hf hN hC hB hR hC1 bx
 go_enter Try.func60,Try.ntmps60
 go_wp2_with (first
  |(refine HR.out.mono ?_;rintro e w3 ⟨⟨ob,rfl,hrk⟩,hb3⟩;have HRK:=Hz hrk;clear hrk))
 have HB3:=Hz hb3
 have hws:w.heap.size≤w3.heap.size:=Nat.le_trans HB.out.size hb3.size
 have H0:=Hz (show OwnN w3 (.slice none 0 0) (fF f.code 0) from OwnN.nil _)
 clear hb3 g0 g1 g2 g3 g4 hW
 go_loopw [3,10] (fun V ix wr=>∃ k:Nat,k≤N∧ix = .int .i64 k∧OwnN wr V (fF f.code k)∧(∀ x,V.ownBlock=some x→w3.heap.size≤x)∧Below w3.heap.size w3 wr) (fun _ ix _=>N-(intOf ix).toNat)
 case atStart=>exact⟨0,by omega,rfl,H0.out,(fun x hx=>by simp[Value.ownBlock] at hx),Below.refl _ _⟩
 case round =>
  obtain⟨k,hk,rfl,hown,hV,hb⟩:=hrel
  clear H0
  by_cases hlt:k<N
  ·obtain⟨i,hi⟩:∃ i,f.code[k]? = some i:=⟨_,List.getElem?_eq_getElem (by rw[HN.out];exact hlt)⟩
   obtain⟨bb,oo,rfl,hbl,hcs⟩:=((HC1.out.below HB3.out).below hb) k i hi
   obtain⟨x0,x1,x2,x3,x4,x5,x6,x7,x8,x9,x10,x11,x12,x13,x14⟩:=RdI.load hcs
   have hrk:=HRK.out.later hb
   obtain⟨v,hc,A,l,cp,rfl,hrd,hpw,hmem⟩:=hrk.done hlt
   have hx4:wr.heap[w.heap.size]? = _:=(hb.block _ (Nat.lt_of_lt_of_le hBl HB3.out.size)).trans ((HB3.out.block _ hBl).trans HBX.out)
   have g4:=aA hx4 4 _ rfl
   have hd:=mI hi
   have kx:=heap_alloc_new wr i.obj
   have hpa:=fun W=>oZ i W
   have hll:l.length≤5000:=jD 5000 l (hpw.imp (fun h e=>by omega)) (fun x hx=>by
    obtain⟨i',h1,n,h2,h3⟩:=(hmem x).1 hx
    have h4:=(h3.bound HF.out).1
    have:=HF.out.R
    omega)
   have hca:=fun W h=>nG A l cp i.dst W h (by omega)
   obtain⟨kk,op,dst,a,b',n,text,r0,r1,r2,r3,r4,r5,to_,els⟩:=i
   have ⟨d0,d1,d2,d3,d4,d5,d6,d7,d8,d9,d10,d11,d12,d13,d14⟩:=Ins.cells (i:=⟨kk,op,dst,a,b',n,text,r0,r1,r2,r3,r4,r5,to_,els⟩) kx
   simp only at x0 x1 x2 x3 x4 x5 x6 x7 x8 x9 x10 x11 x12 x13 x14 d0 d1 d2 d3 d4 d5 d6 d7 d8 d9 d10 d11 d12 d13 d14 hd hca
   obtain⟨z,hz⟩:∃ z,mH ⟨kk,op,dst,a,b',n,text,r0,r1,r2,r3,r4,r5,to_,els⟩=z:=⟨_,rfl⟩
   obtain⟨y,hy⟩:∃ y,l.contains dst=y:=⟨_,rfl⟩
   have hyb:y=true↔Bh f.code k dst:=by rw[←hy,←hmem,List.contains_iff_mem]
   rw[hz] at hd hpa
   rw[hy] at hca
   rw[←hyb] at hd
   have HPA:=Hz hpa
   have HCA:=Hz hca
   have HRD:=Hz hrd
   have HD:=Hz hd
   have HOWN:=Hz hown
   have HV:=Hz hV
   have HBB:=Hz hb
   have hw3r:=hb.size
   have HKX:=Hz kx
   have hll2:=(Az hx4).1
   have HDL:=Hz (yX f.code k)
   clear hpa hca hrd hd hown hV hb hi hcs hmem hpw hz hy hyb kx hx4
   have HSK:Hid ((z=false∨y=true)→∀ w6,Below wr.heap.size wr w6→∃ k':Nat,k'≤N∧Value.int IntKind.i64 ((k:Int)+1) = .int .i64 k'∧OwnN w6 u3 (fF f.code k')∧(∀ x,u3.ownBlock=some x→w3.heap.size≤x)∧Below w3.heap.size w3 w6):=Hz fun hzy w6 h6=>⟨k+1,by omega,by go_num,by
    rw[pA,if_neg]
    ·exact HOWN.out.later h6
    ·intro h
     have:=HD.out.1 h
     rcases hzy with rfl|rfl
     ·cases this.1
     ·exact this.2 rfl,HV.out,HBB.out.trans (h6.mono hw3r)⟩
   cases z with
   | false =>
    go_wp2_with (first
     |(refine (HPA.out _).mono ?_;rintro e w6 ⟨rfl,hb6⟩))
    exact⟨HSK.out (Or.inl (by simp)) _ ((Below.one wr _).trans (hb6.mono (by simp))),by simp[intOf];omega⟩
   | true =>
    cases y with
    | true =>
     go_wp2_with (first
      |(refine (HPA.out _).mono ?_;rintro e w6 ⟨rfl,hb6⟩;have hk6:=(hb6.block _ (Az HKX.out).1).trans HKX.out;have ⟨d0,d1,d2,d3,d4,d5,d6,d7,d8,d9,d10,d11,d12,d13,d14⟩:=Ins.cells (i:=⟨kk,op,dst,a,b',n,text,r0,r1,r2,r3,r4,r5,to_,els⟩) hk6;simp only at d0 d1 d2 d3 d4 d5 d6 d7 d8 d9 d10 d11 d12 d13 d14;have hrd6:=Hz ((HRD.out.below (Below.one wr _)).below hb6);clear hk6)
      |(refine (HCA.out _ hrd6.out).mono ?_;rintro e w7 ⟨rfl,rfl⟩))
     exact⟨HSK.out (Or.inr (by simp)) _ ((Below.one wr _).trans (hb6.mono (by simp))),by simp[intOf];omega⟩
    | false =>
     go_wp2_with (first
      |(refine (HPA.out _).mono ?_;rintro e w6 ⟨rfl,hb6⟩;have hk6:=(hb6.block _ (Az HKX.out).1).trans HKX.out;have ⟨d0,d1,d2,d3,d4,d5,d6,d7,d8,d9,d10,d11,d12,d13,d14⟩:=Ins.cells (i:=⟨kk,op,dst,a,b',n,text,r0,r1,r2,r3,r4,r5,to_,els⟩) hk6;simp only at d0 d1 d2 d3 d4 d5 d6 d7 d8 d9 d10 d11 d12 d13 d14;have hrd6:=Hz ((HRD.out.below (Below.one wr _)).below hb6);have HW6:=Hz ((Below.one wr _).trans (hb6.mono (by simp)));clear hk6 hb6)
      |(refine (HCA.out _ hrd6.out).mono ?_;rintro e w7 ⟨rfl,rfl⟩)
      |(at_builtin;refine dA rfl (.tmp 29) (.tmp 31) rfl u3 (fF f.code k) rfl ((HOWN.out.later HW6.out).alloc _) w6.heap.size k rfl (heap_alloc_new _ _) (by have:=HDL.out;omega) ?_;intro V' w8 ho8 hg8 hb8))
     refine⟨⟨k+1,by omega,by go_num,?_,fun x hx=>?_,?_⟩,by simp[intOf];omega⟩
     ·rw[pA,if_pos (HD.out.2 (by simp))]
      exact ho8
     ·have hs:=HW6.out.size
      rcases hb8 with e|e
      ·rw[e] at hx;exact HV.out x hx
      ·rw[e] at hx;injection hx with hx;simp at hx;omega
     ·have hs:=HW6.out.size
      exact Below.grown ((HBB.out.trans (HW6.out.mono hw3r)).alloc (by omega) _) hg8 (by simp;omega) (fun x hx=>HV.out x hx)
  ·obtain rfl:k=N:=by omega
   have HR2:=Hz (show SlN (fF f.code k) (.returned u3) wr∧Below w.heap.size w wr from ⟨SlN.of hown,HB.out.trans ((HB3.out.mono HB.out.size).trans (hb.mono hws))⟩)
   clear hown hV hb
   go_wp2
   go_returns
   exact HR2.out
theorem RdN.keepS {w w':World}{A:Option Addr}{l:List Int}(h:RdN w A l)(hs:w.heap.size≤w'.heap.size)(hk:∀ b o,A=some ⟨b,o,none⟩→b<w.heap.size→w'.heap[b]? = w.heap[b]?):RdN w' A l:=fun j n hn=>by
 obtain⟨b,o,e1,e2,e3⟩:=h j n hn
 exact⟨b,o,e1,by omega,by rw[←e3];simp only[World.cell?,hk b o e1 e2]⟩
structure MF (N:Nat)(nx T0 T:List Int)(k:Nat):Prop where
 ext:∃ E,T=T0++E
 nd:T.Nodup
 bd:∀ x ∈ T,0≤x∧x<(N:Int)
 all:∀ (j:Nat) n,j<k→nx[j]? = some n→n ∈ T
 only:∀ x ∈ T,x ∈ T0∨x ∈ nx
structure Seen (f:aR)(a:Nat)(r:Int)(T:List Int)(k:Nat):Prop where
 hd:T[0]? = some (a:Int)
 nd:T.Nodup
 bd:∀ x ∈ T,0≤x∧x<(f.code.length:Int)
 kl:k≤T.length
 done:∀ (j:Nat) p i,j<k→T[j]? = some p→f.code[p.toNat]? = some i→r ∉ i.uses∧(i.sets=r∨∀ n ∈ i.next p.toNat,n ∈ T)
 way:∀ p ∈ T,Lv f.code p.toNat r→Lv f.code a r
theorem Seen.start {f:aR}{a:Nat}(ha:a<f.code.length)(r:Int):Seen f a r [(a:Int)] 0 :=
 ⟨rfl,by simp,fun x hx=>by simp only[List.mem_singleton] at hx;subst hx;omega,by simp,fun j p i hj=>by omega,fun p hp h=>by simp only[List.mem_singleton] at hp;subst hp;simpa using h⟩
theorem Seen.len {f:aR}{a:Nat}{r:Int}{T:List Int}{k:Nat}(h:Seen f a r T k):T.length≤f.code.length:=jD _ T h.nd h.bd
theorem Seen.skip {f:aR}{a:Nat}{r:Int}{T:List Int}{k:Nat}(h:Seen f a r T k){p:Int}(hp:T[k]? = some p){i:Ins}(hi:f.code[p.toNat]? = some i)(hu:r ∉ i.uses)(hs:i.sets=r):Seen f a r T (k+1) :=
 ⟨h.hd,h.nd,h.bd,by have:=(Lz hp).1;omega,fun j q x hj hq hx=>by
  by_cases hjk:j=k
  ·subst hjk
   rw[hp] at hq
   injection hq with hq
   subst hq
   rw[hi] at hx
   injection hx with hx
   subst hx
   exact⟨hu,Or.inl hs⟩
  ·exact h.done j q x (by omega) hq hx,h.way⟩
theorem Seen.grow {f:aR}{a:Nat}{r:Int}{T T':List Int}{k Ln:Nat}(h:Seen f a r T k){p:Int}(hp:T[k]? = some p){i:Ins}(hi:f.code[p.toNat]? = some i)(hu:r ∉ i.uses)(hs:i.sets≠r)(hL:(i.next p.toNat).length=Ln)(hg:MF f.code.length (i.next p.toNat) T T' Ln):Seen f a r T' (k+1):=by
 obtain⟨E,hE⟩:=hg.ext
 have hkl:=(Lz hp).1
 have hmem:∀ x,x ∈ T→x ∈ T':=fun x hx=>by rw[hE];exact List.mem_append_left _ hx
 refine⟨by rw[hE,List.getElem?_append_left (by omega)];exact h.hd,hg.nd,hg.bd,by rw[hE,List.length_append];omega,fun j q x hj hq hx=>?_,fun q hq hl=>?_⟩
 ·rw[hE,List.getElem?_append_left (by omega)] at hq
  by_cases hjk:j=k
  ·subst hjk
   rw[hp] at hq
   injection hq with hq
   subst hq
   rw[hi] at hx
   injection hx with hx
   subst hx
   refine⟨hu,Or.inr fun n hn=>?_⟩
   obtain⟨m,hm⟩:=List.mem_iff_getElem?.1 hn
   exact hg.all m n (by rw[←hL];exact (Lz hm).1) hm
  ·obtain⟨h1,h2⟩:=h.done j q x (by omega) hq hx
   exact⟨h1,h2.imp (fun h=>h) fun h n hn=>hmem _ (h n hn)⟩
 ·rcases hg.only q hq with h1|h1
  ·exact h.way q h1 hl
  ·exact h.way p (Mz hp) (Lv.step hi h1 hs hl)
theorem OwnN.one (w:World)(x:Int):OwnN (w.alloc (.cells #[.int .i64 x] 3)) (.slice (some ⟨w.heap.size,0,none⟩) 1 1) [x] :=
 ⟨by simp,Or.inr ⟨w.heap.size,1,_,rfl,Nat.zero_le _,heap_alloc_new w _,Nat.le_refl _,by simp[maxLen],by simp,by simp⟩⟩
def kl (G:Nat→Bool)(k:Nat):List Nat:=(List.range k).filter fun p=>!G p
def cT (G:Nat→Bool)(p:Nat):Nat:=(kl G p).length
theorem nW (G:Nat→Bool)(k:Nat):kl G (k+1)=if G k=true then kl G k else kl G k++[k]:=by
 unfold kl
 rw[List.range_succ,List.filter_append]
 cases h:G k <;> simp[h]
theorem dH (G:Nat→Bool)(k:Nat):cT G (k+1)=if G k=true then cT G k else cT G k+1:=by
 unfold cT
 rw[nW]
 split <;> simp
theorem fD (G:Nat→Bool):∀ k,cT G k≤k
 | 0=>Nat.le_refl _
 | k+1=>by
  have:=fD G k
  rw[dH]
  split <;> omega
theorem tS (G:Nat→Bool){p q:Nat}(h:p≤q):cT G p≤cT G q:=by
 induction q with
 | zero =>
  obtain rfl:p=0:=by omega
  exact Nat.le_refl _
 | succ q ih =>
  by_cases hpq:p=q+1
  ·subst hpq;exact Nat.le_refl _
  ·have:=ih (by omega)
   rw[dH]
   split <;> omega
theorem mJ (G:Nat→Bool){p q:Nat}(h:p<q)(hG:G p=false):cT G p<cT G q:=by
 have h1:=tS G (show p+1≤q from h)
 rw[dH,hG] at h1
 simp at h1
 omega
theorem AZ (G:Nat→Bool):∀ {N p:Nat},p<N→G p=false→(kl G N)[cT G p]? = some p
 | 0,p,h,_=>by omega
 | N+1,p,h,hG=>by
  rw[nW]
  by_cases hp:p=N
  ·subst hp
   rw[hG]
   simp[cT]
  ·have ih:=AZ G (show p<N by omega) hG
   have hl:=(Lz ih).1
   split
   ·exact ih
   ·rw[List.getElem?_append_left hl];exact ih
theorem vY (G:Nat→Bool):∀ {N q p:Nat},(kl G N)[q]? = some p→p<N∧G p=false∧cT G p=q
 | 0,q,p,h=>by simp[kl] at h
 | N+1,q,p,h=>by
  rw[nW] at h
  split at h
  ·obtain⟨h1,h2,h3⟩:=vY G h
   exact⟨by omega,h2,h3⟩
  ·rename_i hG
   by_cases hq:q<(kl G N).length
   ·rw[List.getElem?_append_left hq] at h
    obtain⟨h1,h2,h3⟩:=vY G h
    exact⟨by omega,h2,h3⟩
   ·rw[List.getElem?_append_right (by omega)] at h
    have hq2:q-(kl G N).length=0:=by
     have:=(Lz h).1
     simp at this
     omega
    rw[hq2] at h
    injection h with h
    subst h
    exact⟨by omega,by simpa using hG,by show (kl G N).length=q;omega⟩
def cY (G:Nat→Bool)(i:Ins):Ins:={ i with to_:=if i.kind=11∨i.kind=12 then (cT G i.to_.toNat:Int) else i.to_,els:=if i.kind=12 then (cT G i.els.toNat:Int) else i.els }
def bA (l:List Ins)(p:Nat):Ins:=l.getD p ⟨0,0,0,0,0,0,⟨#[]⟩,0,0,0,0,0,0,0,0⟩
theorem gQ {l:List Ins}{p:Nat}{i:Ins}(h:l[p]? = some i):bA l p=i:=by simp[bA,List.getD,h]
theorem cH {l:List Ins}{p:Nat}(h:p<l.length):l[p]? = some (bA l p):=by simp[bA,List.getD,h]
def cZ (G:Nat→Bool)(l:List Ins):List Ins:=(kl G l.length).map fun p=>cY G (bA l p)
theorem dS (G:Nat→Bool)(l:List Ins):(cZ G l).length=cT G l.length:=by simp[cZ,cT]
theorem jF {G:Nat→Bool}{l:List Ins}{p:Nat}{i:Ins}(h:l[p]? = some i)(hG:G p=false):(cZ G l)[cT G p]? = some (cY G i):=by
 unfold cZ
 rw[List.getElem?_map,AZ G (Lz h).1 hG,Option.map_some,gQ h]
theorem lC {G:Nat→Bool}{l:List Ins}{q:Nat}{j:Ins}(h:(cZ G l)[q]? = some j):∃ p i,l[p]? = some i∧G p=false∧cT G p=q∧j=cY G i:=by
 unfold cZ at h
 rw[List.getElem?_map] at h
 cases hk:(kl G l.length)[q]? with
 | none=>rw[hk] at h;cases h
 | some p =>
  rw[hk] at h
  injection h with h
  obtain⟨h1,h2,h3⟩:=vY G hk
  exact⟨p,bA l p,cH h1,h2,h3,h.symm⟩
theorem DZ {G:Nat→Bool}{i:Ins}{R Fr:Int}{L L':Nat}(h:Ok i R Fr L)(hn:∀ n:Nat,(n:Int) ∈ i.next 0→i.kind=11∨i.kind=12→cT G n<L'):Ok (cY G i) R Fr L':=by
 have hk:=h.kind
 have hm:=h.mask
 refine⟨h.kind,h.uses,h.dst,h.word,h.fr,h.call,h.one,h.two,fun e=>?_,fun e=>?_,?_⟩
 ·have e':i.kind=11∨i.kind=12:=e
  have h1:=h.to_ e'
  show (0:Int)≤(if i.kind=11∨i.kind=12 then (cT G i.to_.toNat:Int) else i.to_)∧(if i.kind=11∨i.kind=12 then (cT G i.to_.toNat:Int) else i.to_)<(L':Int)
  rw[if_pos e']
  have:=hn i.to_.toNat (by
   rw[Int.toNat_of_nonneg h1.1]
   unfold Ins.next
   rcases e' with e'|e'
   ·rw[if_pos e'];simp
   ·rw[if_neg (by omega),if_pos e'];simp) e'
  omega
 ·have e':i.kind=12:=e
  have h1:=h.els e'
  show (0:Int)≤(if i.kind=12 then (cT G i.els.toNat:Int) else i.els)∧(if i.kind=12 then (cT G i.els.toNat:Int) else i.els)<(L':Int)
  rw[if_pos e']
  have:=hn i.els.toNat (by
   rw[Int.toNat_of_nonneg h1.1]
   unfold Ins.next
   rw[if_neg (by omega),if_pos e'];simp) (Or.inr e')
  omega
 ·obtain⟨k,op,dst,a,b,n,text,r0,r1,r2,r3,r4,r5,to_,els⟩:=i
  simp only[Ins.mask,cY,Ins.mk.injEq] at hm ⊢
  obtain⟨_,m1,m2,m3,m4,m5,m6,m7,m8,m9,m10,m11,m12,m13,m14⟩:=hm
  refine⟨trivial,m1,m2,m3,m4,m5,m6,m7,m8,m9,m10,m11,m12,?_,?_⟩
  ·by_cases e:k=11∨k=12
   ·rw[if_pos e,if_pos e]
   ·rw[if_neg e,if_neg e];rw[if_neg e] at m13;exact m13
  ·by_cases e:k=12
   ·rw[if_pos e,if_pos e]
   ·rw[if_neg e,if_neg e];rw[if_neg e] at m14;exact m14
inductive Rch (l:List Ins):Nat→Prop
 | zero (h:0<l.length):Rch l 0
 | step {p:Nat} {i:Ins} {n:Int} (hr:Rch l p) (h:l[p]? = some i) (hn:n ∈ i.next p):Rch l n.toNat
theorem Rch.lt {f:aR}(hf:OkF f){p:Nat}(h:Rch f.code p):p<f.code.length:=by
 cases h with
 | zero h=>exact h
 | step _ h hn=>exact (hf.next h _ hn).2
structure Fits (G:Nat→Bool)(f:aR):Prop where
 tgt:∀ (p:Nat) i,f.code[p]? = some i→G p=false→∀ n ∈ i.next p,cT G n.toNat<cT G f.code.length
 last:∀ (p:Nat) i,f.code[p]? = some i→G p=false→cT G p+1=cT G f.code.length→11≤i.kind
 pos:0<cT G f.code.length
def wF (G:Nat→Bool)(f:aR):aR:={ f with code:=cZ G f.code }
theorem next0 {i:Ins}(h:i.kind=11∨i.kind=12)(p q:Int):i.next p=i.next q:=by
 unfold Ins.next
 rcases h with h|h
 ·rw[if_pos h,if_pos h]
 ·rw[if_neg (by omega),if_pos h,if_neg (by omega),if_pos h]
theorem Fits.ok {G:Nat→Bool}{f:aR}(hf:OkF f)(h:Fits G f):OkF (wF G f):=by
 have hlen:(wF G f).code.length=cT G f.code.length:=dS G f.code
 refine⟨hf.nm,hf.ps,hf.R,hf.Fr,by rw[hlen];have:=fD G f.code.length;have:=hf.len;have:=h.pos;omega,fun i hi=>?_,fun i hi=>?_⟩
 ·obtain⟨q,hq⟩:=List.mem_iff_getElem?.1 hi
  obtain⟨p,j,h1,h2,h3,rfl⟩:=lC (show (cZ G f.code)[q]? = some i from hq)
  rw[hlen]
  exact DZ (hf.ok j (Mz h1)) (fun n hn hk=>by
   have:=h.tgt p j h1 h2 n (by rw[next0 hk p 0];exact hn)
   simpa using this)
 ·rw[hlen] at hi
  obtain⟨p,j,h1,h2,h3,rfl⟩:=lC (show (cZ G f.code)[cT G f.code.length-1]? = some i from hi)
  have:=h.pos
  exact h.last p j h1 h2 (by omega)
theorem eC {i:Ins}(h:¬ 11≤i.kind)(p:Int):i.next p=[p+1]:=by
 unfold Ins.next
 rw[if_neg (by omega),if_neg (by omega),if_neg (by omega)]
theorem BA {G:Nat→Bool}{f:aR}(hf:OkF f){p:Nat}{i:Ins}(hi:f.code[p]? = some i)(hG:G p=false):(cY G i).next (cT G p:Int)=(i.next p).map fun n=>(cT G n.toNat:Int):=by
 have hk:=(hf.ok i (Mz hi)).kind
 unfold Ins.next
 show (if i.kind=11 then [(cY G i).to_] else if i.kind=12 then [(cY G i).to_,(cY G i).els] else if i.kind=13 then [] else [(cT G p:Int)+1])=_
 by_cases h1:i.kind=11
 ·rw[if_pos h1,if_pos h1]
  simp[cY,h1]
 ·rw[if_neg h1,if_neg h1]
  by_cases h2:i.kind=12
  ·rw[if_pos h2,if_pos h2]
   simp[cY,h2]
  ·rw[if_neg h2,if_neg h2]
   by_cases h3:i.kind=13
   ·rw[if_pos h3,if_pos h3];rfl
   ·rw[if_neg h3,if_neg h3]
    have e:((p:Int)+1).toNat=p+1:=by omega
    simp only[List.map_cons,List.map_nil,e]
    rw[dH,hG]
    simp
noncomputable def GU (f:aR)(p:Nat):Bool:=!tb (Rch f.code p)
theorem eD {f:aR}{p:Nat}:GU f p=false↔Rch f.code p:=by
 unfold GU
 rw[Bool.not_eq_false',gZ]
theorem nX {f:aR}(hf:OkF f):Fits (GU f) f:=by
 have hz:Rch f.code 0:=Rch.zero (by have:=hf.len;omega)
 have hN:=hf.len
 refine⟨fun p i hi hG n hn=>?_,fun p i hi hG he=>?_,?_⟩
 ·exact mJ _ (hf.next hi n hn).2 (eD.2 (Rch.step (eD.1 hG) hi hn))
 ·by_cases hk:11≤i.kind
  ·exact hk
  ·exfalso
   have hm:(p:Int)+1 ∈ i.next p:=by rw[eC hk];simp
   have hr:=Rch.step (eD.1 hG) hi hm
   have hl:=(hf.next hi _ hm).2
   have e:((p:Int)+1).toNat=p+1:=by omega
   rw[e] at hr hl
   have h1:=mJ (GU f) hl (eD.2 hr)
   rw[dH,hG] at h1
   simp at h1
   omega
 ·have:=mJ (GU f) (show 0<f.code.length by omega) (eD.2 hz)
  omega
theorem BB {f:aR}{p:Nat}{i:Ins}(hi:f.code[p]? = some i)(h:dG f.code p=true):¬ 11≤i.kind:=by
 have:=((mI hi).1 h).1
 unfold mH at this
 simp at this
 omega
theorem rW {f:aR}(hf:OkF f):Fits (dG f.code) f:=by
 have hN:=hf.len
 have hl:f.code[f.code.length-1]? = some (bA f.code (f.code.length-1)):=cH (by omega)
 have hlk:=hf.last _ hl
 have hG:dG f.code (f.code.length-1)=false:=by
  rw[Bool.eq_false_iff]
  intro h
  exact BB hl h hlk
 have ht:=mJ (dG f.code) (show f.code.length-1<f.code.length by omega) hG
 refine⟨fun p i hi hGp n hn=>?_,fun p i hi hGp he=>?_,by omega⟩
 ·have h1:=(hf.next hi n hn).2
  have:=tS (dG f.code) (show n.toNat≤f.code.length-1 by omega)
  omega
 ·have hp:=(Lz hi).1
  by_cases hpl:p=f.code.length-1
  ·subst hpl
   rw[hl] at hi
   injection hi with hi
   subst hi
   exact hlk
  ·have:=mJ (dG f.code) (show p<f.code.length-1 by omega) hGp
   omega
theorem vZ {G:Nat→Bool}{f:aR}(hf:OkF f)(hfit:Fits G f)(hgone:∀ (p:Nat) i,f.code[p]? = some i→Rch f.code p→G p=true→¬ 11≤i.kind){p:Nat}(h:Rch f.code p):Rch (cZ G f.code) (cT G p):=by
 induction h with
 | zero h0=>exact Rch.zero (by rw[dS];exact hfit.pos)
 | @step p i n hr hi hn ih =>
  cases hG:G p with
  | true =>
   have hk:=hgone p i hi hr hG
   rw[eC hk] at hn
   have hn:n=(p:Int)+1:=by simpa using hn
   subst hn
   have e:((p:Int)+1).toNat=p+1:=by omega
   rw[e,dH,hG]
   exact ih
  | false =>
   have h1:=jF hi hG
   have h2:=Rch.step ih h1 (n:=(cT G n.toNat:Int)) (by rw[BA hf hi hG];exact List.mem_map.2 ⟨n,hn,rfl⟩)
   simpa using h2
def BC (f:aR):Prop:=∀ p,p<f.code.length→Rch f.code p
theorem GV {f:aR}(hf:OkF f):BC (wF (GU f) f):=fun q hq=>by
 obtain⟨p,i,h1,h2,h3,_⟩:=lC (show (cZ (GU f) f.code)[q]? = some _ from cH hq)
 have:=vZ hf (nX hf) (fun p i _ h3 h4=>by rw[eD.2 h3] at h4;cases h4) (eD.1 h2)
 rw[h3] at this
 exact this
noncomputable def uF (f:aR):aR:=wF (GU f) f
noncomputable def dF (f:aR):aR:=wF (dG f.code) f
theorem qW {f:aR}(hf:OkF f):OkF (uF f):=(nX hf).ok hf
theorem BD {f:aR}(hf:OkF f):OkF (dF f):=(rW hf).ok hf
inductive Swp:aR→aR→Prop
 | done {f:aR} (h:fV (uF f).code=[]):Swp f (uF f)
 | more {f g:aR} (h:fV (uF f).code≠[]) (hs:Swp (dF (uF f)) g):Swp f g
theorem Swp.end_ {f g:aR}(h:Swp f g)(hf:OkF f):OkF g∧fV g.code=[]∧BC g∧g.nm=f.nm∧g.ps=f.ps∧g.R=f.R∧g.Fr=f.Fr∧g.code.length≤f.code.length:=by
 induction h with
 | @done f h=>exact⟨qW hf,h,GV hf,rfl,rfl,rfl,rfl,by show (cZ _ _).length≤_;rw[dS];exact fD _ _⟩
 | @more f g h hs ih =>
  obtain⟨h1,h2,h3,h4,h5,h6,h7,h8⟩:=ih (BD (qW hf))
  have h9:(dF (uF f)).code.length≤(uF f).code.length:=by show (cZ _ _).length≤_;rw[dS];exact fD _ _
  have h10:(uF f).code.length≤f.code.length:=by show (cZ _ _).length≤_;rw[dS];exact fD _ _
  exact⟨h1,h2,h3,h4,h5,h6,h7,by omega⟩
theorem BE (i:Ins)(h:i.kind=13)(p:Int)(w:World):Calls Try.prog 49 #[i.agg,.int .i64 p] w fun e w'=>e = .returned (.slice none 0 0)∧Below w.heap.size w w':=by
 have hB:=Below.one w i.obj
 obtain⟨k,op,dst,a,b,n,text,r0,r1,r2,r3,r4,r5,to_,els⟩:=i
 simp only at h
 subst h
 simp only[Ins.agg,Ins.obj] at hB ⊢
 go_enter Try.func49,Try.ntmps49
 go_wp2
 go_returns
 exact⟨rfl,hB⟩
theorem yY {i:Ins}(h:i.kind≠13)(p:Int):0<(i.next p).length:=by
 unfold Ins.next
 rw[if_neg h]
 split
 ·simp
 ·split <;> simp
theorem OwnN.pop {w:World}{g cap n:Nat}{l:List Int}{x:Int}(h:OwnN w (.slice (some ⟨g,0,none⟩) (n+1) cap) (l++[x]))(hl:l.length=n):OwnN w (.slice (some ⟨g,0,none⟩) n cap) l:=by
 obtain⟨h1,h2⟩:=h
 refine⟨by simp,?_⟩
 rcases h2 with ⟨h2,_⟩|⟨g',cap',cur,e,hB,hg,hnc,hcm,hsz,htake⟩
 ·cases h2
 ·injection e with e1 e2 e3
  injection e1 with e1
  injection e1 with e1
  subst e1 e3
  refine Or.inr ⟨g,cap,cur,by rw[hl],hB,hg,by rw[List.length_append] at hnc;omega,hcm,hsz,?_⟩
  have:=congrArg (List.take l.length) htake
  rw[List.take_take] at this
  simp only[List.length_append,List.length_singleton,Nat.mul_one,List.map_append] at this ⊢
  rw[Nat.min_eq_left (by omega)] at this
  rw[this,List.take_append_of_le_length (by simp),List.take_of_length_le (by simp)]
def bl (N:Nat)(m:Nat→Bool):List Bool:=(List.range N).map m
def eS (m:Nat→Bool)(p:Nat):Nat→Bool:=fun q=>decide (q=p) || m q
theorem fW {N:Nat}{m:Nat→Bool}{p:Nat}(h:p<N):(bl N m)[p]? = some (m p):=by simp[bl,h]
theorem rX {N:Nat}{m:Nat→Bool}{p:Nat}:(bl N m).set p true=bl N (eS m p):=by
 apply List.ext_getElem?
 intro j
 by_cases hj:j<N
 ·rw[List.getElem?_set,fW hj,fW hj]
  by_cases h:p=j
  ·subst h;simp[bl,hj,eS]
  ·rw[if_neg h];simp[eS,Ne.symm h]
 ·rw[List.getElem?_eq_none (by simp[bl];omega),List.getElem?_eq_none (by simp[bl];omega)]
def mK (N:Nat)(m:Nat→Bool):Nat:=(List.range N).countP fun p=>!m p
theorem xF {N:Nat}{m:Nat→Bool}{p:Nat}(hp:p<N)(h:m p=false):mK N (eS m p)<mK N m :=
 mD (fun x _ hx=>by simp[eS] at hx ⊢;exact hx.2) ⟨p,List.mem_range.2 hp,by simp[h],by simp[eS]⟩
structure Mk (f:aR)(m:Nat→Bool)(T:List Int):Prop where
 lo:∀ p,m p=true→Rch f.code p
 td:∀ x ∈ T,0≤x∧Rch f.code x.toNat
 z:m 0=true∨(0:Int) ∈ T
 cl:∀ p i,m p=true→f.code[p]? = some i→∀ n ∈ i.next p,m n.toNat=true∨n ∈ T
 len:T.length+2*mK f.code.length m≤2*f.code.length+1
theorem Mk.start {f:aR}(hf:OkF f):Mk f (fun _=>false) [0] :=
 ⟨(fun p h=>by cases h),fun x hx=>by
  simp only[List.mem_singleton] at hx
  subst hx
  exact⟨Int.le_refl _,Rch.zero (by have:=hf.len;omega)⟩,Or.inr (by simp),(fun p i h=>by cases h),by
  have:mK f.code.length (fun _=>false)≤f.code.length:=by
   unfold mK
   have:=List.countP_le_length (p:=fun p=>!(fun _:Nat=>false) p) (l:=List.range f.code.length)
   rwa [List.length_range] at this
  simp;omega⟩
theorem Mk.skip {f:aR}{m:Nat→Bool}{T:List Int}{x:Int}(h:Mk f m (T++[x]))(hm:m x.toNat=true):Mk f m T:=by
 refine⟨h.lo,fun y hy=>h.td y (by simp[hy]),?_,fun p i hp hi n hn=>?_,by have:=h.len;simp at this;omega⟩
 ·rcases h.z with hz|hz
  ·exact Or.inl hz
  ·rcases List.mem_append.1 hz with hz|hz
   ·exact Or.inr hz
   ·simp only[List.mem_singleton] at hz
    subst hz
    exact Or.inl hm
 ·rcases h.cl p i hp hi n hn with h1|h1
  ·exact Or.inl h1
  ·rcases List.mem_append.1 h1 with h1|h1
   ·exact Or.inr h1
   ·simp only[List.mem_singleton] at h1
    subst h1
    exact Or.inl hm
theorem Mk.add {f:aR}(hf:OkF f){m:Nat→Bool}{T:List Int}{p:Nat}{i:Ins}(h:Mk f m (T++[(p:Int)]))(hm:m p=false)(hi:f.code[p]? = some i):Mk f (eS m p) (T++i.next p):=by
 have hr:Rch f.code p:=by have:=(h.td (p:Int) (by simp)).2;simpa using this
 have hp:=(Lz hi).1
 refine⟨fun q hq=>?_,fun y hy=>?_,?_,fun q j hq hj n hn=>?_,?_⟩
 ·unfold eS at hq
  rw[Bool.or_eq_true,decide_eq_true_eq] at hq
  rcases hq with rfl|hq
  ·exact hr
  ·exact h.lo q hq
 ·rcases List.mem_append.1 hy with hy|hy
  ·exact h.td y (by simp[hy])
  ·exact⟨(hf.next hi y hy).1,Rch.step hr hi hy⟩
 ·rcases h.z with hz|hz
  ·exact Or.inl (by simp[eS,hz])
  ·rcases List.mem_append.1 hz with hz|hz
   ·exact Or.inr (by simp[hz])
   ·simp only[List.mem_singleton] at hz
    have:p=0:=by omega
    subst this
    exact Or.inl (by simp[eS])
 ·unfold eS at hq
  rw[Bool.or_eq_true,decide_eq_true_eq] at hq
  rcases hq with rfl|hq
  ·rw[hi] at hj
   injection hj with hj
   subst hj
   exact Or.inr (by simp[hn])
  ·rcases h.cl q j hq hj n hn with h1|h1
   ·exact Or.inl (by simp[eS,h1])
   ·rcases List.mem_append.1 h1 with h1|h1
    ·exact Or.inr (by simp[h1])
    ·simp only[List.mem_singleton] at h1
     subst h1
     exact Or.inl (by simp[eS])
 ·have h1:=xF hp hm
  have h2:=h.len
  have h3:=Ins.next_len i p
  rw[List.length_append] at h2 ⊢
  simp at h2
  omega
theorem Mk.done {f:aR}{m:Nat→Bool}(h:Mk f m [])(p:Nat):m p=tb (Rch f.code p):=by
 rw[Bool.eq_iff_iff,gZ]
 refine⟨h.lo p,fun hr=>?_⟩
 induction hr with
 | zero _ =>
  rcases h.z with hz|hz
  ·exact hz
  ·cases hz
 | step _ hi hn ih =>
  rcases h.cl _ _ ih hi _ hn with h1|h1
  ·exact h1
  ·cases h1
def BF (f:aR)(N base:Nat)(e:Ending)(w:World):Prop:=∃ ob,e = .returned (.slice (some ⟨ob,0,none⟩) N N)∧base≤ob∧Pre gB 1 4 w ob (bl N fun p=>tb (Rch f.code p))
theorem tT (f:aR)(hf:OkF f)(C:Option Addr)(cap:Nat)(w:World)(hC:RdI w C f.code) :
  Calls Try.prog 61 #[aH f.nm f.ps f.R f.Fr C f.code.length cap] w fun e w'=>BF f f.code.length w.heap.size e w'∧Below w.heap.size w w':=by
 obtain⟨N,hN⟩:∃ N,f.code.length=N:=⟨_,rfl⟩
 have hN2:N≤8192:=by rw[←hN];exact hf.len.2
 have hN1:1≤N:=by rw[←hN];exact hf.len.1
 have hB:=Below.one w (aD f.nm f.ps f.R f.Fr C f.code.length cap)
 have bx:=heap_alloc_new w (aD f.nm f.ps f.R f.Fr C f.code.length cap)
 have hsz:(w.alloc (aD f.nm f.ps f.R f.Fr C f.code.length cap)).heap.size=w.heap.size+1:=by simp
 have hC1:=hC.below hB
 have HMK:=Hz (Mk.start hf)
 rw[hN] at hB bx hC1 hsz ⊢
 simp only[aD,aH] at hB bx hC1 hsz ⊢
 have HF:=Hz hf
 have HN:=Hz hN
 have HC1:=Hz hC1
 have HB:=Hz hB
 obtain⟨W,hW⟩:∃ W,w.alloc (.cells #[.string f.nm,.int .i64 f.ps,.int .i64 f.R,.int .i64 f.Fr,.slice C N cap] 24)=W:=⟨_,rfl⟩
 rw[hW] at bx HC1 HB hsz
 have HBX:=Hz bx
 have HSZ:=Hz hsz
 have hBl:=(Az bx).1
 have hmk:=fun W=>kH N (by omega) W
 have g4:=aA bx 4 _ rfl
 clear hf hN hC hB hC1 bx hsz
 have hpm:=dX (g:=gB) (d:=1) (t:=4) W #[.bool false] N false rfl (fun k hk=>by
  obtain rfl:k=0:=by omega
  rfl)
 rw[Nat.mul_one,show List.replicate N false=bl N (fun _=>false) by
  apply List.ext_getElem?
  intro j
  by_cases hj:j<N
  ·rw[fW hj];simp[hj]
  ·rw[List.getElem?_eq_none (by simp;omega),List.getElem?_eq_none (by simp[bl];omega)]] at hpm
 have h1n:=OwnN.one (W.alloc (.cells (madeCells #[.bool false] N) 4)) 0
 rw[show (W.alloc (.cells (madeCells #[.bool false] N) 4)).heap.size=W.heap.size+1 by simp] at h1n
 have H0:=Hz (show Pre gB 1 4 ((W.alloc (.cells (madeCells #[.bool false] N) 4)).alloc (.cells #[.int .i64 0] 3)) W.heap.size (bl N (fun _=>false))∧OwnN ((W.alloc (.cells (madeCells #[.bool false] N) 4)).alloc (.cells #[.int .i64 0] 3)) (.slice (some ⟨W.heap.size+1,0,none⟩) 1 1) [0]∧(∀ b,(Value.slice (some ⟨W.heap.size+1,0,none⟩) 1 1).ownBlock=some b→W.heap.size<b)∧Below W.heap.size W ((W.alloc (.cells (madeCells #[.bool false] N) 4)).alloc (.cells #[.int .i64 0] 3)) from ⟨Pre.later hpm (Below.one _ _),h1n,(fun b hb=>by simp[Value.ownBlock] at hb;omega),(Below.one W _).alloc (by simp) _⟩)
 clear hpm h1n
 go_enter Try.func61,Try.ntmps61
 go_wp2
 clear hW hmk g4
 go_loopg [4] (3*mK N (fun _=>false)+1) (fun g V wr=>∃ (m:Nat→Bool) (T:List Int),g=3*mK N m+T.length∧Pre gB 1 4 wr W.heap.size (bl N m)∧OwnN wr V T∧(∀ b,V.ownBlock=some b→W.heap.size<b)∧Below W.heap.size W wr∧Mk f m T)
 case atStart=>exact⟨_,[0],rfl,H0.out.1,H0.out.2.1,H0.out.2.2.1,H0.out.2.2.2,HMK.out⟩
 case round =>
  obtain⟨m,T,hg,hpre,hown,hV,hb,hmk⟩:=hrel
  clear H0
  have HG:=Hz hg
  have HP:=Hz hpre
  have HO:=Hz hown
  have HV:=Hz hV
  have HBB:=Hz hb
  have HM:=Hz hmk
  rcases List.eq_nil_or_concat T with hT|⟨T',x,hT⟩
  ·subst hT
   obtain⟨A,c,hVf,_,_⟩:=hown.form
   subst hVf
   have HR:Hid (BF f N w.heap.size (.returned (.slice (some ⟨W.heap.size,0,none⟩) N N)) wr):=Hz ⟨W.heap.size,rfl,by have:=HSZ.out;omega,by
    have e:bl N m=bl N (fun p=>tb (Rch f.code p)):=by
     unfold bl
     apply List.map_congr_left
     intro p _
     exact HM.out.done p
    rw[←e]
    exact HP.out⟩
   clear hg hpre hown hV hb hmk
   go_wp2
   go_returns
   exact⟨HR.out,HB.out.trans (HBB.out.mono HB.out.size)⟩
  ·rw[List.concat_eq_append] at hT
   subst hT
   have hx:=HM.out.td x (by simp)
   obtain⟨p,rfl⟩:∃ p:Nat,x=(p:Int):=⟨x.toNat,by omega⟩
   have hpr:Rch f.code p:=by simpa using hx.2
   have hpN:p<N:=by have:=hpr.lt HF.out;rwa [HN.out] at this
   have hlen:=HM.out.len
   rw[HN.out] at hlen
   obtain⟨n,hn⟩:∃ n,T'.length=n:=⟨_,rfl⟩
   have hTl:(T'++[(p:Int)]).length=n+1:=by simp[hn]
   rw[hTl] at hlen
   have hsm:n+1≤20000:=by omega
   have hsz2:=hb.size
   obtain⟨_,ho2⟩:=hown
   rcases ho2 with ⟨_,h0⟩|⟨gg,cp,cur,hVf,_,hgg,hnc,hcm,_,_⟩
   ·rw[hTl] at h0;omega
   ·have hcv:wr.cell? ⟨gg,n,none⟩=((T'++[(p:Int)]).map (Value.int .i64))[n]?:=by
     have h:=HO.out
     rw[hVf] at h
     exact World.ownsRow.cellAt h n (by rw[hTl];omega)
    rw[hTl] at hVf hnc
    subst hVf
    have hcell:wr.cell? ⟨gg,n,none⟩=some (.int .i64 p):=by
     rw[hcv,List.getElem?_map,List.getElem?_append_right (by omega)]
     simp[hn]
    have hgl:gg≠W.heap.size:=by have:=HV.out gg rfl;omega
    have HOP:Hid (OwnN wr (.slice (some ⟨gg,0,none⟩) n cp) T'):=Hz (OwnN.pop (by have:=HO.out;exact this) hn)
    obtain⟨i,hi⟩:∃ i,f.code[p]? = some i:=⟨_,List.getElem?_eq_getElem (by rw[HN.out];exact hpN)⟩
    have hmc:=PreB.cell HP.out (fW hpN)
    have hmf:=Pre.free HP.out p
    have hol:=Pre.lt HP.out
    have hx4:wr.heap[w.heap.size]? = _:=(hb.block _ hBl).trans HBX.out
    have g4:=aA hx4 4 _ rfl
    have hGn:Hid (gk=3*mK N m+(n+1)):=Hz (by rw[HG.out,hTl])
    have HI:=Hz hi
    have HLT:=Hz hn
    have hll4:=(Az hx4).1
    clear hg hpre hV hb hmk hx hpr hlen hTl hcv hgg hi hn hcm
    cases hm:m p with
    | true =>
     rw[hm] at hmc
     have HK:=Hz (HM.out.skip (by simpa using hm))
     clear hm
     go_wp2
     go_roundg (3*mK N m+n)
     case measure=>rw[hGn.out];omega
     case rel=>exact⟨m,T',by rw[HLT.out],HP.out,HOP.out,HV.out,HBB.out,HK.out⟩
    | false =>
     rw[hm] at hmc
     have HK:=Hz (HM.out.add HF.out hm HI.out)
     have HCL:Hid (mK N (eS m p)<mK N m):=Hz (xF hpN hm)
     have hP2:=PreB.set HP.out (j:=p) (by simp[bl];exact hpN) true
     rw[rX] at hP2
     have hb2:=HBB.out.setCell (p:=⟨W.heap.size,p,none⟩) (Nat.le_refl _) (.bool true)
     have hO2:OwnN (wr.setCell ⟨W.heap.size,p,none⟩ (.bool true)) (.slice (some ⟨gg,0,none⟩) n cp) T':=by
      obtain⟨h1,h2⟩:=HOP.out
      refine⟨h1,?_⟩
      rcases h2 with h2|⟨g',cap',cur',e1,e2,e3,e4⟩
      ·exact Or.inl h2
      ·have e1':=e1
       injection e1' with e5
       injection e5 with e5
       injection e5 with e5
       subst e5
       exact Or.inr ⟨gg,cap',cur',e1,e2,(heap_setCell_other wr ⟨W.heap.size,p,none⟩ gg _ hgl).trans e3,e4⟩
     obtain⟨bb,oo,rfl,hbl,hcs⟩:=(HC1.out.below hb2) p i HI.out
     obtain⟨x0,x1,x2,x3,x4,x5,x6,x7,x8,x9,x10,x11,x12,x13,x14⟩:=RdI.load hcs
     have hx5:(wr.setCell ⟨W.heap.size,p,none⟩ (.bool true)).heap[w.heap.size]? = _:=(hb2.block _ hBl).trans HBX.out
     have k4:=aA hx5 4 _ rfl
     have HP2:=Hz hP2
     have HB2:=Hz hb2
     have HO2:=Hz hO2
     have hn13:=fun (h:i.kind=13) W=>BE i h p W
     have hnn:=fun W=>oC i p (by omega) W
     have hpos:=fun (h:i.kind≠13)=>yY h p
     have hl2:=Ins.next_len i p
     have hz:i.kind=13→i.next p=[]:=fun h=>by unfold Ins.next;rw[if_neg (by omega),if_neg (by omega),if_pos h]
     obtain⟨nx,hnx⟩:∃ nx,i.next p=nx:=⟨_,rfl⟩
     rw[hnx] at hnn hpos hl2 hz HK
     obtain⟨kk,op,dst,a',b',nn,text,r0,r1,r2,r3,r4,r5,to_,els⟩:=i
     simp only[Ins.agg] at x0 x1 x2 x3 x4 x5 x6 x7 x8 x9 x10 x11 x12 x13 x14 hn13 hnn hpos hz
     have HN13:=Hz hn13
     have HNN:=Hz hnn
     clear hm hP2 hb2 hO2 hcs hx5 hn13 hnn hnx hx4
     by_cases hk13:kk=13
     ·have hzz:=hz hk13
      subst hzz
      have HK13:=Hz hk13
      clear hz hpos hk13
      go_wp2_with fail
      refine (HN13.out HK13.out _).mono ?_
      rintro e w5 ⟨rfl,hb5⟩
      have ho5:=HO2.out.later hb5
      go_wp2_with (first
       |(at_builtin;refine wpList_append_own_none rfl (.tmp 33) (.tmp 40) 33 rfl 0 3 _ 1 (by kernel_rfl) (info_parts lS).choose_spec.1 _ _ _ rfl ho5 rfl ?_))
      go_roundg (3*mK N (eS m p)+n)
      case measure=>rw[hGn.out];have:=HCL.out;omega
      case rel=>exact⟨eS m p,T',by rw[HLT.out],Pre.later HP2.out hb5,ho5,HV.out,HB2.out.trans (hb5.mono HB2.out.size),by have:=HK.out;rwa [List.append_nil] at this⟩
     ·have hpos:=hpos hk13
      obtain⟨Ln,hLn⟩:∃ Ln,nx.length=Ln:=⟨_,rfl⟩
      have HNN2:Hid (∀ W,Calls Try.prog 49 #[.agg #[.int .i64 kk,.int .i64 op,.int .i64 dst,.int .i64 a',.int .i64 b',.int .i64 nn,.string text,.int .i64 r0,.int .i64 r1,.int .i64 r2,.int .i64 r3,.int .i64 r4,.int .i64 r5,.int .i64 to_,.int .i64 els],.int .i64 p] W fun e w'=>(∃ A c,e = .returned (.slice A Ln c)∧RdN w' A nx)∧Below W.heap.size W w'):=Hz fun W=>(HNN.out W).mono fun e w' ⟨⟨A,c,h1,h2⟩,h3⟩=>⟨⟨A,c,by rw[h1,hLn],h2⟩,h3⟩
      have HLN:=Hz hLn
      have HPOS:=Hz hpos
      have hl22:Ln≤2:=by omega
      clear hz hpos hk13 hLn HN13 HNN
      go_wp2_with fail
      refine (HNN2.out _).mono ?_
      rintro e w5 ⟨⟨A5,c5,rfl,hrd5⟩,hb5⟩
      have ho5:=HO2.out.later hb5
      obtain⟨V6,w6,hrun,ho6,hg6,hb6⟩:=gX w5 33 _ T' ho5 A5 nx c5 hrd5 HPOS.out (by rw[HLT.out,HLN.out];omega)
      rw[HLN.out] at hrun
      have hs5:wr.heap.size≤w5.heap.size:=by have:=hb5.size;simpa using this
      have HP6:Hid (Pre gB 1 4 w6 W.heap.size (bl N (eS m p))):=Hz ((Pre.later HP2.out hb5).of_heap (hg6.block _ (by omega) (fun e=>by have:=HV.out gg rfl;simp[Value.ownBlock] at e;omega)))
      have HV6:Hid (∀ b,V6.ownBlock=some b→W.heap.size<b):=Hz fun b hb'=>by
       rcases hb6 with e|e
       ·rw[e] at hb';exact HV.out b hb'
       ·rw[e] at hb';injection hb' with hb';omega
      have HB6:Hid (Below W.heap.size W w6):=Hz (Below.grown (HB2.out.trans (hb5.mono HB2.out.size)) hg6 (by omega) (fun b hb'=>by have:=HV.out b hb';omega))
      have HO6:=Hz ho6
      clear ho5 ho6 hg6 hb6 hrd5 hb5
      go_wp2_with (first
       |(at_builtin;refine bW rfl (.tmp 33) (.tmp 40) rfl rfl rfl hrun ?_))
      go_roundg (3*mK N (eS m p)+(n+Ln))
      case measure=>rw[hGn.out];have:=HCL.out;omega
      case rel=>exact⟨eS m p,T'++nx,by rw[List.length_append,HLT.out,HLN.out],HP6.out,HO6.out,HV6.out,HB6.out,HK.out⟩
end Go.Proofs.Ytkcclefonmnpnaa
