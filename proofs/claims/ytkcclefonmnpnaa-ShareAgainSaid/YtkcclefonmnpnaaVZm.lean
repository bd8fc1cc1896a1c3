import Derived.Deep.CutBlock
import Derived.Test.YtkcclefonmnpnaaVZl
set_option maxRecDepth 1000000
set_option maxHeartbeats 32000000
namespace Go.Proofs.Ytkcclefonmnpnaa
open Go.RowKit Go.BigFrame
def mP:Code→Nat→Code
 | .seq a _,0=>a
 | .seq _ b,n+1=>mP b n
 | c,_=>c
def KO:Code→Code
 | .block _ c=>c
 | c=>c
noncomputable def IF:Code:=((((Try.f20.body).map cE).getD [])[0]?).getD .skip
noncomputable def sD:Code:=KO (mP (fQ IF) 2)
noncomputable def KP:Code:=mP sD 5
theorem IG (X:ShS)(i o:Ins)(ib B xb mh:Nat)(Vm:Value)(w12:World)(hro:X.read i=o)(hib:ib<B)(hx:w12.heap[xb]? = some (.cells #[Vm,.map (some mh)] 73))(hh12:MapK Ins.agg w12 mh (pS X.has))(hi12:w12.heap[ib]? = some i.obj)(ho12:w12.heap[B]? = some o.obj)(hq12:w12.heap[B+1]? = some (fA o).obj)
  {x0 x1 x2 x3 x4 x5 x7 x11 x12 x13 x14 x15 x16 x17 x18 x19 x20 x21 x22 x23 x24 x25 x26 x27 x28 x29 x30 x31 x32 x33 x34 x35 x36 x37 x38 x39 x40 x41 x42 x43 x44 x45 x46 x47 x48 x49 x50 x51 x52 x53 x54 x55 x56 x57 x58 x59 x60 x61 x62 x63 x64 x65 x66 x67 x68 x69 x70 x71 x72 x73 x74 x75 x76 x77 x78 x79 x80 x81 x82 x83 x84 x85 x86 x87 x88 x89 x90 x91 x92 x93 x94 x95 x96 x97 x98 x99 xA0 xA1 xA2 xA3 xA4 xA5 xA6 xA7 xA8 xA9 xB0 xB1 xB2 xB3 xB4 xB5 xB6 xB7 xB8 xB9 xC0 xC1 xC2 xC3 xC4 xC5 xC6 xC7 xC8:Value} (K:Act→World→Prop) (Q:Exit→Act→World→Prop)
  (hK:∀ (y11 y12 y41 y42 y43 y44 y45 y46 y47 y48 y49 y50 y51 y52 y53 y54 y55 y56 y57 y58 y59 y60 y61 y62 y63 y64 y65 y66 y67 y68:Value) (w':World),Below B w12 w'→w'.heap[B]? = some (X.new i).obj→w'.heap[B+1]? = some (fA o).obj→K ⟨(x0::x1::x2::x3::x4::x5::.pointer (some ⟨xb,0,none⟩)::x7::.pointer (some ⟨ib,0,none⟩)::.pointer (some ⟨B,0,none⟩)::.pointer (some ⟨B+1,0,none⟩)::y11::y12::x13::x14::x15::x16::x17::x18::x19::x20::x21::x22::x23::x24::x25::x26::x27::x28::x29::x30::x31::x32::x33::x34::x35::x36::x37::x38::x39::x40::y41::y42::y43::y44::y45::y46::y47::y48::y49::y50::y51::y52::y53::y54::y55::y56::y57::y58::y59::y60::y61::y62::y63::y64::y65::y66::y67::y68::x69::x70::x71::x72::x73::x74::x75::x76::x77::x78::x79::x80::x81::x82::x83::x84::x85::x86::x87::x88::x89::x90::x91::x92::x93::x94::x95::x96::x97::x98::x99::xA0::xA1::xA2::xA3::xA4::xA5::xA6::xA7::xA8::xA9::xB0::xB1::xB2::xB3::xB4::xB5::xB6::xB7::xB8::xB9::xC0::xC1::xC2::xC3::xC4::xC5::xC6::xC7::xC8::[]).toArray,[]⟩ w') :
  Code.wp Try.prog KP (Exit.then K Q) ⟨(x0::x1::x2::x3::x4::x5::.pointer (some ⟨xb,0,none⟩)::x7::.pointer (some ⟨ib,0,none⟩)::.pointer (some ⟨B,0,none⟩)::.pointer (some ⟨B+1,0,none⟩)::x11::x12::x13::x14::x15::x16::x17::x18::x19::x20::x21::x22::x23::x24::x25::x26::x27::x28::x29::x30::x31::x32::x33::x34::x35::x36::x37::x38::x39::x40::x41::x42::x43::x44::x45::x46::x47::x48::x49::x50::x51::x52::x53::x54::x55::x56::x57::x58::x59::x60::x61::x62::x63::x64::x65::x66::x67::x68::x69::x70::x71::x72::x73::x74::x75::x76::x77::x78::x79::x80::x81::x82::x83::x84::x85::x86::x87::x88::x89::x90::x91::x92::x93::x94::x95::x96::x97::x98::x99::xA0::xA1::xA2::xA3::xA4::xA5::xA6::xA7::xA8::xA9::xB0::xB1::xB2::xB3::xB4::xB5::xB6::xB7::xB8::xB9::xC0::xC1::xC2::xC3::xC4::xC5::xC6::xC7::xC8::[]).toArray,[]⟩ w12:=by
 conv=>arg 2;whnf
 have HPU:=Hz (oZ o)
 have HPL:=Hz (bN 4)
 have hlo:=(Az ho12).1
 have hli:=(Az hi12).1
 have hlq:=(Az hq12).1
 have z1:=aA hx 1 (.map (some mh)) rfl
 have q0:=aA ho12 0 (.int .i64 o.kind) rfl
 have q1:=aA ho12 1 (.int .i64 o.op) rfl
 have q2:=aA ho12 2 (.int .i64 o.dst) rfl
 have q3:=aA ho12 3 (.int .i64 o.a) rfl
 have q4:=aA ho12 4 (.int .i64 o.b) rfl
 have q5:=aA ho12 5 (.int .i64 o.n) rfl
 have q6:=aA ho12 6 (.string o.text) rfl
 have q7:=aA ho12 7 (.int .i64 o.r0) rfl
 have q8:=aA ho12 8 (.int .i64 o.r1) rfl
 have q9:=aA ho12 9 (.int .i64 o.r2) rfl
 have q10:=aA ho12 10 (.int .i64 o.r3) rfl
 have q11:=aA ho12 11 (.int .i64 o.r4) rfl
 have q12:=aA ho12 12 (.int .i64 o.r5) rfl
 have q13:=aA ho12 13 (.int .i64 o.to_) rfl
 have q14:=aA ho12 14 (.int .i64 o.els) rfl
 have r0:=aA hq12 0 (.int .i64 o.kind) rfl
 have r1:=aA hq12 1 (.int .i64 o.op) rfl
 have r2:=aA hq12 2 (.int .i64 0) rfl
 have r3:=aA hq12 3 (.int .i64 o.a) rfl
 have r4:=aA hq12 4 (.int .i64 o.b) rfl
 have r5:=aA hq12 5 (.int .i64 o.n) rfl
 have r6:=aA hq12 6 (.string o.text) rfl
 have r7:=aA hq12 7 (.int .i64 o.r0) rfl
 have r8:=aA hq12 8 (.int .i64 o.r1) rfl
 have r9:=aA hq12 9 (.int .i64 o.r2) rfl
 have r10:=aA hq12 10 (.int .i64 o.r3) rfl
 have r11:=aA hq12 11 (.int .i64 o.r4) rfl
 have r12:=aA hq12 12 (.int .i64 o.r5) rfl
 have r13:=aA hq12 13 (.int .i64 o.to_) rfl
 have r14:=aA hq12 14 (.int .i64 o.els) rfl
 have HI12:=Hz hi12
 have HO12:=Hz ho12
 have HQ12:=Hz hq12
 have HH12:=Hz hh12
 have HK:=Hz hK
 clear hi12 ho12 hq12 hh12 hK hx
 cases hh:X.has (fA o) with
 | none =>
  have e1:(pS X.has (fA o)).getD (.int .i64 0) = .int .i64 0:=by simp[pS,hh]
  have e2:(pS X.has (fA o)).isSome=false:=by simp[pS,hh]
  have hne:X.new i=o:=by unfold ShS.new;rw[hro,hh]
  go_wp2_with (first
   |(show wpList Try.prog _ _ (⟨some 45,_,_,_,_,_⟩::_) _ _;refine dK rA _ rfl (.tmp 43) (.tmp 44) 71 true rfl gT (lM _) mh _ rfl HH12.out (fA o) rfl ?_;simp only[if_true];rw[e1,e2]))
  exact HK.out _ _ _ _ _ _ _ _ _ _ _ _ _ _ _ _ _ _ _ _ _ _ _ _ _ _ _ _ _ _ _ (Below.refl _ _) (by rw[hne];exact HO12.out) HQ12.out
 | some rr =>
  have e1:(pS X.has (fA o)).getD (.int .i64 0) = .int .i64 rr:=by simp[pS,hh]
  have e2:(pS X.has (fA o)).isSome=true:=by simp[pS,hh]
  go_wp2_with (first
   |(show wpList Try.prog _ _ (⟨some 45,_,_,_,_,_⟩::_) _ _;refine dK rA _ rfl (.tmp 43) (.tmp 44) 71 true rfl gT (lM _) mh _ rfl HH12.out (fA o) rfl ?_;simp only[if_true];rw[e1,e2]))
  refine (HPU.out _).mono ?_
  rintro e w13 ⟨rfl,hb13⟩
  have ho13:=(hb13.block _ hlo).trans HO12.out
  have hi13:=(hb13.block _ hli).trans HI12.out
  have hq13:=(hb13.block _ hlq).trans HQ12.out
  have v0:=aA ho13 0 (.int .i64 o.kind) rfl
  have HO13:=Hz ho13
  have HI13:=Hz hi13
  have HQ13:=Hz hq13
  have HB13:=Hz (hb13.mono (show B≤w12.heap.size by omega))
  have hl13:=(Az ho13).1
  clear ho13 hi13 hq13 hb13 q0 q1 q2 q3 q4 q5 q6 q7 q8 q9 q10 q11 q12 q13 q14 r0 r1 r2 r3 r4 r5 r6 r7 r8 r9 r10 r11 r12 r13 r14 z1
  have hold:more o=false→X.new i=o:=fun hm=>by
   unfold ShS.new
   rw[hro,hh]
   simp[hm]
  obtain⟨pz,hpz⟩:∃ z,mH o=z:=⟨_,rfl⟩
  rw[hpz]
  by_cases hm:pz=true∧o.kind>1∧o.kind≠4
  ·obtain⟨rfl,h1,h4⟩:=hm
   have hnew:X.new i=tU i.dst rr:=by
    unfold ShS.new
    rw[hro,hh]
    have:more o=true:=by unfold more;simp[hpz,h1,h4]
    simp[this]
   have t1:decide (o.kind>1)=true:=by simpa using h1
   have t4:(o.kind != 4)=true:=by simpa using h4
   have HNW:=Hz hnew
   clear hnew hold hpz
   go_wp2_with fail
   refine (HPL.out _).mono ?_
   rintro e w14 ⟨rfl,hb14⟩
   have HB14:=Hz hb14
   have ho14:=(hb14.block _ hl13).trans HO13.out
   have hi14:=(hb14.block _ (Az HI13.out).1).trans HI13.out
   have hne9:ib≠B:=by omega
   obtain⟨w15,hw15⟩:∃ w15,w14.setRow B (Ins.l ⟨4,0,-1,0,0,0,⟨#[]⟩,0,0,0,0,0,0,0,-1⟩).toArray=w15:=⟨_,rfl⟩
   have hi15:w15.heap[ib]? = some i.obj:=by rw[←hw15];exact (setRow_other _ _ _ _ hne9).trans hi14
   have ho15:w15.heap[B]? = some (.cells (Ins.l ⟨4,0,-1,0,0,0,⟨#[]⟩,0,0,0,0,0,0,0,-1⟩).toArray 32):=by rw[←hw15];exact setRow_heap _ _ _ _ _ _ ho14
   have hoth:∀ b,b≠B→w15.heap[b]? = w14.heap[b]?:=fun b hb=>by rw[←hw15];exact setRow_other _ _ _ _ hb
   have HOTH:=Hz hoth
   have a2:=aA hi15 2 (.int .i64 i.dst) rfl
   have b2':=aA ho15 2 (.int .i64 (-1)) rfl
   have b3':=aA ho15 3 (.int .i64 0) rfl
   have bf:=aK ho15
   have hl15:=(Az ho15).1
   have HO15:=Hz ho15
   have HI15:=Hz hi15
   clear hi15 ho15 hoth hi14 v0 hb14
   go_wp2_with (first
    |(show wpList Try.prog _ _ (⟨none,.store _ (.tmp 9) _,_,_,_,_⟩::_) _ _;refine wpList_store_row rfl 32 (.tmp 9) (.tmp 63) rfl B (Ins.l ⟨4,0,-1,0,0,0,⟨#[]⟩,0,0,0,0,0,0,0,-1⟩).toArray rfl rfl 32 _ ho14 aS rfl (lN ⟨4,0,-1,0,0,0,⟨#[]⟩,0,0,0,0,0,0,0,-1⟩) ?_;rw[hw15]))
   have HB16:Below B w12 ((w15.setCell ⟨B,2,none⟩ (.int .i64 i.dst)).setCell ⟨B,3,none⟩ (.int .i64 rr)):=by
    rw[←hw15]
    have hB14:=HB13.out.trans (HB14.out.mono (by omega))
    exact ((below_setRow hB14 (Nat.le_refl _) _).setCell (p:=⟨B,2,none⟩) (Nat.le_refl _) _).setCell (p:=⟨B,3,none⟩) (Nat.le_refl _) _
   have c16:=heap_setCell (j:=3) (heap_setCell (j:=2) HO15.out (.int .i64 i.dst)) (.int .i64 rr)
   have hq14:=(HB14.out.block _ (Az HQ13.out).1).trans HQ13.out
   exact HK.out _ _ _ _ _ _ _ _ _ _ _ _ _ _ _ _ _ _ _ _ _ _ _ _ _ _ _ _ _ _ _ HB16 (by rw[HNW.out];exact c16) ((heap_setCell_other _ ⟨B,3,none⟩ _ _ (by simp only;omega)).trans ((heap_setCell_other _ ⟨B,2,none⟩ _ _ (by simp only;omega)).trans ((HOTH.out _ (by omega)).trans hq14)))
  ·have hmf:more o=false:=by
    unfold more
    rw[hpz]
    cases pz with
    | false=>rfl
    | true =>
     by_cases a1:o.kind>1
     ·have a4:o.kind=4:=Classical.not_not.1 fun h=>hm ⟨rfl,a1,h⟩
      simp[a4]
     ·simp[show ¬ 1<o.kind from a1]
   have hnew:=hold hmf
   have HFO:Hid (w13.heap[B]? = some (X.new i).obj):=Hz (by rw[hnew];exact HO13.out)
   clear hnew hold hmf hpz
   cases pz with
   | false =>
    clear hm
    go_wp2
    exact HK.out _ _ _ _ _ _ _ _ _ _ _ _ _ _ _ _ _ _ _ _ _ _ _ _ _ _ _ _ _ _ _ HB13.out HFO.out HQ13.out
   | true =>
    by_cases a1:o.kind>1
    ·have a4:o.kind=4:=Classical.not_not.1 fun h=>hm ⟨rfl,a1,h⟩
     have t1:decide (o.kind>1)=true:=by simpa using a1
     have t4:(o.kind != 4)=false:=by simp[a4]
     clear hm a4
     go_wp2
     exact HK.out _ _ _ _ _ _ _ _ _ _ _ _ _ _ _ _ _ _ _ _ _ _ _ _ _ _ _ _ _ _ _ HB13.out HFO.out HQ13.out
    ·have t1:decide (o.kind>1)=false:=by simpa using a1
     clear hm
     go_wp2
     exact HK.out _ _ _ _ _ _ _ _ _ _ _ _ _ _ _ _ _ _ _ _ _ _ _ _ _ _ _ _ _ _ _ HB13.out HFO.out HQ13.out
noncomputable def KQ:Code:=mP sD 6
theorem IH (w wq:World)(f:aR)(N cb ob xb k ib B:Nat)(Vm Vh:Value)(n i:Ins)(hS:OfS w wq f N cb ob xb (fZ f.code k) Vm Vh)(hkN:k<N)(hN:f.code.length=N)(hi:wq.heap[ib]? = some i.obj)(ho:wq.heap[B]? = some n.obj)
  (hnew:fZ f.code (k+1)=(fZ f.code k).set k n) (hat:(fZ f.code k)[k]? = some i) (hcnt:kP f.code (k+1)=if n=i then kP f.code k else kP f.code k+1) (hcl:kP f.code k≤8192)
  {x0 x2 x3 x4 x6 x10 x11 x12 x13 x14 x15 x16 x17 x18 x19 x20 x21 x22 x23 x24 x25 x26 x27 x28 x29 x30 x31 x32 x33 x34 x35 x36 x37 x38 x39 x40 x41 x42 x43 x44 x45 x46 x47 x48 x49 x50 x51 x52 x53 x54 x55 x56 x57 x58 x59 x60 x61 x62 x63 x64 x65 x66 x67 x68 x69 x70 x71 x72 x73 x74 x75 x76 x77 x78 x79 x80 x81 x82 x83 x84 x85 x86 x87 x88 x89 x90 x91 x92 x93 x94 x95 x96 x97 x98 x99 xA0 xA1 xA2 xA3 xA4 xA5 xA6 xA7 xA8 xA9 xB0 xB1 xB2 xB3 xB4 xB5 xB6 xB7 xB8 xB9 xC0 xC1 xC2 xC3 xC4 xC5 xC6 xC7 xC8:Value} (K:Act→World→Prop) (Q:Exit→Act→World→Prop)
  (hK:∀ (y69 y70 y71 y72 y73 y74 y75 y76 y77 y78:Value) (w':World),OfS w w' f N cb ob xb (fZ f.code (k+1)) Vm Vh→(∀ b,b≠cb→w'.heap[b]? = wq.heap[b]?)→w'.heap.size=wq.heap.size→K ⟨(x0::.pointer (some ⟨w.heap.size,0,none⟩)::x2::x3::x4::.int .i64 (kP f.code (k+1):Int)::x6::.int .i64 (k:Int)::.pointer (some ⟨ib,0,none⟩)::.pointer (some ⟨B,0,none⟩)::x10::x11::x12::x13::x14::x15::x16::x17::x18::x19::x20::x21::x22::x23::x24::x25::x26::x27::x28::x29::x30::x31::x32::x33::x34::x35::x36::x37::x38::x39::x40::x41::x42::x43::x44::x45::x46::x47::x48::x49::x50::x51::x52::x53::x54::x55::x56::x57::x58::x59::x60::x61::x62::x63::x64::x65::x66::x67::x68::y69::y70::y71::y72::y73::y74::y75::y76::y77::y78::x79::x80::x81::x82::x83::x84::x85::x86::x87::x88::x89::x90::x91::x92::x93::x94::x95::x96::x97::x98::x99::xA0::xA1::xA2::xA3::xA4::xA5::xA6::xA7::xA8::xA9::xB0::xB1::xB2::xB3::xB4::xB5::xB6::xB7::xB8::xB9::xC0::xC1::xC2::xC3::xC4::xC5::xC6::xC7::xC8::[]).toArray,[]⟩ w') :
  Code.wp Try.prog KQ (Exit.then K Q) ⟨(x0::.pointer (some ⟨w.heap.size,0,none⟩)::x2::x3::x4::.int .i64 (kP f.code k:Int)::x6::.int .i64 (k:Int)::.pointer (some ⟨ib,0,none⟩)::.pointer (some ⟨B,0,none⟩)::x10::x11::x12::x13::x14::x15::x16::x17::x18::x19::x20::x21::x22::x23::x24::x25::x26::x27::x28::x29::x30::x31::x32::x33::x34::x35::x36::x37::x38::x39::x40::x41::x42::x43::x44::x45::x46::x47::x48::x49::x50::x51::x52::x53::x54::x55::x56::x57::x58::x59::x60::x61::x62::x63::x64::x65::x66::x67::x68::x69::x70::x71::x72::x73::x74::x75::x76::x77::x78::x79::x80::x81::x82::x83::x84::x85::x86::x87::x88::x89::x90::x91::x92::x93::x94::x95::x96::x97::x98::x99::xA0::xA1::xA2::xA3::xA4::xA5::xA6::xA7::xA8::xA9::xB0::xB1::xB2::xB3::xB4::xB5::xB6::xB7::xB8::xB9::xC0::xC1::xC2::xC3::xC4::xC5::xC6::xC7::xC8::[]).toArray,[]⟩ wq:=by
 conv=>arg 2;whnf
 have hnq:=fun W=>bQ n i W
 have f4:=aA hS.fb 4 (.slice (some ⟨cb,0,none⟩) N N) rfl
 have ⟨p0,p1,p2,p3,p4,p5,p6,p7,p8,p9,p10,p11,p12,p13,p14⟩:=Ins.cells hi
 have ⟨q0,q1,q2,q3,q4,q5,q6,q7,q8,q9,q10,q11,q12,q13,q14⟩:=Ins.cells ho
 have hcbl:=Pre.lt hS.co
 have HK:=Hz hK
 have HS:=Hz hS
 have HI:=Hz hi
 have HO:=Hz ho
 clear hK hS hi ho
 by_cases he:n=i
 ·subst he
  have hq:∀ W,(binOp .neq 32 n.agg n.agg).run Try.prog W = .ok (.bool false) W:=fun W=>by have h:=hnq W;simpa using h
  rw[if_pos rfl] at hcnt
  have hsame:fZ f.code (k+1)=fZ f.code k:=by
   rw[hnew]
   apply List.ext_getElem?
   intro j
   rw[List.getElem?_set]
   by_cases hj:k=j
   ·subst hj
    rw[if_pos rfl,if_pos (by rw[pF (by omega)];omega),hat]
   ·rw[if_neg hj]
  rw[hcnt,hsame] at HK
  clear hnq hnew hat hcnt hsame
  go_wp2
  exact HK.out _ _ _ _ _ _ _ _ _ _ _ HS.out (fun _ _=>rfl) rfl
 ·have hq:∀ W,(binOp .neq 32 n.agg i.agg).run Try.prog W = .ok (.bool true) W:=fun W=>by have h:=hnq W;simpa[he] using h
  rw[if_neg he] at hcnt
  obtain⟨cs,hcb,hcs⟩:=HS.out.co
  have hfit:=PreI.setRow hcb hcs (p:=k) (by rw[pF (by omega)];omega) n
  rw[←hnew] at hfit
  obtain⟨w8,hw8⟩:∃ w8,wq.setRow cb (cs.toList.take (k*15)++Ins.l n++cs.toList.drop (k*15+15)).toArray=w8:=⟨_,rfl⟩
  have hoth:∀ b,b≠cb→w8.heap[b]? = wq.heap[b]?:=fun b hb=>by rw[←hw8];exact setRow_other _ _ _ _ hb
  have hsz:w8.heap.size=wq.heap.size:=by rw[←hw8];simp
  obtain⟨n1,n2,n3,n4,n5,n6⟩:=HS.out.ne
  have hB8:Below w.heap.size w w8:=by rw[←hw8];exact below_setRow HS.out.b (by omega) _
  rw[hw8] at hfit
  have HS8:Hid (OfS w w8 f N cb ob xb (fZ f.code (k+1)) Vm Vh):=Hz
   ⟨(hoth _ (by omega)).trans HS.out.fb,(hoth _ (by omega)).trans HS.out.rb,hfit.2,Pre.of_heap HS.out.fi (hoth _ (Ne.symm n1)),(hoth _ (Ne.symm n2)).trans HS.out.hx,hB8,HS.out.ne⟩
  have HW8:=Hz hw8
  have HOTH:=Hz hoth
  have HSZ:=Hz hsz
  have hfit:=Hz hfit.1
  rw[hcnt,Int.natCast_add (kP f.code k) 1,Int.natCast_one] at HK
  clear hnq hnew hat hcnt hcs hoth hsz hB8 hw8
  go_wp2_with (first
   |(show wpList Try.prog _ _ (⟨none,.store _ (.tmp 76) _,_,_,_,_⟩::_) _ _;refine dE rfl 32 (.tmp 76) (.tmp 75) rfl cb (k*15) (Ins.l n) rfl rfl 32 cs hcb sI hfit.out (fL n) ?_;rw[show (cs.toList.take (k*15)++Ins.l n++cs.toList.drop (k*15+(Ins.l n).length)).toArray=(cs.toList.take (k*15)++Ins.l n++cs.toList.drop (k*15+15)).toArray from rfl,HW8.out]))
  exact HK.out _ _ _ _ _ _ _ _ _ _ _ HS8.out HOTH.out HSZ.out
theorem MH:(Try.prog.info? 73).map (·.size)=some 2:=by kernel_rfl
theorem EG (a b:Option Nat):((#[Value.map a,Value.map b]:Array Value).all (·.oneCell'))=true:=by simp[Value.oneCell']
theorem OfS.fresh {w wr:World}{f:aR}{N cb ob xb:Nat}{code:List Ins}{Vm Vh:Value}(h:OfS w wr f N cb ob xb code Vm Vh) :
  OfS w (((wr.alloc (.map #[] 0)).alloc (.map #[] 0)).setRow xb #[.map (some wr.heap.size),.map (some (wr.heap.size+1))]) f N cb ob xb code (.map (some wr.heap.size)) (.map (some (wr.heap.size+1))) ∧
  RunM w (((wr.alloc (.map #[] 0)).alloc (.map #[] 0)).setRow xb #[.map (some wr.heap.size),.map (some (wr.heap.size+1))]) cb ob xb wr.heap.size (wr.heap.size+1) ShS.none:=by
 have hb:=(Below.one wr (.map #[] 0)).alloc (by simp) (.map #[] 0)
 have h1:=h.later hb
 have hl1:=Pre.lt h.co
 have hl2:=Pre.lt h.fi
 have hl3:=(Az h.hx).1
 have hl4:=(Az h.rb).1
 obtain⟨n1,n2,n3,n4,n5,n6⟩:=h.ne
 have hm1:MapK kI ((wr.alloc (.map #[] 0)).alloc (.map #[] 0)) wr.heap.size (mO ShS.none.am):=(MapK.made wr).below (Below.one _ _) (by simp)
 have hm2:MapK Ins.agg ((wr.alloc (.map #[] 0)).alloc (.map #[] 0)) (wr.heap.size+1) (pS ShS.none.has):=by
  have:=MapK.made (kv:=Ins.agg) (wr.alloc (.map #[] 0))
  rw[show (wr.alloc (.map #[] 0)).heap.size=wr.heap.size+1 by simp] at this
  exact this
 refine⟨⟨(setRow_other _ _ _ _ (by omega)).trans h1.fb,(setRow_other _ _ _ _ (by omega)).trans h1.rb,Pre.of_heap h1.co (setRow_other _ _ _ _ n2),Pre.of_heap h1.fi (setRow_other _ _ _ _ n3),setRow_heap _ _ _ _ _ _ h1.hx,below_setRow h1.b (by omega) _,h.ne⟩,
  ⟨hm1.of_block (setRow_other _ _ _ _ (by omega)),hm2.of_block (setRow_other _ _ _ _ (by omega)),by omega,by omega,by omega,by omega,by omega,by omega,by omega,by omega,by omega⟩⟩
noncomputable def KR:Code:=mP sD 1
theorem II (w wr:World)(f:aR)(N cb ob xb k:Nat)(Vm Vh:Value)(code:List Ins)(hS:OfS w wr f N cb ob xb code Vm Vh)(hRun:0<k→∃ ma mh,Vm = .map (some ma)∧Vh = .map (some mh)∧RunM w wr cb ob xb ma mh (lG f.code k))(hkN:k<N)
  {x0 x1 x2 x3 x5 x8 x9 x10 x11 x12 x13 x14 x15 x16 x17 x18 x19 x20 x21 x22 x23 x24 x25 x26 x27 x28 x29 x30 x31 x32 x33 x34 x35 x36 x37 x38 x39 x40 x41 x42 x43 x44 x45 x46 x47 x48 x49 x50 x51 x52 x53 x54 x55 x56 x57 x58 x59 x60 x61 x62 x63 x64 x65 x66 x67 x68 x69 x70 x71 x72 x73 x74 x75 x76 x77 x78 x79 x80 x81 x82 x83 x84 x85 x86 x87 x88 x89 x90 x91 x92 x93 x94 x95 x96 x97 x98 x99 xA0 xA1 xA2 xA3 xA4 xA5 xA6 xA7 xA8 xA9 xB0 xB1 xB2 xB3 xB4 xB5 xB6 xB7 xB8 xB9 xC0 xC1 xC2 xC3 xC4 xC5 xC6 xC7 xC8:Value} (K:Act→World→Prop) (Q:Exit→Act→World→Prop)
  (hK:∀ (y29 y30 y31 y32 y33 y34 y35:Value) (w':World) (ma mh:Nat),OfS w w' f N cb ob xb code (.map (some ma)) (.map (some mh))→RunM w w' cb ob xb ma mh (fI f.code k)→(∀ b,b<wr.heap.size→b≠xb→w'.heap[b]? = wr.heap[b]?)→wr.heap.size≤w'.heap.size→K ⟨(x0::x1::x2::x3::.slice (some ⟨ob,0,none⟩) N N::x5::.pointer (some ⟨xb,0,none⟩)::.int .i64 (k:Int)::x8::x9::x10::x11::x12::x13::x14::x15::x16::x17::x18::x19::x20::x21::x22::x23::x24::x25::x26::x27::x28::y29::y30::y31::y32::y33::y34::y35::x36::x37::x38::x39::x40::x41::x42::x43::x44::x45::x46::x47::x48::x49::x50::x51::x52::x53::x54::x55::x56::x57::x58::x59::x60::x61::x62::x63::x64::x65::x66::x67::x68::x69::x70::x71::x72::x73::x74::x75::x76::x77::x78::x79::x80::x81::x82::x83::x84::x85::x86::x87::x88::x89::x90::x91::x92::x93::x94::x95::x96::x97::x98::x99::xA0::xA1::xA2::xA3::xA4::xA5::xA6::xA7::xA8::xA9::xB0::xB1::xB2::xB3::xB4::xB5::xB6::xB7::xB8::xB9::xC0::xC1::xC2::xC3::xC4::xC5::xC6::xC7::xC8::[]).toArray,[]⟩ w') :
  Code.wp Try.prog KR (Exit.then K Q) ⟨(x0::x1::x2::x3::.slice (some ⟨ob,0,none⟩) N N::x5::.pointer (some ⟨xb,0,none⟩)::.int .i64 (k:Int)::x8::x9::x10::x11::x12::x13::x14::x15::x16::x17::x18::x19::x20::x21::x22::x23::x24::x25::x26::x27::x28::x29::x30::x31::x32::x33::x34::x35::x36::x37::x38::x39::x40::x41::x42::x43::x44::x45::x46::x47::x48::x49::x50::x51::x52::x53::x54::x55::x56::x57::x58::x59::x60::x61::x62::x63::x64::x65::x66::x67::x68::x69::x70::x71::x72::x73::x74::x75::x76::x77::x78::x79::x80::x81::x82::x83::x84::x85::x86::x87::x88::x89::x90::x91::x92::x93::x94::x95::x96::x97::x98::x99::xA0::xA1::xA2::xA3::xA4::xA5::xA6::xA7::xA8::xA9::xB0::xB1::xB2::xB3::xB4::xB5::xB6::xB7::xB8::xB9::xC0::xC1::xC2::xC3::xC4::xC5::xC6::xC7::xC8::[]).toArray,[]⟩ wr:=by
 conv=>arg 2;whnf
 have hfc:=PreB.cell hS.fi (fW (m:=first f.code) hkN)
 have hfl:=Pre.lt hS.fi
 have hxc:=hS.hx
 have hxl:=(Az hxc).1
 have hfr:=hS.fresh
 have HK:=Hz hK
 have HS:=Hz hS
 clear hK hS
 cases hfst:first f.code k
 ·rw[hfst] at hfc
  have hk0:0<k:=by
   rcases Nat.eq_zero_or_pos k with e|e
   ·subst e
    have:first f.code 0=true:=by unfold first;simp
    rw[this] at hfst;cases hfst
   ·exact e
  obtain⟨ma,mh,e1,e2,hrun⟩:=hRun hk0
  have hin:fI f.code k=lG f.code k:=by unfold fI;rw[hfst];rfl
  subst e1 e2
  rw[←hin] at hrun
  have HR:=Hz hrun
  clear hrun hRun hin hfr hfst
  go_wp2
  exact HK.out _ _ _ _ _ _ _ _ ma mh HS.out HR.out (fun _ _ _=>rfl) (Nat.le_refl _)
 ·rw[hfst] at hfc
  have hin:fI f.code k=ShS.none:=by unfold fI;rw[hfst];rfl
  rw[←hin] at hfr
  have HFR:=Hz hfr
  have hmm:=@run_makeMap Try.prog
  have hb2:=(Below.one wr (.map #[] 0)).alloc (by simp) (.map #[] 0)
  have hx2:=(hb2.block _ hxl).trans hxc
  have HB2:=Hz hb2
  clear hfr hRun hin hfst hb2
  go_wp2_with (first
   |(show wpList Try.prog _ _ (⟨none,.store _ (.tmp 6) _,_,_,_,_⟩::_) _ _;refine wpList_store_row rfl 73 (.tmp 6) (.tmp 35) rfl xb _ rfl rfl 73 _ hx2 MH rfl (EG _ _) ?_))
  exact HK.out _ _ _ _ _ _ _ _ _ _ HFR.out.1 HFR.out.2 (fun b hb hne=>(setRow_other _ _ _ _ hne).trans (HB2.out.block b hb)) (by simp;omega)
theorem EH (g:Int→Option Int)(x v:Int):eI (mO g) x (some (.int .i64 v))=mO (fun y=>if y=x then some v else g y):=by
 funext y
 by_cases h:y=x <;> simp[eI,mO,h]
theorem EI (g:Ins→Option Int)(x:Ins)(v:Int):eI (pS g) x (some (.int .i64 v))=pS (fun y=>if y=x then some v else g y):=by
 funext y
 by_cases h:y=x <;> simp[eI,pS,h]
theorem EJ (X:ShS)(i:Ins)(h:0≤(X.new i).sets):X.step i=if (X.new i).kind=4∧(X.new i).a≠(X.new i).sets then ⟨fun k=>if k=(X.new i).sets then some ((X.forget (X.new i).sets).thr (X.new i).a) else (X.forget (X.new i).sets).am k,(X.forget (X.new i).sets).has⟩
  else if more (X.new i)=true∧(X.new i).sets ∉ (X.new i).uses then ⟨(X.forget (X.new i).sets).am,fun k=>if k=fA (X.read i) then some (X.new i).sets else (X.forget (X.new i).sets).has k⟩ else X.forget (X.new i).sets:=by
 unfold ShS.step
 simp only
 rw[if_neg (by omega)]
noncomputable def KS:Code:=mP sD 10
theorem IJ (w wq:World)(f:aR)(N cb ob xb ma mh B:Nat)(code:List Ins)(X:ShS)(i n o:Ins)(r:Int)(hS:OfS w wq f N cb ob xb code (.map (some ma)) (.map (some mh)))(hR:RunM w wq cb ob xb ma mh (X.forget r))(hn:X.new i=n)(hro:X.read i=o)(hr:n.sets=r)(hr0:0≤r)
  (ho:wq.heap[B]? = some n.obj) (hq:wq.heap[B+1]? = some (fA o).obj)
  {x0 x1 x2 x3 x4 x5 x7 x8 x11 x12 x14 x15 x16 x17 x18 x19 x20 x21 x22 x23 x24 x25 x26 x27 x28 x29 x30 x31 x32 x33 x34 x35 x36 x37 x38 x39 x40 x41 x42 x43 x44 x45 x46 x47 x48 x49 x50 x51 x52 x53 x54 x55 x56 x57 x58 x59 x60 x61 x62 x63 x64 x65 x66 x67 x68 x69 x70 x71 x72 x73 x74 x75 x76 x77 x78 x79 x80 x81 x82 x83 x84 x85 x86 x87 x88 x89 x90 x91 x92 x93 x94 x95 x96 x97 x98 x99 xA0 xA1 xA2 xA3 xA4 xA5 xA6 xA7 xA8 xA9 xB0 xB1 xB2 xB3 xB4 xB5 xB6 xB7 xB8 xB9 xC0 xC1 xC2 xC3 xC4 xC5 xC6 xC7 xC8:Value} (Q:Exit→Act→World→Prop)
  (hQ:∀ (y86 y87 y88 y89 y90 y91 y92 y93 y94 y95 y96 y97 y98 y99 yA0 yA1 yA2 yA3 yA4 yA5 yA6 yA7 yA8 yA9 yB0 yB1 yB2 yB3 yB4 yB5 yB6 yB7 yB8 yB9 yC0 yC1 yC2 yC3 yC4 yC5:Value) (w':World),OfS w w' f N cb ob xb code (.map (some ma)) (.map (some mh))→RunM w w' cb ob xb ma mh (X.step i)→Q .normal ⟨(x0::x1::x2::x3::x4::x5::.pointer (some ⟨xb,0,none⟩)::x7::x8::.pointer (some ⟨B,0,none⟩)::.pointer (some ⟨B+1,0,none⟩)::x11::x12::.int .i64 r::x14::x15::x16::x17::x18::x19::x20::x21::x22::x23::x24::x25::x26::x27::x28::x29::x30::x31::x32::x33::x34::x35::x36::x37::x38::x39::x40::x41::x42::x43::x44::x45::x46::x47::x48::x49::x50::x51::x52::x53::x54::x55::x56::x57::x58::x59::x60::x61::x62::x63::x64::x65::x66::x67::x68::x69::x70::x71::x72::x73::x74::x75::x76::x77::x78::x79::x80::x81::x82::x83::x84::x85::y86::y87::y88::y89::y90::y91::y92::y93::y94::y95::y96::y97::y98::y99::yA0::yA1::yA2::yA3::yA4::yA5::yA6::yA7::yA8::yA9::yB0::yB1::yB2::yB3::yB4::yB5::yB6::yB7::yB8::yB9::yC0::yC1::yC2::yC3::yC4::yC5::xC6::xC7::xC8::[]).toArray,[]⟩ w') :
  Code.wp Try.prog KS Q ⟨(x0::x1::x2::x3::x4::x5::.pointer (some ⟨xb,0,none⟩)::x7::x8::.pointer (some ⟨B,0,none⟩)::.pointer (some ⟨B+1,0,none⟩)::x11::x12::.int .i64 r::x14::x15::x16::x17::x18::x19::x20::x21::x22::x23::x24::x25::x26::x27::x28::x29::x30::x31::x32::x33::x34::x35::x36::x37::x38::x39::x40::x41::x42::x43::x44::x45::x46::x47::x48::x49::x50::x51::x52::x53::x54::x55::x56::x57::x58::x59::x60::x61::x62::x63::x64::x65::x66::x67::x68::x69::x70::x71::x72::x73::x74::x75::x76::x77::x78::x79::x80::x81::x82::x83::x84::x85::x86::x87::x88::x89::x90::x91::x92::x93::x94::x95::x96::x97::x98::x99::xA0::xA1::xA2::xA3::xA4::xA5::xA6::xA7::xA8::xA9::xB0::xB1::xB2::xB3::xB4::xB5::xB6::xB7::xB8::xB9::xC0::xC1::xC2::xC3::xC4::xC5::xC6::xC7::xC8::[]).toArray,[]⟩ wq:=by
 conv=>arg 2;whnf
 have hst:=EJ X i (by rw[hn,hr];exact hr0)
 rw[hn,hr,hro] at hst
 have ⟨q0,q1,q2,q3,q4,q5,q6,q7,q8,q9,q10,q11,q12,q13,q14⟩:=Ins.cells ho
 have x0':=aA hS.hx 0 (.map (some ma)) rfl
 have x1':=aA hS.hx 1 (.map (some mh)) rfl
 have HQ:=Hz hQ
 have HS:=Hz hS
 have HR:=Hz hR
 have HO:=Hz ho
 have HK:=Hz hq
 have HT:=Hz (fun s:Later wq=>gF (X.forget r).am ma (.map (some mh)) n.a s.w (hR.am.below s.h hR.am.lt))
 have hpost:X.step i=X.forget r→OfS w wq f N cb ob xb code (.map (some ma)) (.map (some mh))∧RunM w wq cb ob xb ma mh (X.step i):=fun e=>⟨hS,by rw[e];exact hR⟩
 clear hQ hS hR ho hq
 by_cases h4:n.kind=4
 ·have t4:(n.kind==4)=true:=by simpa using h4
  have t4n:(n.kind != 4)=false:=by simp[h4]
  have t1:decide (n.kind>1)=true:=by rw[decide_eq_true_eq];omega
  by_cases ha:n.a=r
  ·have ta:(n.a != r)=false:=by simp[ha]
   have hfin:=hpost (by
    rw[hst,if_neg (fun h=>h.2 ha),if_neg (fun h=>(dI h.1).2.2 h4)])
   have HF:=Hz hfin
   clear hst hpost hfin h4 ha
   go_wp2
   exact HQ.out _ _ _ _ _ _ _ _ _ _ _ _ _ _ _ _ _ _ _ _ _ _ _ _ _ _ _ _ _ _ _ _ _ _ _ _ _ _ _ _ _ HF.out.1 HF.out.2
  ·have ta:(n.a != r)=true:=by simpa using ha
   rw[if_pos ⟨h4,ha⟩] at hst
   have HST:=Hz hst
   clear hst hpost h4 ha
   go_wp2
   have l0:=fun s:Later wq=>Later.cell x0' s
   have l1:=fun s:Later wq=>Later.cell x1' s
   have l3:=fun s:Later wq=>Later.cell q3 s
   refine bK 7 (by kernel_rfl) (by kernel_rfl) ?_
   dsimp only[List.take,List.drop]
   repeat (go_big_quiet_step ((go_at_call_of 55 (#[Value.agg #[.map (some ma),.map (some mh)],.int .i64 n.a]);exact Calls.later (HT.out _))))
   refine wpQuiet_nil ?_
   rintro w5 ⟨s',rfl⟩
   have hb5:=s'.h
   generalize s'.w=w5 at *
   have HM5:=Hz (HR.out.am.below hb5 HR.out.am.lt)
   have HH5:=Hz (HR.out.has.below hb5 HR.out.has.lt)
   have HT5:=Hz ((Two.refl ma mh wq).later hb5)
   clear l0 l1 l3 hb5
   refine gE pE _ rfl (.tmp 97) (.tmp 98) (.tmp 102) 70 rfl fO ma _ rfl HM5.out r (.int .i64 ((X.forget r).thr n.a)) rfl rfl ?_
   intro w6 hm6 hg6 hz6
   rw[EH] at hm6
   have HS6:=Hz (HS.out.two HR.out (HT5.out.grown hg6 (Or.inl rfl)))
   have HR6:Hid (RunM w w6 cb ob xb ma mh (X.step i)):=Hz ⟨by rw[HST.out];exact hm6,by rw[HST.out];exact HH5.out.kept hg6 (fun e=>by injection e with e;exact HR.out.ne e.symm),HR.out.ne,HR.out.far⟩
   clear hm6 hg6 hz6
   go_wp2
   exact HQ.out _ _ _ _ _ _ _ _ _ _ _ _ _ _ _ _ _ _ _ _ _ _ _ _ _ _ _ _ _ _ _ _ _ _ _ _ _ _ _ _ _ HS6.out HR6.out
 ·have t4:(n.kind==4)=false:=by simpa using h4
  have t4n:(n.kind != 4)=true:=by simpa using h4
  rw[if_neg (fun h=>h4 h.1)] at hst
  have HPU:=Hz (oZ n)
  have HRE:=Hz (zE n r)
  have hlo:=(Az HO.out).1
  have hlk:=(Az HK.out).1
  by_cases h1:n.kind>1
  ·have t1:decide (n.kind>1)=true:=by simpa using h1
   obtain⟨pz,hpz⟩:∃ z,mH n=z:=⟨_,rfl⟩
   obtain⟨uz,huz⟩:∃ z,decide (r ∈ n.uses)=z:=⟨_,rfl⟩
   rw[hpz] at HPU
   rw[huz] at HRE
   go_wp2_with fail
   refine (HPU.out _).mono ?_
   rintro e w5 ⟨rfl,hb5⟩
   have ho5:=(hb5.block _ hlo).trans HO.out
   have ⟨v0,v1,v2,v3,v4,v5,v6,v7,v8,v9,v10,v11,v12,v13,v14⟩:=Ins.cells ho5
   have HK5:=Hz ((hb5.block _ hlk).trans HK.out)
   have HS5:=Hz (HS.out.later hb5)
   have HR5:=Hz (HR.out.later hb5)
   clear hb5 ho5 q0 q1 q2 q3 q4 q5 q6 q7 q8 q9 q10 q11 q12 q13 q14 x0' x1' hpost
   cases pz with
   | false =>
    have hmf:more n=false:=by unfold more;rw[hpz];rfl
    rw[if_neg (fun h=>by rw[hmf] at h;cases h.1)] at hst
    have HR6:=HR5.out
    rw[←hst] at HR6
    have HRZ:=Hz HR6
    clear hst HR6 hmf hpz huz
    go_wp2
    exact HQ.out _ _ _ _ _ _ _ _ _ _ _ _ _ _ _ _ _ _ _ _ _ _ _ _ _ _ _ _ _ _ _ _ _ _ _ _ _ _ _ _ _ HS5.out HRZ.out
   | true =>
    have hmt:more n=true:=by unfold more;simp[hpz,h1,h4]
    go_wp2_with fail
    refine (HRE.out _).mono ?_
    rintro e w6 ⟨rfl,hb6⟩
    have hk6:=(hb6.block _ (Az HK5.out).1).trans HK5.out
    have HS6:=Hz (HS5.out.later hb6)
    have HR6:=Hz (HR5.out.later hb6)
    clear v0 v1 v2 v3 v4 v5 v6 v7 v8 v9 v10 v11 v12 v13 v14 hb6
    cases uz with
    | true =>
     have hu:=of_decide_eq_true huz
     rw[if_neg (fun h=>h.2 hu)] at hst
     have hR6:=HR6.out
     rw[←hst] at hR6
     have HRZ:=Hz hR6
     clear hst hR6 hmt hpz huz hu hk6
     go_wp2
     exact HQ.out _ _ _ _ _ _ _ _ _ _ _ _ _ _ _ _ _ _ _ _ _ _ _ _ _ _ _ _ _ _ _ _ _ _ _ _ _ _ _ _ _ HS6.out HRZ.out
    | false =>
     have hu:=of_decide_eq_false huz
     rw[if_pos ⟨hmt,hu⟩] at hst
     have HST:=Hz hst
     have x1z:=aA HS6.out.hx 1 (.map (some mh)) rfl
     have r0:=aA hk6 0 (.int .i64 o.kind) rfl
     have r1:=aA hk6 1 (.int .i64 o.op) rfl
     have r2:=aA hk6 2 (.int .i64 0) rfl
     have r3:=aA hk6 3 (.int .i64 o.a) rfl
     have r4:=aA hk6 4 (.int .i64 o.b) rfl
     have r5:=aA hk6 5 (.int .i64 o.n) rfl
     have r6:=aA hk6 6 (.string o.text) rfl
     have r7:=aA hk6 7 (.int .i64 o.r0) rfl
     have r8:=aA hk6 8 (.int .i64 o.r1) rfl
     have r9:=aA hk6 9 (.int .i64 o.r2) rfl
     have r10:=aA hk6 10 (.int .i64 o.r3) rfl
     have r11:=aA hk6 11 (.int .i64 o.r4) rfl
     have r12:=aA hk6 12 (.int .i64 o.r5) rfl
     have r13:=aA hk6 13 (.int .i64 o.to_) rfl
     have r14:=aA hk6 14 (.int .i64 o.els) rfl
     clear hst hmt hpz huz hu
     go_wp2_with (first
      |(show wpList Try.prog _ _ (⟨none,.mapUpdate _ _ _ _,_,_,_,_⟩::_) _ _;refine gE rA _ rfl (.tmp 123) (.tmp 124) (.tmp 125) 71 rfl gT mh _ rfl HR6.out.has (fA o) (.int .i64 r) rfl rfl ?_;intro w7 hm7 hg7 hz7))
     rw[EI] at hm7
     exact HQ.out _ _ _ _ _ _ _ _ _ _ _ _ _ _ _ _ _ _ _ _ _ _ _ _ _ _ _ _ _ _ _ _ _ _ _ _ _ _ _ _ _ (HS6.out.two HR6.out ((Two.refl ma mh w6).grown hg7 (Or.inr (Or.inl rfl)))) ⟨by rw[HST.out];exact HR6.out.am.kept hg7 (fun e=>by injection e with e;exact HR6.out.ne e),by rw[HST.out];exact hm7,HR6.out.ne,HR6.out.far⟩
  ·have t1:decide (n.kind>1)=false:=by simpa using h1
   have hmf:more n=false:=by
    cases hb:more n with
    | false=>rfl
    | true=>exact absurd (dI hb).2.1 h1
   rw[if_neg (fun h=>by rw[hmf] at h;cases h.1)] at hst
   have hfin:=hpost hst
   have HF:=Hz hfin
   clear hst hpost hfin h4 hmf
   go_wp2
   exact HQ.out _ _ _ _ _ _ _ _ _ _ _ _ _ _ _ _ _ _ _ _ _ _ _ _ _ _ _ _ _ _ _ _ _ _ _ _ _ _ _ _ _ HF.out.1 HF.out.2
theorem zG (l:List Ins)(k:Nat):kP l (k+1)=if (fI l k).new (bA l k)=bA l k then kP l k else kP l k+1:=by
 unfold kP
 rw[List.range_succ,List.filter_append,List.length_append]
 by_cases h:(fI l k).new (bA l k)=bA l k <;> simp[h]
def ND (w wr:World)(f:aR)(N cb ob xb k:Nat):Prop:=∃ Vm Vh,OfS w wr f N cb ob xb (fZ f.code k) Vm Vh∧(0<k→∃ ma mh,Vm = .map (some ma)∧Vh = .map (some mh)∧RunM w wr cb ob xb ma mh (lG f.code k))
theorem BV (f:aR)(hf:OkF f)(C:Option Addr)(cap:Nat)(w:World)(hC:RdI w C f.code) :
  Calls Try.prog 20 #[aH f.nm f.ps f.R f.Fr C f.code.length cap] w fun e w'=>NC w.heap.size f e w'∧Below w.heap.size w w':=by
 obtain⟨N,hN⟩:∃ N,f.code.length=N:=⟨_,rfl⟩
 obtain⟨b0,b1,hB⟩:=tY w (aD f.nm f.ps f.R f.Fr C f.code.length cap) (.cells #[.string ⟨#[]⟩,.int .i64 0,.int .i64 0,.int .i64 0,.slice none 0 0] 24)
 have hsW:((w.alloc (aD f.nm f.ps f.R f.Fr C f.code.length cap)).alloc (.cells #[.string ⟨#[]⟩,.int .i64 0,.int .i64 0,.int .i64 0,.slice none 0 0] 24)).heap.size=w.heap.size+2:=by simp
 have hC1:=hC.below hB
 have hR:=wJ f hf C cap _ hC1
 have hCl:=fun W h=>kK f hf.len C cap W h
 obtain⟨W,hW⟩:∃ W,(w.alloc (aD f.nm f.ps f.R f.Fr C f.code.length cap)).alloc (.cells #[.string ⟨#[]⟩,.int .i64 0,.int .i64 0,.int .i64 0,.slice none 0 0] 24)=W:=⟨_,rfl⟩
 rw[hW] at b0 b1 hB hR hC1 hsW
 rw[hN] at b0 hR hCl hW ⊢
 have hN2:N≤8192:=by rw[←hN];exact hf.len.2
 have hN1:1≤N:=by rw[←hN];exact hf.len.1
 simp only[aD,aH] at b0 hR hCl hW ⊢
 have g0:=aA b0 0 (.string f.nm) rfl
 have g1:=aA b0 1 (.int .i64 f.ps) rfl
 have g2:=aA b0 2 (.int .i64 f.R) rfl
 have g3:=aA b0 3 (.int .i64 f.Fr) rfl
 have g4:=aA b0 4 (.slice C N cap) rfl
 have HB:=Hz hB
 have H0:=Hz b0
 have H1:=Hz b1
 have HR:=Hz hR
 have HCL:=Hz hCl
 have HC1:=Hz hC1
 have HOK:=Hz hf
 have HN:=Hz hN
 clear hf hC hB hR hCl hC1 b0 b1 hN
 go_enter Try.func20,Try.ntmps20
 go_wp2_with fail
 refine HR.out.mono ?_
 rintro e w3 ⟨⟨ob,rfl,hob,hfi⟩,hb3⟩
 have hl0:=(Az H0.out).1
 have hl1:=(Az H1.out).1
 have c0:=(hb3.block _ hl0).trans H0.out
 have c1:=(hb3.block _ hl1).trans H1.out
 have y0:=aA c0 0 (.string f.nm) rfl
 have y1:=aA c0 1 (.int .i64 f.ps) rfl
 have y2:=aA c0 2 (.int .i64 f.R) rfl
 have y3:=aA c0 3 (.int .i64 f.Fr) rfl
 have y4:=aA c0 4 (.slice C N cap) rfl
 have HX3:=Hz c0
 have HY3:=Hz c1
 have HB3:=Hz (HB.out.trans (hb3.mono HB.out.size))
 have HC3:=Hz (HC1.out.below hb3)
 have HFI:=Hz hfi
 have hs3:=hb3.size
 have hq:=fun W=>qA ob N N W
 clear hb3 c0 c1 hW g0 g1 g2 g3 g4 hfi
 go_wp2_with fail
 refine (HCL.out _ HC3.out).mono ?_
 rintro e w4 ⟨⟨cb,rfl,hcb,hco⟩,hb4⟩
 have c0:=(hb4.block _ (by omega)).trans HX3.out
 have c1:=(hb4.block _ (by omega)).trans HY3.out
 have hs4:=hb4.size
 have hfl:=Pre.lt HFI.out
 have HFI4:=Hz (Pre.later HFI.out hb4)
 have HCO:=Hz hco
 have HB4:=Hz (HB3.out.trans (hb4.mono HB3.out.size))
 have hcl:=Pre.lt hco
 rw[HN.out]
 simp only[aH]
 have h3:=setRow_heap _ _ _ #[.string f.nm,.int .i64 f.ps,.int .i64 f.R,.int .i64 f.Fr,.slice (some ⟨cb,0,none⟩) N N] _ _ c0
 have HS5:=Hz (show OfS w ((w4.setRow w.heap.size #[.string f.nm,.int .i64 f.ps,.int .i64 f.R,.int .i64 f.Fr,.slice (some ⟨cb,0,none⟩) N N]).alloc (.cells #[.map none,.map none] 73)) f N cb ob w4.heap.size f.code (.map none) (.map none) from by
  have hz:(w4.setRow w.heap.size #[.string f.nm,.int .i64 f.ps,.int .i64 f.R,.int .i64 f.Fr,.slice (some ⟨cb,0,none⟩) N N]).heap.size=w4.heap.size:=by simp
  have hba:=Below.one (w4.setRow w.heap.size #[.string f.nm,.int .i64 f.ps,.int .i64 f.R,.int .i64 f.Fr,.slice (some ⟨cb,0,none⟩) N N]) (.cells #[.map none,.map none] 73)
  have hne:=heap_alloc_new (w4.setRow w.heap.size #[.string f.nm,.int .i64 f.ps,.int .i64 f.R,.int .i64 f.Fr,.slice (some ⟨cb,0,none⟩) N N]) (.cells #[.map none,.map none] 73)
  rw[hz] at hba hne
  exact⟨(hba.block _ (by omega)).trans h3,(hba.block _ (by omega)).trans ((setRow_other _ _ _ _ (by omega)).trans c1),Pre.later (W:=w4.setRow w.heap.size _) (Pre.of_heap HCO.out (setRow_other _ _ cb _ (by omega))) (by rw[hz];exact hba),Pre.later (W:=w4.setRow w.heap.size _) (Pre.of_heap HFI4.out (setRow_other _ _ ob _ (by omega))) (by rw[hz];exact hba),hne,
   (below_setRow HB4.out (Nat.le_refl _) _).trans (hba.mono (by omega)),by omega,by omega,by omega,by omega,by omega,by omega⟩)
 have hk4:=aA HS5.out.fb 4 (.slice (some ⟨cb,0,none⟩) N N) rfl
 have hzz:w.heap.size<(w4.setRow w.heap.size #[.string f.nm,.int .i64 f.ps,.int .i64 f.R,.int .i64 f.Fr,.slice (some ⟨cb,0,none⟩) N N]).heap.size:=by simp;omega
 clear hb4 c1 y0 y1 y2 y3 y4 hco hq
 go_wp2_with (first
  |(show wpList Try.prog _ _ (⟨none,.store _ (.tmp 1) _,_,_,_,_⟩::_) _ _;refine wpList_store_row rfl 24 (.tmp 1) (.tmp 20) rfl w.heap.size #[.string f.nm,.int .i64 f.ps,.int .i64 f.R,.int .i64 f.Fr,.slice (some ⟨cb,0,none⟩) N N] rfl rfl 24 _ c0 sF rfl (cS _ _ _ _ _ _ _) ?_))
 have H0L:Hid (ND w _ f N cb ob w4.heap.size 0):=Hz ⟨_,_,by rw[zF];exact HS5.out,fun h=>by omega⟩
 clear hk4 hzz h3 c0 HS5
 obtain⟨xb,hxb⟩:∃ xb,w4.heap.size=xb:=⟨_,rfl⟩
 rw[hxb] at H0L ⊢
 have HCB:Hid (w.heap.size≤cb):=Hz (by omega)
 clear hxb hcb hob hs3 hs4 hfl hcl HCO HFI4 HB4 HFI HC3 HB3 HX3 HY3 hl0 hl1 HCL HR HC1 H0 H1 HB hsW
 go_loopw [5,24] (fun ct ix wr=>∃ k:Nat,k≤N∧ix = .int .i64 k∧ct = .int .i64 (kP f.code k:Int)∧ND w wr f N cb ob xb k) (fun _ ix _=>N-(intOf ix).toNat)
 case atStart=>exact⟨0,by omega,rfl,rfl,H0L.out⟩
 case round =>
  obtain⟨k,hk,rfl,rfl,hL⟩:=hrel
  obtain⟨Vm,Vh,hS,hRun⟩:=hL
  clear H0L
  by_cases hlt:k<N
  ·have HS:=Hz hS
   have HRUN:=Hz hRun
   have hcells:=PreI.cells hS.co (xM (l:=f.code) (k:=k) (by rw[HN.out];exact hlt))
   obtain⟨c0,c1,c2,c3,c4,c5,c6,c7,c8,c9,c10,c11,c12,c13,c14⟩:=hcells
   have hfc:=PreB.cell hS.fi (fW (m:=first f.code) hlt)
   have hfl:=Pre.lt hS.fi
   have hcl:=Pre.lt hS.co
   have hxc:=hS.hx
   have hxl:=(Az hxc).1
   clear hS hRun
   have hB8:=Below.one wr (bA f.code k).obj
   have hkx:=heap_alloc_new wr (bA f.code k).obj
   have HS8:=Hz (HS.out.later hB8)
   have HB8:=Hz hB8
   have HKX:=Hz hkx
   have HRUN8:Hid (0<k→∃ ma mh,Vm = .map (some ma)∧Vh = .map (some mh)∧RunM w (wr.alloc (bA f.code k).obj) cb ob xb ma mh (lG f.code k)):=Hz fun h=>by
    obtain⟨ma,mh,e1,e2,e3⟩:=HRUN.out h
    exact⟨ma,mh,e1,e2,e3.later hB8⟩
   have hz8:(wr.alloc (bA f.code k).obj).heap.size=wr.heap.size+1:=by simp
   clear hB8 hkx hfl hcl
   go_upto_region 9 with fail
   go_cut [7,8] from 26 to 28 (fun s7 s8 wx=>s7 = .int .i64 k∧s8 = .pointer (some ⟨wr.heap.size,0,none⟩)∧wx=wr.alloc (bA f.code k).obj)
   case first =>
    go_wp2_with fail
    go_meet
    exact⟨rfl,rfl,rfl⟩
   case rest =>
    obtain⟨rfl,rfl,rfl⟩:=hcut
    rename_i hK9
    refine hK9 _ _ ?_
    refine wp_seq_k (fun K10 hK10=>?_)
    refine II w _ f N cb ob xb k Vm Vh _ HS8.out HRUN8.out hlt _ _ ?_
    intro y29 y30 y31 y32 y33 y34 y35 w9 ma mh hs9 hr9 hsm9 hz9
    have hi:=cH (show k<f.code.length by rw[HN.out];exact hlt)
    have hok:=HOK.out.ok _ (Mz hi)
    have hne9:wr.heap.size≠xb:=by omega
    have hk9:w9.heap[wr.heap.size]? = some (bA f.code k).obj:=(hsm9 _ (by omega) hne9).trans HKX.out
    have hl9:wr.heap.size<w9.heap.size:=by omega
    clear c0 c1 c2 c3 c4 c5 c6 c7 c8 c9 c10 c11 c12 c13 c14 hxc hxl hfc hsm9 HRUN8 HRUN HS8 HB8 HKX HS
    obtain⟨X,hX⟩:∃ X,fI f.code k=X:=⟨_,rfl⟩
    rw[hX] at hr9
    have hstep:lG f.code (k+1)=X.step (bA f.code k):=by rw[iC,hX]
    have hnew:fZ f.code (k+1)=(fZ f.code k).set k (X.new (bA f.code k)):=by rw[←hX,BU (by rw[HN.out];exact hlt)]
    have hcnt:kP f.code (k+1)=if X.new (bA f.code k)=bA f.code k then kP f.code k else kP f.code k+1:=by rw[zG,hX]
    have hat:=xM (l:=f.code) (k:=k) (by rw[HN.out];exact hlt)
    have hxi:ShI f.R X:=by rw[←hX];exact fN HOK.out (by rw[HN.out];omega)
    have hcl8:kP f.code k≤8192:=by
     have:kP f.code k≤(List.range k).length:=List.length_filter_le _ _
     simp at this
     omega
    obtain⟨i,hie⟩:∃ i,bA f.code k=i:=⟨_,rfl⟩
    rw[hie] at hk9 hok hstep hnew hcnt hat
    have hrd:=BR X.am ma (.map (some mh)) i (fun h8=>by have:=hok.call h8;omega) w9 hr9.am
    rw[BS] at hrd
    have x0:=aA hs9.hx 0 (.map (some ma)) rfl
    have x1:=aA hs9.hx 1 (.map (some mh)) rfl
    have ⟨d0,d1,d2,d3,d4,d5,d6,d7,d8,d9,d10,d11,d12,d13,d14⟩:=Ins.cells hk9
    simp only[Ins.agg] at hrd
    have HS9:=Hz hs9
    have HR9:=Hz hr9
    have HK9:=Hz hk9
    have HRD:=Hz hrd
    have HST:=Hz (And.intro hstep (And.intro hnew (And.intro hcnt hat)))
    have HI:=Hz hok
    clear hs9 hr9 hk9 hrd hstep hnew hcnt hok hi hX hat hxi
    go_wp2_with fail
    refine HRD.out.mono ?_
    rintro e w10 ⟨rfl,hb10⟩
    have HS10:=Hz (HS9.out.later hb10)
    have HR10:=Hz (HR9.out.later hb10)
    have hk10:=(hb10.block _ hl9).trans HK9.out
    have HK10:=Hz hk10
    have hl10:wr.heap.size<w10.heap.size:=Nat.lt_of_lt_of_le hl9 hb10.size
    have hmal:ma<w10.heap.size:=HR10.out.am.lt
    have hmhl:mh<w10.heap.size:=HR10.out.has.lt
    obtain⟨o,ho⟩:∃ o,X.read i=o:=⟨_,rfl⟩
    rw[ho]
    have HO:=Hz ho
    have hb11:=Below.one w10 o.obj
    have hb12:=hb11.trans ((Below.one (w10.alloc o.obj) (fA o).obj).mono hb11.size)
    have ho11:=heap_alloc_new w10 o.obj
    have ho12:=aC ho11 (fA o).obj
    have hq12:=heap_alloc_new (w10.alloc o.obj) (fA o).obj
    rw[show (w10.alloc o.obj).heap.size=w10.heap.size+1 by simp] at hq12
    have HS12:=Hz (HS10.out.later hb12)
    have HR12:=Hz (HR10.out.later hb12)
    have HI12:=Hz ((hb12.block _ hl10).trans HK10.out)
    have HO12:=Hz ho12
    have HQ12:=Hz hq12
    have ⟨q0,q1,q2,q3,q4,q5,q6,q7,q8,q9,q10,q11,q12,q13,q14⟩:=Ins.cells ho11
    simp only[Ins.obj] at q0 q1 q2 q3 q4 q5 q6 q7 q8 q9 q10 q11 q12 q13 q14
    have HB12:=Hz hb12
    clear d0 d1 d2 d3 d4 d5 d6 d7 d8 d9 d10 d11 d12 d13 d14 x0 x1 hb10 hk10 ho ho11 ho12 hq12 hb11 hb12
    go_upto_region 14 with fail
    go_cut [40] from 40 to 40 (fun s wx=>wx=(w10.alloc o.obj).alloc (fA o).obj)
    case first =>
     go_wp2_with fail
     go_meet
     rfl
    case rest =>
     subst hcut
     rename_i hK14
     refine hK14 _ _ ?_
     refine wp_seq_k (fun K15 hK15=>?_)
     clear q0 q1 q2 q3 q4 q5 q6 q7 q8 q9 q10 q11 q12 q13 q14
     have hs12:w10.heap.size+2=((w10.alloc o.obj).alloc (fA o).obj).heap.size:=by simp
     generalize (w10.alloc o.obj).alloc (fA o).obj=w12 at *
     refine IG X i o wr.heap.size w10.heap.size xb mh (.map (some ma)) w12 HO.out hl10 HS12.out.hx HR12.out.has HI12.out HO12.out HQ12.out _ _ ?_
     intro y11 y12 y41 y42 y43 y44 y45 y46 y47 y48 y49 y50 y51 y52 y53 y54 y55 y56 y57 y58 y59 y60 y61 y62 y63 y64 y65 y66 y67 y68 w15 hB15 ho15 hq15
     have hb15:=HB12.out.trans hB15
     have hs15:=HS10.out.later hb15
     have hr15:=HR10.out.later hb15
     have hi15:=(hB15.block _ hl10).trans HI12.out
     have hcbl:=Pre.lt HS10.out.co
     have hB12:=HS10.out.b.size
     refine hK15 _ _ ?_
     refine wp_seq_k (fun K19 hK19=>?_)
     refine IH w w15 f N cb ob xb k wr.heap.size w10.heap.size (.map (some ma)) (.map (some mh)) (X.new i) i hs15 hlt HN.out hi15 ho15 HST.out.2.1 HST.out.2.2.2 HST.out.2.2.1 hcl8 _ _ ?_
     intro y69 y70 y71 y72 y73 y74 y75 y76 y77 y78 w19 hs19 hsm19 hz19
     have hr19:RunM w w19 cb ob xb ma mh X:=⟨hr15.am.of_block (hsm19 _ hr15.far.2.2.1),hr15.has.of_block (hsm19 _ hr15.far.2.2.2.2.2.1),hr15.ne,hr15.far⟩
     have ho19:=(hsm19 w10.heap.size (by omega)).trans ho15
     have hq19:=(hsm19 (w10.heap.size+1) (by omega)).trans hq15
     obtain⟨n,hn⟩:∃ n,X.new i=n:=⟨_,rfl⟩
     rw[hn] at ho19
     have HNI:=Hz hn
     have ⟨q0,q1,q2,q3,q4,q5,q6,q7,q8,q9,q10,q11,q12,q13,q14⟩:=Ins.cells ho19
     have HS19:=Hz hs19
     have HR19:=Hz hr19
     have HO19:=Hz ho19
     have HQ19:=Hz hq19
     have HSE:=Hz (oB n)
     clear hs19 hr19 ho19 hq19 hsm19 hs15 hr15 hi15 hB15 hb15 ho15 hq15 hn HS12 HR12 HI12 HO12 HQ12 HS10 HR10 HK10 HS9 HR9 HK9 HRD HB12
     refine hK19 _ _ ?_
     go_wp2_with fail
     refine (HSE.out _).mono ?_
     rintro e w22 ⟨rfl,hb22⟩
     have HS22:=Hz (HS19.out.later hb22)
     have HR22:=Hz (HR19.out.later hb22)
     have HO22:=Hz ((hb22.block _ (Az HO19.out).1).trans HO19.out)
     have HQ22:=Hz ((hb22.block _ (Az HQ19.out).1).trans HQ19.out)
     clear hb22 q0 q1 q2 q3 q4 q5 q6 q7 q8 q9 q10 q11 q12 q13 q14 HSE
     obtain⟨r,hr⟩:∃ r,n.sets=r:=⟨_,rfl⟩
     rw[hr]
     by_cases hr0:r<0
     ·have tq:decide (r<0)=true:=by simpa using hr0
      have hst:X.step i=X:=by
       unfold ShS.step
       simp only
       rw[HNI.out,hr,if_pos hr0]
      go_wp2
      exact⟨⟨k+1,by omega,by go_num,rfl,_,_,HS22.out,fun _=>⟨ma,mh,rfl,rfl,by rw[HST.out.1,hst];exact HR22.out⟩⟩,by simp[intOf];omega⟩
     ·have tq:decide (r<0)=false:=by simpa using hr0
      have x0:=aA HS22.out.hx 0 (.map (some ma)) rfl
      have x1:=aA HS22.out.hx 1 (.map (some mh)) rfl
      go_wp2_with fail
      refine (wI X.am X.has ma mh HR22.out.ne r w22 HR22.out.am HR22.out.has).mono ?_
      rintro e w23 ⟨rfl,hma,hmh,htw⟩
      have HS23:=Hz (HS22.out.two HR22.out htw)
      have HR23:Hid (RunM w w23 cb ob xb ma mh (X.forget r)):=Hz ⟨hma,hmh,HR22.out.ne,HR22.out.far⟩
      have ho23:=(htw.same _ (Az HO22.out).1 (by omega) (by omega)).trans HO22.out
      have hq23:=(htw.same _ (Az HQ22.out).1 (by omega) (by omega)).trans HQ22.out
      clear hma hmh htw x0 x1
      go_upto_block 2 with fail
      refine IJ w w23 f N cb ob xb ma mh w10.heap.size _ X i n o r HS23.out HR23.out HNI.out HO.out hr (by omega) ho23 hq23 _ ?_
      intro y86 y87 y88 y89 y90 y91 y92 y93 y94 y95 y96 y97 y98 y99 yA0 yA1 yA2 yA3 yA4 yA5 yA6 yA7 yA8 yA9 yB0 yB1 yB2 yB3 yB4 yB5 yB6 yB7 yB8 yB9 yC0 yC1 yC2 yC3 yC4 yC5 w25 hs25 hr25
      go_wp2
      exact⟨⟨k+1,by omega,by go_num,rfl,_,_,hs25,fun _=>⟨ma,mh,rfl,rfl,by rw[HST.out.1];exact hr25⟩⟩,by simp[intOf];omega⟩
  ·obtain rfl:k=N:=by omega
   have hs5:=hS
   have fb:=hS.fb
   have rb:=hS.rb
   have x0:=aA fb 0 (.string f.nm) rfl
   have x1:=aA fb 1 (.int .i64 f.ps) rfl
   have x2:=aA fb 2 (.int .i64 f.R) rfl
   have x3:=aA fb 3 (.int .i64 f.Fr) rfl
   have x4:=aA fb 4 (.slice (some ⟨cb,0,none⟩) k k) rfl
   have h3:=setRow_heap _ _ _ #[.string f.nm,.int .i64 f.ps,.int .i64 f.R,.int .i64 f.Fr,.slice (some ⟨cb,0,none⟩) k k] _ _ rb
   have e0:=aA h3 0 (.string f.nm) rfl
   have e1:=aA h3 1 (.int .i64 f.ps) rfl
   have e2:=aA h3 2 (.int .i64 f.R) rfl
   have e3:=aA h3 3 (.int .i64 f.Fr) rfl
   have e4:=aA h3 4 (.slice (some ⟨cb,0,none⟩) k k) rfl
   have HS:=Hz hS
   have hcb2:=hS.ne.2.2.2.1
   clear hS hRun hs5 fb h3
   go_wp2_with (first
    |(show wpList Try.prog _ _ (⟨none,.store _ (.tmp 2) _,_,_,_,_⟩::_) _ _;refine wpList_store_row rfl 24 (.tmp 2) (.tmp 127) rfl (w.heap.size+1) #[.string f.nm,.int .i64 f.ps,.int .i64 f.R,.int .i64 f.Fr,.slice (some ⟨cb,0,none⟩) k k] rfl rfl 24 _ rb sF rfl (cS _ _ _ _ _ _ _) ?_))
   (try simp only[Exit.inBlock,Exit.then])
   refine bodyPost_ret (by simp[results,Try.results20,go_sem,e0,e1,e2,e3,e4];try rfl) rfl ?_
   refine⟨⟨cb,by rw[HN.out],by omega,?_⟩,below_setRow HS.out.b (by omega) _⟩
   have hc:=HS.out.co
   rw[←HN.out,BT] at hc
   exact Pre.of_heap hc (setRow_other _ _ _ _ (by omega))
def pH:List Ins:=[⟨4,0,1,0,0,0,⟨#[]⟩,0,0,0,0,0,0,0,-1⟩,⟨3,1,2,1,1,0,⟨#[]⟩,0,0,0,0,0,0,0,-1⟩,⟨3,1,3,0,0,0,⟨#[]⟩,0,0,0,0,0,0,0,-1⟩,⟨13,0,-1,3,0,0,⟨#[]⟩,0,0,0,0,0,0,0,-1⟩]
theorem BW:pZ pH=[⟨4,0,1,0,0,0,⟨#[]⟩,0,0,0,0,0,0,0,-1⟩,⟨3,1,2,0,0,0,⟨#[]⟩,0,0,0,0,0,0,0,-1⟩,⟨4,0,3,2,0,0,⟨#[]⟩,0,0,0,0,0,0,0,-1⟩,⟨13,0,-1,2,0,0,⟨#[]⟩,0,0,0,0,0,0,0,-1⟩]:=by
 decide
theorem BX:kP pH 4=3:=by
 decide
def kC:aR:=⟨⟨#[102]⟩,1,4,0,pH⟩
theorem BY:OkF kC:=by
 refine⟨by decide,by decide,by decide,by decide,by decide,fun i hi=>?_,fun i hi=>?_⟩
 ·simp only[kC,pH,List.mem_cons,List.not_mem_nil,or_false] at hi
  rcases hi with rfl|rfl|rfl|rfl
  all_goals exact⟨by decide,by decide,by decide,by decide,by decide,by decide,by decide,by decide,by decide,by decide,by decide⟩
 ·have h:some (⟨13,0,-1,3,0,0,⟨#[]⟩,0,0,0,0,0,0,0,-1⟩:Ins)=some i:=hi
  injection h with h
  subst h
  decide
theorem IK (w:World)(a b c d e:Obj):(((((w.alloc a).alloc b).alloc c).alloc d).alloc e).heap[w.heap.size+1+1+1+1]? = some e:=by
 have h:=heap_alloc_new ((((w.alloc a).alloc b).alloc c).alloc d) e
 rwa [show ((((w.alloc a).alloc b).alloc c).alloc d).heap.size=w.heap.size+1+1+1+1 by simp] at h
def KT (base:Nat)(e:Ending)(w:World):Prop:=∃ cb,e = .returned (.tuple #[.agg #[.string ⟨#[102]⟩,.int .i64 1,.int .i64 4,.int .i64 0,.slice (some ⟨cb,0,none⟩) 4 4],.int .i64 3])∧base≤cb∧cb<w.heap.size∧w.cell? ⟨cb,18,none⟩=some (.int .i64 0)∧w.cell? ⟨cb,30,none⟩=some (.int .i64 4)∧w.cell? ⟨cb,33,none⟩=some (.int .i64 2)∧w.cell? ⟨cb,48,none⟩=some (.int .i64 2)
theorem wK (W:World)(b:Nat)(h:W.heap[b]? = some (.cells #[.int .i64 4,.int .i64 0,.int .i64 1,.int .i64 0,.int .i64 0,.int .i64 0,.string ⟨#[]⟩,.int .i64 0,.int .i64 0,.int .i64 0,.int .i64 0,.int .i64 0,.int .i64 0,.int .i64 0,.int .i64 (-1),.int .i64 3,.int .i64 1,.int .i64 2,.int .i64 1,.int .i64 1,.int .i64 0,.string ⟨#[]⟩,.int .i64 0,.int .i64 0,.int .i64 0,.int .i64 0,.int .i64 0,.int .i64 0,.int .i64 0,.int .i64 (-1),.int .i64 3,.int .i64 1,.int .i64 3,.int .i64 0,.int .i64 0,.int .i64 0,.string ⟨#[]⟩,.int .i64 0,.int .i64 0,.int .i64 0,.int .i64 0,.int .i64 0,.int .i64 0,.int .i64 0,.int .i64 (-1),.int .i64 13,.int .i64 0,.int .i64 (-1),.int .i64 3,.int .i64 0,.int .i64 0,.string ⟨#[]⟩,.int .i64 0,.int .i64 0,.int .i64 0,.int .i64 0,.int .i64 0,.int .i64 0,.int .i64 0,.int .i64 (-1)] 32 (0,0))) :
  Calls Try.prog 20 #[.agg #[.string ⟨#[102]⟩,.int .i64 1,.int .i64 4,.int .i64 0,.slice (some ⟨b,0,none⟩) 4 4]] W fun e w'=>KT W.heap.size e w'∧Below W.heap.size W w':=by
 have hp:RdI W (some ⟨b,0,none⟩) kC.code:=fun j x hx=>⟨b,0,rfl,(Az h).1,fun k hk=>by
  rw[cell_of_row W b _ _ _ _ h]
  match j,hx with
  | 0,hx=>injection hx with hx;subst hx;match k,hk with
   | 0,_ | 1,_ | 2,_ | 3,_ | 4,_ | 5,_ | 6,_ | 7,_ | 8,_ | 9,_ | 10,_ | 11,_ | 12,_ | 13,_ | 14,_=>rfl
   | k+15,hk=>omega
  | 1,hx=>injection hx with hx;subst hx;match k,hk with
   | 0,_ | 1,_ | 2,_ | 3,_ | 4,_ | 5,_ | 6,_ | 7,_ | 8,_ | 9,_ | 10,_ | 11,_ | 12,_ | 13,_ | 14,_=>rfl
   | k+15,hk=>omega
  | 2,hx=>injection hx with hx;subst hx;match k,hk with
   | 0,_ | 1,_ | 2,_ | 3,_ | 4,_ | 5,_ | 6,_ | 7,_ | 8,_ | 9,_ | 10,_ | 11,_ | 12,_ | 13,_ | 14,_=>rfl
   | k+15,hk=>omega
  | 3,hx=>injection hx with hx;subst hx;match k,hk with
   | 0,_ | 1,_ | 2,_ | 3,_ | 4,_ | 5,_ | 6,_ | 7,_ | 8,_ | 9,_ | 10,_ | 11,_ | 12,_ | 13,_ | 14,_=>rfl
   | k+15,hk=>omega
  | j+4,hx=>simp[kC,pH] at hx⟩
 refine (BV kC BY (some ⟨b,0,none⟩) 4 W hp).mono fun e w' ⟨⟨cb,h1,h2,h3⟩,hb⟩=>⟨⟨cb,?_,h2,Pre.lt h3,?_⟩,hb⟩
 ·rw[h1]
  show Ending.returned (Value.tuple #[aH kC.nm kC.ps kC.R kC.Fr (some ⟨cb,0,none⟩) 4 4,.int .i64 (kP pH 4:Int)])=_
  rw[BX]
  rfl
 ·rw[show kC.code=pH from rfl,BW] at h3
  have c1:=PreI.cells h3 (p:=1) rfl
  have c2:=PreI.cells h3 (p:=2) rfl
  have c3:=PreI.cells h3 (p:=3) rfl
  exact⟨c1.2.2.2.1,c2.1,c2.2.2.2.1,c3.2.2.2.1⟩
theorem gH (w:World):Calls Try.prog 16 #[] w fun e w'=>e = .returned (.bool true)∧Below w.heap.size w w':=by
 have hpla:=fun k W=>bN k W
 simp only[Ins.agg] at hpla
 go_enter Try.func16,Try.ntmps16
 go_wp2_with fail
 refine (hpla _ _).mono ?_
 rintro e w1 ⟨rfl,hb1⟩
 go_wp2_with fail
 refine (hpla _ _).mono ?_
 rintro e w2 ⟨rfl,hb2⟩
 go_wp2_with fail
 refine (hpla _ _).mono ?_
 rintro e w3 ⟨rfl,hb3⟩
 go_wp2_with fail
 refine (hpla _ _).mono ?_
 rintro e w4 ⟨rfl,hb4⟩
 have hb14:=((hb1.trans (hb2.mono hb1.size)).trans (hb3.mono (Nat.le_trans hb1.size hb2.size))).trans (hb4.mono (Nat.le_trans (Nat.le_trans hb1.size hb2.size) hb3.size))
 have HB14:=Hz hb14
 clear hb1 hb2 hb3 hb4 hb14
 go_wp2_with fail
 refine (wK _ _ (IK _ _ _ _ _ _)).mono ?_
 rintro e w5 ⟨⟨cb,rfl,hcb,hcl,y1,y2,y3,y4⟩,hb5⟩
 have hb45:=((((((Below.refl w4.heap.size w4).alloc (Nat.le_refl _) _).alloc (by simp) _).alloc (by simp;omega) _).alloc (by simp;omega) _).alloc (by simp;omega) _).trans (hb5.mono (by simp;omega))
 have HB5:=Hz (HB14.out.trans (hb45.mono HB14.out.size))
 obtain⟨w6,hw6⟩:∃ w6,w5.alloc (.cells #[.string ⟨#[102]⟩,.int .i64 1,.int .i64 4,.int .i64 0,.slice (some ⟨cb,0,none⟩) 4 4] 24)=w6:=⟨_,rfl⟩
 have hb6:Below w5.heap.size w5 w6:=by rw[←hw6];exact Below.one _ _
 have hg6:w6.heap[w5.heap.size]? = some (.cells #[.string ⟨#[102]⟩,.int .i64 1,.int .i64 4,.int .i64 0,.slice (some ⟨cb,0,none⟩) 4 4] 24):=by rw[←hw6];exact heap_alloc_new _ _
 have p4:=aA hg6 4 (.slice (some ⟨cb,0,none⟩) 4 4) rfl
 have z1:=(hb6.cell (p:=⟨cb,18,none⟩) hcl).trans y1
 have z2:=(hb6.cell (p:=⟨cb,30,none⟩) hcl).trans y2
 have z3:=(hb6.cell (p:=⟨cb,33,none⟩) hcl).trans y3
 have z4:=(hb6.cell (p:=⟨cb,48,none⟩) hcl).trans y4
 have HB6:=Hz (HB5.out.trans (hb6.mono HB5.out.size))
 clear hb45 hb5 hb6 hg6 y1 y2 y3 y4 hcb hcl hpla
 go_wp2_with fail
 go_returns
 exact⟨rfl,HB6.out⟩
end Go.Proofs.Ytkcclefonmnpnaa
