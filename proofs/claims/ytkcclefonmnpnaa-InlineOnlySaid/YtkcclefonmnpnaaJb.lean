import Derived.Test.YtkcclefonmnpnaaIr
namespace Go.Proofs.Ytkcclefonmnpnaa
open Go.RowKit Go.BigFrame
noncomputable def ioA:Code:=((((Try.f13.body).map loopsI).getD [])[0]?).getD .skip
noncomputable def ioA1:Code:=inBkI (seqNI (inLoopI ioA) 2)
noncomputable def ioB:Code:=((loopsI ioA1)[0]?).getD .skip
noncomputable def ioB3:Code:=inBkI (seqNI (inLoopI ioB) 2)
set_option maxRecDepth 1000000 in
set_option maxHeartbeats 16000000 in
theorem io_body (u:Un7) (F G:Option Addr) (cF cG N M L cap b2 n:Nat) (k:Int) (f:Fn7) (C:Option Addr) (i:Ins) (hv:Bool) (wr:World) (hU:OkU u) (hf:f ∈ u.funcs) (hN:u.funcs.length=N) (hM:u.globs.length=M) (hN9:N≤100000) (hL:f.code.length=L) (hi:f.code[n]? = some i) (hu:RdU wr F G u) (hC:RdI wr C f.code) (hb:wr.heap[b2]? = some (unObj u F G cF cG)) :
    ∀ ⦃x0 x2 x3 x4 x6 x8 x9 x10 x11 x12 x13 x14 x15 x16 x17 x18 x19 x20 x21 x22 x23 x24 x25 x26 x27 x28 x29 x30 x31 x32 x33 x34 x35 x36 x37 x38 x39 x40 x41 x42 x43 x44 x45 x46 x47 x48 x49 x50 x51 x52 x53 x54 x55 x57 x59 x60 x61 x62 x63 x64 x65 x66 x67 x68 x69 x70 x71 x72 x73 x74 x75 x76 x77 x78 x79 x80 x81 x82 x83 x84 x85 x86 x87 x88 x89 x90 x91 x92 x93 x94 x95 x96 x97 x98 x99 xA0 xA1 xA2 xA3 xA4 xA5 xA6 xA7 xA8 xA9:Value⦄ (Q:Exit→Act→World→Prop),(∀ ⦃y9 y10 y60 y61 y62 y63 y64 y65 y66 y67 y68 y69 y70 y71 y72 y73 y74 y75 y76 y77 y78 y79 y80 y81 y82 y83 y84:Value⦄ ⦃w':World⦄ (hv':Bool),(hv'=false→hv=false∧smOf (smTo u.funcs k u.funcs.length) i=none)→Below wr.heap.size wr w'→Q .normal ⟨(x0::.pointer (some ⟨b2,0,none⟩)::x2::x3::x4::.int .i64 k::x6::.bool hv'::x8::y9::y10::x11::x12::x13::x14::x15::x16::x17::x18::x19::x20::x21::x22::x23::x24::x25::x26::x27::x28::x29::x30::x31::x32::x33::x34::x35::x36::x37::x38::x39::x40::x41::x42::x43::x44::x45::x46::x47::x48::x49::x50::x51::x52::x53::x54::x55::.slice C L cap::x57::.int .i64 (n:Int)::x59::y60::y61::y62::y63::y64::y65::y66::y67::y68::y69::y70::y71::y72::y73::y74::y75::y76::y77::y78::y79::y80::y81::y82::y83::y84::x85::x86::x87::x88::x89::x90::x91::x92::x93::x94::x95::x96::x97::x98::x99::xA0::xA1::xA2::xA3::xA4::xA5::xA6::xA7::xA8::xA9::[]).toArray,[]⟩ w')→Code.wp Try.prog ioB3 Q ⟨(x0::.pointer (some ⟨b2,0,none⟩)::x2::x3::x4::.int .i64 k::x6::.bool hv::x8::x9::x10::x11::x12::x13::x14::x15::x16::x17::x18::x19::x20::x21::x22::x23::x24::x25::x26::x27::x28::x29::x30::x31::x32::x33::x34::x35::x36::x37::x38::x39::x40::x41::x42::x43::x44::x45::x46::x47::x48::x49::x50::x51::x52::x53::x54::x55::.slice C L cap::x57::.int .i64 (n:Int)::x59::x60::x61::x62::x63::x64::x65::x66::x67::x68::x69::x70::x71::x72::x73::x74::x75::x76::x77::x78::x79::x80::x81::x82::x83::x84::x85::x86::x87::x88::x89::x90::x91::x92::x93::x94::x95::x96::x97::x98::x99::xA0::xA1::xA2::xA3::xA4::xA5::xA6::xA7::xA8::xA9::[]).toArray,[]⟩ wr:=by
  intros
  rename_i Q hQ
  conv=>arg 2; whnf
  have HQ:=Lib.hid hQ
  have hnL:n < L:=by rw [← hL]; exact (List.getElem?_eq_some_iff.1 hi).1
  obtain ⟨bI,oI,hlA,hbl,hcs⟩:=hC n i hi
  subst hlA
  obtain ⟨x0,x1,x2,x3,x4,x5,x6,x7,x8,x9,x10,x11,x12,x13,x14⟩:=RdI.load hcs
  have hb1:=Below.one wr i.obj
  have hk1:=heap_alloc_new wr i.obj
  have hbx1:=alloc_keeps hb i.obj
  have hlw:=fun h8=>smOf_law hU (k:=k) hf (List.mem_of_getElem? hi) h8
  have hno:i.kind≠8→smOf (smTo u.funcs k u.funcs.length) i=none:=fun h8=>by unfold smOf; rw [if_neg h8]
  have hfi:=fun nm W h=>Find_any u F G cF cG nm (by rw [hN]; exact hN9) W h
  have hfu:RdF wr F u.funcs:=hu.fs
  simp only [unAgg,hN,hM] at hfi
  simp only [unObj] at hbx1
  rw [hN,hM] at hbx1
  have HN:=Lib.hid hN
  have HLW:=Lib.hid hlw
  have HNO:=Lib.hid hno
  have HFI:=Lib.hid hfi
  have HFU:=Lib.hid hfu
  clear hQ hcs hb hlw hno hfi hfu hu hC hi hL hM hN hf hU
  obtain ⟨kd,op,dst,a,b',nn,text,r0,r1,r2,r3,r4,r5,to_,els⟩:=i
  simp only [Ins.obj] at x0 x1 x2 x3 x4 x5 x6 x7 x8 x9 x10 x11 x12 x13 x14 hk1 hb1 hbx1
  have HK1:=Lib.hid hk1
  have HB1:=Lib.hid hb1
  have HBX1:=Lib.hid hbx1
  clear hk1 hb1 hbx1
  go_upto_region 14 with fail
  obtain ⟨w1,hw1⟩:∃ w1,wr.alloc (.cells #[.int .i64 kd,.int .i64 op,.int .i64 dst,.int .i64 a,.int .i64 b',.int .i64 nn,.string text,.int .i64 r0,.int .i64 r1,.int .i64 r2,.int .i64 r3,.int .i64 r4,.int .i64 r5,.int .i64 to_,.int .i64 els] 32)=w1:=⟨_,rfl⟩
  obtain ⟨b12,hb12⟩:∃ b12,wr.heap.size=b12:=⟨_,rfl⟩
  rw [hw1] at HK1 HB1 HBX1 ⊢
  rw [hb12] at HK1 ⊢
  clear hw1 x0 x1 x2 x3 x4 x5 x6 x7 x8 x9 x10 x11 x12 x13 x14
  have k0:=cell_of_heap HK1.out 0 (.int .i64 kd) rfl
  have k6:=cell_of_heap HK1.out 6 (.string text) rfl
  have hl12:=(Array.getElem?_eq_some_iff.1 HK1.out).1
  have u0:=cell_of_heap HBX1.out 0 (.slice F N cF) rfl
  have u1:=cell_of_heap HBX1.out 1 (.slice G M cG) rfl
  have u2:=cell_of_heap HBX1.out 2 (.int .i64 u.top) rfl
  have hlb2:=(Array.getElem?_eq_some_iff.1 HBX1.out).1
  go_wp2_with fail
  refine (HFI.out _ _ (HFU.out.below HB1.out)).mono ?_
  rintro e w2 ⟨rfl,hb2⟩
  dsimp only
  have HK2:=Lib.hid ((hb2.block _ hl12).trans HK1.out)
  have HBX2:=Lib.hid ((hb2.block _ hlb2).trans HBX1.out)
  have HB2:=Lib.hid (HB1.out.trans (hb2.mono HB1.out.size))
  clear hb2 k0 k6 hl12 u0 u1 u2 hlb2 HK1 HBX1 HB1 HFI
  have k0:=cell_of_heap HK2.out 0 (.int .i64 kd) rfl
  have hl12:=(Array.getElem?_eq_some_iff.1 HK2.out).1
  have u0:=cell_of_heap HBX2.out 0 (.slice F N cF) rfl
  have hlb2:=(Array.getElem?_eq_some_iff.1 HBX2.out).1
  cases hv
  case true =>
    obtain ⟨z,hz⟩:∃ z,findI u.funcs text=z:=⟨_,rfl⟩
    simp only [hz]
    go_wp2_with fail
    exact HQ.out true (fun h=>nomatch h) HB2.out
  case false =>
    by_cases h8:kd=8
    case neg =>
      have p1:(kd == 8)=false:=by simpa using h8
      have p2:decide (kd=8)=false:=by simpa using h8
      have HN0:=Lib.hid (HNO.out h8)
      clear h8
      obtain ⟨z,hz⟩:∃ z,findI u.funcs text=z:=⟨_,rfl⟩
      simp only [hz]
      go_wp2_with fail
      exact HQ.out false (fun _=>⟨by simp,HN0.out⟩) HB2.out
    case pos =>
      obtain ⟨ai,g,hfa,hga,hcase⟩:=HLW.out h8
      subst h8
      have haN:ai < N:=by rw [← HN.out]; exact (List.getElem?_eq_some_iff.1 hga).1
      rw [findI_some hfa]
      have HCS:=Lib.hid hcase
      clear HLW HNO hfa hcase
      by_cases hak:(ai:Int)=k
      · have p1:((ai:Int) != k)=false:=by simpa using hak
        have p2:decide ((ai:Int)=k)=true:=by simpa using hak
        have HN0:Hid (smOf (smTo u.funcs k u.funcs.length) ⟨8,op,dst,a,b',nn,text,r0,r1,r2,r3,r4,r5,to_,els⟩=none):=Lib.hid (by
          rcases HCS.out with h | h
          · exact absurd hak h.1.1
          · exact h.2)
        clear hak hga
        go_wp2_with fail
        exact HQ.out false (fun _=>⟨by simp,HN0.out⟩) HB2.out
      · have p1:((ai:Int) != k)=true:=by simpa using hak
        have p2:decide ((ai:Int)=k)=false:=by simpa using hak
        obtain ⟨fb,fo,Cg,gcap,rfl,hblg,hcg,hrg⟩:=(HFU.out.below HB2.out) ai g hga
        obtain ⟨q0,q1,q2,q3,q4⟩:=fn_cells hcg
        obtain ⟨LG,hLG⟩:∃ LG,g.code.length=LG:=⟨_,rfl⟩
        have hsm:=fun W hW=>rsmall_any g Cg gcap W hW
        simp only [funcAgg] at hsm
        rw [hLG] at q4 hsm
        have HSM:=Lib.hid hsm
        have HRG:=Lib.hid hrg
        clear hak hga hcg hrg hsm hLG
        go_wp2_with fail
        refine (HSM.out _ HRG.out).mono ?_
        rintro e w3 ⟨⟨bv,rfl,hbv⟩,hb3⟩
        dsimp only
        have HB3:=Lib.hid (HB2.out.trans (hb3.mono HB2.out.size))
        cases bv
        case false =>
          have HN0:Hid (smOf (smTo u.funcs k u.funcs.length) ⟨8,op,dst,a,b',nn,text,r0,r1,r2,r3,r4,r5,to_,els⟩=none):=Lib.hid (by
            rcases HCS.out with h | h
            · exact absurd (hbv.2 h.1.2) (by simp)
            · exact h.2)
          clear hb3 hbv
          go_wp2_with fail
          exact HQ.out false (fun _=>⟨by simp,HN0.out⟩) HB3.out
        case true =>
          clear hb3 hbv
          go_wp2_with fail
          exact HQ.out true (fun h=>nomatch h) HB3.out
set_option maxRecDepth 1000000 in
set_option maxHeartbeats 16000000 in
theorem io_loopB (u:Un7) (F G:Option Addr) (cF cG N M L cap b2:Nat) (k:Int) (f:Fn7) (C:Option Addr) (wm:World) (hU:OkU u) (hf:f ∈ u.funcs) (hN:u.funcs.length=N) (hM:u.globs.length=M) (hN9:N≤100000) (hL:f.code.length=L) (hL9:L≤8192) (hu:RdU wm F G u) (hC:RdI wm C f.code) (hb:wm.heap[b2]? = some (unObj u F G cF cG)) :
    ∀ ⦃x0 x2 x3 x4 x6 x8 x9 x10 x11 x12 x13 x14 x15 x16 x17 x18 x19 x20 x21 x22 x23 x24 x25 x26 x27 x28 x29 x30 x31 x32 x33 x34 x35 x36 x37 x38 x39 x40 x41 x42 x43 x44 x45 x46 x47 x48 x49 x50 x51 x52 x53 x54 x55 x59 x60 x61 x62 x63 x64 x65 x66 x67 x68 x69 x70 x71 x72 x73 x74 x75 x76 x77 x78 x79 x80 x81 x82 x83 x84 x85 x86 x87 x88 x89 x90 x91 x92 x93 x94 x95 x96 x97 x98 x99 xA0 xA1 xA2 xA3 xA4 xA5 xA6 xA7 xA8 xA9:Value⦄ (Q:Exit→Act→World→Prop),(∀ ⦃y9 y10 y58 y59 y60 y61 y62 y63 y64 y65 y66 y67 y68 y69 y70 y71 y72 y73 y74 y75 y76 y77 y78 y79 y80 y81 y82 y83 y84 y85:Value⦄ ⦃w':World⦄ (hv:Bool),(hv=false→∀ i ∈ f.code,smOf (smTo u.funcs k u.funcs.length) i=none)→Below wm.heap.size wm w'→Q (.exit 2) ⟨(x0::.pointer (some ⟨b2,0,none⟩)::x2::x3::x4::.int .i64 k::x6::.bool hv::x8::y9::y10::x11::x12::x13::x14::x15::x16::x17::x18::x19::x20::x21::x22::x23::x24::x25::x26::x27::x28::x29::x30::x31::x32::x33::x34::x35::x36::x37::x38::x39::x40::x41::x42::x43::x44::x45::x46::x47::x48::x49::x50::x51::x52::x53::x54::x55::.slice C L cap::.int .i64 (L:Int)::y58::y59::y60::y61::y62::y63::y64::y65::y66::y67::y68::y69::y70::y71::y72::y73::y74::y75::y76::y77::y78::y79::y80::y81::y82::y83::y84::y85::x86::x87::x88::x89::x90::x91::x92::x93::x94::x95::x96::x97::x98::x99::xA0::xA1::xA2::xA3::xA4::xA5::xA6::xA7::xA8::xA9::[]).toArray,[]⟩ w')→Code.wp Try.prog ioB Q ⟨(x0::.pointer (some ⟨b2,0,none⟩)::x2::x3::x4::.int .i64 k::x6::.bool false::x8::x9::x10::x11::x12::x13::x14::x15::x16::x17::x18::x19::x20::x21::x22::x23::x24::x25::x26::x27::x28::x29::x30::x31::x32::x33::x34::x35::x36::x37::x38::x39::x40::x41::x42::x43::x44::x45::x46::x47::x48::x49::x50::x51::x52::x53::x54::x55::.slice C L cap::.int .i64 (L:Int)::.int .i64 0::x59::x60::x61::x62::x63::x64::x65::x66::x67::x68::x69::x70::x71::x72::x73::x74::x75::x76::x77::x78::x79::x80::x81::x82::x83::x84::x85::x86::x87::x88::x89::x90::x91::x92::x93::x94::x95::x96::x97::x98::x99::xA0::xA1::xA2::xA3::xA4::xA5::xA6::xA7::xA8::xA9::[]).toArray,[]⟩ wm:=by
  intros
  rename_i Q hQ
  conv=>arg 2; whnf
  have HQ:=Lib.hid hQ
  have HU:=Lib.hid hU
  have HF:=Lib.hid hf
  have HN:=Lib.hid hN
  have HM:=Lib.hid hM
  have HN9:=Lib.hid hN9
  have HL:=Lib.hid hL
  have HUW:=Lib.hid hu
  have HC:=Lib.hid hC
  have HB:=Lib.hid hb
  clear hQ hU hf hN hM hN9 hL hu hC hb
  go_loopw [7,58] (fun bv ix wr=>∃ (n:Nat) (hv:Bool),n≤L∧ix = .int .i64 n∧bv = .bool hv∧(hv=false→∀ j,j < n→∀ i,f.code[j]? = some i→smOf (smTo u.funcs k u.funcs.length) i=none)∧Below wm.heap.size wm wr) (fun _ ix _=>L - (intOf ix).toNat)
  case atStart=>exact ⟨0,false,by omega,rfl,rfl,fun _ j hj=>by omega,Below.refl _ _⟩
  case round =>
    obtain ⟨n,hv,hn,rfl,rfl,hno,hbw⟩:=hrel
    have HBW:=Lib.hid hbw
    have HNO:=Lib.hid hno
    clear hno
    by_cases hlt:n < L
    · obtain ⟨i,hi⟩:∃ i,f.code[n]? = some i:=⟨_,List.getElem?_eq_getElem (by rw [HL.out]; exact hlt)⟩
      have HI:=Lib.hid hi
      clear hi hbw
      go_upto_block 3 with fail
      refine wp_block ?_
      refine io_body u F G cF cG N M L cap b2 n k f C i hv wr HU.out HF.out HN.out HM.out HN9.out HL.out HI.out ?_ (HC.out.below HBW.out) ?_ _ ?_
      · exact ⟨HUW.out.fs.below HBW.out,HUW.out.gs.below HBW.out⟩
      · exact (HBW.out.block _ (Array.getElem?_eq_some_iff.1 HB.out).1).trans HB.out
      intros
      rename_i w' hv' hno' hb'
      have HBW':=Lib.hid (HBW.out.trans (hb'.mono HBW.out.size))
      have HNO':Hid (hv'=false→∀ j,j < n + 1→∀ i,f.code[j]? = some i→smOf (smTo u.funcs k u.funcs.length) i=none):=Lib.hid (fun h j hj i' hi'=>by
        obtain ⟨h1,h2⟩:=hno' h
        by_cases hjn:j < n
        · exact HNO.out h1 j hjn i' hi'
        · obtain rfl:j=n:=by omega
          have h3:=HI.out
          rw [h3] at hi'
          injection hi' with hi'
          subst hi'
          exact h2)
      clear hb' hno'
      (try simp only [Exit.inBlock])
      go_wp2_with fail
      exact ⟨⟨n + 1,hv',by omega,by go_num,rfl,HNO'.out,HBW'.out⟩,by simp [intOf]; omega⟩
    · obtain rfl:L=n:=by omega
      clear hbw
      go_wp2_with fail
      exact HQ.out hv (fun h i hi=>by
        obtain ⟨j,hj,hji⟩:=List.getElem_of_mem hi
        exact HNO.out h j (by rw [HL.out] at hj; exact hj) i (by rw [List.getElem?_eq_getElem hj,hji])) HBW.out
end Go.Proofs.Ytkcclefonmnpnaa

