import Derived.Test.YtkcclefonmnpnaaIz
import Derived.Test.YtkcclefonmnpnaaJb
namespace Go.Proofs.Ytkcclefonmnpnaa
open Go.RowKit Go.BigFrame
theorem inRun_none {sm:ByteArray→Option Fn7}{f:Fn7}(h:∀ i ∈ f.code,smOf sm i=none):∀ n,(inRun sm ⟨f.code,0,f.R,0⟩ n).C=f.code∧(inRun sm ⟨f.code,0,f.R,0⟩ n).R=f.R
  | 0=>⟨rfl,rfl⟩
  | n + 1=>by
    obtain ⟨h1,h2⟩:=inRun_none h n
    show (inStep sm (inRun sm ⟨f.code,0,f.R,0⟩ n)).C=f.code∧(inStep sm (inRun sm ⟨f.code,0,f.R,0⟩ n)).R=f.R
    cases hc:(inRun sm ⟨f.code,0,f.R,0⟩ n).C[(inRun sm ⟨f.code,0,f.R,0⟩ n).p]? with
    | none=>unfold inStep; rw [hc]; exact ⟨h1,h2⟩
    | some i =>
      have hm:i ∈ f.code:=by rw [← h1]; exact List.mem_of_getElem? hc
      rw [inStep_none hc (h i hm)]
      exact ⟨h1,h2⟩
theorem allF_same {u:Un7}{k:Nat}{f:Fn7}(h:∀ i ∈ f.code,smOf (smTo u.funcs (k:Int) u.funcs.length) i=none):allF u k f=f:=by
  obtain ⟨h1,h2⟩:=inRun_none h f.code.length
  unfold allF ofS
  rw [h1,h2]
set_option maxRecDepth 1000000 in
set_option maxHeartbeats 16000000 in
theorem io_loopA (u:Un7) (gs:List Fn7) (F G Ao Go_ Av Gv:Option Addr) (cF cG co cgo cv cgv N M Mo Mv b2 bo bv:Nat) (wm:World) (hU:OkU u) (hN:u.funcs.length=N) (hM:u.globs.length=M) (hN9:N≤100000) (hu:RdU wm F G u) (hb:wm.heap[b2]? = some (unObj u F G cF cG))
    (ho:wm.heap[bo]? = some (.cells #[.slice Ao N co,.slice Go_ Mo cgo,.int .i64 u.top] 43)) (hof:RdF wm Ao u.funcs) (hv:wm.heap[bv]? = some (.cells #[.slice Av N cv,.slice Gv Mv cgv,.int .i64 u.top] 43)) (hvf:RdF wm Av gs) (hgl:gs.length=N) (hga:∀ (k:Nat) f g,u.funcs[k]? = some f→gs[k]? = some g→g=allF u k f) :
    ∀ ⦃x0 x2 x5 x6 x7 x8 x9 x10 x11 x12 x13 x14 x15 x16 x17 x18 x19 x20 x21 x22 x23 x24 x25 x26 x27 x28 x29 x30 x31 x32 x33 x34 x35 x36 x37 x38 x39 x40 x41 x42 x43 x44 x45 x46 x47 x51 x52 x53 x54 x55 x56 x57 x58 x59 x60 x61 x62 x63 x64 x65 x66 x67 x68 x69 x70 x71 x72 x73 x74 x75 x76 x77 x78 x79 x80 x81 x82 x83 x84 x85 x86 x87 x88 x89 x90 x91 x92 x93 x94 x95 x96 x97 x98 x99 xA0 xA1 xA2 xA3 xA4 xA5 xA6 xA7 xA8 xA9:Value⦄ (Q:Exit→Act→World→Prop),(∀ ⦃y2 y5 y6 y7 y8 y9 y10 y50 y51 y52 y53 y54 y55 y56 y57 y58 y59 y60 y61 y62 y63 y64 y65 y66 y67 y68 y69 y70 y71 y72 y73 y74 y75 y76 y77 y78 y79 y80 y81 y82 y83 y84 y85 y86 y87 y88 y89 y90 y91 y92 y93 y94 y95 y96 y97 y98 y99 yA0 yA1 yA2 yA3 yA4 yA5 yA6 yA7 yA8:Value⦄ ⦃w':World⦄,Below wm.heap.size wm w'→Q (.exit 0) ⟨(x0::.pointer (some ⟨b2,0,none⟩)::y2::.pointer (some ⟨bo,0,none⟩)::.pointer (some ⟨bv,0,none⟩)::y5::y6::y7::y8::y9::y10::x11::x12::x13::x14::x15::x16::x17::x18::x19::x20::x21::x22::x23::x24::x25::x26::x27::x28::x29::x30::x31::x32::x33::x34::x35::x36::x37::x38::x39::x40::x41::x42::x43::x44::x45::x46::x47::.slice F N cF::.int .i64 (N:Int)::y50::y51::y52::y53::y54::y55::y56::y57::y58::y59::y60::y61::y62::y63::y64::y65::y66::y67::y68::y69::y70::y71::y72::y73::y74::y75::y76::y77::y78::y79::y80::y81::y82::y83::y84::y85::y86::y87::y88::y89::y90::y91::y92::y93::y94::y95::y96::y97::y98::y99::yA0::yA1::yA2::yA3::yA4::yA5::yA6::yA7::yA8::xA9::[]).toArray,[]⟩ w')→Code.wp Try.prog ioA Q ⟨(x0::.pointer (some ⟨b2,0,none⟩)::x2::.pointer (some ⟨bo,0,none⟩)::.pointer (some ⟨bv,0,none⟩)::x5::x6::x7::x8::x9::x10::x11::x12::x13::x14::x15::x16::x17::x18::x19::x20::x21::x22::x23::x24::x25::x26::x27::x28::x29::x30::x31::x32::x33::x34::x35::x36::x37::x38::x39::x40::x41::x42::x43::x44::x45::x46::x47::.slice F N cF::.int .i64 (N:Int)::.int .i64 0::x51::x52::x53::x54::x55::x56::x57::x58::x59::x60::x61::x62::x63::x64::x65::x66::x67::x68::x69::x70::x71::x72::x73::x74::x75::x76::x77::x78::x79::x80::x81::x82::x83::x84::x85::x86::x87::x88::x89::x90::x91::x92::x93::x94::x95::x96::x97::x98::x99::xA0::xA1::xA2::xA3::xA4::xA5::xA6::xA7::xA8::xA9::[]).toArray,[]⟩ wm:=by
  intros
  rename_i Q hQ
  conv=>arg 2; whnf
  have HQ:=Lib.hid hQ
  have HU:=Lib.hid hU
  have HN:=Lib.hid hN
  have HM:=Lib.hid hM
  have HN9:=Lib.hid hN9
  have HUW:=Lib.hid hu
  have HB:=Lib.hid hb
  have HO:=Lib.hid ho
  have HOF:=Lib.hid hof
  have HV:=Lib.hid hv
  have HVF:=Lib.hid hvf
  have HGL:=Lib.hid hgl
  have HGA:=Lib.hid hga
  clear hQ hU hN hM hN9 hu hb ho hof hv hvf hgl hga
  go_loopw [50] (fun ix wr=>∃ n:Nat,n≤N∧ix = .int .i64 n∧Below wm.heap.size wm wr) (fun ix _=>N - (intOf ix).toNat)
  case atStart=>exact ⟨0,by omega,rfl,Below.refl _ _⟩
  case round =>
    obtain ⟨n,hn,rfl,hbw⟩:=hrel
    have HBW:=Lib.hid hbw
    by_cases hlt:n < N
    · obtain ⟨f,hf⟩:∃ f,u.funcs[n]? = some f:=⟨_,List.getElem?_eq_getElem (by rw [HN.out]; exact hlt)⟩
      obtain ⟨g,hg⟩:∃ g,gs[n]? = some g:=⟨_,List.getElem?_eq_getElem (by rw [HGL.out]; exact hlt)⟩
      have HF:=Lib.hid hf
      have HG:=Lib.hid hg
      obtain ⟨fb,fo,C,cap,rfl,hbl,hcs,hrI⟩:=(HUW.out.fs.below hbw) n f hf
      obtain ⟨q0,q1,q2,q3,q4⟩:=fn_cells hcs
      obtain ⟨L,hL⟩:∃ L,f.code.length=L:=⟨_,rfl⟩
      rw [hL] at q4
      have HL:=Lib.hid hL
      have HOK:=Lib.hid (HU.out.ok f (List.mem_of_getElem? hf)).len
      have HBa:=Lib.hid (hbw.trans ((Below.one wr (.cells #[.string f.nm,.int .i64 f.ps,.int .i64 f.R,.int .i64 f.Fr,.slice C L cap] 24)).mono hbw.size))
      have HXa:=Lib.hid (heap_alloc_new wr (.cells #[.string f.nm,.int .i64 f.ps,.int .i64 f.R,.int .i64 f.Fr,.slice C L cap] 24))
      have HRa:=Lib.hid (hrI.below (Below.one wr (.cells #[.string f.nm,.int .i64 f.ps,.int .i64 f.R,.int .i64 f.Fr,.slice C L cap] 24)))
      clear hf hg hcs hrI hbw hL
      go_upto_region 10 with fail
      obtain ⟨wa,hwa⟩:∃ wa,wr.alloc (.cells #[.string f.nm,.int .i64 f.ps,.int .i64 f.R,.int .i64 f.Fr,.slice C L cap] 24)=wa:=⟨_,rfl⟩
      obtain ⟨b6,hb6⟩:∃ b6,wr.heap.size=b6:=⟨_,rfl⟩
      rw [hwa] at HBa HXa HRa ⊢
      rw [hb6] at HXa ⊢
      clear hwa hb6 q0 q1 q2 q3 q4 hbl
      have f4:=cell_of_heap HXa.out 4 (.slice C L cap) rfl
      have hlf:=(Array.getElem?_eq_some_iff.1 HXa.out).1
      go_wp2_with fail
      refine io_loopB u (some ⟨fb,fo,none⟩) G cF cG N M L cap b2 (n:Int) f C wa HU.out (List.mem_of_getElem? HF.out) HN.out HM.out HN9.out HL.out (by rw [← HL.out]; exact HOK.out.2) ?_ HRa.out ?_ _ ?_
      · exact ⟨HUW.out.fs.below HBa.out,HUW.out.gs.below HBa.out⟩
      · exact (HBa.out.block _ (Array.getElem?_eq_some_iff.1 HB.out).1).trans HB.out
      intros
      rename_i w5 hv hno hb5
      have HNO:=Lib.hid hno
      have HB5:=Lib.hid (HBa.out.trans (hb5.mono HBa.out.size))
      have HX5:=Lib.hid ((hb5.block _ hlf).trans HXa.out)
      have HR5:=Lib.hid (HRa.out.below hb5)
      have HO5:=Lib.hid ((HB5.out.block _ (Array.getElem?_eq_some_iff.1 HO.out).1).trans HO.out)
      have HV5:=Lib.hid ((HB5.out.block _ (Array.getElem?_eq_some_iff.1 HV.out).1).trans HV.out)
      obtain ⟨ob,oo,Co,capo,hAo,hblo,hcso,hro⟩:=(HOF.out.below HB5.out) n f HF.out
      obtain ⟨vb,vo,Cv,capv,hAv,hblv,hcsv,hrv⟩:=(HVF.out.below HB5.out) n g HG.out
      subst hAo hAv
      obtain ⟨s0,s1,s2,s3,s4⟩:=fn_cells hcso
      obtain ⟨t0,t1,t2,t3,t4⟩:=fn_cells hcsv
      have x0:=cell_of_heap HX5.out 0 (.string f.nm) rfl
      have x1:=cell_of_heap HX5.out 1 (.int .i64 f.ps) rfl
      have x2:=cell_of_heap HX5.out 2 (.int .i64 f.R) rfl
      have x3:=cell_of_heap HX5.out 3 (.int .i64 f.Fr) rfl
      have x4:=cell_of_heap HX5.out 4 (.slice C L cap) rfl
      have o0:=cell_of_heap HO5.out 0 (.slice (some ⟨ob,oo,none⟩) N co) rfl
      have v0:=cell_of_heap HV5.out 0 (.slice (some ⟨vb,vo,none⟩) N cv) rfl
      rw [HL.out] at s4
      have h99:f.code.length≤9223372036854775807:=by have:=HOK.out.2; omega
      have hso:=fun W hA hB=>(Same_any f f Co C capo cap h99 h99 W hA hB).mono fun e w' hh=>(⟨by obtain ⟨⟨bq,e1,e2⟩,_⟩:=hh; rw [e1,e2.2 rfl],hh.2⟩:e = .returned (.bool true)∧Below W.heap.size W w')
      simp only [funcAgg,HL.out] at hso
      have HSO:=Lib.hid hso
      have HRO:=Lib.hid hro
      have e0:=fun s:Later w5=>Later.cell x0 s
      have e1:=fun s:Later w5=>Later.cell x1 s
      have e2:=fun s:Later w5=>Later.cell x2 s
      have e3:=fun s:Later w5=>Later.cell x3 s
      have e4:=fun s:Later w5=>Later.cell x4 s
      have a0:=fun s:Later w5=>Later.cell s0 s
      have a1:=fun s:Later w5=>Later.cell s1 s
      have a2:=fun s:Later w5=>Later.cell s2 s
      have a3:=fun s:Later w5=>Later.cell s3 s
      have a4:=fun s:Later w5=>Later.cell s4 s
      have p0:=fun s:Later w5=>Later.cell o0 s
      have p1:=fun s:Later w5=>Later.cell v0 s
      (try simp only [Exit.inBlock])
      cases hv
      case true =>
        clear x0 x1 x2 x3 x4 s0 s1 s2 s3 s4 t0 t1 t2 t3 t4 o0 v0 hb5 hlf f4 hso hro hno hrv hcso hcsv
        go_upto_region 17 with fail
        refine wp_region_later (by kernel_rfl) (by kernel_rfl) ?_
        repeat (go_big_quiet_step ((go_at_call 21; exact Calls.later (HSO.out _ (HRO.out.below (Later.h _)) (HR5.out.below (Later.h _))))))
        refine wpQuiet_nil ?_
        rintro w8 ⟨s',rfl⟩
        have hb8:=s'.h
        generalize s'.w=w8 at *
        have HB8:=Lib.hid (HB5.out.trans (hb8.mono HB5.out.size))
        clear hb8 e0 e1 e2 e3 e4 a0 a1 a2 a3 a4 p0 p1
        have hn9:=HN9.out
        go_wp2_with fail
        exact ⟨⟨n + 1,hlt,by go_num,HB8.out⟩,by simp [intOf]; omega⟩
      case false =>
        have hgf:g=f:=by rw [HGA.out n f g HF.out HG.out]; exact allF_same (HNO.out rfl)
        subst hgf
        rw [HL.out] at t4
        have hsv:=fun W hA hB=>(Same_any g g Cv C capv cap h99 h99 W hA hB).mono fun e w' hh=>(⟨by obtain ⟨⟨bq,e1,e2⟩,_⟩:=hh; rw [e1,e2.2 rfl],hh.2⟩:e = .returned (.bool true)∧Below W.heap.size W w')
        simp only [funcAgg,HL.out] at hsv
        have HSV:=Lib.hid hsv
        have HRV:=Lib.hid hrv
        have c0:=fun s:Later w5=>Later.cell t0 s
        have c1:=fun s:Later w5=>Later.cell t1 s
        have c2:=fun s:Later w5=>Later.cell t2 s
        have c3:=fun s:Later w5=>Later.cell t3 s
        have c4:=fun s:Later w5=>Later.cell t4 s
        clear x0 x1 x2 x3 x4 s0 s1 s2 s3 s4 t0 t1 t2 t3 t4 o0 v0 hb5 hlf f4 hso hro hno hrv hsv hcso hcsv
        go_upto_region 17 with fail
        refine wp_region_later (by kernel_rfl) (by kernel_rfl) ?_
        iterate 12 (go_big_quiet_step ((go_at_call 21; exact Calls.later (HSV.out _ (HRV.out.below (Later.h _)) (HR5.out.below (Later.h _))))))
        repeat (go_big_quiet_step ((go_at_call 21; exact Calls.later (HSO.out _ (HRO.out.below (Later.h _)) (HR5.out.below (Later.h _))))))
        refine wpQuiet_nil ?_
        rintro w8 ⟨s',rfl⟩
        have hb8:=s'.h
        generalize s'.w=w8 at *
        have HB8:=Lib.hid (HB5.out.trans (hb8.mono HB5.out.size))
        clear hb8 e0 e1 e2 e3 e4 a0 a1 a2 a3 a4 p0 p1 c0 c1 c2 c3 c4
        have hn9:=HN9.out
        go_wp2_with fail
        exact ⟨⟨n + 1,hlt,by go_num,HB8.out⟩,by simp [intOf]; omega⟩
    · obtain rfl:N=n:=by omega
      clear hbw
      go_wp2_with fail
      exact HQ.out HBW.out
end Go.Proofs.Ytkcclefonmnpnaa

