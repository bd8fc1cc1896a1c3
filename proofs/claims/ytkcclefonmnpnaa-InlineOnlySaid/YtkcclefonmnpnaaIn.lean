import Derived.Test.YtkcclefonmnpnaaIe
import Derived.Test.YtkcclefonmnpnaaIm
import Derived.Test.YtkcclefonmnpnaaIl
import Derived.Test.YtkcclefonmnpnaaIh
import Derived.Test.YtkcclefonmnpnaaIc
namespace Go.Proofs.Ytkcclefonmnpnaa
open Go.RowKit Go.BigFrame
structure OfW (w0 w:World)(u:Un7)(F G:Option Addr)(cF cG mb:Nat)(sm:ByteArray→Option Fn7):Prop where
  b:Below w0.heap.size w0 w
  s:w0.heap.size + 2≤mb
  ub:w.heap[w0.heap.size]? = some (unObj u F G cF cG)
  rb:w.heap[w0.heap.size + 1]? = some zFnO
  m:SmM w0 w mb sm
theorem OfW.later {w0 w w':World}{u:Un7}{F G:Option Addr}{cF cG mb:Nat}{sm:ByteArray→Option Fn7}(h:OfW w0 w u F G cF cG mb sm)(hb:Below w.heap.size w w'):OfW w0 w' u F G cF cG mb sm :=
  have h1:=(Array.getElem?_eq_some_iff.1 h.ub).1
  have h2:=(Array.getElem?_eq_some_iff.1 h.rb).1
  ⟨h.b.trans (hb.mono h.b.size),h.s,(hb.block _ h1).trans h.ub,(hb.block _ h2).trans h.rb,h.m.later hb⟩
theorem OfW.upd {w0 w w':World}{u:Un7}{F G:Option Addr}{cF cG mb:Nat}{sm sm':ByteArray→Option Fn7}(h:OfW w0 w u F G cF cG mb sm)(hg:w.grownBy w' (some mb))(hm:SmM w0 w' mb sm'):OfW w0 w' u F G cF cG mb sm' :=
  have h1:=(Array.getElem?_eq_some_iff.1 h.ub).1
  have h2:=(Array.getElem?_eq_some_iff.1 h.rb).1
  have hs:=h.s
  ⟨h.b.grown hg h.b.size (fun k hk=>by injection hk with hk; omega),h.s,(hg.block _ h1 (fun e=>by injection e with e; omega)).trans h.ub,(hg.block _ h2 (fun e=>by injection e with e; omega)).trans h.rb,hm⟩
theorem OfW.at_ {w0 w w':World}{u:Un7}{F G:Option Addr}{cF cG mb q:Nat}{sm:ByteArray→Option Fn7}(h:OfW w0 w u F G cF cG mb sm)(hq:w0.heap.size + 2≤q)(hne:mb≠q)(hb:Below w0.heap.size w0 w')(hk:∀ r,r < w.heap.size→r≠q→w'.heap[r]? = w.heap[r]?):OfW w0 w' u F G cF cG mb sm :=
  have h1:=(Array.getElem?_eq_some_iff.1 h.ub).1
  have h2:=(Array.getElem?_eq_some_iff.1 h.rb).1
  ⟨hb,h.s,(hk _ h1 (by omega)).trans h.ub,(hk _ h2 (by omega)).trans h.rb,h.m.of_block (hk _ h.m.lt hne)⟩
structure InW (w0 w:World)(u:Un7)(F G:Option Addr)(cF cG mb fb:Nat)(sm:ByteArray→Option Fn7)(f:Fn7)(s:InS):Prop where
  o:OfW w0 w u F G cF cG mb sm
  fl:w0.heap.size + 2≤fb
  box:∃ cb cap,w.heap[fb]? = some (funcObj f.nm f.ps s.R f.Fr (some ⟨cb,0,none⟩) s.C.length cap)∧PreI w cb s.C∧w0.heap.size≤cb
theorem InW.later {w0 w w':World}{u:Un7}{F G:Option Addr}{cF cG mb fb:Nat}{sm:ByteArray→Option Fn7}{f:Fn7}{s:InS}(h:InW w0 w u F G cF cG mb fb sm f s)(hb:Below w.heap.size w w'):InW w0 w' u F G cF cG mb fb sm f s:=by
  obtain ⟨cb,cap,h1,h2,h3⟩:=h.box
  exact ⟨h.o.later hb,h.fl,cb,cap,(hb.block _ (Array.getElem?_eq_some_iff.1 h1).1).trans h1,Pre.later h2 hb,h3⟩
theorem map_ne {w:World}{mb fb:Nat}{w0:World}{sm:ByteArray→Option Fn7}(h:SmM w0 w mb sm){cs:Array Value}{t:TypeId}{f:Nat × Nat}(hf:w.heap[fb]? = some (.cells cs t f)):mb≠fb:=fun e=>by
  obtain ⟨gv,⟨es,clock,hm,_⟩,_⟩:=h
  rw [e,hf] at hm
  injection hm with hm
  cases hm
theorem under_msF:Try.prog.underlying 94=some (.map 9 24):=by kernel_rfl
theorem zero_fn (w:World):(zeroValue 24).run Try.prog w = .ok (.agg #[.string ⟨#[]⟩,.int .i64 0,.int .i64 0,.int .i64 0,.slice none 0 0]) w:=by kernel_rfl
noncomputable def ofLoop1:Code:=((((Try.f42.body).map loopsI).getD [])[0]?).getD .skip
noncomputable def ofLoop2:Code:=((((Try.f42.body).map loopsI).getD [])[1]?).getD .skip
set_option maxRecDepth 1000000 in
set_option maxHeartbeats 16000000 in
theorem of_loop1 (u:Un7) (F G:Option Addr) (cF cG k mb N M:Nat) (w wm:World) (h:RdU w F G u) (hN:u.funcs.length=N) (hM:u.globs.length=M) (hN9:N≤100000) (hS:OfW w wm u F G cF cG mb (smTo u.funcs k 0)) :
    ∀ ⦃x0 x3 x5 x7 x8 x9 x10 x11 x12 x13 x14 x15 x16 x17 x18 x19 x20 x21 x22 x23 x24 x25 x26 x27 x28 x29 x30 x31 x32 x36 x37 x38 x39 x40 x41 x42 x43 x44 x45 x46 x47 x48 x49 x50 x51 x52 x53 x54 x55 x56 x57 x58 x59 x60 x61 x62 x63 x64 x65 x66 x67 x68 x69 x70 x71 x72 x73 x74 x75 x76 x77 x78 x79 x80 x81 x82 x83 x84 x85 x86 x87 x88 x89 x90 x91 x92 x93 x94 x95 x96 x97 x98 x99 xA0 xA1 xA2 xA3 xA4 xA5 xA6 xA7 xA8 xA9 xB0 xB1 xB2 xB3 xB4 xB5 xB6 xB7 xB8 xB9 xC0 xC1 xC2:Value⦄ (Q:Exit→Act→World→Prop),(∀ ⦃y7 y8 y35 y36 y37 y38 y39 y40 y41 y42 y43 y44 y45 y46 y47 y48 y49 y50 y51:Value⦄ ⦃w':World⦄,OfW w w' u F G cF cG mb (smTo u.funcs k N)→Q (.exit 0) ⟨(x0::.int .i64 (k:Int)::.pointer (some ⟨w.heap.size,0,none⟩)::x3::.pointer (some ⟨w.heap.size + 1,0,none⟩)::x5::.map (some mb)::y7::y8::x9::x10::x11::x12::x13::x14::x15::x16::x17::x18::x19::x20::x21::x22::x23::x24::x25::x26::x27::x28::x29::x30::x31::x32::.slice F N cF::.int .i64 (N:Int)::y35::y36::y37::y38::y39::y40::y41::y42::y43::y44::y45::y46::y47::y48::y49::y50::y51::x52::x53::x54::x55::x56::x57::x58::x59::x60::x61::x62::x63::x64::x65::x66::x67::x68::x69::x70::x71::x72::x73::x74::x75::x76::x77::x78::x79::x80::x81::x82::x83::x84::x85::x86::x87::x88::x89::x90::x91::x92::x93::x94::x95::x96::x97::x98::x99::xA0::xA1::xA2::xA3::xA4::xA5::xA6::xA7::xA8::xA9::xB0::xB1::xB2::xB3::xB4::xB5::xB6::xB7::xB8::xB9::xC0::xC1::xC2::[]).toArray,[]⟩ w')→Code.wp Try.prog ofLoop1 Q ⟨(x0::.int .i64 (k:Int)::.pointer (some ⟨w.heap.size,0,none⟩)::x3::.pointer (some ⟨w.heap.size + 1,0,none⟩)::x5::.map (some mb)::x7::x8::x9::x10::x11::x12::x13::x14::x15::x16::x17::x18::x19::x20::x21::x22::x23::x24::x25::x26::x27::x28::x29::x30::x31::x32::.slice F N cF::.int .i64 (N:Int)::.int .i64 0::x36::x37::x38::x39::x40::x41::x42::x43::x44::x45::x46::x47::x48::x49::x50::x51::x52::x53::x54::x55::x56::x57::x58::x59::x60::x61::x62::x63::x64::x65::x66::x67::x68::x69::x70::x71::x72::x73::x74::x75::x76::x77::x78::x79::x80::x81::x82::x83::x84::x85::x86::x87::x88::x89::x90::x91::x92::x93::x94::x95::x96::x97::x98::x99::xA0::xA1::xA2::xA3::xA4::xA5::xA6::xA7::xA8::xA9::xB0::xB1::xB2::xB3::xB4::xB5::xB6::xB7::xB8::xB9::xC0::xC1::xC2::[]).toArray,[]⟩ wm:=by
  intros
  rename_i Q hQ
  conv=>arg 2; whnf
  have HQ:=Lib.hid hQ
  have HN:=Lib.hid hN
  have HM:=Lib.hid hM
  have HS:=Lib.hid hS
  have H:=Lib.hid h
  clear hQ hN hM hS h
  go_loopw [35] (fun ix wr=>∃ n:Nat,n≤N∧ix = .int .i64 n∧OfW w wr u F G cF cG mb (smTo u.funcs k n)) (fun ix _=>N - (intOf ix).toNat)
  case atStart=>exact ⟨0,by omega,rfl,HS.out⟩
  case round =>
    obtain ⟨n,hn,rfl,hs⟩:=hrel
    clear HS
    by_cases hlt:n < N
    · obtain ⟨f,hf⟩:∃ f,u.funcs[n]? = some f:=⟨_,List.getElem?_eq_getElem (by rw [HN.out]; exact hlt)⟩
      obtain ⟨b,o,C,cap,rfl,hbl,hcs,hrI⟩:=(H.out.fs.below hs.b) n f hf
      have hrI0:RdI w C f.code:=by
        obtain ⟨b',o',C',cap',e,_,hcs',hr'⟩:=H.out.fs n f hf
        injection e with e
        injection e with e1 e2
        subst e1 e2
        have c1:=(fn_cells hcs').2.2.2.2
        have c2:=(fn_cells hcs).2.2.2.2
        have c3:=(hs.b.cell (p:=⟨b,o + n * 5 + 4,none⟩) (World.block_lt_of_cell? w ⟨b,o + n * 5 + 4,none⟩ c1)).trans c1
        rw [c2] at c3
        injection c3 with c3
        injection c3 with c3 _ _
        rw [c3]
        exact hr'
      obtain ⟨q0,q1,q2,q3,q4⟩:=fn_cells hcs
      obtain ⟨L,hL⟩:∃ L,f.code.length=L:=⟨_,rfl⟩
      rw [hL] at q4
      have hsm:=fun W hW=>small_any f C cap W hW
      rw [hL] at hsm
      have HSM:=Lib.hid hsm
      have HF:=Lib.hid hf
      have HR0:=Lib.hid hrI0
      have HRI:=Lib.hid hrI
      have HL:=Lib.hid hL
      have HSS:=Lib.hid hs
      clear hf hcs hrI hrI0 hs hL hsm
      have hB1:=Below.one wr (.cells #[.string f.nm,.int .i64 f.ps,.int .i64 f.R,.int .i64 f.Fr,.slice C L cap] 24)
      have hx1:=heap_alloc_new wr (.cells #[.string f.nm,.int .i64 f.ps,.int .i64 f.R,.int .i64 f.Fr,.slice C L cap] 24)
      have HB1:=Lib.hid hB1
      have HX1:=Lib.hid hx1
      clear hB1 hx1
      go_upto_region 7 with fail
      obtain ⟨w1,hw1⟩:∃ w1,wr.alloc (.cells #[.string f.nm,.int .i64 f.ps,.int .i64 f.R,.int .i64 f.Fr,.slice C L cap] 24)=w1:=⟨_,rfl⟩
      rw [hw1] at HB1 HX1 ⊢
      clear hw1 q0 q1 q2 q3 q4 hbl
      have g0:=cell_of_heap HX1.out 0 (.string f.nm) rfl
      have g1:=cell_of_heap HX1.out 1 (.int .i64 f.ps) rfl
      have g2:=cell_of_heap HX1.out 2 (.int .i64 f.R) rfl
      have g3:=cell_of_heap HX1.out 3 (.int .i64 f.Fr) rfl
      have g4:=cell_of_heap HX1.out 4 (.slice C L cap) rfl
      have hl1:=(Array.getElem?_eq_some_iff.1 HX1.out).1
      by_cases hnk:(n:Int)=k
      · have p1:((n:Int) != (k:Int))=false:=by simp [hnk]
        have p2:decide ((n:Int)=(k:Int))=true:=by simpa using hnk
        have HFIN:Hid (OfW w w1 u (some ⟨b,o,none⟩) G cF cG mb (smTo u.funcs k (n + 1))):=Lib.hid (by
          have h1:=HSS.out.later HB1.out
          exact ⟨h1.b,h1.s,h1.ub,h1.rb,h1.m.skip HF.out (fun hc=>hc.1 hnk)⟩)
        clear hnk
        go_wp2_with fail
        exact ⟨⟨n + 1,by omega,by go_num,HFIN.out⟩,by simp [intOf]; omega⟩
      · have p1:((n:Int) != (k:Int))=true:=by simpa using hnk
        have p2:decide ((n:Int)=(k:Int))=false:=by simpa using hnk
        have HNK:=Lib.hid hnk
        clear hnk
        go_wp2_with fail
        refine (HSM.out _ (HRI.out.below HB1.out)).mono ?_
        rintro e w2 ⟨⟨bv,rfl,hbv⟩,hb2⟩
        dsimp only
        have h2:=(HSS.out.later HB1.out).later hb2
        have hx2:=(hb2.block _ hl1).trans HX1.out
        have HBV:=Lib.hid hbv
        have H2:=Lib.hid h2
        have HX2:=Lib.hid hx2
        clear hbv hb2 h2 hx2 g0 g1 g2 g3 g4 HX1 HB1 hl1
        cases bv
        · have HFIN:Hid (OfW w w2 u (some ⟨b,o,none⟩) G cF cG mb (smTo u.funcs k (n + 1))):=Lib.hid
            ⟨H2.out.b,H2.out.s,H2.out.ub,H2.out.rb,H2.out.m.skip HF.out (fun hc=>by have:=HBV.out.2 hc.2; cases this)⟩
          clear HBV
          go_wp2_with fail
          exact ⟨⟨n + 1,by omega,by go_num,HFIN.out⟩,by simp [intOf]; omega⟩
        · have hsF:=HBV.out.1 rfl
          obtain ⟨gv,hm,hg1,hg2⟩:=H2.out.m
          have HG1:=Lib.hid hg1
          have HG2:=Lib.hid hg2
          have HM:=Lib.hid hm
          have HSF:=Lib.hid hsF
          have g0:=cell_of_heap HX2.out 0 (.string f.nm) rfl
          have hlx:=(Array.getElem?_eq_some_iff.1 HX2.out).1
          clear HBV hm hg1 hg2 hsF
          go_wp2_with (first
            | (show wpList Try.prog _ _ (⟨some 50,_,_,_,_,_⟩::_) _ _; refine wpList_load_row rfl 24 (.tmp 8) rfl wr.heap.size rfl 24 _ (0,0) _ HX2.out vFn rfl sF ?_)
            | (show wpList Try.prog _ _ (⟨none,.mapUpdate _ _ _ _,_,_,_,_⟩::_) _ _; refine wpList_update_map kvStr _ rfl (.tmp 47) (.tmp 49) (.tmp 50) 94 rfl under_msF mb _ rfl HM.out f.nm (.agg #[.string f.nm,.int .i64 f.ps,.int .i64 f.R,.int .i64 f.Fr,.slice C L cap]) rfl rfl ?_; intro w3 hm3 hg3 hz3))
          have HFIN:=H2.out.upd hg3 (SmM.put HG1.out HG2.out HF.out ⟨HNK.out,HSF.out⟩ HR0.out (by rw [HL.out]; exact hm3))
          exact ⟨⟨n + 1,by omega,by go_num,HFIN⟩,by simp [intOf]; omega⟩
    · obtain rfl:N=n:=by omega
      have HE:=Lib.hid hs
      clear hs
      go_wp2
      exact HQ.out HE.out
theorem of_num {LC m p nn:Nat}{R G:Int}(h1:LC + m≤8192)(h2:R + G≤4096)(h3:0≤R)(h4:0≤G)(hp:p < LC)(hm:1≤m)(hn:nn≤60) :
    (wrap64 ((LC:Int) + m)=(LC:Int) + m∧wrap64 (R + G)=R + G∧wrap64 ((p:Int) + ((m:Int) - 1))=(p:Int) + ((m:Int) - 1)∧wrap64 ((nn:Int) + 1)=(nn:Int) + 1∧wrap64 ((m:Int) - 1)=(m:Int) - 1) ∧
    decide ((LC:Int) + m > 8192)=false∧decide (8192 < (LC:Int) + m)=false∧decide (R + G > 4096)=false∧decide (4096 < R + G)=false:=by
  refine ⟨⟨wrap_small (by omega) (by omega),wrap_small (by omega) (by omega),wrap_small (by omega) (by omega),wrap_small (by omega) (by omega),wrap_small (by omega) (by omega)⟩,by simp; omega,by simp; omega,by simp; omega,by simp; omega⟩
theorem num_end (p m:Nat):(p:Int) + ((m:Int) - 1) + 1=((p + m:Nat):Int):=by omega
theorem num_one (n:Nat):(n:Int) + 1=((n + 1:Nat):Int):=by omega
theorem BdI.of_ok {f:Fn7}(h:OkF f):BdI f.code:=fun i hi=>by
  have h1:=h.ok i hi
  have h2:=h.len
  refine ⟨fun hk=>?_,fun hk=>?_⟩
  · have:=h1.to_ hk; omega
  · have:=h1.els hk; omega
theorem BdI.of_all {l:List Ins}{R Fr:Int}{m:Nat}(h:∀ o ∈ l,Ok o R Fr (m + 1))(hm:m≤8192):BdI l:=fun i hi=>by
  have h1:=h i hi
  refine ⟨fun hk=>?_,fun hk=>?_⟩
  · have:=h1.to_ hk; omega
  · have:=h1.els hk; omega
noncomputable def ofB3:Code:=inBkI (seqNI (inLoopI ofLoop2) 1)
set_option maxRecDepth 1000000 in
set_option maxHeartbeats 16000000 in
theorem of_body (u:Un7) (F G:Option Addr) (cF cG mb fb j:Nat) (sm:ByteArray→Option Fn7) (f:Fn7) (SC:List Ins) (p nn:Nat) (R:Int) (w wr:World) (h60:f.code.length≤60) (h40:f.R≤40) (hsm:∀ i ∈ f.code,∀ g,smOf sm i=some g→SmallF g∧g.ps=i.n∧g.R≤40) (hj:j < f.code.length)
    (hI:InI sm f j ⟨SC,p,R,nn⟩) (hS:InW w wr u F G cF cG mb fb sm f ⟨SC,p,R,nn⟩) :
    ∀ ⦃x0 x1 x3 x5 x7 x8 x12 x13 x14 x15 x16 x17 x18 x19 x20 x21 x22 x23 x24 x25 x26 x27 x28 x29 x30 x31 x32 x33 x34 x35 x36 x37 x38 x39 x40 x41 x42 x43 x44 x45 x46 x47 x48 x49 x50 x51 x52 x53 x54 x55 x56 x57 x58 x59 x60 x61 x62 x63 x64 x65 x66 x67 x68 x69 x70 x71 x72 x73 x74 x75 x76 x77 x78 x79 x80 x81 x82 x83 x84 x85 x86 x87 x88 x89 x90 x91 x92 x93 x94 x95 x96 x97 x98 x99 xA0 xA1 xA2 xA3 xA4 xA5 xA6 xA7 xA8 xA9 xB0 xB1 xB2 xB3 xB4 xB5 xB6 xB7 xB8 xB9 xC0 xC1 xC2:Value⦄ (Q:Exit→Act→World→Prop),(∀ ⦃y12 y13 y14 y15 y65 y66 y67 y68 y69 y70 y71 y72 y73 y74 y75 y76 y77 y78 y79 y80 y81 y82 y83 y84 y85 y86 y87 y88 y89 y90 y91 y92 y93 y94 y95 y96 y97 y98 y99 yA0 yA1 yA2 yA3 yA4 yA5 yA6 yA7 yA8 yA9 yB0 yB1 yB2 yB3 yB4 yB5 yB6 yB7 yB8 yB9 yC0:Value⦄ ⦃w':World⦄ (e:Exit) (at_ ct:Int),(e = .exit 3∨e = .normal)→at_ + 1=((inStep sm ⟨SC,p,R,nn⟩).p:Int)→ct=((inStep sm ⟨SC,p,R,nn⟩).n:Int)→InW w w' u F G cF cG mb fb sm f (inStep sm ⟨SC,p,R,nn⟩)→Q e ⟨(x0::x1::.pointer (some ⟨w.heap.size,0,none⟩)::x3::.pointer (some ⟨w.heap.size + 1,0,none⟩)::x5::.map (some mb)::x7::x8::.pointer (some ⟨fb,0,none⟩)::.int .i64 ct::.int .i64 at_::y12::y13::y14::y15::x16::x17::x18::x19::x20::x21::x22::x23::x24::x25::x26::x27::x28::x29::x30::x31::x32::x33::x34::x35::x36::x37::x38::x39::x40::x41::x42::x43::x44::x45::x46::x47::x48::x49::x50::x51::x52::x53::x54::x55::x56::x57::x58::x59::x60::x61::x62::x63::x64::y65::y66::y67::y68::y69::y70::y71::y72::y73::y74::y75::y76::y77::y78::y79::y80::y81::y82::y83::y84::y85::y86::y87::y88::y89::y90::y91::y92::y93::y94::y95::y96::y97::y98::y99::yA0::yA1::yA2::yA3::yA4::yA5::yA6::yA7::yA8::yA9::yB0::yB1::yB2::yB3::yB4::yB5::yB6::yB7::yB8::yB9::yC0::xC1::xC2::[]).toArray,[]⟩ w')→Code.wp Try.prog ofB3 Q ⟨(x0::x1::.pointer (some ⟨w.heap.size,0,none⟩)::x3::.pointer (some ⟨w.heap.size + 1,0,none⟩)::x5::.map (some mb)::x7::x8::.pointer (some ⟨fb,0,none⟩)::.int .i64 (nn:Int)::.int .i64 (p:Int)::x12::x13::x14::x15::x16::x17::x18::x19::x20::x21::x22::x23::x24::x25::x26::x27::x28::x29::x30::x31::x32::x33::x34::x35::x36::x37::x38::x39::x40::x41::x42::x43::x44::x45::x46::x47::x48::x49::x50::x51::x52::x53::x54::x55::x56::x57::x58::x59::x60::x61::x62::x63::x64::x65::x66::x67::x68::x69::x70::x71::x72::x73::x74::x75::x76::x77::x78::x79::x80::x81::x82::x83::x84::x85::x86::x87::x88::x89::x90::x91::x92::x93::x94::x95::x96::x97::x98::x99::xA0::xA1::xA2::xA3::xA4::xA5::xA6::xA7::xA8::xA9::xB0::xB1::xB2::xB3::xB4::xB5::xB6::xB7::xB8::xB9::xC0::xC1::xC2::[]).toArray,[]⟩ wr:=by
  intros
  rename_i Q hQ
  conv=>arg 2; whnf
  have HQ:=Lib.hid hQ
  have hokF:=hI.ok
  have hp:p < SC.length:=by have:=hI.rest; simp only at this; omega
  obtain ⟨c,hc⟩:∃ c,SC[p]? = some c:=⟨_,List.getElem?_eq_getElem hp⟩
  have hroom:=fun g hg=>hI.room hj h60 h40 hsm (c:=c) (g:=g) hc hg
  have HRM:=Lib.hid hroom
  have hnn:nn≤60:=by
    have h1:=hI.n
    have h2:cntS sm (f.code.take j)≤(f.code.take j).length * 1:=sum_le _ 1 _ fun i _=>by split <;> omega
    have h3:(f.code.take j).length≤60:=by simp; omega
    simp only at h1
    omega
  have HNN:=Lib.hid hnn
  obtain ⟨cb,cap,hbox,hpre,hcb⟩:=hS.box
  obtain ⟨LC,hLC⟩:∃ LC,SC.length=LC:=⟨_,rfl⟩
  simp only at hbox hpre
  rw [hLC] at hbox hp
  obtain ⟨x0,x1,x2,x3,x4,x5,x6,x7,x8,x9,x10,x11,x12,x13,x14⟩:=PreI.cells hpre hc
  have f4:=cell_of_heap hbox 4 (.slice (some ⟨cb,0,none⟩) LC cap) rfl
  have hlb:=(Array.getElem?_eq_some_iff.1 hbox).1
  have hR:=hokF.R
  have hps:=hokF.ps
  have hLen:=hokF.len
  have hokc:=hokF.ok c (List.mem_of_getElem? hc)
  simp only at hR hps hLen hokc
  rw [hLC] at hLen
  have HOKF:=Lib.hid hokF
  have HOKC:=Lib.hid hokc
  have HC:=Lib.hid hc
  have HLC:=Lib.hid hLC
  have HPRE:=Lib.hid hpre
  have HBOX:=Lib.hid hbox
  have HS:=Lib.hid hS
  have hk1:=heap_alloc_new wr c.obj
  have hS1:=hS.later (Below.one wr c.obj)
  have HPRE1:=Lib.hid (Pre.later hpre (Below.one wr c.obj))
  have HBOX1:=Lib.hid (alloc_keeps hbox c.obj)
  have hst0:smOf sm c=none→inStep sm ⟨SC,p,R,nn⟩=⟨SC,p + 1,R,nn⟩:=fun h=>by
    unfold inStep
    simp only [hc,h]
  have hst1:∀ g,smOf sm c=some g→SC.length + (bodyL g c R).length≤8192→R + g.R≤4096→inStep sm ⟨SC,p,R,nn⟩=⟨placeL SC p (bodyL g c R),p + (bodyL g c R).length,R + g.R,nn + 1⟩:=fun g h h1 h2=>by
    unfold inStep
    simp only [hc,h]
    rw [if_neg (by omega)]
  have HST0:=Lib.hid hst0
  have HST1:=Lib.hid hst1
  have hso:∀ q,smOf sm c=q↔(if c.kind=8 then sm c.text else none)=q:=fun q=>Iff.rfl
  have HSO:=Lib.hid hso
  clear hQ hI hroom hnn hbox hpre hokF hokc hS hst0 hst1 hso hc hLC
  obtain ⟨kd,op,dst,a,b',n,text,r0,r1,r2,r3,r4,r5,to_,els⟩:=c
  simp only [Ins.obj] at x0 x1 x2 x3 x4 x5 x6 x7 x8 x9 x10 x11 x12 x13 x14 hk1 hS1 HPRE1 HBOX1
  have HK1:=Lib.hid hk1
  have HS1:=Lib.hid hS1
  clear hk1 hS1
  go_upto_region 16 with fail
  obtain ⟨w1,hw1⟩:∃ w1,wr.alloc (.cells #[.int .i64 kd,.int .i64 op,.int .i64 dst,.int .i64 a,.int .i64 b',.int .i64 n,.string text,.int .i64 r0,.int .i64 r1,.int .i64 r2,.int .i64 r3,.int .i64 r4,.int .i64 r5,.int .i64 to_,.int .i64 els] 32)=w1:=⟨_,rfl⟩
  obtain ⟨b12,hb12⟩:∃ b12,wr.heap.size=b12:=⟨_,rfl⟩
  rw [hw1] at HK1 HS1 HPRE1 HBOX1 ⊢
  rw [hb12] at HK1 ⊢
  clear hw1 hb12 x0 x1 x2 x3 x4 x5 x6 x7 x8 x9 x10 x11 x12 x13 x14 f4 hlb HBOX HPRE HS
  have k0:=cell_of_heap HK1.out 0 (.int .i64 kd) rfl
  have k6:=cell_of_heap HK1.out 6 (.string text) rfl
  have hl12:=(Array.getElem?_eq_some_iff.1 HK1.out).1
  obtain ⟨gv,hm,hg1,hg2⟩:=HS1.out.o.m
  have HM:=Lib.hid hm
  cases hsmt:sm text with
  | none =>
    have e1:(gv text).getD (.agg #[.string ⟨#[]⟩,.int .i64 0,.int .i64 0,.int .i64 0,.slice none 0 0]) = .agg #[.string ⟨#[]⟩,.int .i64 0,.int .i64 0,.int .i64 0,.slice none 0 0]:=by rw [hg1 _ hsmt]; rfl
    have e2:(gv text).isSome=false:=by rw [hg1 _ hsmt]; rfl
    have HST:Hid (inStep sm ⟨SC,p,R,nn⟩=⟨SC,p + 1,R,nn⟩):=Lib.hid (HST0.out ((HSO.out none).2 (by rw [hsmt]; split <;> rfl)))
    have hS2:=HS1.out.later (Below.one w1 zFnO)
    have HFIN:Hid (InW w (w1.alloc zFnO) u F G cF cG mb fb sm f ⟨SC,p + 1,R,nn⟩):=Lib.hid ⟨hS2.o,hS2.fl,hS2.box⟩
    simp only [zFnO] at HFIN
    clear hm hg1 hg2 hsmt hS2 HST0 HST1 HSO
    by_cases hk8:kd=8
    · have p1:(kd != 8)=false:=by simp [hk8]
      have p2:decide (kd=8)=true:=by simpa using hk8
      clear hk8
      go_wp2_with (first
        | (show wpList Try.prog _ _ (⟨some 74,_,_,_,_,_⟩::_) _ _; refine wpList_lookup_map kvStr _ rfl (.tmp 71) (.tmp 73) 94 true rfl under_msF (zero_fn _) mb _ rfl HM.out text rfl ?_; simp only [if_true]; rw [e1,e2]))
      refine HQ.out (.exit 3) (p:Int) (nn:Int) (Or.inl rfl) ?_ ?_ ?_
      · rw [HST.out]; simp
      · rw [HST.out]
      · rw [HST.out]; exact HFIN.out
    · have p1:(kd != 8)=true:=by simpa using hk8
      have p2:decide (kd=8)=false:=by simpa using hk8
      clear hk8
      go_wp2_with (first
        | (show wpList Try.prog _ _ (⟨some 74,_,_,_,_,_⟩::_) _ _; refine wpList_lookup_map kvStr _ rfl (.tmp 71) (.tmp 73) 94 true rfl under_msF (zero_fn _) mb _ rfl HM.out text rfl ?_; simp only [if_true]; rw [e1,e2]))
      refine HQ.out (.exit 3) (p:Int) (nn:Int) (Or.inl rfl) ?_ ?_ ?_
      · rw [HST.out]; simp
      · rw [HST.out]
      · rw [HST.out]; exact HFIN.out
  | some g =>
    obtain ⟨C,gcap,hgv,hgC⟩:=hg2 _ _ hsmt
    obtain ⟨LG,hLG⟩:∃ LG,g.code.length=LG:=⟨_,rfl⟩
    rw [hLG] at hgv
    have e1:(gv text).getD (.agg #[.string ⟨#[]⟩,.int .i64 0,.int .i64 0,.int .i64 0,.slice none 0 0]) = .agg #[.string g.nm,.int .i64 g.ps,.int .i64 g.R,.int .i64 g.Fr,.slice C LG gcap]:=by rw [hgv]; rfl
    have e2:(gv text).isSome=true:=by rw [hgv]; rfl
    have hB2:=Below.one w1 (.cells #[.string g.nm,.int .i64 g.ps,.int .i64 g.R,.int .i64 g.Fr,.slice C LG gcap] 24)
    have hx13:=heap_alloc_new w1 (.cells #[.string g.nm,.int .i64 g.ps,.int .i64 g.R,.int .i64 g.Fr,.slice C LG gcap] 24)
    have HS2:=Lib.hid (HS1.out.later hB2)
    by_cases hk8:kd=8
    · subst hk8
      have hk8:(8:Int)=8:=rfl
      have hsg:smOf sm ⟨8,op,dst,a,b',n,text,r0,r1,r2,r3,r4,r5,to_,els⟩=some g:=(HSO.out _).2 (by simp only; rw [if_pos trivial,hsmt])
      obtain ⟨hm1,hm2,hG,hgps,_⟩:=HRM.out g hsg
      have HST:=Lib.hid (HST1.out g hsg hm1 hm2)
      have HGC:=Lib.hid ((hgC.below (HS1.out.o.b)).below hB2)
      have hbx2:=Lib.hid (alloc_keeps HBOX1.out (.cells #[.string g.nm,.int .i64 g.ps,.int .i64 g.R,.int .i64 g.Fr,.slice C LG gcap] 24))
      have hpr2:=Lib.hid (Pre.later HPRE1.out hB2)
      have hk2:=Lib.hid (alloc_keeps HK1.out (.cells #[.string g.nm,.int .i64 g.ps,.int .i64 g.R,.int .i64 g.Fr,.slice C LG gcap] 24))
      have HX13:=Lib.hid hx13
      have HG:=Lib.hid hG
      have HLG:=Lib.hid hLG
      have HGPS:=Lib.hid hgps
      have hbd:=fun W hW=>body_any g hG C gcap ⟨8,op,dst,a,b',n,text,r0,r1,r2,r3,r4,r5,to_,els⟩ HOKC.out hk8 hgps ⟨by omega,hR.2⟩ W hW
      obtain ⟨l,hl⟩:∃ l,bodyL g ⟨8,op,dst,a,b',n,text,r0,r1,r2,r3,r4,r5,to_,els⟩ R=l:=⟨_,rfl⟩
      obtain ⟨m,hm⟩:∃ m,l.length=m:=⟨_,rfl⟩
      have hlo:∀ o ∈ l,Ok o (R + g.R) f.Fr (m + 1):=by
        have hFr:=HOKF.out.Fr
        rw [← hl,← hm,← hl]
        exact bodyL_ok hG HOKC.out hk8 hgps hFr.1 (by omega) (Nat.lt_succ_self _)
      have hmp:1≤m:=by
        have h1:=bodyL_len g ⟨8,op,dst,a,b',n,text,r0,r1,r2,r3,r4,r5,to_,els⟩ R
        have h2:=atL_lt g dst g.code.length 0 (by omega) (by have:=hG.ok.len; omega)
        rw [Nat.zero_add] at h2
        rw [hl,hm] at h1
        simp only at h1
        omega
      rw [hl,hm] at hm1 HST
      rw [HLC.out] at hm1
      simp only [hl,hm,hLG,Ins.agg,funcAgg] at hbd
      have HBD:=Lib.hid hbd
      have HLO:=Lib.hid hlo
      have HL:=Lib.hid hl
      have HML:=Lib.hid hm
      have hgR:=hG.ok.R
      have hgp0:=hG.ok.ps
      clear hg1 hg2 hsmt hgv hgC hx13 hk8 hsg hG hLG hgps hbd hlo hl hm HST0 HST1 HSO HRM
      go_upto_region 17 with (first
        | (show wpList Try.prog _ _ (⟨some 74,_,_,_,_,_⟩::_) _ _; refine wpList_lookup_map kvStr _ rfl (.tmp 71) (.tmp 73) 94 true rfl under_msF (zero_fn _) mb _ rfl HM.out text rfl ?_; simp only [if_true]; rw [e1,e2]))
      obtain ⟨w2,hw2⟩:∃ w2,w1.alloc (.cells #[.string g.nm,.int .i64 g.ps,.int .i64 g.R,.int .i64 g.Fr,.slice C LG gcap] 24)=w2:=⟨_,rfl⟩
      obtain ⟨b13,hb13⟩:∃ b13,w1.heap.size=b13:=⟨_,rfl⟩
      rw [hw2] at HX13 HS2 HGC hbx2 hpr2 hk2 ⊢
      rw [hb13] at HX13 ⊢
      have HB13:Hid (fb < b13):=Lib.hid (by rw [← hb13]; exact (Array.getElem?_eq_some_iff.1 HBOX1.out).1)
      clear hw2 hb13 k6 hB2 e1 e2 HM HK1 HS1 HPRE1 HBOX1 k0 hl12
      have k0:=cell_of_heap hk2.out 0 (.int .i64 8) rfl
      have f2:=cell_of_heap hbx2.out 2 (.int .i64 R) rfl
      have hlb:=(Array.getElem?_eq_some_iff.1 hbx2.out).1
      go_wp2_with (first
        | (show wpList Try.prog _ _ (⟨some 84,_,_,_,_,_⟩::_) _ _; refine wpList_load_row rfl 24 (.tmp 13) rfl b13 rfl 24 _ (0,0) _ HX13.out vFn rfl sF ?_)
        | (show wpList Try.prog _ _ (⟨some 85,_,_,_,_,_⟩::_) _ _; refine wpList_load_row rfl 32 (.tmp 12) rfl b12 rfl 32 _ (0,0) _ hk2.out vIns rfl sIns ?_))
      refine (HBD.out _ HGC.out).mono ?_
      rintro e w3 ⟨⟨nb,cp,rfl,hnb,hPB⟩,hb3⟩
      dsimp only
      have hbx3:=(hb3.block _ hlb).trans hbx2.out
      have hx3:=(hb3.block _ (Array.getElem?_eq_some_iff.1 HX13.out).1).trans HX13.out
      have hpr3:=Pre.later hpr2.out hb3
      have hS3:=HS2.out.later hb3
      have HBX3:=Lib.hid hbx3
      have HX3:=Lib.hid hx3
      have HPR3:=Lib.hid hpr3
      have HS3:=Lib.hid hS3
      have HPB:=Lib.hid hPB
      have hlb3:fb < w3.heap.size:=Nat.lt_of_lt_of_le hlb hb3.size
      clear k0 f2 hb3 hbx3 hx3 hpr3 hS3 hPB hlb HX13 HGC hbx2 hpr2 hk2 HS2 HBD
      have f2:=cell_of_heap HBX3.out 2 (.int .i64 R) rfl
      have f4:=cell_of_heap HBX3.out 4 (.slice (some ⟨cb,0,none⟩) LC cap) rfl
      have g2:=cell_of_heap HX3.out 2 (.int .i64 g.R) rfl
      have hlx3:=(Array.getElem?_eq_some_iff.1 HX3.out).1
      have hR0:0≤R:=Int.le_trans hps.1 hR.1
      have hG0:0≤g.R:=Int.le_trans hgp0.1 hgR.1
      obtain ⟨⟨v1,v2,v3,v4,v5⟩,d1,d2,d3,d4⟩:=of_num (p:=p) (nn:=nn) hm1 hm2 hR0 hG0 hp hmp HNN.out
      have hm8:m≤8192:=Nat.le_trans (Nat.le_add_left m LC) hm1
      have hbdC:BdI SC:=BdI.of_ok HOKF.out
      have hbdL:BdI l:=BdI.of_all HLO.out hm8
      have hpl:=place_any ⟨f.nm,f.ps,R,f.Fr,SC⟩ (some ⟨cb,0,none⟩) LC cap p HLC.out hLen.2 hp l m HML.out hm8 hmp (some ⟨nb,0,none⟩) cp w3 (PreI.read HPR3.out) (PreI.read HPB.out) hbdC hbdL
      simp only [funcAgg] at hpl
      have HPLC:=Lib.hid hpl
      have HNUM:Hid ((f.ps≤R∧R≤4096)∧(0≤f.ps∧f.ps≤6)∧p < LC∧LC + m≤8192∧R + g.R≤4096∧1≤m):=Lib.hid ⟨hR,hps,hp,hm1,hm2,hmp⟩
      have HHL:=Lib.hid hlb3
      have HHX:=Lib.hid hlx3
      clear hbdC hbdL hpl hR0 hG0 hm8 hR hps hp hm1 hm2 hmp hgR hgp0 hLen h60 h40 hj hsm hnb hcb
      go_upto_region 20 with fail
      clear f2 f4 d1 d2 d3 d4 g2 hlb3 hlx3
      go_wp2_with (show wpList Try.prog _ _ (⟨some 104,_,_,_,_,_⟩::_) _ _; refine wpList_load_row rfl 24 (.tmp 9) rfl fb rfl 24 _ (0,0) _ HBX3.out vFn rfl sF ?_)
      refine HPLC.out.mono ?_
      rintro e w4 ⟨⟨nb2,cp2,rfl,hnb2,hP4⟩,hb4⟩
      dsimp only
      obtain ⟨LP,hLP⟩:∃ LP,(placeL SC p l).length=LP:=⟨_,rfl⟩
      (try rw [hLP])
      obtain ⟨hR,hps,hp,hm1,hm2,hmp⟩:=HNUM.out
      have hlb3:=HHL.out
      have hbx4:=(hb4.block _ hlb3).trans HBX3.out
      have hx4:=(hb4.block _ HHX.out).trans HX3.out
      have hS4:=HS3.out.later hb4
      have hne13:b13≠fb:=Nat.ne_of_gt HB13.out
      have hbx5:=setRow_heap _ _ _ #[.string f.nm,.int .i64 f.ps,.int .i64 R,.int .i64 f.Fr,.slice (some ⟨nb2,0,none⟩) LP cp2] _ _ hbx4
      have hx5:=(setRow_other w4 fb b13 #[.string f.nm,.int .i64 f.ps,.int .i64 R,.int .i64 f.Fr,.slice (some ⟨nb2,0,none⟩) LP cp2] hne13).trans hx4
      have hfl:=hS4.fl
      have hwf:w.heap.size≤fb:=Nat.le_trans (Nat.le_add_right _ 2) hfl
      have hmne:mb≠fb:=map_ne hS4.o.m hbx4
      have hB5:=(below_setRow (g:=fb) hS4.o.b hwf #[.string f.nm,.int .i64 f.ps,.int .i64 R,.int .i64 f.Fr,.slice (some ⟨nb2,0,none⟩) LP cp2]).setCell (p:=⟨fb,2,none⟩) hwf (.int .i64 (R + g.R))
      have hk5:∀ r,r≠fb→((w4.setRow fb #[.string f.nm,.int .i64 f.ps,.int .i64 R,.int .i64 f.Fr,.slice (some ⟨nb2,0,none⟩) LP cp2]).setCell ⟨fb,2,none⟩ (.int .i64 (R + g.R))).heap[r]? = w4.heap[r]?:=fun r hr=>(heap_setCell_other _ ⟨fb,2,none⟩ r _ hr).trans (setRow_other w4 fb r _ hr)
      have hO5:=hS4.o.at_ hfl hmne hB5 (fun r _ hr=>hk5 r hr)
      have hP5:=hP4.of_heap (hk5 nb2 (Nat.ne_of_gt (Nat.lt_of_lt_of_le hlb3 hnb2)))
      have hbx6:=heap_setCell (j:=2) hbx5 (.int .i64 (R + g.R))
      have f2:=cell_of_heap hbx5 2 (.int .i64 R) rfl
      have ff:=free_of_heap hbx5
      have hl5:=(Array.getElem?_eq_some_iff.1 hbx5).1
      have g2:=cell_of_heap hx5 2 (.int .i64 g.R) rfl
      have hlx5:=(Array.getElem?_eq_some_iff.1 hx5).1
      have HFIN:Hid (InW w ((w4.setRow fb #[.string f.nm,.int .i64 f.ps,.int .i64 R,.int .i64 f.Fr,.slice (some ⟨nb2,0,none⟩) LP cp2]).setCell ⟨fb,2,none⟩ (.int .i64 (R + g.R))) u F G cF cG mb fb sm f ⟨placeL SC p l,p + m,R + g.R,nn + 1⟩):=Lib.hid ⟨hO5,hfl,nb2,cp2,by rw [hLP]; simpa using hbx6,hP5,Nat.le_trans HS3.out.o.b.size hnb2⟩
      have HBX4:=Lib.hid hbx4
      clear hb4 hbx4 hx4 hS4 hne13 hbx5 hx5 hmne hB5 hk5 hO5 hP5 hbx6 hP4 hLP hR hps hp hm1 hm2 hmp hlb3 hnb2 hfl hwf v1
      go_wp2_with (show wpList Try.prog _ _ (⟨none,.store _ (.tmp 9) _,_,_,_,_⟩::_) _ _; refine wpList_store_row rfl 24 (.tmp 9) (.tmp 107) rfl fb #[.string f.nm,.int .i64 f.ps,.int .i64 R,.int .i64 f.Fr,.slice (some ⟨nb2,0,none⟩) LP cp2] rfl rfl 24 _ HBX4.out sF rfl (func_one _ _ _ _ _ _ _) ?_)
      rw [v5,v3,v4]
      refine HQ.out .normal ((p:Int) + ((m:Int) - 1)) ((nn:Int) + 1) (Or.inr rfl) ?_ ?_ ?_
      · rw [HST.out]; exact num_end p m
      · rw [HST.out]; exact num_one nn
      · rw [HST.out]; exact HFIN.out
    · have p1:(kd != 8)=true:=by simpa using hk8
      have p2:decide (kd=8)=false:=by simpa using hk8
      have HST:Hid (inStep sm ⟨SC,p,R,nn⟩=⟨SC,p + 1,R,nn⟩):=Lib.hid (HST0.out ((HSO.out none).2 (by simp only; rw [if_neg hk8])))
      have HFIN:Hid (InW w (w1.alloc (.cells #[.string g.nm,.int .i64 g.ps,.int .i64 g.R,.int .i64 g.Fr,.slice C LG gcap] 24)) u F G cF cG mb fb sm f ⟨SC,p + 1,R,nn⟩):=Lib.hid ⟨HS2.out.o,HS2.out.fl,HS2.out.box⟩
      clear hm hg1 hg2 hsmt hgv hgC hx13 hB2 hk8 HS2 HST0 HST1 HSO HRM
      go_wp2_with (first
        | (show wpList Try.prog _ _ (⟨some 74,_,_,_,_,_⟩::_) _ _; refine wpList_lookup_map kvStr _ rfl (.tmp 71) (.tmp 73) 94 true rfl under_msF (zero_fn _) mb _ rfl HM.out text rfl ?_; simp only [if_true]; rw [e1,e2]))
      refine HQ.out (.exit 3) (p:Int) (nn:Int) (Or.inl rfl) ?_ ?_ ?_
      · rw [HST.out]; simp
      · rw [HST.out]
      · rw [HST.out]; exact HFIN.out
theorem sm_facts {u:Un7}(hU:OkU u)(hF:∀ f ∈ u.funcs,Sm f){k:Int}{f:Fn7}(hf:f ∈ u.funcs):∀ i ∈ f.code,∀ g,smOf (smTo u.funcs k u.funcs.length) i=some g→SmallF g∧g.ps=i.n∧g.R≤40:=fun i hi g hg=>by
  unfold smOf at hg
  split at hg
  · rename_i h8
    obtain ⟨hnm,hsm,j,hj,hgj,_⟩:=smTo_mem hg
    obtain ⟨k',g',h1,h2,h3⟩:=hU.calls f hf i hi h8
    have h4:=hU.one j g hgj
    rw [hnm,h1] at h4
    injection h4 with h4
    subst h4
    rw [h2] at hgj
    injection hgj with hgj
    subst hgj
    have h5:=(hF g' (List.mem_of_getElem? h2)).2.2.1
    have h6:=(hU.ok g' (List.mem_of_getElem? h2)).R
    exact ⟨hsm,h3,by omega⟩
  · cases hg
noncomputable def ofS (u:Un7)(k:Nat)(f:Fn7):InS:=inRun (smTo u.funcs k u.funcs.length) ⟨f.code,0,f.R,0⟩ f.code.length
set_option maxRecDepth 1000000 in
set_option maxHeartbeats 16000000 in
theorem Of_yes (u:Un7) (F G:Option Addr) (cF cG k:Nat) (f:Fn7) (hU:OkU u) (hFw:∀ f ∈ u.funcs,Sm f) (hf:u.funcs[k]? = some f) (hlg:u.globs.length≤100000) (w:World) (h:RdU w F G u) :
    Calls Try.prog 42 #[unAgg u F G cF cG,.int .i64 (k:Int)] w fun e w'=>(∃ nb cp,e = .returned (.tuple #[funcAgg f.nm f.ps (ofS u k f).R f.Fr (some ⟨nb,0,none⟩) (ofS u k f).C.length cp,.int .i64 ((ofS u k f).n:Int)])∧w.heap.size≤nb∧PreI w' nb (ofS u k f).C)∧Below w.heap.size w w':=by
  have hlf:u.funcs.length≤100000:=by have:=hU.len; omega
  have hkl:=(List.getElem?_eq_some_iff.1 hf).1
  have hfm:=List.mem_of_getElem? hf
  have hokf:=hU.ok f hfm
  have hS:=hFw f hfm
  have h60:=hS.2.1
  have h40:f.R≤40:=by have h5:=hS.2.2.1; have h6:=hokf.R; omega
  have hsm:=sm_facts hU hFw (k:=(k:Int)) hfm
  have hInv:=fun j hj=>InI.all hokf h60 h40 (fun i hi g hg=>hsm i hi g hg) j hj
  have hcl:=fun C cap W h=>clone_code f hokf.len C cap W h
  obtain ⟨b0,b1,hB⟩:=made_two w (unObj u F G cF cG) zFnO
  obtain ⟨W,hW⟩:∃ W,(w.alloc (unObj u F G cF cG)).alloc zFnO=W:=⟨_,rfl⟩
  have hWs:W.heap.size=w.heap.size + 2:=by rw [← hW]; simp
  rw [hW] at b0 b1 hB
  have hr:=(Right7_any u F G cF cG W (h.below hB) hlf hlg).mono fun e w' h=>(⟨by obtain ⟨⟨bv,h1,h2⟩,_⟩:=h; rw [h1,h2.2 hU],h.2⟩:e = .returned (.bool true)∧Below W.heap.size W w')
  obtain ⟨N,hN⟩:∃ N,u.funcs.length=N:=⟨_,rfl⟩
  obtain ⟨M,hM⟩:∃ M,u.globs.length=M:=⟨_,rfl⟩
  obtain ⟨L,hL⟩:∃ L,f.code.length=L:=⟨_,rfl⟩
  have HS0:Hid (ofS u k f=inRun (smTo u.funcs k N) ⟨f.code,0,f.R,0⟩ L):=Lib.hid (by unfold ofS; rw [hN,hL])
  obtain ⟨sF0,hsF0⟩:∃ s,ofS u k f=s:=⟨_,rfl⟩
  rw [hsF0] at HS0 ⊢
  simp only [unObj,unAgg,zFnO] at b0 b1 hW hr ⊢
  rw [hN] at hkl hsm hInv
  rw [hN,hM] at b0 hW hr ⊢
  simp only [ClonedF,hL,funcAgg] at hcl
  have g0:=cell_of_heap b0 0 (.slice F N cF) rfl
  have g1:=cell_of_heap b0 1 (.slice G M cG) rfl
  have g2:=cell_of_heap b0 2 (.int .i64 u.top) rfl
  have HB:=Lib.hid hB
  have H0:=Lib.hid b0
  have H1:=Lib.hid b1
  have HR:=Lib.hid hr
  have H:=Lib.hid h
  have HN:=Lib.hid hN
  have HM:=Lib.hid hM
  have HL:=Lib.hid hL
  have HF:=Lib.hid hf
  have HSM:=Lib.hid hsm
  have HINV:=Lib.hid hInv
  have HCL:=Lib.hid hcl
  have HWS:=Lib.hid hWs
  have H60:=Lib.hid h60
  have H40:=Lib.hid h40
  have HOKF:=Lib.hid hokf
  have q1:decide ((k:Int) < 0)=false:=by simp
  have q4:decide (N≤k)=false:=by simp; omega
  have q5:((k:Int) ≥ (N:Int))=False:=by simp; omega
  have q2:decide ((k:Int) ≥ (N:Int))=false:=by simp; omega
  have q3:decide ((N:Int)≤(k:Int))=false:=by simp; omega
  have HKN:=Lib.hid hkl
  have HN9:Hid (N≤100000):=Lib.hid (by rw [← hN]; exact hlf)
  clear hB b0 b1 hr h hlg hlf hU hFw hf hfm hokf hS h60 h40 hsm hInv hcl hN hM hL hsF0 hWs hkl
  go_enter Try.func42,Try.ntmps42
  go_wp2_with fail
  (try rw [hW])
  refine HR.out.mono ?_
  rintro e w1 ⟨rfl,hb1⟩
  dsimp only
  have c0:=(hb1.block _ (Array.getElem?_eq_some_iff.1 H0.out).1).trans H0.out
  have c1:=(hb1.block _ (Array.getElem?_eq_some_iff.1 H1.out).1).trans H1.out
  have k0:=cell_of_heap c0 0 (.slice F N cF) rfl
  have k1:=cell_of_heap c0 1 (.slice G M cG) rfl
  have k2:=cell_of_heap c0 2 (.int .i64 u.top) rfl
  have hlc:=(Array.getElem?_eq_some_iff.1 c0).1
  have hmm:=@run_makeMap Try.prog
  have hB1:=HB.out.trans (hb1.mono HB.out.size)
  have hBm:=Below.one w1 (.map #[] 0)
  have HO:Hid (OfW w (w1.alloc (.map #[] 0)) u F G cF cG w1.heap.size (smTo u.funcs k 0)):=Lib.hid
    ⟨hB1.trans (hBm.mono hB1.size),by have h1:=hb1.size; rw [HWS.out] at h1; exact h1,by rw [unObj,HN.out,HM.out]; exact alloc_keeps c0 _,alloc_keeps c1 _,SmM.start w w1 _ _⟩
  have m0:=cell_of_heap (alloc_keeps c0 (.map #[] 0)) 0 (.slice F N cF) rfl
  have HM0:=Lib.hid m0
  clear hb1 g0 g1 g2 c1 hW hB1 hBm m0
  go_wp2_with fail
  clear k0 k1 k2 hlc c0 hmm q1 q2 q3 q4 q5
  refine of_loop1 u F G cF cG k w1.heap.size N M w (w1.alloc (.map #[] 0)) H.out HN.out HM.out HN9.out HO.out _ ?_
  intros
  rename_i w2 hO2
  obtain ⟨mb,hmb⟩:∃ mb,w1.heap.size=mb:=⟨_,rfl⟩
  rw [hmb] at hO2 ⊢
  clear hmb HO HM0
  (try simp only [Exit.inBlock,Exit.then])
  obtain ⟨b,o,C,cap,rfl,hbl,hcs,hrI⟩:=(H.out.fs.below hO2.b) k f HF.out
  obtain ⟨q0,q1,q2,q3,q4⟩:=fn_cells hcs
  rw [HL.out] at q4
  have hub:=hO2.ub
  simp only [unObj] at hub
  rw [HN.out,HM.out] at hub
  have k0:=cell_of_heap hub 0 (.slice (some ⟨b,o,none⟩) N cF) rfl
  have hlc:=(Array.getElem?_eq_some_iff.1 hub).1
  have hkN:=HKN.out
  have HO2:=Lib.hid hO2
  have HRI:=Lib.hid hrI
  clear hcs hO2 hrI hub
  go_wp2_with fail
  refine (HCL.out C cap _ HRI.out).mono ?_
  rintro e w3 ⟨⟨nb,rfl,hnb,hP3⟩,hb3⟩
  dsimp only
  have hO3:=HO2.out.later hb3
  have hBx:=Below.one w3 (.cells #[.string f.nm,.int .i64 f.ps,.int .i64 f.R,.int .i64 f.Fr,.slice (some ⟨nb,0,none⟩) L L] 24)
  have hxb:=heap_alloc_new w3 (.cells #[.string f.nm,.int .i64 f.ps,.int .i64 f.R,.int .i64 f.Fr,.slice (some ⟨nb,0,none⟩) L L] 24)
  have hO4:=hO3.later hBx
  have hP4:=Pre.later hP3 hBx
  have hsz2:=HO2.out.s
  have hml:=HO2.out.m.lt
  have hb3s:=hb3.size
  have HI4:Hid (InW w (w3.alloc (.cells #[.string f.nm,.int .i64 f.ps,.int .i64 f.R,.int .i64 f.Fr,.slice (some ⟨nb,0,none⟩) L L] 24)) u (some ⟨b,o,none⟩) G cF cG mb w3.heap.size (smTo u.funcs k N) f ⟨f.code,0,f.R,0⟩):=Lib.hid
    ⟨hO4,Nat.le_trans hsz2 (Nat.le_of_lt (Nat.lt_of_lt_of_le hml hb3s)),nb,L,by rw [HL.out]; exact hxb,hP4,Nat.le_trans HO2.out.b.size hnb⟩
  clear q0 q1 q2 q3 q4 k0 hlc hkN hbl hP3 hb3 hnb hO3 hBx hxb hO4 hP4 hsz2 hml hb3s HO2 HRI
  go_wp2_with fail
  obtain ⟨fb,hfb⟩:∃ fb,w3.heap.size=fb:=⟨_,rfl⟩
  obtain ⟨w4,hw4⟩:∃ w4,w3.alloc (.cells #[.string f.nm,.int .i64 f.ps,.int .i64 f.R,.int .i64 f.Fr,.slice (some ⟨nb,0,none⟩) L L] 24)=w4:=⟨_,rfl⟩
  rw [hw4,hfb] at HI4
  rw [hw4,hfb]
  clear hw4 hfb
  go_loopg [10,11] L (fun g ct at_ wr=>∃ j:Nat,g=L - j∧j≤L∧ct = .int .i64 ((inRun (smTo u.funcs k N) ⟨f.code,0,f.R,0⟩ j).n:Int)∧at_ = .int .i64 ((inRun (smTo u.funcs k N) ⟨f.code,0,f.R,0⟩ j).p:Int)∧InW w wr u (some ⟨b,o,none⟩) G cF cG mb fb (smTo u.funcs k N) f (inRun (smTo u.funcs k N) ⟨f.code,0,f.R,0⟩ j))
  case atStart=>exact ⟨0,rfl,Nat.zero_le _,rfl,rfl,HI4.out⟩
  case round =>
    obtain ⟨j,hg,hj,rfl,rfl,hI⟩:=hrel
    have hinv:=HINV.out j (by rw [HL.out]; exact hj)
    have hnext:Hid (inRun (smTo u.funcs k N) ⟨f.code,0,f.R,0⟩ (j + 1)=inStep (smTo u.funcs k N) (inRun (smTo u.funcs k N) ⟨f.code,0,f.R,0⟩ j)):=Lib.hid rfl
    obtain ⟨⟨SC,p,R,nn⟩,hs⟩:∃ s,inRun (smTo u.funcs k N) ⟨f.code,0,f.R,0⟩ j=s:=⟨_,rfl⟩
    rw [hs] at hI hinv hnext
    (try rw [hs])
    simp only
    obtain ⟨cb,cp,hbox,hpre,hcb⟩:=hI.box
    simp only at hbox
    have f4:=cell_of_heap hbox 4 (.slice (some ⟨cb,0,none⟩) SC.length cp) rfl
    have hlb:=(Array.getElem?_eq_some_iff.1 hbox).1
    have hrest:=hinv.rest
    have hle:=hinv.le
    simp only at hrest hle
    rw [HL.out] at hrest
    have HG:=Lib.hid hg
    have HI:=Lib.hid hI
    have HV:=Lib.hid hinv
    have HSS:=Lib.hid hs
    by_cases hlt:j < L
    · have d1:decide ((p:Int) < (SC.length:Int))=true:=by simp; omega
      have d2:decide (p < SC.length)=true:=by simp; omega
      have hjL:=hlt
      clear hg hI hinv hs hbox hpre hcb HI4 hrest hle
      go_upto_block 3 with fail
      refine wp_block ?_
      clear f4 hlb d1 d2
      refine of_body u (some ⟨b,o,none⟩) G cF cG mb fb j (smTo u.funcs k N) f SC p nn R w wr H60.out H40.out HSM.out (by rw [HL.out]; exact hlt) HV.out HI.out _ ?_
      intros
      rename_i w' e at_ ct he ha hct hS'
      rw [← hnext.out] at ha hct hS'
      have HS':=Lib.hid hS'
      have HA:=Lib.hid ha
      have HCT:=Lib.hid hct
      have v1:wrap64 (at_ + 1)=at_ + 1:=by
        rw [ha]
        have h1:=HINV.out (j + 1) (by rw [HL.out]; omega)
        have h2:=h1.le
        have h3:=h1.ok.len.2
        simp only at h3
        exact wrap_small (by omega) (by omega)
      clear ha hct hS' HI HV
      rcases he with rfl | rfl
      all_goals
        (try simp only [Exit.inBlock,Exit.then])
        go_wp2
        go_roundg (L - (j + 1))
        case measure=>rw [HG.out]; omega
        case rel=>exact ⟨j + 1,rfl,hjL,by rw [HCT.out],by first | (rw [v1,HA.out]; done) | (rw [HA.out]; done) | (simp only [v1,HA.out]; done),HS'.out⟩
    · obtain rfl:j=L:=by omega
      have d1:decide ((p:Int) < (SC.length:Int))=false:=by simp; omega
      have d2:decide (p < SC.length)=false:=by simp; omega
      have HPRE:=Lib.hid hpre
      have HBOX:=Lib.hid hbox
      have HCB:=Lib.hid hcb
      rw [HSS.out] at HS0
      have hrb:=hI.o.rb
      have HRB:=Lib.hid hrb
      have HBB:=Lib.hid hI.o.b
      obtain ⟨LC,hLC⟩:∃ LC,SC.length=LC:=⟨_,rfl⟩
      rw [hLC] at HBOX f4 d1 d2
      have HLC:=Lib.hid hLC
      have hfi:=setRow_heap _ _ _ #[.string f.nm,.int .i64 f.ps,.int .i64 R,.int .i64 f.Fr,.slice (some ⟨cb,0,none⟩) LC cp] _ _ hrb
      have e0:=cell_of_heap hfi 0 (.string f.nm) rfl
      have e1:=cell_of_heap hfi 1 (.int .i64 f.ps) rfl
      have e2:=cell_of_heap hfi 2 (.int .i64 R) rfl
      have e3:=cell_of_heap hfi 3 (.int .i64 f.Fr) rfl
      have e4:=cell_of_heap hfi 4 (.slice (some ⟨cb,0,none⟩) LC cp) rfl
      have hfin:=below_setRow (g:=w.heap.size + 1) HBB.out (Nat.le_succ _) #[.string f.nm,.int .i64 f.ps,.int .i64 R,.int .i64 f.Fr,.slice (some ⟨cb,0,none⟩) LC cp]
      have hpf:=hpre.of_heap (setRow_other wr (w.heap.size + 1) cb #[.string f.nm,.int .i64 f.ps,.int .i64 R,.int .i64 f.Fr,.slice (some ⟨cb,0,none⟩) LC cp] (by
        intro e
        obtain ⟨cs,h1,_⟩:=hpre
        rw [e,hrb] at h1
        injection h1 with h1
        injection h1 with _ h2 _
        exact absurd h2 (by decide)))
      have HFIN:=Lib.hid hfin
      have HPF:=Lib.hid hpf
      clear hg hI hinv hs hbox hpre hcb HI4 hrest hle hrb hfi hfin hpf hlt hj hLC
      go_wp2_with (first
        | (show wpList Try.prog _ _ (⟨some 121,_,_,_,_,_⟩::_) _ _; refine wpList_load_row rfl 24 (.tmp 9) rfl fb rfl 24 _ (0,0) _ HBOX.out vFn rfl sF ?_)
        | (show wpList Try.prog _ _ (⟨none,.store _ (.tmp 4) _,_,_,_,_⟩::_) _ _; refine wpList_store_row rfl 24 (.tmp 4) (.tmp 121) rfl (w.heap.size + 1) #[.string f.nm,.int .i64 f.ps,.int .i64 R,.int .i64 f.Fr,.slice (some ⟨cb,0,none⟩) LC cp] rfl rfl 24 _ HRB.out sF rfl (func_one _ _ _ _ _ _ _) ?_))
      (try simp only [Exit.inBlock,Exit.then])
      refine bodyPost_ret (by simp [results,Try.results42,go_sem,e0,e1,e2,e3,e4]; try rfl) rfl ?_
      rw [HS0.out]
      have hlen:=HLC.out
      subst hlen
      first
        | exact ⟨⟨cb,cp,rfl,HCB.out,HPF.out⟩,HFIN.out⟩
        | exact ⟨⟨cb,⟨cp,rfl⟩,HCB.out,HPF.out⟩,HFIN.out⟩
end Go.Proofs.Ytkcclefonmnpnaa

