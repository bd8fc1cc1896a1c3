import Derived.Test.YtkcclefonmnpnaaIw
import Derived.Test.YtkcclefonmnpnaaIk
import Derived.Test.YtkcclefonmnpnaaIg
namespace Go.Proofs.Ytkcclefonmnpnaa
open Go.RowKit Go.BigFrame
structure BoS (w0 w:World)(g:Fn7)(C:Option Addr)(L cap:Nat)(c:Ins)(b:Int)(V:Value)(out:List Ins):Prop where
  bw:Below w0.heap.size w0 w
  s:w0.heap.size + 3≤w.heap.size
  gb:w.heap[w0.heap.size]? = some (funcObj g.nm g.ps g.R g.Fr C L cap)
  cb:w.heap[w0.heap.size + 1]? = some c.obj
  bb:w.heap[w0.heap.size + 1 + 1]? = some (.cells #[.int .i64 b] 3 (0,0))
  own:OwnI w (w0.heap.size + 3) V out
theorem BoS.later {w0 w w':World}{g:Fn7}{C:Option Addr}{L cap:Nat}{c:Ins}{b:Int}{V:Value}{out:List Ins}(h:BoS w0 w g C L cap c b V out)(hb:Below w.heap.size w w'):BoS w0 w' g C L cap c b V out :=
  have hs:=h.s
  ⟨h.bw.trans (hb.mono (by omega)),Nat.le_trans h.s hb.size,(hb.block _ (by omega)).trans h.gb,(hb.block _ (by omega)).trans h.cb,(hb.block _ (by omega)).trans h.bb,h.own.keep fun g _ hg _=>hb.block g hg⟩
theorem BoS.push {w0 w w':World}{g:Fn7}{C:Option Addr}{L cap:Nat}{c:Ins}{b:Int}{V V':Value}{out:List Ins}{x:Ins}(h:BoS w0 w g C L cap c b V out)(ho:OwnI w' (w0.heap.size + 3) V' (out++[x]))(hg:(w.alloc (.cells x.l.toArray 32)).grownBy w' V.ownBlock) :
    BoS w0 w' g C L cap c b V' (out++[x]):=by
  have hs:=h.s
  have hb:=Below.one w (.cells x.l.toArray 32)
  have hV:=h.own.base2
  have hsz:w.heap.size≤(w.alloc (.cells x.l.toArray 32)).heap.size:=hb.size
  have key:∀ q,q < w0.heap.size + 3→w'.heap[q]? = w.heap[q]?:=fun q hq=>(hg.block q (by omega) (fun e=>by have:=hV q e.symm; omega)).trans (hb.block q (by omega))
  exact ⟨Below.grown (h.bw.trans (hb.mono (by omega))) hg (by omega) (fun k hk=>by have:=hV k hk; omega),Nat.le_trans (by omega) hg.size,(key _ (by omega)).trans h.gb,(key _ (by omega)).trans h.cb,(key _ (by omega)).trans h.bb,ho⟩
theorem bores (w:World)(g:Fn7)(C:Option Addr)(L cap:Nat)(c:Ins)(b:Int) :
    BoS w (((w.alloc (funcObj g.nm g.ps g.R g.Fr C L cap)).alloc c.obj).alloc (.cells #[.int .i64 b] 3 (0,0))) g C L cap c b (.slice none 0 0) []:=by
  have h0:=heap_alloc_new w (funcObj g.nm g.ps g.R g.Fr C L cap)
  have h1:=heap_alloc_new (w.alloc (funcObj g.nm g.ps g.R g.Fr C L cap)) c.obj
  have h2:=heap_alloc_new ((w.alloc (funcObj g.nm g.ps g.R g.Fr C L cap)).alloc c.obj) (.cells #[.int .i64 b] 3 (0,0))
  have hsz:∀ (w:World) (o:Obj),(w.alloc o).heap.size=w.heap.size + 1:=fun _ _=>by simp
  simp only [hsz] at h1 h2
  exact {
    bw:=((Below.one w _).alloc (by simp) _).alloc (by simp; omega) _
    s:=by simp
    gb:=alloc_keeps (alloc_keeps h0 _) _
    cb:=alloc_keeps h1 _
    bb:=h2
    own:=OwnI.nil _ _ }
theorem BoS.add {w0 w:World}{g:Fn7}{C:Option Addr}{L cap:Nat}{c:Ins}{b:Int}{V:Value}{out:List Ins}(h:BoS w0 w g C L cap c b V out)(x:Ins)(hl:out.length≤100000) :
    ∃ V' W',(Builtin.append_ #[22,22] 3 #[V,.slice (some ⟨w.heap.size,0,none⟩) 1 1]).run Try.prog (w.alloc (.cells x.l.toArray 32)) = .ok V' W'∧BoS w0 W' g C L cap c b V' (out++[x]):=by
  obtain ⟨V',W',hap,hO,hg,_⟩:=append_ins1 h.own x hl (by have:=h.s; omega) 3
  exact ⟨V',W',hap,h.push hO hg⟩
theorem argCell {w:World}{q:Nat}{c:Ins}(h:w.heap[q]? = some c.obj)(r:Nat)(hr:r < 6):w.cell? ⟨q,7 + r,none⟩=some (.int .i64 (c.args.getD r 0)):=by
  have h6:r=0∨r=1∨r=2∨r=3∨r=4∨r=5:=by omega
  rcases h6 with rfl | rfl | rfl | rfl | rfl | rfl
  all_goals exact cell_of_heap h _ _ rfl
def atK (g:Fn7)(d:Int)(L k:Nat):List Value:=(List.range L).map fun j=>.int .i64 (if j < k then (atL g d j:Int) else 0)
theorem atK_get {g:Fn7}{d:Int}{L k j:Nat}(hj:j < L):(atK g d L k)[j]? = some (.int .i64 (if j < k then (atL g d j:Int) else 0)):=by simp [atK,hj]
theorem atK_zero (g:Fn7)(d:Int)(L:Nat):atK g d L 0=List.replicate L (.int .i64 0):=by
  apply List.ext_getElem?
  intro j
  by_cases hj:j < L
  · rw [atK_get hj,if_neg (Nat.not_lt_zero j)]; simp [hj]
  · rw [List.getElem?_eq_none (by simp [atK]; omega),List.getElem?_eq_none (by simp; omega)]
theorem atK_set {g:Fn7}{d:Int}{L k:Nat}(hk:k < L):(atK g d L k).set k (.int .i64 (atL g d k:Int))=atK g d L (k + 1):=by
  apply List.ext_getElem?
  intro j
  by_cases hj:j < L
  · rw [List.getElem?_set,atK_get hj,atK_get hj]
    by_cases h1:k=j
    · subst h1; rw [if_pos rfl,if_pos (by simp [atK,hk]),if_pos (by omega)]
    · rw [if_neg h1]
      by_cases h2:j < k
      · rw [if_pos h2,if_pos (by omega)]
      · rw [if_neg h2,if_neg (by omega)]
  · rw [List.getElem?_eq_none (by simp [atK]; omega),List.getElem?_eq_none (by simp [atK]; omega)]
theorem wrap_small {x:Int}(h0:-9000000≤x)(h1:x≤9000000):wrap64 x=x:=by unfold wrap64; omega
theorem sum_le2 (w:Ins→Nat):∀ (l:List Ins),(∀ i,w i≤2)→(l.map w).sum≤l.length * 2
  | [],_=>by simp
  | a::l,h=>by
    have h1:=sum_le2 w l h
    have h2:=h a
    simp only [List.map_cons,List.sum_cons,List.length_cons,Nat.add_mul]
    omega
structure BoT (w0 w:World)(g:Fn7)(C:Option Addr)(L cap:Nat)(c:Ins)(b:Int)(V:Value)(out:List Ins)(ab k:Nat):Prop where
  s:BoS w0 w g C L cap c b V out
  t:Pre g1 1 3 w ab (atK g c.dst L k)
  lo:w0.heap.size + 3≤ab
  ne:∀ q,V.ownBlock=some q→q≠ab
theorem BoT.later {w0 w w':World}{g:Fn7}{C:Option Addr}{L cap:Nat}{c:Ins}{b:Int}{V:Value}{out:List Ins}{ab k:Nat}(h:BoT w0 w g C L cap c b V out ab k)(hb:Below w.heap.size w w'):BoT w0 w' g C L cap c b V out ab k :=
  ⟨h.s.later hb,Pre.later h.t hb,h.lo,h.ne⟩
theorem BoT.mark {w0 w:World}{g:Fn7}{C:Option Addr}{L cap:Nat}{c:Ins}{b:Int}{V:Value}{out:List Ins}{ab k:Nat}(h:BoT w0 w g C L cap c b V out ab k)(hk:k < L):BoT w0 (w.setCell ⟨ab,k,none⟩ (.int .i64 (atL g c.dst k:Int))) g C L cap c b V out ab (k + 1):=by
  have h1:=Pre1.set h.t (j:=k) (by simp [atK,hk]) (.int .i64 (atL g c.dst k:Int))
  rw [atK_set hk] at h1
  have hlo:=h.lo
  have key:∀ q,q≠ab→(w.setCell ⟨ab,k,none⟩ (.int .i64 (atL g c.dst k:Int))).heap[q]? = w.heap[q]?:=fun q hq=>heap_setCell_other w ⟨ab,k,none⟩ q _ hq
  exact ⟨⟨h.s.bw.setCell (p:=⟨ab,k,none⟩) (by simp only; omega) _,by simpa using h.s.s,(key _ (by omega)).trans h.s.gb,(key _ (by omega)).trans h.s.cb,(key _ (by omega)).trans h.s.bb,h.s.own.keep fun q _ _ hq=>key q (h.ne q hq)⟩,h1,hlo,h.ne⟩
theorem ty_ne2 {w:World}{p q:Nat}{a b:Array Value}{s t:TypeId}{f1 f2:Nat × Nat}(h1:w.heap[p]? = some (.cells a s f1))(h2:w.heap[q]? = some (.cells b t f2))(h:s≠t):p≠q:=fun e=>by
  subst e
  rw [h1] at h2
  injection h2 with h2
  injection h2 with _ h3 _
  exact h h3
theorem BoT.push {w0 w w':World}{g:Fn7}{C:Option Addr}{L cap:Nat}{c:Ins}{b:Int}{V V':Value}{out:List Ins}{ab k:Nat}{x:Ins}(h:BoT w0 w g C L cap c b V out ab k)(ho:OwnI w' (w0.heap.size + 3) V' (out++[x]))(hg:(w.alloc (.cells x.l.toArray 32)).grownBy w' V.ownBlock) :
    BoT w0 w' g C L cap c b V' (out++[x]) ab k:=by
  have hlt:=Pre.lt h.t
  have hb:=Below.one w (.cells x.l.toArray 32)
  have ht:Pre g1 1 3 w' ab (atK g c.dst L k):=h.t.of_heap ((hg.block ab (by have:=hb.size; omega) (fun e=>h.ne ab e.symm rfl)).trans (hb.block ab hlt))
  refine ⟨h.s.push ho hg,ht,h.lo,fun q hq=>?_⟩
  obtain ⟨_,h2⟩:=ho
  rcases h2 with ⟨rfl,_⟩ | ⟨g',cap',cur,rfl,_,hg',_⟩
  · cases hq
  · simp [Value.ownBlock] at hq
    subst hq
    obtain ⟨cs,hcs,_⟩:=ht
    exact ty_ne2 hg' hcs (by decide)
noncomputable def boLoop3:Code:=((((Try.f71.body).map loopsI).getD [])[2]?).getD .skip
noncomputable def boB5:Code:=inBkI (seqNI (inLoopI boLoop3) 2)
def BoR (P:Ins→Ins→Prop):Prop:=∀ (g:Fn7) (C:Option Addr) (L cap:Nat) (c:Ins) (R:Int) (N:Nat) (w wr:World) (ab k:Nat) (i:Ins) (V:Value) (out:List Ins),
    SmallF g→g.code.length=L→g.R=N→0≤R∧R≤4096→L≤12→N≤4096→k < L→g.code[k]? = some i→out.length≤50000→N≤out.length→BoT w wr g C L cap c R V out ab L→RdI wr C g.code→P c i →
    ∀ ⦃x0 x1 x2 x6 x9 x10 x13 x14 x15 x16 x17 x18 x19 x20 x21 x22 x23 x24 x25 x26 x27 x28 x29 x30 x31 x32 x33 x34 x35 x36 x37 x38 x39 x40 x41 x42 x43 x44 x45 x46 x47 x48 x49 x50 x51 x52 x53 x54 x55 x56 x57 x58 x59 x60 x61 x62 x63 x64 x65 x66 x67 x68 x69 x70 x71 x72 x73 x74 x75 x76 x80 x81 x82 x83 x84 x85 x86 x87 x88 x89 x90 x91 x92 x93 x94 x95 x96 x97 x98 x99 xA0 xA1 xA2 xA3 xA4 xA5 xA6 xA7 xA8 xA9 xB0 xB1 xB2 xB3 xB4 xB5 xB6 xB7 xB8 xB9 xC0 xC1 xC2 xC3 xC4 xC5 xC6 xC7 xC8 xC9 xD0 xD1 xD2 xD3 xD4 xD5 xD6 xD7 xD8 xD9 xE0 xE1 xE2:Value⦄ (Q:Exit→Act→World→Prop),(∀ ⦃y16 y17 y18 y81 y82 y83 y84 y85 y86 y87 y88 y89 y90 y91 y92 y93 y94 y95 y96 y97 y98 y99 yA0 yA1 yA2 yA3 yA4 yA5 yA6 yA7 yA8 yA9 yB0 yB1 yB2 yB3 yB4 yB5 yB6 yB7 yB8 yB9 yC0 yC1 yC2 yC3 yC4 yC5 yC6 yC7 yC8 yC9 yD0 yD1 yD2 yD3 yD4 yD5 yD6 yD7 yD8 yD9 yE0 V':Value⦄ ⦃w':World⦄,BoT w w' g C L cap c R V' (out++oneB g c R i) ab L→Q .normal ⟨(x0::x1::x2::.pointer (some ⟨w.heap.size,0,none⟩)::.pointer (some ⟨w.heap.size + 1,0,none⟩)::.pointer (some ⟨w.heap.size + 1 + 1,0,none⟩)::x6::V'::.func (.func 91) #[] #[.pointer (some ⟨w.heap.size + 1 + 1,0,none⟩)]::x9::x10::.slice (some ⟨ab,0,none⟩) L L::.int .i64 (atL g c.dst L:Int)::x13::x14::x15::y16::y17::y18::x19::x20::x21::x22::x23::x24::x25::x26::x27::x28::x29::x30::x31::x32::x33::x34::x35::x36::x37::x38::x39::x40::x41::x42::x43::x44::x45::x46::x47::x48::x49::x50::x51::x52::x53::x54::x55::x56::x57::x58::x59::x60::x61::x62::x63::x64::x65::x66::x67::x68::x69::x70::x71::x72::x73::x74::x75::x76::.slice C L cap::.int .i64 (L:Int)::.int .i64 (k:Int)::x80::y81::y82::y83::y84::y85::y86::y87::y88::y89::y90::y91::y92::y93::y94::y95::y96::y97::y98::y99::yA0::yA1::yA2::yA3::yA4::yA5::yA6::yA7::yA8::yA9::yB0::yB1::yB2::yB3::yB4::yB5::yB6::yB7::yB8::yB9::yC0::yC1::yC2::yC3::yC4::yC5::yC6::yC7::yC8::yC9::yD0::yD1::yD2::yD3::yD4::yD5::yD6::yD7::yD8::yD9::yE0::xE1::xE2::[]).toArray,[]⟩ w')→Code.wp Try.prog boB5 Q ⟨(x0::x1::x2::.pointer (some ⟨w.heap.size,0,none⟩)::.pointer (some ⟨w.heap.size + 1,0,none⟩)::.pointer (some ⟨w.heap.size + 1 + 1,0,none⟩)::x6::V::.func (.func 91) #[] #[.pointer (some ⟨w.heap.size + 1 + 1,0,none⟩)]::x9::x10::.slice (some ⟨ab,0,none⟩) L L::.int .i64 (atL g c.dst L:Int)::x13::x14::x15::x16::x17::x18::x19::x20::x21::x22::x23::x24::x25::x26::x27::x28::x29::x30::x31::x32::x33::x34::x35::x36::x37::x38::x39::x40::x41::x42::x43::x44::x45::x46::x47::x48::x49::x50::x51::x52::x53::x54::x55::x56::x57::x58::x59::x60::x61::x62::x63::x64::x65::x66::x67::x68::x69::x70::x71::x72::x73::x74::x75::x76::.slice C L cap::.int .i64 (L:Int)::.int .i64 (k:Int)::x80::x81::x82::x83::x84::x85::x86::x87::x88::x89::x90::x91::x92::x93::x94::x95::x96::x97::x98::x99::xA0::xA1::xA2::xA3::xA4::xA5::xA6::xA7::xA8::xA9::xB0::xB1::xB2::xB3::xB4::xB5::xB6::xB7::xB8::xB9::xC0::xC1::xC2::xC3::xC4::xC5::xC6::xC7::xC8::xC9::xD0::xD1::xD2::xD3::xD4::xD5::xD6::xD7::xD8::xD9::xE0::xE1::xE2::[]).toArray,[]⟩ wr
theorem own_ne15 {W:World}{base:Nat}{V:Value}{l:List Ins}{q:Nat}{cs:Array Value}{t:TypeId}(h:OwnI W base V l)(hl:2≤l.length)(hq:W.heap[q]? = some (.cells cs t (0,0)))(h15:cs.size=15):∀ r,V.ownBlock=some r→r≠q:=by
  intro r hr e
  subst e
  obtain ⟨_,h2⟩:=h
  rcases h2 with ⟨rfl,_⟩ | ⟨g,cap,cur,rfl,_,hg,hlc,_,hcs,_⟩
  · cases hr
  · simp [Value.ownBlock] at hr
    subst hr
    rw [hg] at hq
    injection hq with hq
    injection hq with h1 _ _
    subst h1
    omega
theorem BoT.aside {w0 w w':World}{g:Fn7}{C:Option Addr}{L cap:Nat}{c:Ins}{b:Int}{V:Value}{out:List Ins}{ab k q:Nat}(h:BoT w0 w g C L cap c b V out ab k)(hb:Below w0.heap.size w0 w')(hsz:w.heap.size≤w'.heap.size)(hq:w0.heap.size + 3≤q)(h1:ab≠q)(h2:∀ r,V.ownBlock=some r→r≠q)(hk:∀ r,r < w.heap.size→r≠q→w'.heap[r]? = w.heap[r]?):BoT w0 w' g C L cap c b V out ab k :=
  have hs:=h.s.s
  ⟨⟨hb,Nat.le_trans hs hsz,(hk _ (by omega) (by omega)).trans h.s.gb,(hk _ (by omega) (by omega)).trans h.s.cb,(hk _ (by omega) (by omega)).trans h.s.bb,h.s.own.keep fun r _ hr hV=>hk r hr (h2 r hV)⟩,Pre.of_heap h.t (hk ab (Pre.lt h.t) h1),h.lo,h.ne⟩
set_option maxRecDepth 1000000 in
set_option maxHeartbeats 16000000 in
theorem bo_ret0:BoR (fun c i=>i.kind=13∧¬ 0≤c.dst):=by
  intro g C L cap c R N w wr ab k i V out hg hL hN hR hL12 hN4 hlt hi hlb hlo hT hC hP
  intros
  rename_i Q hQ
  conv=>arg 2; whnf
  have HQ:=Lib.hid hQ
  have hokI:=hg.ok.ok _ (List.mem_of_getElem? hi)
  have hno8:=hg.calls _ (List.mem_of_getElem? hi)
  rw [hg.fr,hN,hL] at hokI
  have HG:=Lib.hid hg
  have HL:=Lib.hid hL
  have HN:=Lib.hid hN
  have HI:=Lib.hid hi
  have HLB:=Lib.hid hlb
  have HLO:=Lib.hid hlo
  have HPL:=Lib.hid (fun k W=>Plain_any k W)
  have HOK:=Lib.hid hokI
  have HN8:=Lib.hid hno8
  obtain ⟨b2,o2,hCA,hbl,hcs⟩:=hC k i hi
  subst hCA
  obtain ⟨x0,x1,x2,x3,x4,x5,x6,x7,x8,x9,x10,x11,x12,x13,x14⟩:=RdI.load hcs
  have k16:=heap_alloc_new wr i.obj
  have k17:=heap_alloc_new (wr.alloc i.obj) i.obj
  rw [show (wr.alloc i.obj).heap.size=wr.heap.size + 1 by simp] at k17
  have k16':=alloc_keeps k16 i.obj
  have hT2:=(hT.later (Below.one wr i.obj)).later (Below.one _ i.obj)
  have hbw2:=(Below.one wr i.obj).alloc (by simp) i.obj
  obtain ⟨VB,vb,hVf⟩:=hT.s.own.form
  obtain ⟨M,hM⟩:∃ M,out.length=M:=⟨_,rfl⟩
  rw [hM] at hVf hlb
  have HM:=Lib.hid hM
  subst hVf
  have HT0:=Lib.hid hT
  obtain ⟨kd,op,dst,a,b',n,text,r0,r1,r2,r3,r4,r5,to_,els⟩:=i
  simp only at hP
  have HKP:=Lib.hid hP
  clear hP
  simp only [Ins.obj] at x0 x1 x2 x3 x4 x5 x6 x7 x8 x9 x10 x11 x12 x13 x14 k16 k16' k17 hT2 hbw2
  have HT2:=Lib.hid hT2
  have K16:=Lib.hid k16
  have K16':=Lib.hid k16'
  have K17:=Lib.hid k17
  have HBW2:=Lib.hid hbw2
  clear hQ hg hL hN hi hlb hlo hM hokI hno8 hC hcs hT hT2 k16 k16' k17 hbw2
  go_upto_region 26 with fail
  clear x0 x1 x2 x3 x4 x5 x6 x7 x8 x9 x10 x11 x12 x13 x14 hbl
  go_upto_region 27 with (show wpList Try.prog _ _ (⟨some 83,_,_,_,_,_⟩::_) _ _; refine wpList_load_row rfl 32 (.tmp 16) rfl wr.heap.size rfl 32 _ (0,0) _ K16.out vIns rfl sIns ?_)
  obtain ⟨w2,hw2⟩:∃ w2,(wr.alloc (.cells #[.int .i64 kd,.int .i64 op,.int .i64 dst,.int .i64 a,.int .i64 b',.int .i64 n,.string text,.int .i64 r0,.int .i64 r1,.int .i64 r2,.int .i64 r3,.int .i64 r4,.int .i64 r5,.int .i64 to_,.int .i64 els] 32)).alloc (.cells #[.int .i64 kd,.int .i64 op,.int .i64 dst,.int .i64 a,.int .i64 b',.int .i64 n,.string text,.int .i64 r0,.int .i64 r1,.int .i64 r2,.int .i64 r3,.int .i64 r4,.int .i64 r5,.int .i64 to_,.int .i64 els] 32)=w2:=⟨_,rfl⟩
  rw [hw2] at HT2 K16' K17 HBW2 ⊢
  clear hw2 K16
  have hP:=HKP.out
  clear HKP
  have k0:=cell_of_heap K16'.out 0 (.int .i64 kd) rfl
  obtain ⟨h13,hd0⟩:=hP
  subst h13
  have q1:decide (c.dst ≥ 0)=false:=by simp; omega
  have q2:decide (0≤c.dst)=false:=by simp; omega
  have d2:=cell_of_heap HT2.out.s.cb 2 (.int .i64 c.dst) rfl
  have HON:Hid (oneB g c R ⟨13,op,dst,a,b',n,text,r0,r1,r2,r3,r4,r5,to_,els⟩=[jmpI (atL g c.dst L:Int)]):=Lib.hid (by
    unfold oneB
    rw [if_pos rfl,if_neg hd0,HL.out]
    rfl)
  clear hd0
  go_wp2_with fail
  refine (HPL.out 11 _).mono ?_
  rintro e w5 ⟨rfl,hb5⟩
  dsimp only
  have K5:=Lib.hid ((hb5.block _ (Array.getElem?_eq_some_iff.1 K17.out).1).trans K17.out)
  have HB5:=Lib.hid hb5
  clear k0 hb5 d2 q1 q2
  go_upto_region 35 with (show wpList Try.prog _ _ (⟨none,.store _ (.tmp 17) _,_,_,_,_⟩::_) _ _; refine wpList_store_row rfl 32 (.tmp 17) (.tmp 107) rfl (wr.heap.size + 1) _ rfl rfl 32 _ K5.out sIns rfl (by simp [Value.oneCell']) ?_)
  have h6:=setRow_heap _ _ _ #[.int .i64 11,.int .i64 0,.int .i64 (-1),.int .i64 0,.int .i64 0,.int .i64 0,.string ⟨#[]⟩,.int .i64 0,.int .i64 0,.int .i64 0,.int .i64 0,.int .i64 0,.int .i64 0,.int .i64 0,.int .i64 (-1)] _ _ K5.out
  have hb6:=below_setRow (g:=wr.heap.size + 1) (HBW2.out.trans (HB5.out.mono HBW2.out.size)) (by omega) #[.int .i64 11,.int .i64 0,.int .i64 (-1),.int .i64 0,.int .i64 0,.int .i64 0,.string ⟨#[]⟩,.int .i64 0,.int .i64 0,.int .i64 0,.int .i64 0,.int .i64 0,.int .i64 0,.int .i64 0,.int .i64 (-1)]
  obtain ⟨w6,hw6⟩:∃ w6,w5.setRow (wr.heap.size + 1) #[.int .i64 11,.int .i64 0,.int .i64 (-1),.int .i64 0,.int .i64 0,.int .i64 0,.string ⟨#[]⟩,.int .i64 0,.int .i64 0,.int .i64 0,.int .i64 0,.int .i64 0,.int .i64 0,.int .i64 0,.int .i64 (-1)]=w6:=⟨_,rfl⟩
  rw [hw6] at h6 hb6 ⊢
  have y13:=cell_of_heap h6 13 (.int .i64 0) rfl
  have yf:=free_of_heap h6
  have hl6:=(Array.getElem?_eq_some_iff.1 h6).1
  have h7:=heap_setCell (j:=13) h6 (.int .i64 (atL g c.dst L:Int))
  have hb7:=hb6.setCell (p:=⟨wr.heap.size + 1,13,none⟩) (by simp only; omega) (.int .i64 (atL g c.dst L:Int))
  have H7:=Lib.hid h7
  have HB7:=Lib.hid hb7
  clear h6 hb6 h7 hb7 hw6
  go_upto_region 40 with fail
  obtain ⟨wx,hwx⟩:∃ wx,w6.setCell ⟨wr.heap.size + 1,13,none⟩ (.int .i64 (atL g c.dst L:Int))=wx:=⟨_,rfl⟩
  rw [hwx] at H7 HB7 ⊢
  have hT6:=HT0.out.later HB7.out
  have KX:Hid (wx.heap[wr.heap.size + 1]? = some (.cells #[.int .i64 11,.int .i64 0,.int .i64 (-1),.int .i64 0,.int .i64 0,.int .i64 0,.string ⟨#[]⟩,.int .i64 0,.int .i64 0,.int .i64 0,.int .i64 0,.int .i64 0,.int .i64 0,.int .i64 (atL g c.dst L:Int),.int .i64 (-1)] 32 (0,0))):=Lib.hid (by simpa using H7.out)
  obtain ⟨V',W',hap,hO,hg,_⟩:=append_ins1 hT6.s.own (jmpI (atL g c.dst L:Int)) (by have:=HLB.out; omega) (by have:=hT6.s.s; omega) 3
  have hP:=hT6.push hO hg
  rw [← HON.out] at hP
  have HP:=Lib.hid hP
  simp only [Ins.l,jmpI] at hap
  have HAP:=Lib.hid hap
  clear hT6 hO hg hP hap hwx HT0 HT2 K5 HB5 K16' K17 HBW2 y13 yf hl6 H7
  go_wp2_with (first
    | (show wpList Try.prog _ _ (⟨some 138,_,_,_,_,_⟩::_) _ _; refine wpList_load_row rfl 32 (.tmp 17) rfl (wr.heap.size + 1) rfl 32 _ (0,0) _ KX.out vIns rfl sIns ?_)
    | (refine append_ran (o:=⟨some 140,_,_,_,_,_⟩) rfl (.tmp 137) (.tmp 139) rfl rfl rfl HAP.out ?_))
  exact HQ.out HP.out
set_option maxRecDepth 1000000 in
set_option maxHeartbeats 16000000 in
theorem bo_moved:BoR (fun _ i=>i.kind≠13∧i.kind≠11∧i.kind≠12):=by
  intro g C L cap c R N w wr ab k i V out hg hL hN hR hL12 hN4 hlt hi hlb hlo hT hC hP
  intros
  rename_i Q hQ
  conv=>arg 2; whnf
  have HQ:=Lib.hid hQ
  have hokI:=hg.ok.ok _ (List.mem_of_getElem? hi)
  have hno8:=hg.calls _ (List.mem_of_getElem? hi)
  rw [hg.fr,hN,hL] at hokI
  have HG:=Lib.hid hg
  have HL:=Lib.hid hL
  have HN:=Lib.hid hN
  have HI:=Lib.hid hi
  have HLB:=Lib.hid hlb
  have HLO:=Lib.hid hlo
  have HPL:=Lib.hid (fun k W=>Plain_any k W)
  have HOK:=Lib.hid hokI
  have HN8:=Lib.hid hno8
  obtain ⟨b2,o2,hCA,hbl,hcs⟩:=hC k i hi
  subst hCA
  obtain ⟨x0,x1,x2,x3,x4,x5,x6,x7,x8,x9,x10,x11,x12,x13,x14⟩:=RdI.load hcs
  have k16:=heap_alloc_new wr i.obj
  have k17:=heap_alloc_new (wr.alloc i.obj) i.obj
  rw [show (wr.alloc i.obj).heap.size=wr.heap.size + 1 by simp] at k17
  have k16':=alloc_keeps k16 i.obj
  have hT2:=(hT.later (Below.one wr i.obj)).later (Below.one _ i.obj)
  have hbw2:=(Below.one wr i.obj).alloc (by simp) i.obj
  obtain ⟨VB,vb,hVf⟩:=hT.s.own.form
  obtain ⟨M,hM⟩:∃ M,out.length=M:=⟨_,rfl⟩
  rw [hM] at hVf hlb
  have HM:=Lib.hid hM
  subst hVf
  have HT0:=Lib.hid hT
  obtain ⟨kd,op,dst,a,b',n,text,r0,r1,r2,r3,r4,r5,to_,els⟩:=i
  simp only at hP
  have HKP:=Lib.hid hP
  clear hP
  simp only [Ins.obj] at x0 x1 x2 x3 x4 x5 x6 x7 x8 x9 x10 x11 x12 x13 x14 k16 k16' k17 hT2 hbw2
  have HT2:=Lib.hid hT2
  have K16:=Lib.hid k16
  have K16':=Lib.hid k16'
  have K17:=Lib.hid k17
  have HBW2:=Lib.hid hbw2
  clear hQ hg hL hN hi hlb hlo hM hokI hno8 hC hcs hT hT2 k16 k16' k17 hbw2
  go_upto_region 26 with fail
  clear x0 x1 x2 x3 x4 x5 x6 x7 x8 x9 x10 x11 x12 x13 x14 hbl
  go_upto_region 27 with (show wpList Try.prog _ _ (⟨some 83,_,_,_,_,_⟩::_) _ _; refine wpList_load_row rfl 32 (.tmp 16) rfl wr.heap.size rfl 32 _ (0,0) _ K16.out vIns rfl sIns ?_)
  obtain ⟨w2,hw2⟩:∃ w2,(wr.alloc (.cells #[.int .i64 kd,.int .i64 op,.int .i64 dst,.int .i64 a,.int .i64 b',.int .i64 n,.string text,.int .i64 r0,.int .i64 r1,.int .i64 r2,.int .i64 r3,.int .i64 r4,.int .i64 r5,.int .i64 to_,.int .i64 els] 32)).alloc (.cells #[.int .i64 kd,.int .i64 op,.int .i64 dst,.int .i64 a,.int .i64 b',.int .i64 n,.string text,.int .i64 r0,.int .i64 r1,.int .i64 r2,.int .i64 r3,.int .i64 r4,.int .i64 r5,.int .i64 to_,.int .i64 els] 32)=w2:=⟨_,rfl⟩
  rw [hw2] at HT2 K16' K17 HBW2 ⊢
  clear hw2 K16
  have hP:=HKP.out
  clear HKP
  have k0:=cell_of_heap K16'.out 0 (.int .i64 kd) rfl
  obtain ⟨h13,h11,h12⟩:=hP
  have e13:(kd == 13)=false:=by simpa using h13
  have e11:(kd == 11)=false:=by simpa using h11
  have e12:(kd == 12)=false:=by simpa using h12
  have HON:Hid (oneB g c R ⟨kd,op,dst,a,b',n,text,r0,r1,r2,r3,r4,r5,to_,els⟩=[movedI R ⟨kd,op,dst,a,b',n,text,r0,r1,r2,r3,r4,r5,to_,els⟩]):=Lib.hid (by unfold oneB; rw [if_neg h13,if_neg h11,if_neg h12])
  have hkk:=HOK.out.kind
  have hmv:=moved_any ⟨kd,op,dst,a,b',n,text,r0,r1,r2,r3,r4,r5,to_,els⟩ HOK.out (by omega) HN8.out (by simp only at hkk ⊢; omega) (w.heap.size + 1 + 1) R hR w2 (cell_of_heap HT2.out.s.bb 0 (.int .i64 R) rfl)
  obtain ⟨j,hj⟩:∃ j,movedI R ⟨kd,op,dst,a,b',n,text,r0,r1,r2,r3,r4,r5,to_,els⟩=j:=⟨_,rfl⟩
  rw [hj] at hmv HON
  simp only [Ins.agg,regB] at hmv
  have HMV:=Lib.hid hmv
  clear hmv hkk h13 h11 h12 hj
  go_wp2_with (show wpList Try.prog _ _ (⟨some 86,_,_,_,_,_⟩::_) _ _; refine wpList_load_row rfl 32 (.tmp 16) rfl wr.heap.size rfl 32 _ (0,0) _ K16'.out vIns rfl sIns ?_)
  refine HMV.out.mono ?_
  rintro e w5 ⟨rfl,hb5⟩
  dsimp only
  have k5:=(hb5.block _ (Array.getElem?_eq_some_iff.1 K17.out).1).trans K17.out
  have K5:=Lib.hid k5
  have HB5:=Lib.hid hb5
  clear k0 k5 hb5
  go_upto_region 40 with (show wpList Try.prog _ _ (⟨none,.store _ (.tmp 17) _,_,_,_,_⟩::_) _ _; refine wpList_store_row rfl 32 (.tmp 17) (.tmp 88) rfl (wr.heap.size + 1) _ rfl rfl 32 _ K5.out sIns rfl (one_ins j) ?_)
  have h6:=setRow_heap _ _ _ j.l.toArray _ _ K5.out
  have hb6:=below_setRow (g:=wr.heap.size + 1) (HBW2.out.trans (HB5.out.mono HBW2.out.size)) (by omega) j.l.toArray
  obtain ⟨wx,hwx⟩:∃ wx,w5.setRow (wr.heap.size + 1) j.l.toArray=wx:=⟨_,rfl⟩
  have hT6:=HT0.out.later hb6
  rw [hwx] at h6 hT6
  have KX:=Lib.hid h6
  (try rw [hwx])
  obtain ⟨V',W',hap,hO,hg,_⟩:=append_ins1 hT6.s.own j (by have:=HLB.out; omega) (by have:=hT6.s.s; omega) 3
  have hP:=hT6.push hO hg
  rw [← HON.out] at hP
  have HP:=Lib.hid hP
  simp only [Ins.l] at hap
  have HAP:=Lib.hid hap
  clear hT6 hO hg hP hap h6 hb6 hwx HT0 HT2 HMV K5 HB5 K16' K17 HBW2
  go_wp2_with (first
    | (show wpList Try.prog _ _ (⟨some 138,_,_,_,_,_⟩::_) _ _; refine wpList_load_row rfl 32 (.tmp 17) rfl (wr.heap.size + 1) rfl 32 _ (0,0) _ KX.out vIns rfl sIns ?_)
    | (refine append_ran (o:=⟨some 140,_,_,_,_,_⟩) rfl (.tmp 137) (.tmp 139) rfl rfl rfl HAP.out ?_))
  exact HQ.out HP.out
set_option maxRecDepth 1000000 in
set_option maxHeartbeats 16000000 in
theorem bo_jump:BoR (fun _ i=>i.kind=11):=by
  intro g C L cap c R N w wr ab k i V out hg hL hN hR hL12 hN4 hlt hi hlb hlo hT hC hP
  intros
  rename_i Q hQ
  conv=>arg 2; whnf
  have HQ:=Lib.hid hQ
  have hokI:=hg.ok.ok _ (List.mem_of_getElem? hi)
  have hno8:=hg.calls _ (List.mem_of_getElem? hi)
  rw [hg.fr,hN,hL] at hokI
  have HG:=Lib.hid hg
  have HL:=Lib.hid hL
  have HN:=Lib.hid hN
  have HI:=Lib.hid hi
  have HLB:=Lib.hid hlb
  have HLO:=Lib.hid hlo
  have HPL:=Lib.hid (fun k W=>Plain_any k W)
  have HOK:=Lib.hid hokI
  have HN8:=Lib.hid hno8
  obtain ⟨b2,o2,hCA,hbl,hcs⟩:=hC k i hi
  subst hCA
  obtain ⟨x0,x1,x2,x3,x4,x5,x6,x7,x8,x9,x10,x11,x12,x13,x14⟩:=RdI.load hcs
  have k16:=heap_alloc_new wr i.obj
  have k17:=heap_alloc_new (wr.alloc i.obj) i.obj
  rw [show (wr.alloc i.obj).heap.size=wr.heap.size + 1 by simp] at k17
  have k16':=alloc_keeps k16 i.obj
  have hT2:=(hT.later (Below.one wr i.obj)).later (Below.one _ i.obj)
  have hbw2:=(Below.one wr i.obj).alloc (by simp) i.obj
  obtain ⟨VB,vb,hVf⟩:=hT.s.own.form
  obtain ⟨M,hM⟩:∃ M,out.length=M:=⟨_,rfl⟩
  rw [hM] at hVf hlb
  have HM:=Lib.hid hM
  subst hVf
  have HT0:=Lib.hid hT
  obtain ⟨kd,op,dst,a,b',n,text,r0,r1,r2,r3,r4,r5,to_,els⟩:=i
  simp only at hP
  have HKP:=Lib.hid hP
  clear hP
  simp only [Ins.obj] at x0 x1 x2 x3 x4 x5 x6 x7 x8 x9 x10 x11 x12 x13 x14 k16 k16' k17 hT2 hbw2
  have HT2:=Lib.hid hT2
  have K16:=Lib.hid k16
  have K16':=Lib.hid k16'
  have K17:=Lib.hid k17
  have HBW2:=Lib.hid hbw2
  clear hQ hg hL hN hi hlb hlo hM hokI hno8 hC hcs hT hT2 k16 k16' k17 hbw2
  go_upto_region 26 with fail
  clear x0 x1 x2 x3 x4 x5 x6 x7 x8 x9 x10 x11 x12 x13 x14 hbl
  go_upto_region 27 with (show wpList Try.prog _ _ (⟨some 83,_,_,_,_,_⟩::_) _ _; refine wpList_load_row rfl 32 (.tmp 16) rfl wr.heap.size rfl 32 _ (0,0) _ K16.out vIns rfl sIns ?_)
  obtain ⟨w2,hw2⟩:∃ w2,(wr.alloc (.cells #[.int .i64 kd,.int .i64 op,.int .i64 dst,.int .i64 a,.int .i64 b',.int .i64 n,.string text,.int .i64 r0,.int .i64 r1,.int .i64 r2,.int .i64 r3,.int .i64 r4,.int .i64 r5,.int .i64 to_,.int .i64 els] 32)).alloc (.cells #[.int .i64 kd,.int .i64 op,.int .i64 dst,.int .i64 a,.int .i64 b',.int .i64 n,.string text,.int .i64 r0,.int .i64 r1,.int .i64 r2,.int .i64 r3,.int .i64 r4,.int .i64 r5,.int .i64 to_,.int .i64 els] 32)=w2:=⟨_,rfl⟩
  rw [hw2] at HT2 K16' K17 HBW2 ⊢
  clear hw2 K16
  have hP:=HKP.out
  clear HKP
  have k0:=cell_of_heap K16'.out 0 (.int .i64 kd) rfl
  subst hP
  have hto:=HOK.out.to_ (Or.inl rfl)
  simp only at hto
  obtain ⟨tn,htn⟩:∃ tn:Nat,to_=tn:=⟨to_.toNat,by omega⟩
  subst htn
  have htL:tn < L:=by omega
  have HON:Hid (oneB g c R ⟨11,op,dst,a,b',n,text,r0,r1,r2,r3,r4,r5,(tn:Int),els⟩=[⟨11,op,dst,a,b',n,text,r0,r1,r2,r3,r4,r5,(atL g c.dst tn:Int),els⟩]):=Lib.hid (by
    unfold oneB
    rw [if_neg (by simp),if_pos rfl]
    simp)
  have ca:=Pre1.cell HT2.out.t (atK_get (g:=g) (d:=c.dst) (k:=L) htL)
  rw [if_pos htL] at ca
  have k13:=cell_of_heap K16'.out 13 (.int .i64 (tn:Int)) rfl
  have y13:=cell_of_heap K17.out 13 (.int .i64 (tn:Int)) rfl
  have yf:=free_of_heap K17.out
  have hl6:=(Array.getElem?_eq_some_iff.1 K17.out).1
  have H7:=Lib.hid (heap_setCell (j:=13) K17.out (.int .i64 (atL g c.dst tn:Int)))
  have HB7:=Lib.hid (HBW2.out.setCell (p:=⟨wr.heap.size + 1,13,none⟩) (by simp only; omega) (.int .i64 (atL g c.dst tn:Int)))
  clear hto
  go_upto_region 40 with fail
  obtain ⟨wx,hwx⟩:∃ wx,w2.setCell ⟨wr.heap.size + 1,13,none⟩ (.int .i64 (atL g c.dst tn:Int))=wx:=⟨_,rfl⟩
  rw [hwx] at H7 HB7 ⊢
  have hT6:=HT0.out.later HB7.out
  have KX:Hid (wx.heap[wr.heap.size + 1]? = some (.cells #[.int .i64 11,.int .i64 op,.int .i64 dst,.int .i64 a,.int .i64 b',.int .i64 n,.string text,.int .i64 r0,.int .i64 r1,.int .i64 r2,.int .i64 r3,.int .i64 r4,.int .i64 r5,.int .i64 (atL g c.dst tn:Int),.int .i64 els] 32 (0,0))):=Lib.hid (by simpa using H7.out)
  obtain ⟨V',W',hap,hO,hg,_⟩:=append_ins1 hT6.s.own ⟨11,op,dst,a,b',n,text,r0,r1,r2,r3,r4,r5,(atL g c.dst tn:Int),els⟩ (by have:=HLB.out; omega) (by have:=hT6.s.s; omega) 3
  have hP:=hT6.push hO hg
  rw [← HON.out] at hP
  have HP:=Lib.hid hP
  simp only [Ins.l] at hap
  have HAP:=Lib.hid hap
  clear hT6 hO hg hP hap hwx HT0 HT2 K16' K17 HBW2 y13 yf hl6 H7 ca k13 k0
  go_wp2_with (first
    | (show wpList Try.prog _ _ (⟨some 138,_,_,_,_,_⟩::_) _ _; refine wpList_load_row rfl 32 (.tmp 17) rfl (wr.heap.size + 1) rfl 32 _ (0,0) _ KX.out vIns rfl sIns ?_)
    | (refine append_ran (o:=⟨some 140,_,_,_,_,_⟩) rfl (.tmp 137) (.tmp 139) rfl rfl rfl HAP.out ?_))
  exact HQ.out HP.out
set_option maxRecDepth 1000000 in
set_option maxHeartbeats 16000000 in
theorem bo_branch:BoR (fun _ i=>i.kind=12):=by
  intro g C L cap c R N w wr ab k i V out hg hL hN hR hL12 hN4 hlt hi hlb hlo hT hC hP
  intros
  rename_i Q hQ
  conv=>arg 2; whnf
  have HQ:=Lib.hid hQ
  have hokI:=hg.ok.ok _ (List.mem_of_getElem? hi)
  have hno8:=hg.calls _ (List.mem_of_getElem? hi)
  rw [hg.fr,hN,hL] at hokI
  have HG:=Lib.hid hg
  have HL:=Lib.hid hL
  have HN:=Lib.hid hN
  have HI:=Lib.hid hi
  have HLB:=Lib.hid hlb
  have HLO:=Lib.hid hlo
  have HPL:=Lib.hid (fun k W=>Plain_any k W)
  have HOK:=Lib.hid hokI
  have HN8:=Lib.hid hno8
  obtain ⟨b2,o2,hCA,hbl,hcs⟩:=hC k i hi
  subst hCA
  obtain ⟨x0,x1,x2,x3,x4,x5,x6,x7,x8,x9,x10,x11,x12,x13,x14⟩:=RdI.load hcs
  have k16:=heap_alloc_new wr i.obj
  have k17:=heap_alloc_new (wr.alloc i.obj) i.obj
  rw [show (wr.alloc i.obj).heap.size=wr.heap.size + 1 by simp] at k17
  have k16':=alloc_keeps k16 i.obj
  have hT2:=(hT.later (Below.one wr i.obj)).later (Below.one _ i.obj)
  have hbw2:=(Below.one wr i.obj).alloc (by simp) i.obj
  obtain ⟨VB,vb,hVf⟩:=hT.s.own.form
  obtain ⟨M,hM⟩:∃ M,out.length=M:=⟨_,rfl⟩
  rw [hM] at hVf hlb
  have HM:=Lib.hid hM
  subst hVf
  have HT0:=Lib.hid hT
  obtain ⟨kd,op,dst,a,b',n,text,r0,r1,r2,r3,r4,r5,to_,els⟩:=i
  simp only at hP
  have HKP:=Lib.hid hP
  clear hP
  simp only [Ins.obj] at x0 x1 x2 x3 x4 x5 x6 x7 x8 x9 x10 x11 x12 x13 x14 k16 k16' k17 hT2 hbw2
  have HT2:=Lib.hid hT2
  have K16:=Lib.hid k16
  have K16':=Lib.hid k16'
  have K17:=Lib.hid k17
  have HBW2:=Lib.hid hbw2
  clear hQ hg hL hN hi hlb hlo hM hokI hno8 hC hcs hT hT2 k16 k16' k17 hbw2
  go_upto_region 26 with fail
  clear x0 x1 x2 x3 x4 x5 x6 x7 x8 x9 x10 x11 x12 x13 x14 hbl
  go_upto_region 27 with (show wpList Try.prog _ _ (⟨some 83,_,_,_,_,_⟩::_) _ _; refine wpList_load_row rfl 32 (.tmp 16) rfl wr.heap.size rfl 32 _ (0,0) _ K16.out vIns rfl sIns ?_)
  obtain ⟨w2,hw2⟩:∃ w2,(wr.alloc (.cells #[.int .i64 kd,.int .i64 op,.int .i64 dst,.int .i64 a,.int .i64 b',.int .i64 n,.string text,.int .i64 r0,.int .i64 r1,.int .i64 r2,.int .i64 r3,.int .i64 r4,.int .i64 r5,.int .i64 to_,.int .i64 els] 32)).alloc (.cells #[.int .i64 kd,.int .i64 op,.int .i64 dst,.int .i64 a,.int .i64 b',.int .i64 n,.string text,.int .i64 r0,.int .i64 r1,.int .i64 r2,.int .i64 r3,.int .i64 r4,.int .i64 r5,.int .i64 to_,.int .i64 els] 32)=w2:=⟨_,rfl⟩
  rw [hw2] at HT2 K16' K17 HBW2 ⊢
  clear hw2 K16
  have hP:=HKP.out
  clear HKP
  have k0:=cell_of_heap K16'.out 0 (.int .i64 kd) rfl
  subst hP
  have hto:=HOK.out.to_ (Or.inr rfl)
  have hel:=HOK.out.els rfl
  have hua:=HOK.out.uses a (by simp [Ins.uses,kA])
  simp only at hto hel
  obtain ⟨tn,htn⟩:∃ tn:Nat,to_=tn:=⟨to_.toNat,by omega⟩
  obtain ⟨en,hen⟩:∃ en:Nat,els=en:=⟨els.toNat,by omega⟩
  subst htn hen
  have htL:tn < L:=by omega
  have heL:en < L:=by omega
  obtain ⟨va,hva⟩:∃ va,R + a=va:=⟨_,rfl⟩
  have HON:Hid (oneB g c R ⟨12,op,dst,a,b',n,text,r0,r1,r2,r3,r4,r5,(tn:Int),(en:Int)⟩=[⟨12,op,dst,va,b',n,text,r0,r1,r2,r3,r4,r5,(atL g c.dst tn:Int),(atL g c.dst en:Int)⟩]):=Lib.hid (by
    unfold oneB
    rw [if_neg (by simp),if_neg (by simp),if_pos rfl]
    simp [hva])
  have hrg:=fun (W:World) (h:W.cell? ⟨w.heap.size + 1 + 1,0,none⟩=some (.int .i64 R))=>inbody1_any h ⟨hR.1,by omega⟩ a ⟨by omega,by omega⟩
  rw [hva] at hrg
  have HRG:=Lib.hid hrg
  have ct:=Pre1.cell HT2.out.t (atK_get (g:=g) (d:=c.dst) (k:=L) htL)
  rw [if_pos htL] at ct
  have ce:=Pre1.cell HT2.out.t (atK_get (g:=g) (d:=c.dst) (k:=L) heL)
  rw [if_pos heL] at ce
  have cB:=cell_of_heap HT2.out.s.bb 0 (.int .i64 R) rfl
  have k3:=cell_of_heap K16'.out 3 (.int .i64 a) rfl
  have k13:=cell_of_heap K16'.out 13 (.int .i64 (tn:Int)) rfl
  have k14:=cell_of_heap K16'.out 14 (.int .i64 (en:Int)) rfl
  clear hto hel hua hva hrg
  go_upto_region 39 with fail
  clear k0
  (try go_frame)
  have hl17:=(Array.getElem?_eq_some_iff.1 K17.out).1
  have hl16:=(Array.getElem?_eq_some_iff.1 K16'.out).1
  have hab:=Pre.lt HT0.out.t
  have hsw:=HT0.out.s.s
  have BOX:=K17
  obtain ⟨VALS,hVALS⟩:∃ VALS:List Value,VALS=[.func (.func 91) #[] #[.pointer (some ⟨w.heap.size + 1 + 1,0,none⟩)],.pointer (some ⟨wr.heap.size,3,none⟩),.int .i64 a,.int .i64 va,.slice (some ⟨ab,0,none⟩) L L,.pointer (some ⟨wr.heap.size,13,none⟩),.int .i64 (tn:Int),.pointer (some ⟨ab,tn,none⟩),.int .i64 (atL g c.dst tn:Int),.slice (some ⟨ab,0,none⟩) L L,.pointer (some ⟨wr.heap.size,14,none⟩),.int .i64 (en:Int),.pointer (some ⟨ab,en,none⟩),.int .i64 (atL g c.dst en:Int),.pointer (some ⟨wr.heap.size + 1,3,none⟩),undef,.pointer (some ⟨wr.heap.size + 1,13,none⟩),undef,.pointer (some ⟨wr.heap.size + 1,14,none⟩)]:=⟨_,rfl⟩
  refine wp_region_grown2 19 (IaW w2 (wr.heap.size + 1) VALS (fun s=>#[.int .i64 12,.int .i64 op,.int .i64 dst,.int .i64 (if (s 15).isSome=true then va else a),.int .i64 b',.int .i64 n,.string text,.int .i64 r0,.int .i64 r1,.int .i64 r2,.int .i64 r3,.int .i64 r4,.int .i64 r5,.int .i64 (if (s 17).isSome=true then (atL g c.dst tn:Int) else (tn:Int)),.int .i64 (en:Int)])) (by kernel_rfl) (by kernel_rfl) ?_ ?_ ?_
  · exact ⟨rfl,rfl,rfl,rfl,fun _ _=>rfl,BOX.out,fun j v h=>by cases h⟩
  · intro i o s wq hi ho hI hsi hdep
    rw [hVALS] at hI ⊢
    rcases (by omega:i=0∨i=1∨i=2∨i=3∨i=4∨i=5∨i=6∨i=7∨i=8∨i=9∨i=10∨i=11∨i=12∨i=13∨i=14∨i=15∨i=16∨i=17∨i=18) with rfl | rfl | rfl | rfl | rfl | rfl | rfl | rfl | rfl | rfl | rfl | rfl | rfl | rfl | rfl | rfl | rfl | rfl | rfl
    all_goals (simp only [List.getElem?_cons_zero,List.getElem?_cons_succ] at ho; obtain rfl:=Option.some.inj ho)
    · exact Or.inl (Or.inl ⟨_,_,runT_move (.tmp 8) rfl,hI.step 0 _ rfl rfl⟩)
    · exact Or.inl (Or.inl ⟨_,_,fldT (wr.heap.size) 3 3 (by kernel_rfl) (.tmp 16) rfl rfl,hI.step 1 _ rfl rfl⟩)
    · have e1:=hI.told (j:=1) rfl (hdep ⟨1,.data⟩ (by simp) rfl)
      exact Or.inl (Or.inl ⟨_,_,ldT (hI.cell (by omega) k3) (.tmp 121) rfl (evalT_told 1 (by kernel_rfl) e1),hI.step 2 _ rfl rfl⟩)
    · have e0:=hI.told (j:=0) rfl (hdep ⟨0,.data⟩ (by simp) rfl)
      have e2:=hI.told (j:=2) rfl (hdep ⟨2,.data⟩ (by simp) rfl)
      refine Or.inl (Or.inr ⟨91,#[.int .i64 a,.pointer (some ⟨w.heap.size + 1 + 1,0,none⟩)],clT 91 #[.pointer (some ⟨w.heap.size + 1 + 1,0,none⟩)] (.tmp 120) _ _ rfl (evalT_told 0 (by kernel_rfl) e0) #[.int .i64 a] ?_ Try.func91 (by kernel_rfl) rfl,?_⟩)
      · simp only [List.map_toArray,List.map_cons,List.map_nil]
        rw [evalT_told 2 (by kernel_rfl) e2]
      · exact (HRG.out _ (hI.cell (by omega) cB)).mono fun e w' h=>⟨_,h.1,by rw [← h.2]; exact hI.step 3 _ rfl rfl⟩
    · exact Or.inl (Or.inl ⟨_,_,runT_move (.tmp 11) rfl,hI.step 4 _ rfl rfl⟩)
    · exact Or.inl (Or.inl ⟨_,_,fldT (wr.heap.size) 8 13 (by kernel_rfl) (.tmp 16) rfl rfl,hI.step 5 _ rfl rfl⟩)
    · have e5:=hI.told (j:=5) rfl (hdep ⟨5,.data⟩ (by simp) rfl)
      exact Or.inl (Or.inl ⟨_,_,ldT (hI.cell (by omega) k13) (.tmp 125) rfl (evalT_told 5 (by kernel_rfl) e5),hI.step 6 _ rfl rfl⟩)
    · have e4:=hI.told (j:=4) rfl (hdep ⟨4,.data⟩ (by simp) rfl)
      have e6:=hI.told (j:=6) rfl (hdep ⟨6,.data⟩ (by simp) rfl)
      exact Or.inl (Or.inl ⟨_,_,ixT htL (.tmp 124) (.tmp 126) rfl (evalT_told 4 (by kernel_rfl) e4) (evalT_told 6 (by kernel_rfl) e6),hI.step 7 _ rfl rfl⟩)
    · have e7:=hI.told (j:=7) rfl (hdep ⟨7,.data⟩ (by simp) rfl)
      exact Or.inl (Or.inl ⟨_,_,ldT (hI.cell (by omega) ct) (.tmp 127) rfl (evalT_told 7 (by kernel_rfl) e7),hI.step 8 _ rfl rfl⟩)
    · exact Or.inl (Or.inl ⟨_,_,runT_move (.tmp 11) rfl,hI.step 9 _ rfl rfl⟩)
    · exact Or.inl (Or.inl ⟨_,_,fldT (wr.heap.size) 9 14 (by kernel_rfl) (.tmp 16) rfl rfl,hI.step 10 _ rfl rfl⟩)
    · have e10:=hI.told (j:=10) rfl (hdep ⟨10,.data⟩ (by simp) rfl)
      exact Or.inl (Or.inl ⟨_,_,ldT (hI.cell (by omega) k14) (.tmp 130) rfl (evalT_told 10 (by kernel_rfl) e10),hI.step 11 _ rfl rfl⟩)
    · have e9:=hI.told (j:=9) rfl (hdep ⟨9,.data⟩ (by simp) rfl)
      have e11:=hI.told (j:=11) rfl (hdep ⟨11,.data⟩ (by simp) rfl)
      exact Or.inl (Or.inl ⟨_,_,ixT heL (.tmp 129) (.tmp 131) rfl (evalT_told 9 (by kernel_rfl) e9) (evalT_told 11 (by kernel_rfl) e11),hI.step 12 _ rfl rfl⟩)
    · have e12:=hI.told (j:=12) rfl (hdep ⟨12,.data⟩ (by simp) rfl)
      exact Or.inl (Or.inl ⟨_,_,ldT (hI.cell (by omega) ce) (.tmp 132) rfl (evalT_told 12 (by kernel_rfl) e12),hI.step 13 _ rfl rfl⟩)
    · exact Or.inl (Or.inl ⟨_,_,fldT (wr.heap.size + 1) 3 3 (by kernel_rfl) (.tmp 17) rfl rfl,hI.step 14 _ rfl rfl⟩)
    · have e14:=hI.told (j:=14) rfl (hdep ⟨14,.data⟩ (by simp) rfl)
      have e3:=hI.told (j:=3) rfl (hdep ⟨3,.data⟩ (by simp) rfl)
      exact Or.inr ⟨_,stT (cell_of_heap hI.box 3 _ rfl) (free_of_heap hI.box 3) (.tmp 134) (.tmp 123) rfl (evalT_told 14 (by kernel_rfl) e14) _ (evalT_told 3 (by kernel_rfl) e3),hI.store 15 3 _ rfl rfl⟩
    · exact Or.inl (Or.inl ⟨_,_,fldT (wr.heap.size + 1) 8 13 (by kernel_rfl) (.tmp 17) rfl rfl,hI.step 16 _ rfl rfl⟩)
    · have e16:=hI.told (j:=16) rfl (hdep ⟨16,.data⟩ (by simp) rfl)
      have e8:=hI.told (j:=8) rfl (hdep ⟨8,.data⟩ (by simp) rfl)
      exact Or.inr ⟨_,stT (cell_of_heap hI.box 13 _ rfl) (free_of_heap hI.box 13) (.tmp 135) (.tmp 128) rfl (evalT_told 16 (by kernel_rfl) e16) _ (evalT_told 8 (by kernel_rfl) e8),hI.store 17 13 _ rfl rfl⟩
    · exact Or.inl (Or.inl ⟨_,_,fldT (wr.heap.size + 1) 9 14 (by kernel_rfl) (.tmp 17) rfl rfl,hI.step 18 _ rfl rfl⟩)
  · intro s wq hI hsome
    rw [hVALS] at hI
    have e0:=hI.told (j:=0) rfl (hsome 0 (by omega))
    have e1:=hI.told (j:=1) rfl (hsome 1 (by omega))
    have e2:=hI.told (j:=2) rfl (hsome 2 (by omega))
    have e3:=hI.told (j:=3) rfl (hsome 3 (by omega))
    have e4:=hI.told (j:=4) rfl (hsome 4 (by omega))
    have e5:=hI.told (j:=5) rfl (hsome 5 (by omega))
    have e6:=hI.told (j:=6) rfl (hsome 6 (by omega))
    have e7:=hI.told (j:=7) rfl (hsome 7 (by omega))
    have e8:=hI.told (j:=8) rfl (hsome 8 (by omega))
    have e9:=hI.told (j:=9) rfl (hsome 9 (by omega))
    have e10:=hI.told (j:=10) rfl (hsome 10 (by omega))
    have e11:=hI.told (j:=11) rfl (hsome 11 (by omega))
    have e12:=hI.told (j:=12) rfl (hsome 12 (by omega))
    have e13:=hI.told (j:=13) rfl (hsome 13 (by omega))
    have e14:=hI.told (j:=14) rfl (hsome 14 (by omega))
    have e15:=hI.told (j:=15) rfl (hsome 15 (by omega))
    have e16:=hI.told (j:=16) rfl (hsome 16 (by omega))
    have e17:=hI.told (j:=17) rfl (hsome 17 (by omega))
    have e18:=hI.told (j:=18) rfl (hsome 18 (by omega))
    simp only [List.take_succ_cons,List.take_zero,List.drop_succ_cons,List.drop_zero,putsT,e0,e1,e2,e3,e4,e5,e6,e7,e8,e9,e10,e11,e12,e13,e14,e15,e16,e17,e18,Option.getD_some]
    go_frame
    have c1:=hI.box
    simp only [e15,e17,Option.isSome_some,if_true] at c1
    have yf:=free_of_heap c1
    have y14:=cell_of_heap c1 14 (.int .i64 (en:Int)) rfl
    have hl6:=(Array.getElem?_eq_some_iff.1 c1).1
    have H7:=Lib.hid (heap_setCell (j:=14) c1 (.int .i64 (atL g c.dst en:Int)))
    have HB7:=Lib.hid ((hI.below HBW2.out (by omega)).setCell (p:=⟨wr.heap.size + 1,14,none⟩) (by simp only; omega) (.int .i64 (atL g c.dst en:Int)))
    clear c1 ct ce cB k3 k13 k14 hI hsome e0 e1 e2 e3 e4 e5 e6 e7 e8 e9 e10 e11 e12 e13 e14 e15 e16 e17 e18
    go_upto_region 40 with fail
    obtain ⟨wx,hwx⟩:∃ wx,wq.setCell ⟨wr.heap.size + 1,14,none⟩ (.int .i64 (atL g c.dst en:Int))=wx:=⟨_,rfl⟩
    rw [hwx] at H7 HB7 ⊢
    have hT6:=HT0.out.later HB7.out
    have KX:Hid (wx.heap[wr.heap.size + 1]? = some (.cells #[.int .i64 12,.int .i64 op,.int .i64 dst,.int .i64 va,.int .i64 b',.int .i64 n,.string text,.int .i64 r0,.int .i64 r1,.int .i64 r2,.int .i64 r3,.int .i64 r4,.int .i64 r5,.int .i64 (atL g c.dst tn:Int),.int .i64 (atL g c.dst en:Int)] 32 (0,0))):=Lib.hid (by simpa using H7.out)
    obtain ⟨V',W',hap,hO,hg,_⟩:=append_ins1 hT6.s.own ⟨12,op,dst,va,b',n,text,r0,r1,r2,r3,r4,r5,(atL g c.dst tn:Int),(atL g c.dst en:Int)⟩ (by have:=HLB.out; omega) (by have:=hT6.s.s; omega) 3
    have hP:=hT6.push hO hg
    rw [← HON.out] at hP
    have HP:=Lib.hid hP
    simp only [Ins.l] at hap
    have HAP:=Lib.hid hap
    clear hT6 hO hg hP hap hwx HT0 HT2 K16' K17 BOX HBW2 y14 yf hl6 H7
    go_wp2_with (first
      | (show wpList Try.prog _ _ (⟨some 138,_,_,_,_,_⟩::_) _ _; refine wpList_load_row rfl 32 (.tmp 17) rfl (wr.heap.size + 1) rfl 32 _ (0,0) _ KX.out vIns rfl sIns ?_)
      | (refine append_ran (o:=⟨some 140,_,_,_,_,_⟩) rfl (.tmp 137) (.tmp 139) rfl rfl rfl HAP.out ?_))
    exact HQ.out HP.out
set_option maxRecDepth 1000000 in
set_option maxHeartbeats 16000000 in
theorem bo_ret1:BoR (fun c i=>i.kind=13∧0≤c.dst∧c.dst≤5000):=by
  intro g C L cap c R N w wr ab k i V out hg hL hN hR hL12 hN4 hlt hi hlb hlo hT hC hP
  intros
  rename_i Q hQ
  conv=>arg 2; whnf
  have HQ:=Lib.hid hQ
  have hokI:=hg.ok.ok _ (List.mem_of_getElem? hi)
  have hno8:=hg.calls _ (List.mem_of_getElem? hi)
  rw [hg.fr,hN,hL] at hokI
  have HG:=Lib.hid hg
  have HL:=Lib.hid hL
  have HN:=Lib.hid hN
  have HI:=Lib.hid hi
  have HLB:=Lib.hid hlb
  have HLO:=Lib.hid hlo
  have HPL:=Lib.hid (fun k W=>Plain_any k W)
  have HOK:=Lib.hid hokI
  have HN8:=Lib.hid hno8
  obtain ⟨b2,o2,hCA,hbl,hcs⟩:=hC k i hi
  subst hCA
  obtain ⟨x0,x1,x2,x3,x4,x5,x6,x7,x8,x9,x10,x11,x12,x13,x14⟩:=RdI.load hcs
  have k16:=heap_alloc_new wr i.obj
  have k17:=heap_alloc_new (wr.alloc i.obj) i.obj
  rw [show (wr.alloc i.obj).heap.size=wr.heap.size + 1 by simp] at k17
  have k16':=alloc_keeps k16 i.obj
  have hT2:=(hT.later (Below.one wr i.obj)).later (Below.one _ i.obj)
  have hbw2:=(Below.one wr i.obj).alloc (by simp) i.obj
  obtain ⟨VB,vb,hVf⟩:=hT.s.own.form
  obtain ⟨M,hM⟩:∃ M,out.length=M:=⟨_,rfl⟩
  rw [hM] at hVf hlb
  have HM:=Lib.hid hM
  subst hVf
  have HT0:=Lib.hid hT
  obtain ⟨kd,op,dst,a,b',n,text,r0,r1,r2,r3,r4,r5,to_,els⟩:=i
  simp only at hP
  have HKP:=Lib.hid hP
  clear hP
  simp only [Ins.obj] at x0 x1 x2 x3 x4 x5 x6 x7 x8 x9 x10 x11 x12 x13 x14 k16 k16' k17 hT2 hbw2
  have HT2:=Lib.hid hT2
  have K16:=Lib.hid k16
  have K16':=Lib.hid k16'
  have K17:=Lib.hid k17
  have HBW2:=Lib.hid hbw2
  clear hQ hg hL hN hi hlb hlo hM hokI hno8 hC hcs hT hT2 k16 k16' k17 hbw2
  go_upto_region 26 with fail
  clear x0 x1 x2 x3 x4 x5 x6 x7 x8 x9 x10 x11 x12 x13 x14 hbl
  go_upto_region 27 with (show wpList Try.prog _ _ (⟨some 83,_,_,_,_,_⟩::_) _ _; refine wpList_load_row rfl 32 (.tmp 16) rfl wr.heap.size rfl 32 _ (0,0) _ K16.out vIns rfl sIns ?_)
  obtain ⟨w2,hw2⟩:∃ w2,(wr.alloc (.cells #[.int .i64 kd,.int .i64 op,.int .i64 dst,.int .i64 a,.int .i64 b',.int .i64 n,.string text,.int .i64 r0,.int .i64 r1,.int .i64 r2,.int .i64 r3,.int .i64 r4,.int .i64 r5,.int .i64 to_,.int .i64 els] 32)).alloc (.cells #[.int .i64 kd,.int .i64 op,.int .i64 dst,.int .i64 a,.int .i64 b',.int .i64 n,.string text,.int .i64 r0,.int .i64 r1,.int .i64 r2,.int .i64 r3,.int .i64 r4,.int .i64 r5,.int .i64 to_,.int .i64 els] 32)=w2:=⟨_,rfl⟩
  rw [hw2] at HT2 K16' K17 HBW2 ⊢
  clear hw2 K16
  have hP:=HKP.out
  clear HKP
  have k0:=cell_of_heap K16'.out 0 (.int .i64 kd) rfl
  obtain ⟨h13,hd0,hd5⟩:=hP
  subst h13
  have q1:decide (c.dst ≥ 0)=true:=by simp; exact hd0
  have q2:decide (0≤c.dst)=true:=by simp; exact hd0
  have hua:=HOK.out.uses a (by simp [Ins.uses,kA])
  obtain ⟨va,hva⟩:∃ va,R + a=va:=⟨_,rfl⟩
  obtain ⟨cd,hcd⟩:∃ cd,c.dst=cd:=⟨_,rfl⟩
  have HON:Hid (oneB g c R ⟨13,op,dst,a,b',n,text,r0,r1,r2,r3,r4,r5,to_,els⟩=[cpI cd va]++[jmpI (atL g c.dst L:Int)]):=Lib.hid (by
    unfold oneB
    rw [if_pos rfl,if_pos hd0,HL.out,hcd]
    simp [hva])
  have hrg:=fun (W:World) (h:W.cell? ⟨w.heap.size + 1 + 1,0,none⟩=some (.int .i64 R))=>inbody1_any h ⟨hR.1,by omega⟩ a ⟨by omega,by omega⟩
  rw [hva] at hrg
  have HRG:=Lib.hid hrg
  have d2:=cell_of_heap HT2.out.s.cb 2 (.int .i64 c.dst) rfl
  rw [hcd] at d2 q1 q2
  have HCD:=Lib.hid hcd
  have hl17:=(Array.getElem?_eq_some_iff.1 K17.out).1
  have hou:1≤M:=by have:=HLO.out; have:=HM.out; omega
  clear hd0 hd5 hua hva hrg hcd
  go_wp2_with fail
  refine (HPL.out 4 _).mono ?_
  rintro e w5 ⟨rfl,hb5⟩
  dsimp only
  have hz5:=heap_alloc_new w5 (.cells #[.int .i64 0,.int .i64 0,.int .i64 0,.int .i64 0,.int .i64 0,.int .i64 0,.string ⟨#[]⟩,.int .i64 0,.int .i64 0,.int .i64 0,.int .i64 0,.int .i64 0,.int .i64 0,.int .i64 0,.int .i64 0] 32)
  have HB6:=Lib.hid ((HBW2.out.trans (hb5.mono HBW2.out.size)).alloc (Nat.le_trans HBW2.out.size hb5.size) (.cells #[.int .i64 0,.int .i64 0,.int .i64 0,.int .i64 0,.int .i64 0,.int .i64 0,.string ⟨#[]⟩,.int .i64 0,.int .i64 0,.int .i64 0,.int .i64 0,.int .i64 0,.int .i64 0,.int .i64 0,.int .i64 0] 32))
  have HB26:=Lib.hid (hb5.alloc hb5.size (.cells #[.int .i64 0,.int .i64 0,.int .i64 0,.int .i64 0,.int .i64 0,.int .i64 0,.string ⟨#[]⟩,.int .i64 0,.int .i64 0,.int .i64 0,.int .i64 0,.int .i64 0,.int .i64 0,.int .i64 0,.int .i64 0] 32))
  have hs5:wr.heap.size + 2≤w5.heap.size:=Nat.le_trans (by omega) hb5.size
  have hs25:=hb5.size
  have HZ5:=Lib.hid hz5
  clear k0 hb5 d2 q1 q2 hz5
  go_upto_region 32 with (show wpList Try.prog _ _ (⟨none,.store _ (.tmp 18) _,_,_,_,_⟩::_) _ _; refine wpList_store_row rfl 32 (.tmp 18) (.tmp 94) rfl w5.heap.size _ rfl rfl 32 _ HZ5.out sIns rfl (by simp [Value.oneCell']) ?_)
  have h6:=setRow_heap _ _ _ #[.int .i64 4,.int .i64 0,.int .i64 (-1),.int .i64 0,.int .i64 0,.int .i64 0,.string ⟨#[]⟩,.int .i64 0,.int .i64 0,.int .i64 0,.int .i64 0,.int .i64 0,.int .i64 0,.int .i64 0,.int .i64 (-1)] _ _ HZ5.out
  have hb6:=below_setRow (g:=w5.heap.size) HB6.out (by omega) #[.int .i64 4,.int .i64 0,.int .i64 (-1),.int .i64 0,.int .i64 0,.int .i64 0,.string ⟨#[]⟩,.int .i64 0,.int .i64 0,.int .i64 0,.int .i64 0,.int .i64 0,.int .i64 0,.int .i64 0,.int .i64 (-1)]
  have hb26:=below_setRow (g:=w5.heap.size) HB26.out hs25 #[.int .i64 4,.int .i64 0,.int .i64 (-1),.int .i64 0,.int .i64 0,.int .i64 0,.string ⟨#[]⟩,.int .i64 0,.int .i64 0,.int .i64 0,.int .i64 0,.int .i64 0,.int .i64 0,.int .i64 0,.int .i64 (-1)]
  obtain ⟨w6,hw6⟩:∃ w6,(w5.alloc (.cells #[.int .i64 0,.int .i64 0,.int .i64 0,.int .i64 0,.int .i64 0,.int .i64 0,.string ⟨#[]⟩,.int .i64 0,.int .i64 0,.int .i64 0,.int .i64 0,.int .i64 0,.int .i64 0,.int .i64 0,.int .i64 0] 32)).setRow w5.heap.size #[.int .i64 4,.int .i64 0,.int .i64 (-1),.int .i64 0,.int .i64 0,.int .i64 0,.string ⟨#[]⟩,.int .i64 0,.int .i64 0,.int .i64 0,.int .i64 0,.int .i64 0,.int .i64 0,.int .i64 0,.int .i64 (-1)]=w6:=⟨_,rfl⟩
  rw [hw6] at h6 hb6 hb26 ⊢
  obtain ⟨b18,hb18⟩:∃ b18,w5.heap.size=b18:=⟨_,rfl⟩
  rw [hb18] at h6 hs5 ⊢
  have h16:=(hb26.block _ (Array.getElem?_eq_some_iff.1 K16'.out).1).trans K16'.out
  have h17:=(hb26.block _ hl17).trans K17.out
  have hT7:=HT0.out.later hb6
  have d2:=cell_of_heap hT7.s.cb 2 (.int .i64 c.dst) rfl
  rw [HCD.out] at d2
  have cB:=cell_of_heap hT7.s.bb 0 (.int .i64 R) rfl
  have k3:=cell_of_heap h16 3 (.int .i64 a) rfl
  have H6:=Lib.hid h6
  have H17:=Lib.hid h17
  have HBB6:=Lib.hid hb6
  clear hw6 HZ5 HB6 HB26 hb18 hs25 h6 hb6 hb26 h16 h17 hT7 hl17
  have hab:=Pre.lt HT0.out.t
  have hsw:=HT0.out.s.s
  have BOX:=H6
  have hl16:=(Array.getElem?_eq_some_iff.1 K16'.out).1
  (try go_frame)
  obtain ⟨VALS,hVALS⟩:∃ VALS:List Value,VALS=[.pointer (some ⟨w.heap.size + 1,2,none⟩),.int .i64 cd,.func (.func 91) #[] #[.pointer (some ⟨w.heap.size + 1 + 1,0,none⟩)],.pointer (some ⟨wr.heap.size,3,none⟩),.int .i64 a,.int .i64 va,.pointer (some ⟨b18,2,none⟩),undef,.pointer (some ⟨b18,3,none⟩)]:=⟨_,rfl⟩
  refine wp_region_grown2 9 (IaW w6 (b18) VALS (fun s=>#[.int .i64 4,.int .i64 0,.int .i64 (if (s 7).isSome=true then cd else -1),.int .i64 0,.int .i64 0,.int .i64 0,.string ⟨#[]⟩,.int .i64 0,.int .i64 0,.int .i64 0,.int .i64 0,.int .i64 0,.int .i64 0,.int .i64 0,.int .i64 (-1)])) (by kernel_rfl) (by kernel_rfl) ?_ ?_ ?_
  · exact ⟨rfl,rfl,rfl,rfl,fun _ _=>rfl,BOX.out,fun j v h=>by cases h⟩
  · intro i o s wq hi ho hI hsi hdep
    rw [hVALS] at hI ⊢
    rcases (by omega:i=0∨i=1∨i=2∨i=3∨i=4∨i=5∨i=6∨i=7∨i=8) with rfl | rfl | rfl | rfl | rfl | rfl | rfl | rfl | rfl
    all_goals (simp only [List.getElem?_cons_zero,List.getElem?_cons_succ] at ho; obtain rfl:=Option.some.inj ho)
    · exact Or.inl (Or.inl ⟨_,_,fldT (w.heap.size + 1) 2 2 (by kernel_rfl) (.tmp 4) rfl rfl,hI.step 0 _ rfl rfl⟩)
    · have e0:=hI.told (j:=0) rfl (hdep ⟨0,.data⟩ (by simp) rfl)
      exact Or.inl (Or.inl ⟨_,_,ldT (hI.cell (by omega) d2) (.tmp 95) rfl (evalT_told 0 (by kernel_rfl) e0),hI.step 1 _ rfl rfl⟩)
    · exact Or.inl (Or.inl ⟨_,_,runT_move (.tmp 8) rfl,hI.step 2 _ rfl rfl⟩)
    · exact Or.inl (Or.inl ⟨_,_,fldT (wr.heap.size) 3 3 (by kernel_rfl) (.tmp 16) rfl rfl,hI.step 3 _ rfl rfl⟩)
    · have e3:=hI.told (j:=3) rfl (hdep ⟨3,.data⟩ (by simp) rfl)
      exact Or.inl (Or.inl ⟨_,_,ldT (hI.cell (by omega) k3) (.tmp 98) rfl (evalT_told 3 (by kernel_rfl) e3),hI.step 4 _ rfl rfl⟩)
    · have e2:=hI.told (j:=2) rfl (hdep ⟨2,.data⟩ (by simp) rfl)
      have e4:=hI.told (j:=4) rfl (hdep ⟨4,.data⟩ (by simp) rfl)
      refine Or.inl (Or.inr ⟨91,#[.int .i64 a,.pointer (some ⟨w.heap.size + 1 + 1,0,none⟩)],clT 91 #[.pointer (some ⟨w.heap.size + 1 + 1,0,none⟩)] (.tmp 97) _ _ rfl (evalT_told 2 (by kernel_rfl) e2) #[.int .i64 a] ?_ Try.func91 (by kernel_rfl) rfl,?_⟩)
      · simp only [List.map_toArray,List.map_cons,List.map_nil]
        rw [evalT_told 4 (by kernel_rfl) e4]
      · exact (HRG.out _ (hI.cell (by omega) cB)).mono fun e w' h=>⟨_,h.1,by rw [← h.2]; exact hI.step 5 _ rfl rfl⟩
    · exact Or.inl (Or.inl ⟨_,_,fldT (b18) 2 2 (by kernel_rfl) (.tmp 18) rfl rfl,hI.step 6 _ rfl rfl⟩)
    · have e6:=hI.told (j:=6) rfl (hdep ⟨6,.data⟩ (by simp) rfl)
      have e1:=hI.told (j:=1) rfl (hdep ⟨1,.data⟩ (by simp) rfl)
      exact Or.inr ⟨_,stT (cell_of_heap hI.box 2 _ rfl) (free_of_heap hI.box 2) (.tmp 101) (.tmp 96) rfl (evalT_told 6 (by kernel_rfl) e6) _ (evalT_told 1 (by kernel_rfl) e1),hI.store 7 2 _ rfl rfl⟩
    · exact Or.inl (Or.inl ⟨_,_,fldT (b18) 3 3 (by kernel_rfl) (.tmp 18) rfl rfl,hI.step 8 _ rfl rfl⟩)
  · intro s wq hI hsome
    rw [hVALS] at hI
    have e0:=hI.told (j:=0) rfl (hsome 0 (by omega))
    have e1:=hI.told (j:=1) rfl (hsome 1 (by omega))
    have e2:=hI.told (j:=2) rfl (hsome 2 (by omega))
    have e3:=hI.told (j:=3) rfl (hsome 3 (by omega))
    have e4:=hI.told (j:=4) rfl (hsome 4 (by omega))
    have e5:=hI.told (j:=5) rfl (hsome 5 (by omega))
    have e6:=hI.told (j:=6) rfl (hsome 6 (by omega))
    have e7:=hI.told (j:=7) rfl (hsome 7 (by omega))
    have e8:=hI.told (j:=8) rfl (hsome 8 (by omega))
    simp only [List.take_succ_cons,List.take_zero,List.drop_succ_cons,List.drop_zero,putsT,e0,e1,e2,e3,e4,e5,e6,e7,e8,Option.getD_some]
    go_frame
    have c1:=hI.box
    simp only [e7,Option.isSome_some,if_true] at c1
    have c17:=(hI.blk (wr.heap.size + 1) (by omega)).trans H17.out
    have yf:=free_of_heap c1
    have y3:=cell_of_heap c1 3 (.int .i64 0) rfl
    have hl6:=(Array.getElem?_eq_some_iff.1 c1).1
    have H8:=Lib.hid (heap_setCell (j:=3) c1 (.int .i64 va))
    have H178:=Lib.hid ((heap_setCell_other wq ⟨b18,3,none⟩ (wr.heap.size + 1) (.int .i64 va) (by simp only; omega)).trans c17)
    have HB8:=Lib.hid ((hI.below HBB6.out (by omega)).setCell (p:=⟨b18,3,none⟩) (by simp only; omega) (.int .i64 va))
    clear c1 c17 d2 cB k3 hI hsome e0 e1 e2 e3 e4 e5 e6 e7 e8
    go_upto_region 33 with fail
    obtain ⟨w8,hw8⟩:∃ w8,wq.setCell ⟨b18,3,none⟩ (.int .i64 va)=w8:=⟨_,rfl⟩
    rw [hw8] at H8 H178 HB8 ⊢
    have hT8:=HT0.out.later HB8.out
    obtain ⟨V1,W1,hap,hO,hg1,_⟩:=append_ins1 hT8.s.own (cpI cd va) (by have:=HLB.out; omega) (by have:=hT8.s.s; omega) 3
    have hP1:=hT8.push hO hg1
    have hneV:∀ q,(some q:Option Nat)=(Value.slice VB M vb).ownBlock→q < wr.heap.size:=fun q hq=>by
      obtain ⟨_,h2⟩:=HT0.out.s.own
      rcases h2 with ⟨e,_⟩ | ⟨g',cap',cur,e,_,hg',_⟩
      · rw [e] at hq; simp [Value.ownBlock] at hq
      · rw [e] at hq
        simp [Value.ownBlock] at hq
        subst hq
        exact (Array.getElem?_eq_some_iff.1 hg').1
    have h8l:=(Array.getElem?_eq_some_iff.1 H178.out).1
    have h17:=(hg1.block (wr.heap.size + 1) (Nat.lt_of_lt_of_le h8l (Below.one w8 (.cells (cpI cd va).l.toArray 32)).size) (fun e=>by have:=hneV _ e; omega)).trans (((Below.one w8 (.cells (cpI cd va).l.toArray 32)).block _ h8l).trans H178.out)
    have hne:=own_ne15 hO (by rw [List.length_append,HM.out]; simp; omega) h17 rfl
    obtain ⟨A1,c1,hV1⟩:=hP1.s.own.form
    obtain ⟨M1,hM1⟩:∃ M1,(out++[cpI cd va]).length=M1:=⟨_,rfl⟩
    rw [hM1] at hV1
    have HM1:Hid ((out++[cpI cd va]).length≤60000):=Lib.hid (by
      have:=HLB.out
      simp
      omega)
    subst hV1
    have kx:w8.heap[b18]? = some (.cells #[.int .i64 4,.int .i64 0,.int .i64 cd,.int .i64 va,.int .i64 0,.int .i64 0,.string ⟨#[]⟩,.int .i64 0,.int .i64 0,.int .i64 0,.int .i64 0,.int .i64 0,.int .i64 0,.int .i64 0,.int .i64 (-1)] 32 (0,0)):=by simpa using H8.out
    simp only [Ins.l,cpI] at hap
    have HAP1:=Lib.hid hap
    have KX1:=Lib.hid kx
    have HP1:=Lib.hid hP1
    have H17W:=Lib.hid h17
    have HNE:=Lib.hid hne
    clear hT8 hO hg1 hP1 hneV h8l h17 hne hap kx hw8 hM1 H8 H178 HB8 H6 BOX H17 HBB6 y3 yf hl6
    go_upto_region 34 with (first
      | (show wpList Try.prog _ _ (⟨some 104,_,_,_,_,_⟩::_) _ _; refine wpList_load_row rfl 32 (.tmp 18) rfl b18 rfl 32 _ (0,0) _ KX1.out vIns rfl sIns ?_)
      | (refine append_ran (o:=⟨some 106,_,_,_,_,_⟩) rfl (.tmp 103) (.tmp 105) rfl rfl rfl HAP1.out ?_))
    clear HAP1 KX1
    go_wp2_with fail
    refine (HPL.out 11 _).mono ?_
    rintro e w9 ⟨rfl,hb9⟩
    dsimp only
    have K9:=Lib.hid ((hb9.block _ (Array.getElem?_eq_some_iff.1 H17W.out).1).trans H17W.out)
    have HP9:=Lib.hid (HP1.out.later hb9)
    clear hb9
    go_upto_region 35 with (show wpList Try.prog _ _ (⟨none,.store _ (.tmp 17) _,_,_,_,_⟩::_) _ _; refine wpList_store_row rfl 32 (.tmp 17) (.tmp 107) rfl (wr.heap.size + 1) _ rfl rfl 32 _ K9.out sIns rfl (by simp [Value.oneCell']) ?_)
    have h10:=setRow_heap _ _ _ #[.int .i64 11,.int .i64 0,.int .i64 (-1),.int .i64 0,.int .i64 0,.int .i64 0,.string ⟨#[]⟩,.int .i64 0,.int .i64 0,.int .i64 0,.int .i64 0,.int .i64 0,.int .i64 0,.int .i64 0,.int .i64 (-1)] _ _ K9.out
    have hws:=HT0.out.s.s
    have hb10:=below_setRow (g:=wr.heap.size + 1) HP9.out.s.bw (by omega) #[.int .i64 11,.int .i64 0,.int .i64 (-1),.int .i64 0,.int .i64 0,.int .i64 0,.string ⟨#[]⟩,.int .i64 0,.int .i64 0,.int .i64 0,.int .i64 0,.int .i64 0,.int .i64 0,.int .i64 0,.int .i64 (-1)]
    have ho10:∀ r,r≠wr.heap.size + 1→(w9.setRow (wr.heap.size + 1) #[.int .i64 11,.int .i64 0,.int .i64 (-1),.int .i64 0,.int .i64 0,.int .i64 0,.string ⟨#[]⟩,.int .i64 0,.int .i64 0,.int .i64 0,.int .i64 0,.int .i64 0,.int .i64 0,.int .i64 0,.int .i64 (-1)]).heap[r]? = w9.heap[r]?:=fun r hr=>setRow_other w9 (wr.heap.size + 1) r _ hr
    have hz10:(w9.setRow (wr.heap.size + 1) #[.int .i64 11,.int .i64 0,.int .i64 (-1),.int .i64 0,.int .i64 0,.int .i64 0,.string ⟨#[]⟩,.int .i64 0,.int .i64 0,.int .i64 0,.int .i64 0,.int .i64 0,.int .i64 0,.int .i64 0,.int .i64 (-1)]).heap.size=w9.heap.size:=by simp [World.setRow]
    obtain ⟨w10,hw10⟩:∃ w10,w9.setRow (wr.heap.size + 1) #[.int .i64 11,.int .i64 0,.int .i64 (-1),.int .i64 0,.int .i64 0,.int .i64 0,.string ⟨#[]⟩,.int .i64 0,.int .i64 0,.int .i64 0,.int .i64 0,.int .i64 0,.int .i64 0,.int .i64 0,.int .i64 (-1)]=w10:=⟨_,rfl⟩
    rw [hw10] at h10 hb10 ho10 hz10 ⊢
    have y13:=cell_of_heap h10 13 (.int .i64 0) rfl
    have yf:=free_of_heap h10
    have hl6:=(Array.getElem?_eq_some_iff.1 h10).1
    have h11:=heap_setCell (j:=13) h10 (.int .i64 (atL g c.dst L:Int))
    have hT6:=HP9.out.aside (w':=w10.setCell ⟨wr.heap.size + 1,13,none⟩ (.int .i64 (atL g c.dst L:Int))) (q:=wr.heap.size + 1) (hb10.setCell (p:=⟨wr.heap.size + 1,13,none⟩) (by simp only; omega) (.int .i64 (atL g c.dst L:Int))) (by simp [hz10]) (by omega) (fun e=>by have:=Pre.lt HT0.out.t; omega) HNE.out (fun r _ hr=>(heap_setCell_other w10 ⟨wr.heap.size + 1,13,none⟩ r _ hr).trans (ho10 r hr))
    have HT6:=Lib.hid hT6
    have H11:=Lib.hid h11
    clear h10 hb10 ho10 hz10 hw10 h11 hT6 HP9 HP1 K9 H17W hws
    go_upto_region 40 with fail
    obtain ⟨wx,hwx⟩:∃ wx,w10.setCell ⟨wr.heap.size + 1,13,none⟩ (.int .i64 (atL g c.dst L:Int))=wx:=⟨_,rfl⟩
    rw [hwx] at H11 HT6 ⊢
    have hT6:=HT6.out
    have KX:Hid (wx.heap[wr.heap.size + 1]? = some (.cells #[.int .i64 11,.int .i64 0,.int .i64 (-1),.int .i64 0,.int .i64 0,.int .i64 0,.string ⟨#[]⟩,.int .i64 0,.int .i64 0,.int .i64 0,.int .i64 0,.int .i64 0,.int .i64 0,.int .i64 (atL g c.dst L:Int),.int .i64 (-1)] 32 (0,0))):=Lib.hid (by simpa using H11.out)
    obtain ⟨V',W',hap,hO,hg,_⟩:=append_ins1 hT6.s.own (jmpI (atL g c.dst L:Int)) (by have:=HM1.out; omega) (by have:=hT6.s.s; omega) 3
    have hP:=hT6.push hO hg
    rw [List.append_assoc,← HON.out] at hP
    have HP:=Lib.hid hP
    simp only [Ins.l,jmpI] at hap
    have HAP:=Lib.hid hap
    clear hT6 hO hg hP hap hwx HT0 HT2 HT6 K16' K17 HBW2 y13 yf hl6 H11
    go_wp2_with (first
      | (show wpList Try.prog _ _ (⟨some 138,_,_,_,_,_⟩::_) _ _; refine wpList_load_row rfl 32 (.tmp 17) rfl (wr.heap.size + 1) rfl 32 _ (0,0) _ KX.out vIns rfl sIns ?_)
      | (refine append_ran (o:=⟨some 140,_,_,_,_,_⟩) rfl (.tmp 137) (.tmp 139) rfl rfl rfl HAP.out ?_))
    exact HQ.out HP.out
set_option maxRecDepth 1000000 in
set_option maxHeartbeats 16000000 in
theorem body_any (g:Fn7) (hg:SmallF g) (C:Option Addr) (cap:Nat) (c:Ins) {R Fr:Int} {Lc:Nat} (hc:Ok c R Fr Lc) (h8:c.kind=8) (hn:g.ps=c.n) (hR:0≤R∧R≤4096) (w:World) (hC:RdI w C g.code) :
    Calls Try.prog 71 #[funcAgg g.nm g.ps g.R g.Fr C g.code.length cap,c.agg,.int .i64 R] w fun e w'=>(∃ nb cp,e = .returned (.slice (some ⟨nb,0,none⟩) (bodyL g c R).length cp)∧w.heap.size≤nb∧PreI w' nb (bodyL g c R))∧Below w.heap.size w w':=by
  have hps:=hg.ok.ps
  have hgR:=hg.ok.R
  obtain ⟨L,hL⟩:∃ L,g.code.length=L:=⟨_,rfl⟩
  obtain ⟨N,hN⟩:∃ N:Nat,g.R=N:=⟨g.R.toNat,by omega⟩
  have hL12:=hg.len
  have hL1:=hg.ok.len.1
  rw [hL] at hL12 hL1 ⊢
  rw [hN] at hgR ⊢
  have H0:=Lib.hid (bores w g C L cap c R)
  rw [hN] at H0
  have HC:=Lib.hid hC
  have HL:=Lib.hid hL
  have HN:=Lib.hid hN
  have HG:=Lib.hid hg
  have HOC:=Lib.hid hc
  have H8:=Lib.hid h8
  have HPS:=Lib.hid hn
  have hpl:=fun k W=>Plain_any k W
  have HPL:=Lib.hid hpl
  simp only [funcObj,funcAgg,Ins.obj,Ins.agg] at H0 ⊢
  clear hC hL hN hg hc h8 hn hpl
  go_enter Try.func71,Try.ntmps71
  have g2:=cell_of_heap H0.out.gb 2 (.int .i64 N) (by simp only [HN.out]; rfl)
  have hl0:=(Array.getElem?_eq_some_iff.1 H0.out.gb).1
  go_wp2_with fail
  go_loopw [7,22] (fun V ix wr=>∃ k:Nat,k≤N∧ix = .int .i64 k∧BoS w wr g C L cap c R V ((List.range k).map (preI1 g c R))) (fun _ ix _=>N - (intOf ix).toNat)
  case atStart=>exact ⟨0,by omega,rfl,H0.out⟩
  case round =>
    obtain ⟨k,hk,rfl,hS⟩:=hrel
    clear H0 g2 hl0
    by_cases hlt:k < N
    · obtain ⟨VA,vc,hVf⟩:=hS.own.form
      rw [List.length_map,List.length_range] at hVf
      have hS1':Hid ((List.range (k + 1)).map (preI1 g c R)=(List.range k).map (preI1 g c R)++[preI1 g c R k]):=Lib.hid (by rw [List.range_succ,List.map_append]; rfl)
      have HS:=Lib.hid hS
      clear hS
      go_wp2_with fail
      refine (HPL.out 1 _).mono ?_
      rintro e w1 ⟨rfl,hb1⟩
      dsimp only
      have HB1:=Lib.hid hb1
      have hS1:=HS.out.later hb1
      have HS1:=Lib.hid hS1
      have p1:=cell_of_heap hS1.gb 1 (.int .i64 g.ps) rfl
      have b1:=cell_of_heap hS1.bb 0 (.int .i64 R) rfl
      have hl0:=(Array.getElem?_eq_some_iff.1 hS1.gb).1
      have hl1:=(Array.getElem?_eq_some_iff.1 hS1.cb).1
      have hl2:=(Array.getElem?_eq_some_iff.1 hS1.bb).1
      have hs1:=hb1.size
      clear hS1 hb1
      by_cases hps2:(k:Int) < g.ps
      · have q1:decide ((k:Int) < g.ps)=true:=by simp; exact hps2
        have h6:k < 6:=by omega
        have HP4:=Lib.hid hps2
        clear hps2
        go_wp2_with fail
        refine (HPL.out 4 _).mono ?_
        rintro e w2 ⟨rfl,hb2⟩
        dsimp only
        have hbx:=(hb2.block _ (Array.getElem?_eq_some_iff.1 (heap_alloc_new w1 (.cells #[.int .i64 1,.int .i64 0,.int .i64 (-1),.int .i64 0,.int .i64 0,.int .i64 0,.string ⟨#[]⟩,.int .i64 0,.int .i64 0,.int .i64 0,.int .i64 0,.int .i64 0,.int .i64 0,.int .i64 0,.int .i64 (-1)] 32 (0,0)))).1).trans (heap_alloc_new w1 (.cells #[.int .i64 1,.int .i64 0,.int .i64 (-1),.int .i64 0,.int .i64 0,.int .i64 0,.string ⟨#[]⟩,.int .i64 0,.int .i64 0,.int .i64 0,.int .i64 0,.int .i64 0,.int .i64 0,.int .i64 0,.int .i64 (-1)] 32 (0,0)))
        have hb12:Below wr.heap.size wr w2:=HB1.out.trans (((Below.one w1 (.cells #[.int .i64 1,.int .i64 0,.int .i64 (-1),.int .i64 0,.int .i64 0,.int .i64 0,.string ⟨#[]⟩,.int .i64 0,.int .i64 0,.int .i64 0,.int .i64 0,.int .i64 0,.int .i64 0,.int .i64 0,.int .i64 (-1)] 32 (0,0))).trans (hb2.mono (by simp))).mono hs1)
        have HB2:=Lib.hid hb12
        have HBX:=Lib.hid hbx
        clear hb2 hbx hb12 p1 b1 q1 hl0 hl1 hl2
        go_upto_region 9 with (first
          | (show wpList Try.prog _ _ (⟨none,.store _ (.tmp 10) _,_,_,_,_⟩::_) _ _; refine wpList_store_row rfl 32 (.tmp 10) (.tmp 30) rfl w1.heap.size _ rfl rfl 32 _ HBX.out sIns rfl (by simp [Value.oneCell']) ?_))
        have h3:=setRow_heap _ _ _ #[.int .i64 4,.int .i64 0,.int .i64 (-1),.int .i64 0,.int .i64 0,.int .i64 0,.string ⟨#[]⟩,.int .i64 0,.int .i64 0,.int .i64 0,.int .i64 0,.int .i64 0,.int .i64 0,.int .i64 0,.int .i64 (-1)] _ _ HBX.out
        have hb3:=below_setRow (g:=w1.heap.size) HB2.out hs1 #[.int .i64 4,.int .i64 0,.int .i64 (-1),.int .i64 0,.int .i64 0,.int .i64 0,.string ⟨#[]⟩,.int .i64 0,.int .i64 0,.int .i64 0,.int .i64 0,.int .i64 0,.int .i64 0,.int .i64 0,.int .i64 (-1)]
        obtain ⟨w3,hw3⟩:∃ w3,w2.setRow w1.heap.size #[.int .i64 4,.int .i64 0,.int .i64 (-1),.int .i64 0,.int .i64 0,.int .i64 0,.string ⟨#[]⟩,.int .i64 0,.int .i64 0,.int .i64 0,.int .i64 0,.int .i64 0,.int .i64 0,.int .i64 0,.int .i64 (-1)]=w3:=⟨_,rfl⟩
        rw [hw3] at h3 hb3 ⊢
        have hS3:=HS.out.later hb3
        have ca:=argCell hS3.cb k h6
        have b1:=cell_of_heap hS3.bb 0 (.int .i64 R) rfl
        have hl2:=(Array.getElem?_eq_some_iff.1 hS3.bb).1
        have y3:=cell_of_heap h3 3 (.int .i64 0) rfl
        have y2:=cell_of_heap h3 2 (.int .i64 (-1)) rfl
        have yf:=free_of_heap h3
        have hl3:=(Array.getElem?_eq_some_iff.1 h3).1
        obtain ⟨av,hav⟩:∃ av,c.args.getD k 0=av:=⟨_,rfl⟩
        rw [hav] at ca
        have HAV:=Lib.hid hav
        have h4:=heap_setCell (j:=2) (heap_setCell (j:=3) h3 (.int .i64 av)) (.int .i64 (R + k))
        have hb4:=(hb3.setCell (p:=⟨w1.heap.size,3,none⟩) hs1 (.int .i64 av)).setCell (p:=⟨w1.heap.size,2,none⟩) hs1 (.int .i64 (R + k))
        have hcl:=inbody1_any (w:=w3.setCell ⟨w1.heap.size,3,none⟩ (.int .i64 av)) (bb:=w.heap.size + 1 + 1) (b:=R) (by rw [World.cell?_setCell_far _ _ _ _ (by simp only; have:=HS1.out.s; omega)]; exact b1) ⟨hR.1,by omega⟩ k ⟨by omega,by omega⟩
        have H4:=Lib.hid h4
        have HB4:=Lib.hid hb4
        have HCL:=Lib.hid hcl
        clear hw3 h3 hb3 hS3 h4 hb4 hcl hav
        go_wp2_with fail
        refine HCL.out.mono ?_
        rintro e w5 ⟨rfl,hw5⟩
        subst hw5
        dsimp only
        go_upto_region 11 with fail
        obtain ⟨wx,hwx⟩:∃ wx,(w3.setCell ⟨w1.heap.size,3,none⟩ (.int .i64 av)).setCell ⟨w1.heap.size,2,none⟩ (.int .i64 (R + k))=wx:=⟨_,rfl⟩
        rw [hwx] at H4 HB4 ⊢
        have hS4:=HS.out.later HB4.out
        obtain ⟨V',W',hap,hP⟩:=hS4.add (cpI (R + k) av) (by simp; omega)
        have hpe:preI1 g c R k=cpI (R + k) av:=by unfold preI1; rw [if_pos HP4.out,HAV.out]
        rw [← hpe,← hS1'.out] at hP
        have HP:=Lib.hid hP
        simp only [Ins.l,cpI] at hap
        have kx:wx.heap[w1.heap.size]? = some (.cells #[.int .i64 4,.int .i64 0,.int .i64 (R + (k:Int)),.int .i64 av,.int .i64 0,.int .i64 0,.string ⟨#[]⟩,.int .i64 0,.int .i64 0,.int .i64 0,.int .i64 0,.int .i64 0,.int .i64 0,.int .i64 0,.int .i64 (-1)] 32 (0,0)):=by simpa using H4.out
        have HAP:=Lib.hid hap
        have KX:=Lib.hid kx
        clear hS4 hP hap kx hwx b1 hl2 y2 y3 yf ca hl3 hpe HS HS1 H4 HB2 HBX HCL
        subst hVf
        go_wp2_with (first
          | (show wpList Try.prog _ _ (⟨some 41,_,_,_,_,_⟩::_) _ _; refine wpList_load_row rfl 32 (.tmp 10) rfl w1.heap.size rfl 32 _ (0,0) _ KX.out vIns rfl sIns ?_)
          | (refine append_ran (o:=⟨some 43,_,_,_,_,_⟩) rfl (.tmp 40) (.tmp 42) rfl rfl rfl HAP.out ?_))
        exact ⟨⟨k + 1,by omega,by go_num,HP.out⟩,by simp [intOf]; omega⟩
      · have q1:decide ((k:Int) < g.ps)=false:=by simp; omega
        have hcl:=inbody1_any (w:=w1.alloc (.cells #[.int .i64 1,.int .i64 0,.int .i64 (-1),.int .i64 0,.int .i64 0,.int .i64 0,.string ⟨#[]⟩,.int .i64 0,.int .i64 0,.int .i64 0,.int .i64 0,.int .i64 0,.int .i64 0,.int .i64 0,.int .i64 (-1)] 32 (0,0))) (bb:=w.heap.size + 1 + 1) (b:=R) ((Below.cell (Below.one w1 _) (p:=⟨w.heap.size + 1 + 1,0,none⟩) hl2).trans b1) ⟨hR.1,by omega⟩ k ⟨by omega,by omega⟩
        have hpe:Hid (preI1 g c R k=k0I (R + k)):=Lib.hid (by unfold preI1; rw [if_neg hps2])
        have HCL:=Lib.hid hcl
        clear hps2 hcl
        go_wp2_with fail
        refine HCL.out.mono ?_
        rintro e w5 ⟨rfl,hw5⟩
        subst hw5
        dsimp only
        go_upto_region 11 with fail
        have hS2:=HS1.out.later (Below.one w1 (k0I (R + k)).obj)
        obtain ⟨V',W',hap,hP⟩:=hS2.add (k0I (R + k)) (by simp; omega)
        rw [← hpe.out,← hS1'.out] at hP
        have HP:=Lib.hid hP
        simp only [Ins.obj,Ins.l,k0I] at hap
        obtain ⟨wx,hwx⟩:∃ wx,w1.alloc (.cells #[.int .i64 1,.int .i64 0,.int .i64 (R + (k:Int)),.int .i64 0,.int .i64 0,.int .i64 0,.string ⟨#[]⟩,.int .i64 0,.int .i64 0,.int .i64 0,.int .i64 0,.int .i64 0,.int .i64 0,.int .i64 0,.int .i64 (-1)] 32)=wx:=⟨_,rfl⟩
        have kx:=heap_alloc_new w1 (.cells #[.int .i64 1,.int .i64 0,.int .i64 (R + (k:Int)),.int .i64 0,.int .i64 0,.int .i64 0,.string ⟨#[]⟩,.int .i64 0,.int .i64 0,.int .i64 0,.int .i64 0,.int .i64 0,.int .i64 0,.int .i64 0,.int .i64 (-1)] 32)
        rw [hwx] at hap kx ⊢
        have HAP:=Lib.hid hap
        have KX:=Lib.hid kx
        clear hS2 hP hap kx hwx p1 b1 hl0 hl1 hl2 q1 HS HS1
        subst hVf
        go_wp2_with (first
          | (show wpList Try.prog _ _ (⟨some 41,_,_,_,_,_⟩::_) _ _; refine wpList_load_row rfl 32 (.tmp 10) rfl w1.heap.size rfl 32 _ (0,0) _ KX.out vIns rfl sIns ?_)
          | (refine append_ran (o:=⟨some 43,_,_,_,_,_⟩) rfl (.tmp 40) (.tmp 42) rfl rfl rfl HAP.out ?_))
        exact ⟨⟨k + 1,by omega,by go_num,HP.out⟩,by simp [intOf]; omega⟩
    · obtain rfl:N=k:=by omega
      have hpre:(List.range N).map (preI1 g c R)=preL g c R:=by unfold preL; rw [HN.out]; rfl
      rw [hpre] at hS
      have HS:=Lib.hid hS
      have hmk:=make_ints L (by omega) wr
      have g4:=cell_of_heap hS.gb 4 (.slice C L cap) rfl
      have hl0:=(Array.getElem?_eq_some_iff.1 hS.gb).1
      have hlen:(preL g c R).length=N:=by rw [← hpre]; simp
      obtain ⟨VA,vc,hVf⟩:=hS.own.form
      rw [hlen] at hVf
      have hpm:=made_pre (g:=g1) (d:=1) (t:=3) wr #[.int .i64 0] L (.int .i64 0) rfl (fun k hk=>by
        obtain rfl:k=0:=by omega
        rfl)
      rw [Nat.mul_one,← atK_zero g c.dst L] at hpm
      have hT:BoT w (wr.alloc (.cells (madeCells #[.int .i64 0] L) 3)) g C L cap c R u7 (preL g c R) wr.heap.size 0:=⟨hS.later (Below.one _ _),hpm,by have:=hS.s; omega,fun q hq=>by
        obtain ⟨_,h2⟩:=hS.own
        rcases h2 with ⟨rfl,_⟩ | ⟨g',cap',cur,rfl,_,hg',_⟩
        · cases hq
        · simp [Value.ownBlock] at hq
          have:=(Array.getElem?_eq_some_iff.1 hg').1
          omega⟩
      have HT:=Lib.hid hT
      have ha0:atL g c.dst 0=N:=by unfold atL; rw [HN.out]; simp
      have HA0:=Lib.hid ha0
      have g4':=cell_of_heap (hT.s.gb) 4 (.slice C L cap) rfl
      obtain ⟨ab,hab⟩:∃ ab,wr.heap.size=ab:=⟨_,rfl⟩
      rw [hab] at HT
      clear hpm hS hT hpre ha0 HS
      subst hVf
      go_wp2_with fail
      obtain ⟨w2,hw2⟩:∃ w2,wr.alloc (.cells (madeCells #[.int .i64 0] L) 3)=w2:=⟨_,rfl⟩
      rw [hw2] at HT g4' ⊢
      clear hmk g4 hl0 hw2
      (try rw [hab])
      clear hab g4'
      go_loopw [12,54] (fun nv ix wq=>∃ k:Nat,k≤L∧ix = .int .i64 k∧nv = .int .i64 (atL g c.dst k:Int)∧BoT w wq g C L cap c R (.slice VA N vc) (preL g c R) ab k) (fun _ ix _=>L - (intOf ix).toNat)
      case atStart=>exact ⟨0,by omega,rfl,by rw [HA0.out],HT.out⟩
      case round =>
        obtain ⟨k,hk,rfl,rfl,hT⟩:=hrel
        clear HT
        by_cases hlt:k < L
        · obtain ⟨i,hi⟩:∃ i,g.code[k]? = some i:=⟨_,List.getElem?_eq_getElem (by rw [HL.out]; exact hlt)⟩
          obtain ⟨b2,o2,hCA,hbl,hcs⟩:=(HC.out.below hT.s.bw) k i hi
          subst hCA
          obtain ⟨x0,x1,x2,x3,x4,x5,x6,x7,x8,x9,x10,x11,x12,x13,x14⟩:=RdI.load hcs
          have hsu:=atL_succ g c.dst hi
          have hle:atL g c.dst k≤5000:=by
            have h1:atL g c.dst k≤N + k * 2:=by
              unfold atL
              rw [HN.out]
              have:=(sum_le2 (widI c.dst) (g.code.take k) fun i=>by unfold widI; split <;> omega)
              have h3:(g.code.take k).length≤k:=by simp; omega
              have:(g.code.take k).length * 2≤k * 2:=Nat.mul_le_mul_right _ h3
              omega
            omega
          have hT1:=hT.mark hlt
          have hT2:=hT1.later (Below.one _ i.obj)
          have HT2:=Lib.hid hT2
          have d2:=cell_of_heap hT2.s.cb 2 (.int .i64 c.dst) rfl
          have ta:wr.cell? ⟨ab,k,none⟩=some (.int .i64 0):=by
            have:=Pre1.cell hT.t (atK_get (g:=g) (d:=c.dst) (k:=k) hlt)
            rw [if_neg (Nat.lt_irrefl k)] at this
            exact this
          have tf:=Pre.free hT.t k
          have tl:=Pre.lt hT.t
          have hlc:=(Array.getElem?_eq_some_iff.1 hT.s.cb).1
          have hlo:=hT.lo
          have k0:=cell_of_heap (heap_alloc_new (wr.setCell ⟨ab,k,none⟩ (.int .i64 (atL g c.dst k:Int))) i.obj) 0 (.int .i64 i.kind) rfl
          rw [show (wr.setCell ⟨ab,k,none⟩ (.int .i64 (atL g c.dst k:Int))).heap.size=wr.heap.size by simp] at k0
          have HI:=Lib.hid hi
          obtain ⟨n,hn⟩:∃ n,atL g c.dst k=n:=⟨_,rfl⟩
          rw [hn] at hle
          have hw1:wrap64 ((n:Int) + 1)=(n:Int) + 1:=wrap_small (by omega) (by omega)
          have hwd:widI c.dst i=if i.kind=13∧0≤c.dst then 2 else 1:=rfl
          rw [hwd] at hsu
          rw [hn] at hsu HT2 d2 k0 ⊢
          have HN':=Lib.hid hn
          obtain ⟨kd,op,dst,a,b',n',text,r0,r1,r2,r3,r4,r5,to_,els⟩:=i
          simp only [Ins.obj] at x0 x1 x2 x3 x4 x5 x6 x7 x8 x9 x10 x11 x12 x13 x14 HT2 d2 k0 hsu
          clear hi hcs hT hT1 hT2 hwd hn
          have HSU:=Lib.hid hsu
          have HD2:=Lib.hid d2
          have HK0:=Lib.hid k0
          clear hsu hlen d2 k0
          have HW1:=Lib.hid hw1
          clear hw1
          go_upto_region 19 with fail
          obtain ⟨wz,hwz⟩:∃ wz,(wr.setCell ⟨ab,k,none⟩ (.int .i64 (n:Int))).alloc (.cells #[.int .i64 kd,.int .i64 op,.int .i64 dst,.int .i64 a,.int .i64 b',.int .i64 n',.string text,.int .i64 r0,.int .i64 r1,.int .i64 r2,.int .i64 r3,.int .i64 r4,.int .i64 r5,.int .i64 to_,.int .i64 els] 32)=wz:=⟨_,rfl⟩
          have d2:=HD2.out
          have k0:=HK0.out
          rw [hwz] at HT2 d2 k0 ⊢
          clear x0 x1 x2 x3 x4 x5 x6 x7 x8 x9 x10 x11 x12 x13 x14 ta tf tl hlc hlo hbl hwz HD2 HK0
          have hw1:=HW1.out
          go_upto_region 20 with fail
          have hsu:=HSU.out
          have hw2:wrap64 ((n:Int) + 1 + 1)=(n:Int) + 1 + 1:=wrap_small (by omega) (by omega)
          by_cases h13:kd=13
          · subst h13
            by_cases hd0:0≤c.dst
            · have q1:decide (c.dst ≥ 0)=true:=by simp; exact hd0
              have q2:decide (0≤c.dst)=true:=by simp; exact hd0
              have hsu2:Hid (((atL g c.dst (k + 1):Nat):Int)=(n:Int) + 1 + 1):=Lib.hid (by rw [hsu]; simp [hd0]; omega)
              clear hsu hd0
              go_wp2_with fail
              exact ⟨⟨k + 1,by omega,by go_num,by rw [hsu2.out],HT2.out⟩,by simp [intOf]; omega⟩
            · have q1:decide (c.dst ≥ 0)=false:=by simp; omega
              have q2:decide (0≤c.dst)=false:=by simp; omega
              have hsu2:Hid (((atL g c.dst (k + 1):Nat):Int)=(n:Int) + 1):=Lib.hid (by rw [hsu]; simp [hd0])
              clear hsu hd0
              go_wp2_with fail
              exact ⟨⟨k + 1,by omega,by go_num,by rw [hsu2.out],HT2.out⟩,by simp [intOf]; omega⟩
          · have q1:(kd == 13)=false:=by simpa using h13
            have hsu2:Hid (((atL g c.dst (k + 1):Nat):Int)=(n:Int) + 1):=Lib.hid (by rw [hsu]; simp [h13])
            clear hsu
            go_wp2_with fail
            exact ⟨⟨k + 1,by omega,by go_num,by rw [hsu2.out],HT2.out⟩,by simp [intOf]; omega⟩
        · obtain rfl:L=k:=by omega
          have HT3:=Lib.hid hT
          have g4:=cell_of_heap hT.s.gb 4 (.slice C L cap) rfl
          have hl0:=(Array.getElem?_eq_some_iff.1 hT.s.gb).1
          clear hT
          go_wp2_with fail
          clear g4 hl0
          obtain ⟨w3,hw3⟩:∃ w3,wr=w3:=⟨_,rfl⟩
          subst hw3
          go_loopw [7,79] (fun V ix wq=>∃ k:Nat,k≤L∧ix = .int .i64 k∧BoT w wq g C L cap c R V (preL g c R++(g.code.take k).flatMap (oneB g c R)) ab L) (fun _ ix _=>L - (intOf ix).toNat)
          case atStart=>exact ⟨0,by omega,rfl,by simpa using HT3.out⟩
          case round =>
            obtain ⟨k,hk,rfl,hT⟩:=hrel
            clear HT3
            by_cases hlt:k < L
            · obtain ⟨i,hi⟩:∃ i,g.code[k]? = some i:=⟨_,List.getElem?_eq_getElem (by rw [HL.out]; exact hlt)⟩
              have hlenB:(preL g c R++(g.code.take k).flatMap (oneB g c R)).length≤50000:=by
                rw [List.length_append,hlen,flat_len _ _ (oneB_len g c R)]
                have h1:=sum_le2 (widI c.dst) (g.code.take k) fun i=>by unfold widI; split <;> omega
                have h2:(g.code.take k).length≤k:=by simp; omega
                have h3:(g.code.take k).length * 2≤k * 2:=Nat.mul_le_mul_right _ h2
                omega
              have hlo:N≤(preL g c R++(g.code.take k).flatMap (oneB g c R)).length:=by rw [List.length_append,hlen]; omega
              have hRC:=HC.out.below hT.s.bw
              have HTK:Hid ((g.code.take (k + 1)).flatMap (oneB g c R)=(g.code.take k).flatMap (oneB g c R)++oneB g c R i):=Lib.hid (by rw [List.take_add_one,hi]; simp)
              have hcd:c.dst≤5000:=by
                have hd:=HOC.out.dst (by rw [H8.out]; rfl)
                omega
              have HI:=Lib.hid hi
              have HLB:=Lib.hid hlenB
              have HLO:=Lib.hid hlo
              have HRC:=Lib.hid hRC
              have HT:=Lib.hid hT
              clear hi hlenB hlo hRC hT
              go_upto_block 5 with fail
              refine wp_block ?_
              have hcases:(i.kind=13∧¬ 0≤c.dst)∨(i.kind=13∧0≤c.dst∧c.dst≤5000)∨i.kind=11∨i.kind=12∨(i.kind≠13∧i.kind≠11∧i.kind≠12):=by omega
              rcases hcases with hk0 | hk0 | hk0 | hk0 | hk0
              · refine bo_ret0 g C L cap c R N w wr ab k i _ _ HG.out HL.out HN.out hR hL12 (by omega) hlt HI.out HLB.out HLO.out HT.out HRC.out hk0 _ ?_
                intros
                rename_i V' w' hS'
                rw [List.append_assoc,← HTK.out] at hS'
                have HS':=Lib.hid hS'
                clear hS' HT HRC HLB HLO
                (try simp only [Exit.inBlock,Exit.then])
                go_wp2
                first
                  | exact ⟨⟨k + 1,by omega,by go_num,HS'.out⟩,by simp [intOf]; omega⟩
                  | exact ⟨⟨_,_,_,_,_,⟨k + 1,by omega,by go_num,HS'.out⟩,rfl,rfl,rfl,rfl,rfl⟩,by simp [intOf]; omega⟩
                  | exact ⟨⟨_,_,_,_,_,_,_,_,_,_,_,_,_,_,_,_,_,_,_,_,_,_,_,_,_,_,_,_,_,_,_,_,_,_,_,_,_,_,_,_,_,_,_,_,_,_,_,_,_,_,_,_,_,_,_,_,_,_,_,_,_,_,_,_,_,_,_,⟨k + 1,by omega,by go_num,HS'.out⟩,rfl⟩,by simp [intOf]; omega⟩
              · refine bo_ret1 g C L cap c R N w wr ab k i _ _ HG.out HL.out HN.out hR hL12 (by omega) hlt HI.out HLB.out HLO.out HT.out HRC.out hk0 _ ?_
                intros
                rename_i V' w' hS'
                rw [List.append_assoc,← HTK.out] at hS'
                have HS':=Lib.hid hS'
                clear hS' HT HRC HLB HLO
                (try simp only [Exit.inBlock,Exit.then])
                go_wp2
                first
                  | exact ⟨⟨k + 1,by omega,by go_num,HS'.out⟩,by simp [intOf]; omega⟩
                  | exact ⟨⟨_,_,_,_,_,⟨k + 1,by omega,by go_num,HS'.out⟩,rfl,rfl,rfl,rfl,rfl⟩,by simp [intOf]; omega⟩
                  | exact ⟨⟨_,_,_,_,_,_,_,_,_,_,_,_,_,_,_,_,_,_,_,_,_,_,_,_,_,_,_,_,_,_,_,_,_,_,_,_,_,_,_,_,_,_,_,_,_,_,_,_,_,_,_,_,_,_,_,_,_,_,_,_,_,_,_,_,_,_,_,⟨k + 1,by omega,by go_num,HS'.out⟩,rfl⟩,by simp [intOf]; omega⟩
              · refine bo_jump g C L cap c R N w wr ab k i _ _ HG.out HL.out HN.out hR hL12 (by omega) hlt HI.out HLB.out HLO.out HT.out HRC.out hk0 _ ?_
                intros
                rename_i V' w' hS'
                rw [List.append_assoc,← HTK.out] at hS'
                have HS':=Lib.hid hS'
                clear hS' HT HRC HLB HLO
                (try simp only [Exit.inBlock,Exit.then])
                go_wp2
                first
                  | exact ⟨⟨k + 1,by omega,by go_num,HS'.out⟩,by simp [intOf]; omega⟩
                  | exact ⟨⟨_,_,_,_,_,⟨k + 1,by omega,by go_num,HS'.out⟩,rfl,rfl,rfl,rfl,rfl⟩,by simp [intOf]; omega⟩
                  | exact ⟨⟨_,_,_,_,_,_,_,_,_,_,_,_,_,_,_,_,_,_,_,_,_,_,_,_,_,_,_,_,_,_,_,_,_,_,_,_,_,_,_,_,_,_,_,_,_,_,_,_,_,_,_,_,_,_,_,_,_,_,_,_,_,_,_,_,_,_,_,⟨k + 1,by omega,by go_num,HS'.out⟩,rfl⟩,by simp [intOf]; omega⟩
              · refine bo_branch g C L cap c R N w wr ab k i _ _ HG.out HL.out HN.out hR hL12 (by omega) hlt HI.out HLB.out HLO.out HT.out HRC.out hk0 _ ?_
                intros
                rename_i V' w' hS'
                rw [List.append_assoc,← HTK.out] at hS'
                have HS':=Lib.hid hS'
                clear hS' HT HRC HLB HLO
                (try simp only [Exit.inBlock,Exit.then])
                go_wp2
                first
                  | exact ⟨⟨k + 1,by omega,by go_num,HS'.out⟩,by simp [intOf]; omega⟩
                  | exact ⟨⟨_,_,_,_,_,⟨k + 1,by omega,by go_num,HS'.out⟩,rfl,rfl,rfl,rfl,rfl⟩,by simp [intOf]; omega⟩
                  | exact ⟨⟨_,_,_,_,_,_,_,_,_,_,_,_,_,_,_,_,_,_,_,_,_,_,_,_,_,_,_,_,_,_,_,_,_,_,_,_,_,_,_,_,_,_,_,_,_,_,_,_,_,_,_,_,_,_,_,_,_,_,_,_,_,_,_,_,_,_,_,⟨k + 1,by omega,by go_num,HS'.out⟩,rfl⟩,by simp [intOf]; omega⟩
              · refine bo_moved g C L cap c R N w wr ab k i _ _ HG.out HL.out HN.out hR hL12 (by omega) hlt HI.out HLB.out HLO.out HT.out HRC.out hk0 _ ?_
                intros
                rename_i V' w' hS'
                rw [List.append_assoc,← HTK.out] at hS'
                have HS':=Lib.hid hS'
                clear hS' HT HRC HLB HLO
                (try simp only [Exit.inBlock,Exit.then])
                go_wp2
                first
                  | exact ⟨⟨k + 1,by omega,by go_num,HS'.out⟩,by simp [intOf]; omega⟩
                  | exact ⟨⟨_,_,_,_,_,⟨k + 1,by omega,by go_num,HS'.out⟩,rfl,rfl,rfl,rfl,rfl⟩,by simp [intOf]; omega⟩
                  | exact ⟨⟨_,_,_,_,_,_,_,_,_,_,_,_,_,_,_,_,_,_,_,_,_,_,_,_,_,_,_,_,_,_,_,_,_,_,_,_,_,_,_,_,_,_,_,_,_,_,_,_,_,_,_,_,_,_,_,_,_,_,_,_,_,_,_,_,_,_,_,⟨k + 1,by omega,by go_num,HS'.out⟩,rfl⟩,by simp [intOf]; omega⟩
            · obtain rfl:L=k:=by omega
              have hall:preL g c R++(g.code.take L).flatMap (oneB g c R)=bodyL g c R:=by
                unfold bodyL
                rw [← HL.out,List.take_length]
              rw [hall] at hT
              have hpos:0 < (bodyL g c R).length:=by
                rw [bodyL_len]
                have:=atL_lt g c.dst g.code.length 0 (by omega) (by rw [HL.out]; omega)
                rw [Nat.zero_add] at this
                omega
              obtain ⟨gb,cp,hVg,hgB,hPI⟩:=hT.s.own.pre hpos
              obtain ⟨M,hM⟩:∃ M,(bodyL g c R).length=M:=⟨_,rfl⟩
              rw [hM] at hVg
              have HM:=Lib.hid hM
              have HPI:=Lib.hid hPI
              have HBW:=Lib.hid hT.s.bw
              have HGB:=Lib.hid hgB
              subst hVg
              clear hT hPI hgB hall hpos hM
              go_wp2
              go_returns
              exact ⟨⟨gb,cp,by rw [HM.out]; rfl,by have:=HGB.out; omega,HPI.out⟩,HBW.out⟩
end Go.Proofs.Ytkcclefonmnpnaa

