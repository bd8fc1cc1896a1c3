import Derived.Deep.CutBlock
import Derived.Test.YtkcclefonmnpnaaIa
import Derived.Test.YtkcclefonmnpnaaZkb
import Derived.Test.YtkcclefonmnpnaaZh
import Derived.Test.YtkcclefonmnpnaaZq
namespace Go.Proofs.Ytkcclefonmnpnaa
open Go.RowKit Go.BigFrame
def outK (C:List Ins)(p:Nat)(l:List Ins):Nat→List Ins
  | 0=>[]
  | k + 1=>outK C p l k++(if k=p then l.map (upI p) else match C[k]? with | some i=>[shI p l.length i] | none=>[])
theorem outK_eq (C:List Ins) (p:Nat) (l:List Ins) (hp:p < C.length):∀ k,k≤C.length→outK C p l k=if k≤p then (C.take k).map (shI p l.length) else (C.take p).map (shI p l.length)++(l.map (upI p)++((C.take k).drop (p + 1)).map (shI p l.length))
  | 0,_=>by simp [outK]
  | k + 1,hk=>by
    have ih:=outK_eq C p l hp k (by omega)
    have hget:C[k]? = some (C[k]'(by omega)):=List.getElem?_eq_getElem (by omega)
    unfold outK
    rw [ih,hget]
    by_cases h1:k=p
    · subst h1
      rw [if_pos (Nat.le_refl _),if_pos rfl,if_neg (by omega)]
      simp
    · rw [if_neg h1]
      by_cases h2:k < p
      · rw [if_pos (by omega),if_pos (by omega),List.take_add_one,hget]
        simp only [Option.toList_some,List.map_append,List.map_cons,List.map_nil]
      · rw [if_neg (by omega),if_neg (by omega),List.take_add_one,hget]
        simp only [Option.toList_some,List.append_assoc]
        rw [List.drop_append_of_le_length (by simp; omega)]
        simp
theorem outK_all {C:List Ins}{p:Nat}{l:List Ins}(hp:p < C.length):outK C p l C.length=placeL C p l:=by
  rw [outK_eq C p l hp _ (Nat.le_refl _),if_neg (by omega),List.take_length]
  rfl
theorem outK_len (C:List Ins) (p:Nat) (l:List Ins):∀ k,(outK C p l k).length≤k + l.length
  | 0=>by simp [outK]
  | k + 1 => by
    have ih:=outK_len C p l k
    unfold outK
    by_cases h:k=p
    · subst h
      have e:∀ j,j≤k→(outK C k l j).length≤j:=fun j=>by
        induction j with
        | zero=>intro _; simp [outK]
        | succ j ihj =>
          intro hj
          unfold outK
          rw [if_neg (by omega),List.length_append]
          have:=ihj (by omega)
          split <;> simp <;> omega
      have:=e k (Nat.le_refl _)
      simp
      omega
    · rw [if_neg h,List.length_append]
      split <;> simp <;> omega
theorem inplace1_any {w:World}{ab lb:Nat}{p m:Nat}{lA:Option Addr}{cl:Nat}(h1:w.cell? ⟨ab,0,none⟩=some (.int .i64 p))(h2:w.cell? ⟨lb,0,none⟩=some (.slice lA m cl))(hm:m≤100000)(n:Int)(hn:0≤n∧n≤100000) :
    Calls Try.prog 93 #[.int .i64 n,.pointer (some ⟨ab,0,none⟩),.pointer (some ⟨lb,0,none⟩)] w fun e w'=>e = .returned (.int .i64 (shT p m n))∧w=w':=by
  unfold shT
  by_cases h:(p:Int) < n
  · have q1:decide (n > (p:Int))=true:=by simp; exact h
    have q2:decide ((p:Int) < n)=true:=by simp; exact h
    have w1:wrap64 (n + m)=n + m:=by unfold wrap64; omega
    have w2:wrap64 (n + m - 1)=n + m - 1:=by unfold wrap64; omega
    rw [if_pos h]
    go_enter Try.func93,Try.ntmps93
    go_wp2
    go_returns
    exact ⟨rfl,rfl⟩
  · have q1:decide (n > (p:Int))=false:=by simp; omega
    have q2:decide ((p:Int) < n)=false:=by simp; omega
    rw [if_neg h]
    go_enter Try.func93,Try.ntmps93
    go_wp2
    go_returns
    exact ⟨rfl,rfl⟩
structure PlS (w0 w:World)(f:Fn7)(C:Option Addr)(L cap p:Nat)(lA:Option Addr)(m cl:Nat)(V:Value)(out:List Ins):Prop where
  b:Below w0.heap.size w0 w
  s:w0.heap.size + 4≤w.heap.size
  fb:w.heap[w0.heap.size]? = some (funcObj f.nm f.ps f.R f.Fr C L cap)
  ab:w.heap[w0.heap.size + 1]? = some (.cells #[.int .i64 p] 3 (0,0))
  lb:w.heap[w0.heap.size + 1 + 1]? = some (.cells #[.slice lA m cl] 22 (0,0))
  rb:w.heap[w0.heap.size + 1 + 1 + 1]? = some (.cells #[.string ⟨#[]⟩,.int .i64 0,.int .i64 0,.int .i64 0,.slice none 0 0] 24 (0,0))
  own:OwnI w (w0.heap.size + 4) V out
theorem PlS.later {w0 w w':World}{f:Fn7}{C:Option Addr}{L cap p:Nat}{lA:Option Addr}{m cl:Nat}{V:Value}{out:List Ins}(h:PlS w0 w f C L cap p lA m cl V out)(hb:Below w.heap.size w w'):PlS w0 w' f C L cap p lA m cl V out :=
  have hs:=h.s
  ⟨h.b.trans (hb.mono (by omega)),Nat.le_trans h.s hb.size,(hb.block _ (by omega)).trans h.fb,(hb.block _ (by omega)).trans h.ab,(hb.block _ (by omega)).trans h.lb,(hb.block _ (by omega)).trans h.rb,h.own.keep fun g _ hg _=>hb.block g hg⟩
theorem PlS.push {w0 w w':World}{f:Fn7}{C:Option Addr}{L cap p:Nat}{lA:Option Addr}{m cl:Nat}{V V':Value}{out:List Ins}{x:Ins}(h:PlS w0 w f C L cap p lA m cl V out)(ho:OwnI w' (w0.heap.size + 4) V' (out++[x]))(hg:(w.alloc (.cells x.l.toArray 32)).grownBy w' V.ownBlock) :
    PlS w0 w' f C L cap p lA m cl V' (out++[x]):=by
  have hs:=h.s
  have hb:=Below.one w (.cells x.l.toArray 32)
  have hV:=h.own.base2
  have hsz:w.heap.size≤(w.alloc (.cells x.l.toArray 32)).heap.size:=hb.size
  have key:∀ q,q < w0.heap.size + 4→w'.heap[q]? = w.heap[q]?:=fun q hq=>(hg.block q (by omega) (fun e=>by have:=hV q e.symm; omega)).trans (hb.block q (by omega))
  refine ⟨Below.grown (h.b.trans (hb.mono (by omega))) hg (by omega) (fun k hk=>by have:=hV k hk; omega),Nat.le_trans (by omega) hg.size,(key _ (by omega)).trans h.fb,(key _ (by omega)).trans h.ab,(key _ (by omega)).trans h.lb,(key _ (by omega)).trans h.rb,ho⟩
theorem plres (w:World)(f:Fn7)(C:Option Addr)(L cap p:Nat)(lA:Option Addr)(m cl:Nat) :
    PlS w ((((w.alloc (funcObj f.nm f.ps f.R f.Fr C L cap)).alloc (.cells #[.int .i64 p] 3 (0,0))).alloc (.cells #[.slice lA m cl] 22 (0,0))).alloc (.cells #[.string ⟨#[]⟩,.int .i64 0,.int .i64 0,.int .i64 0,.slice none 0 0] 24 (0,0))) f C L cap p lA m cl (.slice none 0 0) []:=by
  have h0:=heap_alloc_new w (funcObj f.nm f.ps f.R f.Fr C L cap)
  have h1:=heap_alloc_new (w.alloc (funcObj f.nm f.ps f.R f.Fr C L cap)) (.cells #[.int .i64 p] 3 (0,0))
  have h2:=heap_alloc_new ((w.alloc (funcObj f.nm f.ps f.R f.Fr C L cap)).alloc (.cells #[.int .i64 p] 3 (0,0))) (.cells #[.slice lA m cl] 22 (0,0))
  have h3:=heap_alloc_new (((w.alloc (funcObj f.nm f.ps f.R f.Fr C L cap)).alloc (.cells #[.int .i64 p] 3 (0,0))).alloc (.cells #[.slice lA m cl] 22 (0,0))) (.cells #[.string ⟨#[]⟩,.int .i64 0,.int .i64 0,.int .i64 0,.slice none 0 0] 24 (0,0))
  have hsz:∀ (w:World) (o:Obj),(w.alloc o).heap.size=w.heap.size + 1:=fun _ _=>by simp
  simp only [hsz] at h1 h2 h3
  exact {
    b:=(((Below.one w _).alloc (by simp) _).alloc (by simp; omega) _).alloc (by simp; omega) _
    s:=by simp
    fb:=alloc_keeps (alloc_keeps (alloc_keeps h0 _) _) _
    ab:=alloc_keeps (alloc_keeps h1 _) _
    lb:=alloc_keeps h2 _
    rb:=h3
    own:=OwnI.nil _ _ }
theorem vFn:Try.prog.underlying 24=some (.struct (Try.prog.fieldsOf 24)):=by kernel_rfl
def BdI (l:List Ins):Prop:=∀ i ∈ l,(i.kind=11∨i.kind=12→0≤i.to_∧i.to_≤8192)∧(i.kind=12→0≤i.els∧i.els≤8192)
def loopsI:Code→List Code
  | .loop c=>[.loop c]
  | .seq a b=>loopsI a++loopsI b
  | .block _ c=>loopsI c
  | .scope c=>loopsI c
  | .cond _ a b=>loopsI a++loopsI b
  | _=>[]
def inLoopI:Code→Code
  | .loop c=>c
  | c=>c
def seqNI:Code→Nat→Code
  | .seq a _,0=>a
  | .seq _ b,n + 1=>seqNI b n
  | c,_=>c
def inBkI:Code→Code
  | .block _ c=>c
  | c=>c
noncomputable def plLoop1:Code:=((((Try.f72.body).map loopsI).getD [])[0]?).getD .skip
noncomputable def plB1:Code:=inBkI (seqNI (inLoopI plLoop1) 2)
noncomputable def plLoop2:Code:=((loopsI plB1)[0]?).getD .skip
noncomputable def plB3:Code:=inBkI (seqNI (inLoopI plLoop2) 2)
set_option maxRecDepth 1000000 in
set_option maxHeartbeats 16000000 in
theorem place_in1 (f:Fn7) (C:Option Addr) (L cap k m cl q:Nat) (l:List Ins) (lA:Option Addr) (w wq:World) (V:Value) (hld:RdI w lA l) (hm:l.length=m) (hm8:m≤8192) (hk:k < L) (hL8:L≤8192) (hb2:BdI l) (hol:(outK f.code k l k).length≤16384) (hqm:q < m)
    (hSq:PlS w wq f C L cap k lA m cl V (outK f.code k l k++(l.take q).map (upI k))) :
    ∀ ⦃x0 x1 x2 x9 x10 x11 x12 x13 x14 x18 x19 x20 x21 x22 x23 x24 x28 x29 x30 x31 x32 x33 x34 x35 x36 x37 x38 x39 x40 x41 x42 x43 x44 x45 x46 x47 x48 x49 x50 x51 x52 x53 x54 x55 x56 x57 x58 x59 x60 x61 x62 x63 x64 x65 x66 x67 x68 x69 x70 x71 x72 x73 x74 x75 x76 x77 x78 x79 x80 x81 x82 x83 x84 x85:Value⦄ (Q:Exit→Act→World→Prop),(∀ ⦃y12 y29 y30 y31 y32 y33 y34 y35 y36 y37 y38 y39 y40 y41 y42 y43 y44 y45 y46 y47 y48 y49 y50 y51 y52 y53 y54 y55 V':Value⦄ ⦃w':World⦄,PlS w w' f C L cap k lA m cl V' (outK f.code k l k++(l.take (q + 1)).map (upI k))→Q .normal ⟨(x0::x1::x2::.pointer (some ⟨w.heap.size,0,none⟩)::.pointer (some ⟨w.heap.size + 1,0,none⟩)::.pointer (some ⟨w.heap.size + 1 + 1,0,none⟩)::.pointer (some ⟨w.heap.size + 1 + 1 + 1,0,none⟩)::.func (.func 93) #[] #[.pointer (some ⟨w.heap.size + 1,0,none⟩),.pointer (some ⟨w.heap.size + 1 + 1,0,none⟩)]::V'::x9::x10::x11::y12::x13::x14::.slice C L cap::.int .i64 (L:Int)::.int .i64 (k:Int)::x18::x19::x20::x21::x22::x23::x24::.slice lA m cl::.int .i64 (m:Int)::.int .i64 (q:Int)::x28::y29::y30::y31::y32::y33::y34::y35::y36::y37::y38::y39::y40::y41::y42::y43::y44::y45::y46::y47::y48::y49::y50::y51::y52::y53::y54::y55::x56::x57::x58::x59::x60::x61::x62::x63::x64::x65::x66::x67::x68::x69::x70::x71::x72::x73::x74::x75::x76::x77::x78::x79::x80::x81::x82::x83::x84::x85::[]).toArray,[]⟩ w')→Code.wp Try.prog plB3 Q ⟨(x0::x1::x2::.pointer (some ⟨w.heap.size,0,none⟩)::.pointer (some ⟨w.heap.size + 1,0,none⟩)::.pointer (some ⟨w.heap.size + 1 + 1,0,none⟩)::.pointer (some ⟨w.heap.size + 1 + 1 + 1,0,none⟩)::.func (.func 93) #[] #[.pointer (some ⟨w.heap.size + 1,0,none⟩),.pointer (some ⟨w.heap.size + 1 + 1,0,none⟩)]::V::x9::x10::x11::x12::x13::x14::.slice C L cap::.int .i64 (L:Int)::.int .i64 (k:Int)::x18::x19::x20::x21::x22::x23::x24::.slice lA m cl::.int .i64 (m:Int)::.int .i64 (q:Int)::x28::x29::x30::x31::x32::x33::x34::x35::x36::x37::x38::x39::x40::x41::x42::x43::x44::x45::x46::x47::x48::x49::x50::x51::x52::x53::x54::x55::x56::x57::x58::x59::x60::x61::x62::x63::x64::x65::x66::x67::x68::x69::x70::x71::x72::x73::x74::x75::x76::x77::x78::x79::x80::x81::x82::x83::x84::x85::[]).toArray,[]⟩ wq:=by
  intros
  rename_i Q hQ
  conv=>arg 2; whnf
  have HQ:=Lib.hid hQ
  have HLD:=Lib.hid hld
  have HM:=Lib.hid hm
  have HB2:=Lib.hid hb2
  have HOL:=Lib.hid hol
  clear hQ hld hm hb2 hol
  obtain ⟨i,hi⟩:∃ i,l[q]? = some i:=⟨_,List.getElem?_eq_getElem (by rw [HM.out]; exact hqm)⟩
  obtain ⟨b2,o2,hlA,hbl,hcs⟩:=(HLD.out.below hSq.b) q i hi
  obtain ⟨x0,x1,x2,x3,x4,x5,x6,x7,x8,x9,x10,x11,x12,x13,x14⟩:=RdI.load hcs
  have a0:=cell_of_heap hSq.ab 0 (.int .i64 k) rfl
  have hlc:=(Array.getElem?_eq_some_iff.1 hSq.fb).1
  have hla:=(Array.getElem?_eq_some_iff.1 hSq.ab).1
  have hbd:=HB2.out i (List.mem_of_getElem? hi)
  obtain ⟨VA,vc,hVf⟩:=hSq.own.form
  have HSQ:=Lib.hid hSq
  have hlen:(outK f.code k l k++(l.take q).map (upI k)).length≤32768:=by
    have h1:=HOL.out
    simp
    omega
  have HTK:Hid ((l.take (q + 1)).map (upI k)=(l.take q).map (upI k)++[upI k i]):=Lib.hid (by rw [List.take_add_one,hi]; simp)
  have key:∀ (j:Ins),j=upI k i→∃ V' W',(Builtin.append_ #[22,22] 3 #[V,.slice (some ⟨(wq.alloc j.obj).heap.size,0,none⟩) 1 1]).run Try.prog ((wq.alloc j.obj).alloc (.cells j.l.toArray 32)) = .ok V' W'∧PlS w W' f C L cap k lA m cl V' (outK f.code k l k++(l.take (q + 1)).map (upI k)):=fun j hj=>by
    have h1:=HSQ.out.later (Below.one wq j.obj)
    obtain ⟨V',W',hap,hO,hg,_⟩:=append_ins1 h1.own j (by omega) (by have:=h1.s; omega) 3
    refine ⟨V',W',hap,?_⟩
    rw [HTK.out,← List.append_assoc,← hj]
    exact h1.push hO hg
  have KEY:=Lib.hid key
  have HOI:=Lib.hid hi
  clear hi hcs hSq key
  generalize outK f.code k l k++(l.take q).map (upI k)=ol at *
  obtain ⟨kd,op,dst,a,b',n,text,r0,r1,r2,r3,r4,r5,to_,els⟩:=i
  simp only at x0 x1 x2 x3 x4 x5 x6 x7 x8 x9 x10 x11 x12 x13 x14 hbd
  subst hlA
  by_cases h11:kd=11
  · subst h11
    have hto:=hbd.1 (Or.inl rfl)
    have hw1:wrap64 (to_ + k)=to_ + k:=by unfold wrap64; omega
    obtain ⟨V',W',hap,hP⟩:=KEY.out ⟨11,op,dst,a,b',n,text,r0,r1,r2,r3,r4,r5,to_ + k,els⟩ (by unfold upI; rw [if_pos rfl])
    have HP:=Lib.hid hP
    simp only [Ins.obj,Ins.l] at hap
    clear hP hbd
    subst hVf
    go_upto_region 14 with fail
    obtain ⟨wx,hwx⟩:∃ wx,wq.alloc (.cells #[.int .i64 11,.int .i64 op,.int .i64 dst,.int .i64 a,.int .i64 b',.int .i64 n,.string text,.int .i64 r0,.int .i64 r1,.int .i64 r2,.int .i64 r3,.int .i64 r4,.int .i64 r5,.int .i64 (to_ + k),.int .i64 els] 32)=wx:=⟨_,rfl⟩
    have kx:=heap_alloc_new wq (.cells #[.int .i64 11,.int .i64 op,.int .i64 dst,.int .i64 a,.int .i64 b',.int .i64 n,.string text,.int .i64 r0,.int .i64 r1,.int .i64 r2,.int .i64 r3,.int .i64 r4,.int .i64 r5,.int .i64 (to_ + k),.int .i64 els] 32)
    rw [hwx] at hap kx ⊢
    have HAP:=Lib.hid hap
    have KX:=Lib.hid kx
    clear x0 x1 x2 x3 x4 x5 x6 x7 x8 x9 x10 x11 x12 x13 x14 a0 hwx kx hap hlc hla HSQ KEY HOI hbl
    go_wp2_with (first
      | (show wpList Try.prog _ _ (⟨some 53,_,_,_,_,_⟩::_) _ _; refine wpList_load_row rfl 32 (.tmp 12) rfl wq.heap.size rfl 32 _ (0,0) _ KX.out vIns rfl sIns ?_)
      | (refine append_ran (o:=⟨some 55,_,_,_,_,_⟩) rfl (.tmp 52) (.tmp 54) rfl rfl rfl HAP.out ?_))
    exact HQ.out HP.out
  · by_cases h12:kd=12
    · subst h12
      have hto:=hbd.1 (Or.inr rfl)
      have hel:=hbd.2 rfl
      have hw1:wrap64 (to_ + k)=to_ + k:=by unfold wrap64; omega
      have hw2:wrap64 (els + k)=els + k:=by unfold wrap64; omega
      obtain ⟨V',W',hap,hP⟩:=KEY.out ⟨12,op,dst,a,b',n,text,r0,r1,r2,r3,r4,r5,to_ + k,els + k⟩ (by unfold upI; rw [if_neg (show ¬ (12:Int)=11 by decide),if_pos rfl])
      have HP:=Lib.hid hP
      simp only [Ins.obj,Ins.l] at hap
      clear hP hbd
      subst hVf
      go_upto_region 14 with fail
      obtain ⟨wx,hwx⟩:∃ wx,wq.alloc (.cells #[.int .i64 12,.int .i64 op,.int .i64 dst,.int .i64 a,.int .i64 b',.int .i64 n,.string text,.int .i64 r0,.int .i64 r1,.int .i64 r2,.int .i64 r3,.int .i64 r4,.int .i64 r5,.int .i64 (to_ + k),.int .i64 (els + k)] 32)=wx:=⟨_,rfl⟩
      have kx:=heap_alloc_new wq (.cells #[.int .i64 12,.int .i64 op,.int .i64 dst,.int .i64 a,.int .i64 b',.int .i64 n,.string text,.int .i64 r0,.int .i64 r1,.int .i64 r2,.int .i64 r3,.int .i64 r4,.int .i64 r5,.int .i64 (to_ + k),.int .i64 (els + k)] 32)
      rw [hwx] at hap kx ⊢
      have HAP:=Lib.hid hap
      have KX:=Lib.hid kx
      clear x0 x1 x2 x3 x4 x5 x6 x7 x8 x9 x10 x11 x12 x13 x14 a0 hwx kx hap hlc hla HSQ KEY HOI hbl
      go_wp2_with (first
        | (show wpList Try.prog _ _ (⟨some 53,_,_,_,_,_⟩::_) _ _; refine wpList_load_row rfl 32 (.tmp 12) rfl wq.heap.size rfl 32 _ (0,0) _ KX.out vIns rfl sIns ?_)
        | (refine append_ran (o:=⟨some 55,_,_,_,_,_⟩) rfl (.tmp 52) (.tmp 54) rfl rfl rfl HAP.out ?_))
      exact HQ.out HP.out
    · have e11:(kd == 11)=false:=by simpa using h11
      have e12:(kd == 12)=false:=by simpa using h12
      obtain ⟨V',W',hap,hP⟩:=KEY.out ⟨kd,op,dst,a,b',n,text,r0,r1,r2,r3,r4,r5,to_,els⟩ (by unfold upI; rw [if_neg h11,if_neg h12])
      have HP:=Lib.hid hP
      simp only [Ins.obj,Ins.l] at hap
      clear hP hbd
      subst hVf
      go_upto_region 14 with fail
      obtain ⟨wx,hwx⟩:∃ wx,wq.alloc (.cells #[.int .i64 kd,.int .i64 op,.int .i64 dst,.int .i64 a,.int .i64 b',.int .i64 n,.string text,.int .i64 r0,.int .i64 r1,.int .i64 r2,.int .i64 r3,.int .i64 r4,.int .i64 r5,.int .i64 to_,.int .i64 els] 32)=wx:=⟨_,rfl⟩
      have kx:=heap_alloc_new wq (.cells #[.int .i64 kd,.int .i64 op,.int .i64 dst,.int .i64 a,.int .i64 b',.int .i64 n,.string text,.int .i64 r0,.int .i64 r1,.int .i64 r2,.int .i64 r3,.int .i64 r4,.int .i64 r5,.int .i64 to_,.int .i64 els] 32)
      rw [hwx] at hap kx ⊢
      have HAP:=Lib.hid hap
      have KX:=Lib.hid kx
      clear x0 x1 x2 x3 x4 x5 x6 x7 x8 x9 x10 x11 x12 x13 x14 a0 hwx kx hap hlc hla HSQ KEY HOI hbl
      go_wp2_with (first
        | (show wpList Try.prog _ _ (⟨some 53,_,_,_,_,_⟩::_) _ _; refine wpList_load_row rfl 32 (.tmp 12) rfl wq.heap.size rfl 32 _ (0,0) _ KX.out vIns rfl sIns ?_)
        | (refine append_ran (o:=⟨some 55,_,_,_,_,_⟩) rfl (.tmp 52) (.tmp 54) rfl rfl rfl HAP.out ?_))
      exact HQ.out HP.out
set_option maxRecDepth 1000000 in
set_option maxHeartbeats 16000000 in
theorem place_in (f:Fn7) (C:Option Addr) (L cap k m cl:Nat) (l:List Ins) (lA:Option Addr) (w wb:World) (V:Value) (hld:RdI w lA l) (hm:l.length=m) (hm8:m≤8192) (hk:k < L) (hL8:L≤8192) (hb2:BdI l) (hol:(outK f.code k l k).length≤16384)
    (hS:PlS w wb f C L cap k lA m cl V (outK f.code k l k)) :
    ∀ ⦃x0 x1 x2 x9 x10 x11 x12 x13 x14 x18 x19 x20 x21 x22 x23 x24 x28 x29 x30 x31 x32 x33 x34 x35 x36 x37 x38 x39 x40 x41 x42 x43 x44 x45 x46 x47 x48 x49 x50 x51 x52 x53 x54 x55 x56 x57 x58 x59 x60 x61 x62 x63 x64 x65 x66 x67 x68 x69 x70 x71 x72 x73 x74 x75 x76 x77 x78 x79 x80 x81 x82 x83 x84 x85:Value⦄ (Q:Exit→Act→World→Prop),(∀ ⦃y12 y27 y28 y29 y30 y31 y32 y33 y34 y35 y36 y37 y38 y39 y40 y41 y42 y43 y44 y45 y46 y47 y48 y49 y50 y51 y52 y53 y54 y55 y56 V':Value⦄ ⦃w':World⦄,PlS w w' f C L cap k lA m cl V' (outK f.code k l (k + 1))→Q (.exit 2) ⟨(x0::x1::x2::.pointer (some ⟨w.heap.size,0,none⟩)::.pointer (some ⟨w.heap.size + 1,0,none⟩)::.pointer (some ⟨w.heap.size + 1 + 1,0,none⟩)::.pointer (some ⟨w.heap.size + 1 + 1 + 1,0,none⟩)::.func (.func 93) #[] #[.pointer (some ⟨w.heap.size + 1,0,none⟩),.pointer (some ⟨w.heap.size + 1 + 1,0,none⟩)]::V'::x9::x10::x11::y12::x13::x14::.slice C L cap::.int .i64 (L:Int)::.int .i64 (k:Int)::x18::x19::x20::x21::x22::x23::x24::.slice lA m cl::.int .i64 (m:Int)::y27::y28::y29::y30::y31::y32::y33::y34::y35::y36::y37::y38::y39::y40::y41::y42::y43::y44::y45::y46::y47::y48::y49::y50::y51::y52::y53::y54::y55::y56::x57::x58::x59::x60::x61::x62::x63::x64::x65::x66::x67::x68::x69::x70::x71::x72::x73::x74::x75::x76::x77::x78::x79::x80::x81::x82::x83::x84::x85::[]).toArray,[]⟩ w')→Code.wp Try.prog plLoop2 Q ⟨(x0::x1::x2::.pointer (some ⟨w.heap.size,0,none⟩)::.pointer (some ⟨w.heap.size + 1,0,none⟩)::.pointer (some ⟨w.heap.size + 1 + 1,0,none⟩)::.pointer (some ⟨w.heap.size + 1 + 1 + 1,0,none⟩)::.func (.func 93) #[] #[.pointer (some ⟨w.heap.size + 1,0,none⟩),.pointer (some ⟨w.heap.size + 1 + 1,0,none⟩)]::V::x9::x10::x11::x12::x13::x14::.slice C L cap::.int .i64 (L:Int)::.int .i64 (k:Int)::x18::x19::x20::x21::x22::x23::x24::.slice lA m cl::.int .i64 (m:Int)::.int .i64 0::x28::x29::x30::x31::x32::x33::x34::x35::x36::x37::x38::x39::x40::x41::x42::x43::x44::x45::x46::x47::x48::x49::x50::x51::x52::x53::x54::x55::x56::x57::x58::x59::x60::x61::x62::x63::x64::x65::x66::x67::x68::x69::x70::x71::x72::x73::x74::x75::x76::x77::x78::x79::x80::x81::x82::x83::x84::x85::[]).toArray,[]⟩ wb:=by
  intros
  rename_i Q hQ
  conv=>arg 2; whnf
  have HQ:=Lib.hid hQ
  have HLD:=Lib.hid hld
  have HM:=Lib.hid hm
  have HB2:=Lib.hid hb2
  have HOL:=Lib.hid hol
  have HS:=Lib.hid hS
  clear hQ hld hm hb2 hol hS
  go_loopw [8,27] (fun V ix wq=>∃ q:Nat,q≤m∧ix = .int .i64 q∧PlS w wq f C L cap k lA m cl V (outK f.code k l k++(l.take q).map (upI k))) (fun _ ix _=>m - (intOf ix).toNat)
  case atStart=>exact ⟨0,by omega,rfl,by simpa using HS.out⟩
  case round =>
    obtain ⟨q,hq,rfl,hSq⟩:=hrel
    clear HS
    by_cases hqm:q < m
    · have HSQ:=Lib.hid hSq
      clear hSq
      go_upto_block 3 with fail
      refine wp_block ?_
      refine place_in1 f C L cap k m cl q l lA w wr _ HLD.out HM.out hm8 hk hL8 HB2.out HOL.out hqm HSQ.out _ ?_
      intros
      rename_i V' w' hS'
      have HS':=Lib.hid hS'
      clear hS' HSQ
      (try simp only [Exit.inBlock,Exit.then])
      go_wp2
      exact ⟨⟨q + 1,by omega,by go_num,HS'.out⟩,by simp [intOf]; omega⟩
    · obtain rfl:q=m:=by omega
      have HNX:Hid (PlS w wr f C L cap k lA q cl u8 (outK f.code k l (k + 1))):=Lib.hid (by
        have h1:=hSq
        rw [← HM.out,List.take_length] at h1
        show PlS w wr f C L cap k lA q cl u8 (outK f.code k l k++_)
        rw [if_pos rfl,← HM.out]
        exact h1)
      clear hSq
      go_wp2
      exact HQ.out HNX.out
set_option maxRecDepth 1000000 in
set_option maxHeartbeats 16000000 in
theorem place_eq (f:Fn7)(C:Option Addr)(L cap k m cl:Nat)(l:List Ins)(lA:Option Addr)(w wr:World)(V:Value)(hL:f.code.length=L)(hC:RdI w C f.code)(hld:RdI w lA l)(hm:l.length=m)(hm8:m≤8192)(hk:k < L)(hL8:L≤8192)(_hp:k < L)(hb1:BdI f.code)(hb2:BdI l)(hol:(outK f.code k l k).length≤16384)
    (hS:PlS w wr f C L cap k lA m cl V (outK f.code k l k)) :
    ∀ ⦃x0 x1 x2 x9 x10 x11 x12 x13 x14 x18 x19 x20 x21 x22 x23 x24 x25 x26 x27 x28 x29 x30 x31 x32 x33 x34 x35 x36 x37 x38 x39 x40 x41 x42 x43 x44 x45 x46 x47 x48 x49 x50 x51 x52 x53 x54 x55 x56 x57 x58 x59 x60 x61 x62 x63 x64 x65 x66 x67 x68 x69 x70 x71 x72 x73 x74 x75 x76 x77 x78 x79 x80 x81 x82 x83 x84 x85:Value⦄ (Q:Exit→Act→World→Prop),(∀ ⦃y9 y10 y12 y19 y20 y21 y22 y23 y24 y25 y26 y27 y28 y29 y30 y31 y32 y33 y34 y35 y36 y37 y38 y39 y40 y41 y42 y43 y44 y45 y46 y47 y48 y49 y50 y51 y52 y53 y54 y55 y56 y57 y58 y59 y60 y61 y62 y63 y64 y65 y66 y67 y68 y69 y70 y71 y72 y73 y74 y75 y76 y77 y78 y79 y80 y81 V':Value⦄ ⦃w':World⦄,PlS w w' f C L cap k lA m cl V' (outK f.code k l (k + 1))→Q (.exit 1) ⟨(x0::x1::x2::.pointer (some ⟨w.heap.size,0,none⟩)::.pointer (some ⟨w.heap.size + 1,0,none⟩)::.pointer (some ⟨w.heap.size + 1 + 1,0,none⟩)::.pointer (some ⟨w.heap.size + 1 + 1 + 1,0,none⟩)::.func (.func 93) #[] #[.pointer (some ⟨w.heap.size + 1,0,none⟩),.pointer (some ⟨w.heap.size + 1 + 1,0,none⟩)]::V'::y9::y10::x11::y12::x13::x14::.slice C L cap::.int .i64 (L:Int)::.int .i64 (k:Int)::x18::y19::y20::y21::y22::y23::y24::y25::y26::y27::y28::y29::y30::y31::y32::y33::y34::y35::y36::y37::y38::y39::y40::y41::y42::y43::y44::y45::y46::y47::y48::y49::y50::y51::y52::y53::y54::y55::y56::y57::y58::y59::y60::y61::y62::y63::y64::y65::y66::y67::y68::y69::y70::y71::y72::y73::y74::y75::y76::y77::y78::y79::y80::y81::x82::x83::x84::x85::[]).toArray,[]⟩ w')→Code.wp Try.prog plB1 Q ⟨(x0::x1::x2::.pointer (some ⟨w.heap.size,0,none⟩)::.pointer (some ⟨w.heap.size + 1,0,none⟩)::.pointer (some ⟨w.heap.size + 1 + 1,0,none⟩)::.pointer (some ⟨w.heap.size + 1 + 1 + 1,0,none⟩)::.func (.func 93) #[] #[.pointer (some ⟨w.heap.size + 1,0,none⟩),.pointer (some ⟨w.heap.size + 1 + 1,0,none⟩)]::V::x9::x10::x11::x12::x13::x14::.slice C L cap::.int .i64 (L:Int)::.int .i64 (k:Int)::x18::x19::x20::x21::x22::x23::x24::x25::x26::x27::x28::x29::x30::x31::x32::x33::x34::x35::x36::x37::x38::x39::x40::x41::x42::x43::x44::x45::x46::x47::x48::x49::x50::x51::x52::x53::x54::x55::x56::x57::x58::x59::x60::x61::x62::x63::x64::x65::x66::x67::x68::x69::x70::x71::x72::x73::x74::x75::x76::x77::x78::x79::x80::x81::x82::x83::x84::x85::[]).toArray,[]⟩ wr:=by
  intros
  rename_i Q hQ
  conv=>arg 2; whnf
  have HQ:=Lib.hid hQ
  have HL:=Lib.hid hL
  have HC:=Lib.hid hC
  have HLD:=Lib.hid hld
  have HM:=Lib.hid hm
  have HB1:=Lib.hid hb1
  have HB2:=Lib.hid hb2
  have HOL:=Lib.hid hol
  clear hQ hL hC hld hm hb1 hb2 hol
  obtain ⟨i,hi⟩:∃ i,f.code[k]? = some i:=⟨_,List.getElem?_eq_getElem (by rw [HL.out]; exact hk)⟩
  obtain ⟨bb,oo,rfl,hbl,hcs⟩:=(HC.out.below hS.b) k i hi
  obtain ⟨x0,x1,x2,x3,x4,x5,x6,x7,x8,x9,x10,x11,x12,x13,x14⟩:=RdI.load hcs
  have a0:=cell_of_heap hS.ab 0 (.int .i64 k) rfl
  have a1:=cell_of_heap hS.lb 0 (.slice lA m cl) rfl
  have hlc:=(Array.getElem?_eq_some_iff.1 hS.fb).1
  have hla:=(Array.getElem?_eq_some_iff.1 hS.ab).1
  have hlb:=(Array.getElem?_eq_some_iff.1 hS.lb).1
  have hbd:=HB1.out i (List.mem_of_getElem? hi)
  have HI:=Lib.hid hi
  obtain ⟨VA,vc,hVf⟩:=hS.own.form
  have HS:=Lib.hid hS
  clear hi hcs hS
  have hS1:=HS.out.later (Below.one wr i.obj)
  have HS1:Hid (PlS w (wr.alloc i.obj) f (some ⟨bb,oo,none⟩) L cap k lA m cl V (outK f.code k l k++(l.take 0).map (upI k))):=Lib.hid (by simpa using hS1)
  obtain ⟨kd,op,dst,a,b',n,text,r0,r1,r2,r3,r4,r5,to_,els⟩:=i
  simp only at x0 x1 x2 x3 x4 x5 x6 x7 x8 x9 x10 x11 x12 x13 x14
  simp only [Ins.obj] at HS1
  have hlv:=cell_of_heap HS1.out.lb 0 (.slice lA m cl) rfl
  clear hS1 hbd a1 HI
  go_upto_region 7 with fail
  obtain ⟨wb,hwb⟩:∃ wb,wr.alloc (.cells #[.int .i64 kd,.int .i64 op,.int .i64 dst,.int .i64 a,.int .i64 b',.int .i64 n,.string text,.int .i64 r0,.int .i64 r1,.int .i64 r2,.int .i64 r3,.int .i64 r4,.int .i64 r5,.int .i64 to_,.int .i64 els] 32)=wb:=⟨_,rfl⟩
  rw [hwb] at HS1 hlv ⊢
  clear hwb x0 x1 x2 x3 x4 x5 x6 x7 x8 x9 x10 x11 x12 x13 x14 a0 hlc hla hlb hbl HS
  go_wp2_with fail
  clear hlv
  refine place_in f (some ⟨bb,oo,none⟩) L cap k m cl l lA w wb _ HLD.out HM.out hm8 hk hL8 HB2.out HOL.out (by simpa using HS1.out) _ ?_
  intros
  rename_i V' w' hS'
  have HS':=Lib.hid hS'
  clear hS' HS1
  (try simp only [Exit.inBlock,Exit.then])
  go_wp2
  exact HQ.out HS'.out
set_option maxRecDepth 1000000 in
set_option maxHeartbeats 16000000 in
theorem place_ne (f:Fn7) (C:Option Addr) (L cap k p m cl:Nat) (l:List Ins) (lA:Option Addr) (w wr:World) (V:Value) (hL:f.code.length=L) (hC:RdI w C f.code) (hld:RdI w lA l) (hm:l.length=m) (hm8:m≤8192) (hk:k < L) (_hL8:L≤8192) (_hp:p < L) (hb1:BdI f.code) (hb2:BdI l) (hol:(outK f.code p l k).length≤16384) (hkp:¬ k=p)
    (hS:PlS w wr f C L cap p lA m cl V (outK f.code p l k)) :
    ∀ ⦃x0 x1 x2 x9 x10 x11 x12 x13 x14 x18 x19 x20 x21 x22 x23 x24 x25 x26 x27 x28 x29 x30 x31 x32 x33 x34 x35 x36 x37 x38 x39 x40 x41 x42 x43 x44 x45 x46 x47 x48 x49 x50 x51 x52 x53 x54 x55 x56 x57 x58 x59 x60 x61 x62 x63 x64 x65 x66 x67 x68 x69 x70 x71 x72 x73 x74 x75 x76 x77 x78 x79 x80 x81 x82 x83 x84 x85:Value⦄ (Q:Exit→Act→World→Prop),(∀ ⦃y9 y10 y12 y19 y20 y21 y22 y23 y24 y25 y26 y27 y28 y29 y30 y31 y32 y33 y34 y35 y36 y37 y38 y39 y40 y41 y42 y43 y44 y45 y46 y47 y48 y49 y50 y51 y52 y53 y54 y55 y56 y57 y58 y59 y60 y61 y62 y63 y64 y65 y66 y67 y68 y69 y70 y71 y72 y73 y74 y75 y76 y77 y78 y79 y80 y81 V':Value⦄ ⦃w':World⦄,PlS w w' f C L cap p lA m cl V' (outK f.code p l (k + 1))→Q .normal ⟨(x0::x1::x2::.pointer (some ⟨w.heap.size,0,none⟩)::.pointer (some ⟨w.heap.size + 1,0,none⟩)::.pointer (some ⟨w.heap.size + 1 + 1,0,none⟩)::.pointer (some ⟨w.heap.size + 1 + 1 + 1,0,none⟩)::.func (.func 93) #[] #[.pointer (some ⟨w.heap.size + 1,0,none⟩),.pointer (some ⟨w.heap.size + 1 + 1,0,none⟩)]::V'::y9::y10::x11::y12::x13::x14::.slice C L cap::.int .i64 (L:Int)::.int .i64 (k:Int)::x18::y19::y20::y21::y22::y23::y24::y25::y26::y27::y28::y29::y30::y31::y32::y33::y34::y35::y36::y37::y38::y39::y40::y41::y42::y43::y44::y45::y46::y47::y48::y49::y50::y51::y52::y53::y54::y55::y56::y57::y58::y59::y60::y61::y62::y63::y64::y65::y66::y67::y68::y69::y70::y71::y72::y73::y74::y75::y76::y77::y78::y79::y80::y81::x82::x83::x84::x85::[]).toArray,[]⟩ w')→Code.wp Try.prog plB1 Q ⟨(x0::x1::x2::.pointer (some ⟨w.heap.size,0,none⟩)::.pointer (some ⟨w.heap.size + 1,0,none⟩)::.pointer (some ⟨w.heap.size + 1 + 1,0,none⟩)::.pointer (some ⟨w.heap.size + 1 + 1 + 1,0,none⟩)::.func (.func 93) #[] #[.pointer (some ⟨w.heap.size + 1,0,none⟩),.pointer (some ⟨w.heap.size + 1 + 1,0,none⟩)]::V::x9::x10::x11::x12::x13::x14::.slice C L cap::.int .i64 (L:Int)::.int .i64 (k:Int)::x18::x19::x20::x21::x22::x23::x24::x25::x26::x27::x28::x29::x30::x31::x32::x33::x34::x35::x36::x37::x38::x39::x40::x41::x42::x43::x44::x45::x46::x47::x48::x49::x50::x51::x52::x53::x54::x55::x56::x57::x58::x59::x60::x61::x62::x63::x64::x65::x66::x67::x68::x69::x70::x71::x72::x73::x74::x75::x76::x77::x78::x79::x80::x81::x82::x83::x84::x85::[]).toArray,[]⟩ wr:=by
  intros
  rename_i Q hQ
  conv=>arg 2; whnf
  have HQ:=Lib.hid hQ
  have HL:=Lib.hid hL
  have HC:=Lib.hid hC
  have HLD:=Lib.hid hld
  have HM:=Lib.hid hm
  have HB1:=Lib.hid hb1
  have HB2:=Lib.hid hb2
  have HOL:=Lib.hid hol
  clear hQ hL hC hld hm hb1 hb2 hol
  obtain ⟨i,hi⟩:∃ i,f.code[k]? = some i:=⟨_,List.getElem?_eq_getElem (by rw [HL.out]; exact hk)⟩
  obtain ⟨bb,oo,rfl,hbl,hcs⟩:=(HC.out.below hS.b) k i hi
  obtain ⟨x0,x1,x2,x3,x4,x5,x6,x7,x8,x9,x10,x11,x12,x13,x14⟩:=RdI.load hcs
  have a0:=cell_of_heap hS.ab 0 (.int .i64 p) rfl
  have a1:=cell_of_heap hS.lb 0 (.slice lA m cl) rfl
  have hlc:=(Array.getElem?_eq_some_iff.1 hS.fb).1
  have hla:=(Array.getElem?_eq_some_iff.1 hS.ab).1
  have hlb:=(Array.getElem?_eq_some_iff.1 hS.lb).1
  have hbd:=HB1.out i (List.mem_of_getElem? hi)
  have HI:=Lib.hid hi
  obtain ⟨VA,vc,hVf⟩:=hS.own.form
  have HS:=Lib.hid hS
  clear hi hcs hS
  have q1:decide ((k:Int)=p)=false:=by simp; omega
  have q2:((k:Int) == (p:Int))=false:=by simp; omega
  have HK1:Hid (outK f.code p l (k + 1)=outK f.code p l k++[shI p m i]):=Lib.hid (by
    show outK f.code p l k++_=_
    rw [if_neg hkp,HI.out,HM.out])
  -- what the box holds in the end
  have key:∀ (j:Ins),j=shI p m i→∃ V' W',(Builtin.append_ #[22,22] 3 #[V,.slice (some ⟨(wr.alloc j.obj).heap.size,0,none⟩) 1 1]).run Try.prog ((wr.alloc j.obj).alloc (.cells j.l.toArray 32)) = .ok V' W'∧PlS w W' f (some ⟨bb,oo,none⟩) L cap p lA m cl V' (outK f.code p l (k + 1)):=fun j hj=>by
    have h1:=HS.out.later (Below.one wr j.obj)
    obtain ⟨V',W',hap,hO,hg,_⟩:=append_ins1 h1.own j (by have:=HOL.out; omega) (by have:=h1.s; omega) 3
    refine ⟨V',W',hap,?_⟩
    rw [HK1.out,← hj]
    exact h1.push hO hg
  have KEY:=Lib.hid key
  obtain ⟨kd,op,dst,a,b',n,text,r0,r1,r2,r3,r4,r5,to_,els⟩:=i
  simp only at x0 x1 x2 x3 x4 x5 x6 x7 x8 x9 x10 x11 x12 x13 x14 hbd
  clear key
  by_cases h11:kd=11
  · subst h11
    obtain ⟨v,hv⟩:∃ v,shT p m to_=v:=⟨_,rfl⟩
    have hcl:=inplace1_any (w:=wr.alloc (.cells #[.int .i64 11,.int .i64 op,.int .i64 dst,.int .i64 a,.int .i64 b',.int .i64 n,.string text,.int .i64 r0,.int .i64 r1,.int .i64 r2,.int .i64 r3,.int .i64 r4,.int .i64 r5,.int .i64 to_,.int .i64 els] 32)) (ab:=w.heap.size + 1) (lb:=w.heap.size + 1 + 1) ((Below.cell (Below.one wr _) (p:=⟨w.heap.size + 1,0,none⟩) hla).trans a0) ((Below.cell (Below.one wr _) (p:=⟨w.heap.size + 1 + 1,0,none⟩) hlb).trans a1) (by omega) to_ ⟨(hbd.1 (Or.inl rfl)).1,by have:=(hbd.1 (Or.inl rfl)).2; omega⟩
    rw [hv] at hcl
    obtain ⟨V',W',hap,hP⟩:=KEY.out ⟨11,op,dst,a,b',n,text,r0,r1,r2,r3,r4,r5,v,els⟩ (by unfold shI; rw [if_pos rfl]; simp only [hv])
    have HP:=Lib.hid hP
    have HCL:=Lib.hid hcl
    simp only [Ins.obj,Ins.l] at hap
    clear hP hbd hcl
    subst hVf
    go_wp2_with fail
    refine HCL.out.mono ?_
    rintro e w5 ⟨rfl,hw5⟩
    subst hw5
    dsimp only
    go_upto_region 20 with fail
    obtain ⟨wx,hwx⟩:∃ wx,wr.alloc (.cells #[.int .i64 11,.int .i64 op,.int .i64 dst,.int .i64 a,.int .i64 b',.int .i64 n,.string text,.int .i64 r0,.int .i64 r1,.int .i64 r2,.int .i64 r3,.int .i64 r4,.int .i64 r5,.int .i64 v,.int .i64 els] 32)=wx:=⟨_,rfl⟩
    have kx:=heap_alloc_new wr (.cells #[.int .i64 11,.int .i64 op,.int .i64 dst,.int .i64 a,.int .i64 b',.int .i64 n,.string text,.int .i64 r0,.int .i64 r1,.int .i64 r2,.int .i64 r3,.int .i64 r4,.int .i64 r5,.int .i64 v,.int .i64 els] 32)
    rw [hwx] at hap kx ⊢
    have HAP:=Lib.hid hap
    have KX:=Lib.hid kx
    clear x0 x1 x2 x3 x4 x5 x6 x7 x8 x9 x10 x11 x12 x13 x14 a0 a1 q1 q2 hwx kx hap hlc hla hlb HC HS KEY HK1 HI hbl
    go_wp2_with (first
      | (show wpList Try.prog _ _ (⟨some 79,_,_,_,_,_⟩::_) _ _; refine wpList_load_row rfl 32 (.tmp 10) rfl wr.heap.size rfl 32 _ (0,0) _ KX.out vIns rfl sIns ?_)
      | (refine append_ran (o:=⟨some 81,_,_,_,_,_⟩) rfl (.tmp 78) (.tmp 80) rfl rfl rfl HAP.out ?_))
    exact HQ.out HP.out
  · by_cases h12:kd=12
    · subst h12
      obtain ⟨v,hv⟩:∃ v,shT p m to_=v:=⟨_,rfl⟩
      obtain ⟨u,hu⟩:∃ v,shT p m els=v:=⟨_,rfl⟩
      have hcl:=inplace1_any (w:=wr.alloc (.cells #[.int .i64 12,.int .i64 op,.int .i64 dst,.int .i64 a,.int .i64 b',.int .i64 n,.string text,.int .i64 r0,.int .i64 r1,.int .i64 r2,.int .i64 r3,.int .i64 r4,.int .i64 r5,.int .i64 to_,.int .i64 els] 32)) (ab:=w.heap.size + 1) (lb:=w.heap.size + 1 + 1) ((Below.cell (Below.one wr _) (p:=⟨w.heap.size + 1,0,none⟩) hla).trans a0) ((Below.cell (Below.one wr _) (p:=⟨w.heap.size + 1 + 1,0,none⟩) hlb).trans a1) (by omega) to_ ⟨(hbd.1 (Or.inr rfl)).1,by have:=(hbd.1 (Or.inr rfl)).2; omega⟩
      have hcl2:=inplace1_any (w:=wr.alloc (.cells #[.int .i64 12,.int .i64 op,.int .i64 dst,.int .i64 a,.int .i64 b',.int .i64 n,.string text,.int .i64 r0,.int .i64 r1,.int .i64 r2,.int .i64 r3,.int .i64 r4,.int .i64 r5,.int .i64 v,.int .i64 els] 32)) (ab:=w.heap.size + 1) (lb:=w.heap.size + 1 + 1) ((Below.cell (Below.one wr _) (p:=⟨w.heap.size + 1,0,none⟩) hla).trans a0) ((Below.cell (Below.one wr _) (p:=⟨w.heap.size + 1 + 1,0,none⟩) hlb).trans a1) (by omega) els ⟨(hbd.2 rfl).1,by have:=(hbd.2 rfl).2; omega⟩
      rw [hv] at hcl
      rw [hu] at hcl2
      obtain ⟨V',W',hap,hP⟩:=KEY.out ⟨12,op,dst,a,b',n,text,r0,r1,r2,r3,r4,r5,v,u⟩ (by unfold shI; rw [if_neg (show ¬ (12:Int)=11 by decide),if_pos rfl]; simp only [hv,hu])
      have HP:=Lib.hid hP
      have HCL:=Lib.hid hcl
      have HCL2:=Lib.hid hcl2
      simp only [Ins.obj,Ins.l] at hap
      clear hP hbd hcl hcl2
      subst hVf
      go_wp2_with fail
      refine HCL.out.mono ?_
      rintro e w5 ⟨rfl,hw5⟩
      subst hw5
      dsimp only
      go_wp2_with fail
      refine HCL2.out.mono ?_
      rintro e w5 ⟨rfl,hw5⟩
      subst hw5
      dsimp only
      go_upto_region 20 with fail
      obtain ⟨wx,hwx⟩:∃ wx,wr.alloc (.cells #[.int .i64 12,.int .i64 op,.int .i64 dst,.int .i64 a,.int .i64 b',.int .i64 n,.string text,.int .i64 r0,.int .i64 r1,.int .i64 r2,.int .i64 r3,.int .i64 r4,.int .i64 r5,.int .i64 v,.int .i64 u] 32)=wx:=⟨_,rfl⟩
      have kx:=heap_alloc_new wr (.cells #[.int .i64 12,.int .i64 op,.int .i64 dst,.int .i64 a,.int .i64 b',.int .i64 n,.string text,.int .i64 r0,.int .i64 r1,.int .i64 r2,.int .i64 r3,.int .i64 r4,.int .i64 r5,.int .i64 v,.int .i64 u] 32)
      rw [hwx] at hap kx ⊢
      have HAP:=Lib.hid hap
      have KX:=Lib.hid kx
      clear x0 x1 x2 x3 x4 x5 x6 x7 x8 x9 x10 x11 x12 x13 x14 a0 a1 q1 q2 hwx kx hap hlc hla hlb HC HS KEY HK1 HI hbl
      go_wp2_with (first
        | (show wpList Try.prog _ _ (⟨some 79,_,_,_,_,_⟩::_) _ _; refine wpList_load_row rfl 32 (.tmp 10) rfl wr.heap.size rfl 32 _ (0,0) _ KX.out vIns rfl sIns ?_)
        | (refine append_ran (o:=⟨some 81,_,_,_,_,_⟩) rfl (.tmp 78) (.tmp 80) rfl rfl rfl HAP.out ?_))
      exact HQ.out HP.out
    · have e11:(kd == 11)=false:=by simpa using h11
      have e12:(kd == 12)=false:=by simpa using h12
      obtain ⟨V',W',hap,hP⟩:=KEY.out ⟨kd,op,dst,a,b',n,text,r0,r1,r2,r3,r4,r5,to_,els⟩ (by unfold shI; rw [if_neg h11,if_neg h12])
      have HP:=Lib.hid hP
      simp only [Ins.obj,Ins.l] at hap
      clear hP hbd
      subst hVf
      go_upto_region 20 with fail
      obtain ⟨wx,hwx⟩:∃ wx,wr.alloc (.cells #[.int .i64 kd,.int .i64 op,.int .i64 dst,.int .i64 a,.int .i64 b',.int .i64 n,.string text,.int .i64 r0,.int .i64 r1,.int .i64 r2,.int .i64 r3,.int .i64 r4,.int .i64 r5,.int .i64 to_,.int .i64 els] 32)=wx:=⟨_,rfl⟩
      have kx:=heap_alloc_new wr (.cells #[.int .i64 kd,.int .i64 op,.int .i64 dst,.int .i64 a,.int .i64 b',.int .i64 n,.string text,.int .i64 r0,.int .i64 r1,.int .i64 r2,.int .i64 r3,.int .i64 r4,.int .i64 r5,.int .i64 to_,.int .i64 els] 32)
      rw [hwx] at hap kx ⊢
      have HAP:=Lib.hid hap
      have KX:=Lib.hid kx
      clear x0 x1 x2 x3 x4 x5 x6 x7 x8 x9 x10 x11 x12 x13 x14 a0 a1 q1 q2 hwx kx hap hlc hla hlb HC HS KEY HK1 HI hbl
      go_wp2_with (first
        | (show wpList Try.prog _ _ (⟨some 79,_,_,_,_,_⟩::_) _ _; refine wpList_load_row rfl 32 (.tmp 10) rfl wr.heap.size rfl 32 _ (0,0) _ KX.out vIns rfl sIns ?_)
        | (refine append_ran (o:=⟨some 81,_,_,_,_,_⟩) rfl (.tmp 78) (.tmp 80) rfl rfl rfl HAP.out ?_))
      exact HQ.out HP.out
set_option maxRecDepth 1000000 in
set_option maxHeartbeats 16000000 in
theorem place_any (f:Fn7) (C:Option Addr) (L cap p:Nat) (hL:f.code.length=L) (hL8:L≤8192) (hp:p < L) (l:List Ins) (m:Nat) (hm:l.length=m) (hm8:m≤8192) (hm1:1≤m) (lA:Option Addr) (cl:Nat) (w:World) (hC:RdI w C f.code) (hl:RdI w lA l) (hb1:BdI f.code) (hb2:BdI l) :
    Calls Try.prog 72 #[funcAgg f.nm f.ps f.R f.Fr C L cap,.int .i64 p,.slice lA m cl] w fun e w'=>(∃ nb cp,e = .returned (funcAgg f.nm f.ps f.R f.Fr (some ⟨nb,0,none⟩) (placeL f.code p l).length cp)∧w.heap.size≤nb∧PreI w' nb (placeL f.code p l))∧Below w.heap.size w w':=by
  have H0:=Lib.hid (plres w f C L cap p lA m cl)
  simp only [funcObj,funcAgg] at H0 ⊢
  have HC:=Lib.hid hC
  have HLD:=Lib.hid hl
  have HL:=Lib.hid hL
  have HM:=Lib.hid hm
  have HB1:=Lib.hid hb1
  have HB2:=Lib.hid hb2
  have hol:∀ k,k≤L→(outK f.code p l k).length≤16384:=fun k hk=>by have:=outK_len f.code p l k; omega
  have HOL:=Lib.hid hol
  clear hC hl hL hm hb1 hb2 hol
  go_enter Try.func72,Try.ntmps72
  go_wp2_with fail
  go_loopw [8,17] (fun V ix wr=>∃ k:Nat,k≤L∧ix = .int .i64 k∧PlS w wr f C L cap p lA m cl V (outK f.code p l k)) (fun _ ix _=>L - (intOf ix).toNat)
  case atStart=>exact ⟨0,by omega,rfl,H0.out⟩
  case round =>
    obtain ⟨k,hk,rfl,hS⟩:=hrel
    clear H0
    by_cases hlt:k < L
    · have HS:=Lib.hid hS
      clear hS
      go_upto_block 1 with fail
      refine wp_block ?_
      by_cases hkp:k=p
      · subst hkp
        refine place_eq f C L cap k m cl l lA w wr _ HL.out HC.out HLD.out HM.out hm8 hlt hL8 hlt HB1.out HB2.out (HOL.out k hk) HS.out _ ?_
        intros
        rename_i V' w' hS'
        have HS':=Lib.hid hS'
        clear hS' HS
        (try simp only [Exit.inBlock,Exit.then])
        go_wp2
        exact ⟨⟨_,_,_,_,_,_,_,_,_,_,_,_,_,_,_,_,_,_,_,_,_,_,_,_,_,_,_,_,_,_,_,_,_,_,_,_,_,_,_,_,_,_,_,_,_,_,_,_,_,_,_,_,_,_,_,_,_,_,_,_,_,_,_,_,_,_,_,_,_,_,⟨k + 1,by omega,by go_num,HS'.out⟩,rfl⟩,by simp [intOf]; omega⟩
      · refine place_ne f C L cap k p m cl l lA w wr _ HL.out HC.out HLD.out HM.out hm8 hlt hL8 hp HB1.out HB2.out (HOL.out k hk) hkp HS.out _ ?_
        intros
        rename_i V' w' hS'
        have HS':=Lib.hid hS'
        clear hS' HS
        (try simp only [Exit.inBlock,Exit.then])
        go_wp2
        exact ⟨⟨_,_,_,_,_,_,_,_,_,_,_,_,_,_,_,_,_,_,_,_,_,_,_,_,_,_,_,_,_,_,_,_,_,_,_,_,_,_,_,_,_,_,_,_,_,_,_,_,_,_,_,_,_,_,_,_,_,_,_,_,_,_,_,_,_,_,_,_,_,_,⟨k + 1,by omega,by go_num,HS'.out⟩,rfl⟩,by simp [intOf]; omega⟩
    · obtain rfl:k=L:=by omega
      have hL0:=HL.out
      have e1:outK f.code p l k=placeL f.code p l:=by rw [← hL0]; exact outK_all (by rw [hL0]; exact hp)
      have hS:=hS
      rw [e1] at hS
      have hpos:0 < (placeL f.code p l).length:=by
        have:=placeL_len (C:=f.code) (p:=p) (l:=l) (by rw [hL0]; exact hp)
        have:=HM.out
        omega
      obtain ⟨g,cp,hVg,hgB,hPI⟩:=hS.own.pre hpos
      obtain ⟨N,hN⟩:∃ N,(placeL f.code p l).length=N:=⟨_,rfl⟩
      rw [hN] at hVg
      have HN:=Lib.hid hN
      have f1:=heap_setCell (j:=4) hS.fb (.slice (some ⟨g,0,none⟩) N cp)
      have r1:=(heap_setCell_other wr ⟨w.heap.size,4,none⟩ (w.heap.size + 1 + 1 + 1) (.slice (some ⟨g,0,none⟩) N cp) (by simp only; omega)).trans hS.rb
      have f4:=cell_of_heap hS.fb 4 (.slice C k cap) rfl
      have ff:=free_of_heap hS.fb
      have hlc:=(Array.getElem?_eq_some_iff.1 hS.fb).1
      have P1:=hPI.of_heap (heap_setCell_other wr ⟨w.heap.size,4,none⟩ g (.slice (some ⟨g,0,none⟩) N cp) (by simp only; omega))
      have B1:=hS.b.setCell (p:=⟨w.heap.size,4,none⟩) (Nat.le_refl _) (.slice (some ⟨g,0,none⟩) N cp)
      have h3:=setRow_heap _ _ _ #[.string f.nm,.int .i64 f.ps,.int .i64 f.R,.int .i64 f.Fr,.slice (some ⟨g,0,none⟩) N cp] _ _ r1
      have P2:=P1.of_heap (setRow_other _ (w.heap.size + 1 + 1 + 1) g #[.string f.nm,.int .i64 f.ps,.int .i64 f.R,.int .i64 f.Fr,.slice (some ⟨g,0,none⟩) N cp] (by omega))
      have B2:=below_setRow (g:=w.heap.size + 1 + 1 + 1) B1 (by omega) #[.string f.nm,.int .i64 f.ps,.int .i64 f.R,.int .i64 f.Fr,.slice (some ⟨g,0,none⟩) N cp]
      have e0:=cell_of_heap h3 0 (.string f.nm) rfl
      have e1:=cell_of_heap h3 1 (.int .i64 f.ps) rfl
      have e2:=cell_of_heap h3 2 (.int .i64 f.R) rfl
      have e3:=cell_of_heap h3 3 (.int .i64 f.Fr) rfl
      have e4:=cell_of_heap h3 4 (.slice (some ⟨g,0,none⟩) N cp) rfl
      have F1:=Lib.hid f1
      have R1:=Lib.hid r1
      have HP2:=Lib.hid P2
      have HBB:=Lib.hid B2
      have HGB:=Lib.hid hgB
      subst hVg
      clear hS hPI P1 P2 B1 B2 f1 r1 h3 hgB hN hL0
      go_wp2_with (first
        | (show wpList Try.prog _ _ (⟨some 85,_,_,_,_,_⟩::_) _ _; refine wpList_load_row rfl 24 (.tmp 3) rfl w.heap.size rfl 24 _ (0,0) _ F1.out vFn rfl sF ?_)
        | (show wpList Try.prog _ _ (⟨none,.store _ (.tmp 6) _,_,_,_,_⟩::_) _ _; refine wpList_store_row rfl 24 (.tmp 6) (.tmp 85) rfl (w.heap.size + 1 + 1 + 1) _ rfl rfl 24 _ R1.out sF rfl (func_one _ _ _ _ _ _ _) ?_))
      (try simp only [Exit.inBlock,Exit.then])
      refine bodyPost_ret (by simp [results,Try.results72,go_sem,e0,e1,e2,e3,e4]; try rfl) rfl ?_
      exact ⟨⟨g,cp,by rw [HN.out],by have:=HGB.out; omega,HP2.out⟩,HBB.out⟩
end Go.Proofs.Ytkcclefonmnpnaa

