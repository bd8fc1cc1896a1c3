import Derived.Test.YtgdbkoncaojmoaaZj
namespace Go.Proofs.Ytgdbkoncaojmoaa
open Go.RowKit Go.BigFrame
noncomputable def wd1:Code:=((((Try.f36.body).map loopsOf).getD [])[0]?).getD .skip
noncomputable def wd2:Code:=((loopsOf (inLoop wd1))[0]?).getD .skip
structure GrowW (N:Nat)(nt:Int)(nx T0 T:List Int)(k:Nat):Prop where
  ext:∃ E,T=T0++E
  nd:T.Nodup
  bd:∀ x ∈ T,0≤x∧x < (N:Int)
  all:∀ (j:Nat) n,j < k→nx[j]? = some n→n≠nt→n ∈ T
  only:∀ x ∈ T,x ∈ T0∨(x ∈ nx∧x≠nt)
theorem GrowW.skip {N:Nat}{nt:Int}{nx T0 T:List Int}{k:Nat}(h:GrowW N nt nx T0 T k){n:Int}(hn:nx[k]? = some n)(hm:n≠nt→n ∈ T):GrowW N nt nx T0 T (k + 1) :=
  ⟨h.ext,h.nd,h.bd,fun j x hj hx hxn=>by
    by_cases hjk:j=k
    · subst hjk
      rw [hn] at hx
      injection hx with hx
      subst hx
      exact hm hxn
    · exact h.all j x (by omega) hx hxn,h.only⟩
theorem GrowW.add {N:Nat}{nt:Int}{nx T0 T:List Int}{k:Nat}(h:GrowW N nt nx T0 T k){n:Int}(hn:nx[k]? = some n)(hb:0≤n∧n < (N:Int))(hne:n≠nt)(hno:n ∉ T):GrowW N nt nx T0 (T++[n]) (k + 1):=by
  obtain ⟨E,hE⟩:=h.ext
  refine ⟨⟨E++[n],by rw [hE,List.append_assoc]⟩,?_,fun x hx=>?_,fun j x hj hx hxn=>?_,fun x hx=>?_⟩
  · rw [List.nodup_append]
    exact ⟨h.nd,by simp,fun a ha b' hb' e=>by
      simp only [List.mem_singleton] at hb'
      subst hb' e
      exact hno ha⟩
  · rcases List.mem_append.1 hx with h1 | h1
    · exact h.bd x h1
    · simp only [List.mem_singleton] at h1; subst h1; exact hb
  · by_cases hjk:j=k
    · subst hjk
      rw [hn] at hx
      injection hx with hx
      subst hx
      simp
    · exact List.mem_append_left _ (h.all j x (by omega) hx hxn)
  · rcases List.mem_append.1 hx with h1 | h1
    · exact h.only x h1
    · simp only [List.mem_singleton] at h1; subst h1; exact Or.inr ⟨List.mem_of_getElem? hn,hne⟩
set_option maxRecDepth 1000000 in
set_option maxHeartbeats 8000000 in
theorem wd2_any (w:World) (base N:Nat) (hN:N≤8192) (nt:Int) (nx T0:List Int) (V0:Value) (A:Option Addr) (cap Ln:Nat) (hLn:nx.length=Ln) (hLn2:Ln≤100) (hown:OwnN w V0 T0) (hV:∀ b,V0.ownBlock=some b→base≤b) (hbase:base≤w.heap.size) (hR:RdN w A nx)
    (hA:∀ b o,A=some ⟨b,o,none⟩→V0.ownBlock≠some b) (hin:∀ n ∈ nx,0≤n∧n < (N:Int)) (hnd:T0.Nodup) (hbd:∀ x ∈ T0,0≤x∧x < (N:Int))
    {x0 x1 x3 x4 x5 x6 x8 x11 x12 x13 x14 x15 x16 x17 x18 x19 x20 x21 x22 x23 x24 x25 x26 x27 x28 x29 x30 x31 x32 x33 x34 x35 x36 x37 x38 x39 x40 x41 x42 x43 x44 x45 x46 x47 x48 x49 x50 x51 x52 x53 x54 x55 x56 x57 x58 x59 x60 x61 x62 x63 x64 x65 x66:Value} (Q:Exit→Act→World→Prop)
    (hexit:∀ (y7 y38 y39 y40 y41 y42 y43 y44 y45 y46 y47 y48 y49 y50 y51 y52 y53 y54 y55 y56 y57 y58 y59 y60 y61 y62 y63 y64 y65:Value) (w':World) (T:List Int),OwnN w' y7 T→(∀ b,y7.ownBlock=some b→base≤b)→Below base w w'→GrowW N nt nx T0 T Ln→Q (.exit 2) ⟨(x0::x1::.int .i64 nt::x3::x4::x5::x6::y7::x8::.slice A Ln cap::.int .i64 (Ln:Int)::x11::x12::x13::x14::x15::x16::x17::x18::x19::x20::x21::x22::x23::x24::x25::x26::x27::x28::x29::x30::x31::x32::x33::x34::x35::x36::x37::y38::y39::y40::y41::y42::y43::y44::y45::y46::y47::y48::y49::y50::y51::y52::y53::y54::y55::y56::y57::y58::y59::y60::y61::y62::y63::y64::y65::x66::[]).toArray,[]⟩ w') :
    Code.wp Try.prog wd2 Q ⟨(x0::x1::.int .i64 nt::x3::x4::x5::x6::V0::x8::.slice A Ln cap::.int .i64 0::x11::x12::x13::x14::x15::x16::x17::x18::x19::x20::x21::x22::x23::x24::x25::x26::x27::x28::x29::x30::x31::x32::x33::x34::x35::x36::x37::x38::x39::x40::x41::x42::x43::x44::x45::x46::x47::x48::x49::x50::x51::x52::x53::x54::x55::x56::x57::x58::x59::x60::x61::x62::x63::x64::x65::x66::[]).toArray,[]⟩ w:=by
  conv=>arg 2; whnf
  have HE:=Lib.hid hexit
  have HLN:=Lib.hid hLn
  have HIN:=Lib.hid hin
  have H0:=Lib.hid (show OwnN w V0 T0∧(∀ b,V0.ownBlock=some b→base≤b)∧RdN w A nx∧(∀ b o,A=some ⟨b,o,none⟩→V0.ownBlock≠some b)∧Below base w w∧GrowW N nt nx T0 T0 0 from ⟨hown,hV,hR,hA,Below.refl _ _,⟨[],by simp⟩,hnd,hbd,(fun j n hj=>by omega),fun x hx=>Or.inl hx⟩)
  clear hexit hLn hin hown hV hR hA hnd hbd
  go_loopw [7,10] (fun V ix wr=>∃ (k:Nat) (T:List Int),k≤Ln∧ix = .int .i64 k∧OwnN wr V T∧(∀ b,V.ownBlock=some b→base≤b)∧RdN wr A nx∧(∀ b o,A=some ⟨b,o,none⟩→V.ownBlock≠some b)∧Below base w wr∧GrowW N nt nx T0 T k) (fun _ ix _=>Ln - (intOf ix).toNat)
  case atStart=>obtain ⟨a,b,c,d,e,f⟩:=H0.out; exact ⟨0,T0,by omega,rfl,a,b,c,d,e,f⟩
  case round =>
    obtain ⟨k,T,hk,rfl,hown,hV,hR,hA,hb,hg⟩:=hrel
    clear H0
    by_cases hlt:k < Ln
    · obtain ⟨n,hn⟩:∃ n,nx[k]? = some n:=⟨_,List.getElem?_eq_getElem (by rw [HLN.out]; exact hlt)⟩
      have hnb:=HIN.out n (List.mem_of_getElem? hn)
      obtain ⟨A1,c1,hVf,_,hrd⟩:=hown.form
      have hTl:T.length≤N:=nodup_le N T hg.nd hg.bd
      have hin:=fun W h=>In_any A1 T c1 n W h (by omega)
      obtain ⟨b,o,rfl,hbl,hc⟩:=hR k n hn
      have hsz:=hb.size
      have HOWN:=Lib.hid hown
      have HV:=Lib.hid hV
      have HR:=Lib.hid hR
      have HA:=Lib.hid hA
      have HB:=Lib.hid hb
      have HG:=Lib.hid hg
      have HN:=Lib.hid hn
      have HNB:=Lib.hid hnb
      have HRD:=Lib.hid hrd
      obtain ⟨y,hy⟩:∃ y,T.contains n=y:=⟨_,rfl⟩
      have hyb:y=true↔n ∈ T:=by rw [← hy,List.contains_iff_mem]
      rw [hy] at hin
      rw [← hVf] at hin
      have HINY:=Lib.hid hin
      have HYB:=Lib.hid hyb
      clear hown hV hR hA hb hg hn hnb hrd hin hy hyb hVf
      by_cases hnn:n=nt
      · have q1:(n == nt)=true:=by simp [hnn]
        have HG2:=Lib.hid (HG.out.skip HN.out (fun h=>absurd hnn h))
        subst hnn
        clear q1
        go_wp2
        exact ⟨⟨k + 1,T,by omega,by go_num,HOWN.out,HV.out,HR.out,HA.out,HB.out,HG2.out⟩,by simp [intOf]; omega⟩
      · have q1:(n == nt)=false:=by simp [hnn]
        have HNE:=Lib.hid hnn
        clear hnn
        cases y with
        | true =>
          have HG2:=Lib.hid (HG.out.skip HN.out (fun _=>HYB.out.1 rfl))
          go_wp2_with (first
            | (refine (HINY.out _ HRD.out).mono ?_; rintro e w3 ⟨rfl,rfl⟩))
          exact ⟨⟨k + 1,T,by omega,by go_num,HOWN.out,HV.out,HR.out,HA.out,HB.out,HG2.out⟩,by simp [intOf]; omega⟩
        | false =>
          have hno:Hid (n ∉ T):=Lib.hid (fun h=>by have:=HYB.out.2 h; cases this)
          have HTL:Hid (T.length≤90000):=Lib.hid (by omega)
          clear hTl
          go_wp2_with (first
            | (refine (HINY.out _ HRD.out).mono ?_; rintro e w3 ⟨rfl,rfl⟩)
            | (at_builtin; refine append_one rfl (.tmp 59) (.tmp 64) rfl u7 T rfl (HOWN.out.alloc _) wr.heap.size n rfl (heap_alloc_new _ _) HTL.out ?_; intro V' w8 ho8 hg8 hb8))
          refine ⟨⟨k + 1,T++[n],by omega,by go_num,ho8,fun x hx=>?_,?_,fun x oo hx=>?_,?_,HG.out.add HN.out HNB.out HNE.out hno.out⟩,by simp [intOf]; omega⟩
          · rcases hb8 with e | e
            · rw [e] at hx; exact HV.out x hx
            · rw [e] at hx; injection hx with hx; simp at hx; omega
          · exact (HR.out.below (Below.one _ _)).keepS hg8.size (fun x oo hx hl=>hg8.block x hl (fun e=>HA.out x oo hx e.symm))
          · intro e
            have hxb:b=x:=by injection hx with hx; injection hx
            rcases hb8 with e2 | e2
            · rw [e2] at e; exact HA.out x oo hx e
            · rw [e2] at e; injection e with e; simp at e; omega
          · exact Below.grown (HB.out.alloc (by omega) _) hg8 (by simp; omega) (fun x hx=>HV.out x hx)
    · obtain rfl:k=Ln:=by omega
      have HX:=fun (y38 y39 y40 y41 y42 y43 y44 y45 y46 y47 y48 y49 y50 y51 y52 y53 y54 y55 y56 y57 y58 y59 y60 y61 y62 y63 y64 y65:Value)=>Lib.hid (HE.out u7 y38 y39 y40 y41 y42 y43 y44 y45 y46 y47 y48 y49 y50 y51 y52 y53 y54 y55 y56 y57 y58 y59 y60 y61 y62 y63 y64 y65 wr T hown hV hb hg)
      clear hown hV hR hA hb hg HE
      go_wp2
      exact (HX _ _ _ _ _ _ _ _ _ _ _ _ _ _ _ _ _ _ _ _ _ _ _ _ _ _ _ _).out
end Go.Proofs.Ytgdbkoncaojmoaa
namespace Go.Proofs.Ytgdbkoncaojmoaa
open Go.RowKit Go.BigFrame
inductive WR (l:List Ins) (a:Nat) (nt:Int):Nat→Prop
  | zero:WR l a nt a
  | step {p:Nat} {i:Ins} {n:Int} (hr:WR l a nt p) (h:l[p]? = some i) (hn:n ∈ i.next p) (hne:n≠nt):WR l a nt n.toNat
structure SeenW (f:Fn7)(a:Nat)(nt:Int)(T:List Int)(k:Nat):Prop where
  hd:T[0]? = some (a:Int)
  nd:T.Nodup
  bd:∀ x ∈ T,0≤x∧x < (f.code.length:Int)
  kl:k≤T.length
  done:∀ (j:Nat) p i,j < k→T[j]? = some p→f.code[p.toNat]? = some i→∀ n ∈ i.next p.toNat,n≠nt→n ∈ T
  way:∀ p ∈ T,WR f.code a nt p.toNat
theorem SeenW.start {f:Fn7}{a:Nat}(ha:a < f.code.length)(nt:Int):SeenW f a nt [(a:Int)] 0 :=
  ⟨rfl,by simp,fun x hx=>by simp only [List.mem_singleton] at hx; subst hx; omega,by simp,fun j p i hj=>by omega,fun p hp=>by simp only [List.mem_singleton] at hp; subst hp; exact WR.zero⟩
theorem SeenW.len {f:Fn7}{a:Nat}{nt:Int}{T:List Int}{k:Nat}(h:SeenW f a nt T k):T.length≤f.code.length:=nodup_le _ T h.nd h.bd
theorem SeenW.grow {f:Fn7}{a:Nat}{nt:Int}{T T':List Int}{k Ln:Nat}(h:SeenW f a nt T k){p:Int}(hp:T[k]? = some p){i:Ins}(hi:f.code[p.toNat]? = some i)(hL:(i.next p.toNat).length=Ln)(hg:GrowW f.code.length nt (i.next p.toNat) T T' Ln):SeenW f a nt T' (k + 1):=by
  obtain ⟨E,hE⟩:=hg.ext
  have hkl:=(List.getElem?_eq_some_iff.1 hp).1
  have hmem:∀ x,x ∈ T→x ∈ T':=fun x hx=>by rw [hE]; exact List.mem_append_left _ hx
  refine ⟨by rw [hE,List.getElem?_append_left (by omega)]; exact h.hd,hg.nd,hg.bd,by rw [hE,List.length_append]; omega,fun j q x hj hq hx n hn hne=>?_,fun q hq=>?_⟩
  · rw [hE,List.getElem?_append_left (by omega)] at hq
    by_cases hjk:j=k
    · subst hjk
      rw [hp] at hq
      injection hq with hq
      subst hq
      rw [hi] at hx
      injection hx with hx
      subst hx
      obtain ⟨m,hm⟩:=List.mem_iff_getElem?.1 hn
      exact hg.all m n (by rw [← hL]; exact (List.getElem?_eq_some_iff.1 hm).1) hm hne
    · exact hmem _ (h.done j q x (by omega) hq hx n hn hne)
  · rcases hg.only q hq with h1 | ⟨h1,h2⟩
    · exact h.way q h1
    · exact WR.step (h.way p (List.mem_of_getElem? hp)) hi h1 h2
theorem SeenW.closed {f:Fn7}{a:Nat}{nt:Int}{T:List Int}(h:SeenW f a nt T T.length)(p:Nat):(p:Int) ∈ T↔WR f.code a nt p:=by
  constructor
  · intro hp
    have:=h.way p hp
    simpa using this
  · intro hw
    induction hw with
    | zero=>exact List.mem_of_getElem? h.hd
    | @step p i n hr h' hn hne ih =>
      obtain ⟨j,hj⟩:=List.mem_iff_getElem?.1 ih
      have h2:=h.done j _ i (List.getElem?_eq_some_iff.1 hj).1 hj (by simpa using h') n (by simpa using hn) hne
      have:=h.bd n h2
      rw [Int.toNat_of_nonneg this.1]
      exact h2
def WoT (f:Fn7)(a:Nat)(nt:Int)(e:Ending)(w:World):Prop:=∃ T A cap,e = .returned (.slice A T.length cap)∧RdN w A T∧T.length≤f.code.length∧∀ p:Nat,(p:Int) ∈ T↔WR f.code a nt p
set_option maxRecDepth 1000000 in
set_option maxHeartbeats 16000000 in
theorem Without_any (f:Fn7) (hf:OkF f) (a:Nat) (ha:a < f.code.length) (nt:Int) (hne:((a:Int) == nt)=false) (C:Option Addr) (cap:Nat) (w:World) (hC:RdI w C f.code) :
    Calls Try.prog 36 #[funcAgg f.nm f.ps f.R f.Fr C f.code.length cap,.int .i64 a,.int .i64 nt] w fun e w'=>WoT f a nt e w'∧Below w.heap.size w w':=by
  obtain ⟨N,hN⟩:∃ N,f.code.length=N:=⟨_,rfl⟩
  have hN2:N≤8192:=by rw [← hN]; exact hf.len.2
  have hB:=Below.one w (funcObj f.nm f.ps f.R f.Fr C f.code.length cap)
  have bx:=heap_alloc_new w (funcObj f.nm f.ps f.R f.Fr C f.code.length cap)
  have hC1:=hC.below hB
  have H00:=Lib.hid (SeenW.start ha nt)
  rw [hN] at hB bx hC1 ha ⊢
  simp only [funcObj,funcAgg] at hB bx hC1 ⊢
  have HC1:=Lib.hid hC1
  have HB:=Lib.hid hB
  have HF:=Lib.hid hf
  have HN:=Lib.hid hN
  obtain ⟨W,hW⟩:∃ W,w.alloc (.cells #[.string f.nm,.int .i64 f.ps,.int .i64 f.R,.int .i64 f.Fr,.slice C N cap] 24)=W:=⟨_,rfl⟩
  rw [hW] at bx HC1 HB
  have HBX:=Lib.hid bx
  have hBl:=(Array.getElem?_eq_some_iff.1 bx).1
  clear hf hN hC hB hC1 bx
  go_enter Try.func36,Try.ntmps36
  go_wp2_with (first
    | (at_builtin; refine append_one rfl (.tmp 15) (.tmp 17) rfl (.slice none 0 0) [] rfl (OwnN.nil _) W.heap.size a rfl (heap_alloc_new _ _) (by simp) ?_; intro V1 w1 ho1 hg1 hb1))
  have H0:=Lib.hid (show OwnN w1 V1 [(a:Int)]∧(∀ b,V1.ownBlock=some b→W.heap.size≤b)∧Below W.heap.size W w1 from ⟨ho1,(fun b hb=>by
    rcases hb1 with e | e
    · rw [e] at hb; simp [Value.ownBlock] at hb
    · rw [e] at hb; injection hb with hb; simp at hb; omega),Below.grown (Below.one W _) hg1 (by simp) (fun b hb=>by simp [Value.ownBlock] at hb)⟩)
  clear hW ho1 hg1 hb1
  go_loopg [7,8] N (fun g V ix wr=>∃ (k:Nat) (T:List Int),g=N - k∧ix = .int .i64 k∧OwnN wr V T∧(∀ b,V.ownBlock=some b→W.heap.size≤b)∧Below W.heap.size W wr∧SeenW f a nt T k)
  case atStart=>exact ⟨0,[(a:Int)],rfl,rfl,H0.out.1,H0.out.2.1,H0.out.2.2,H00.out⟩
  case round =>
    obtain ⟨k,T,hg,rfl,hown,hV,hb,hsn⟩:=hrel
    clear H0
    have HG:=Lib.hid hg
    have hTl:=hsn.len
    rw [HN.out] at hTl
    have hkl:=hsn.kl
    obtain ⟨A1,c1,hVf,hVl,hrd⟩:=hown.form
    obtain ⟨LT,hLT⟩:∃ LT,T.length=LT:=⟨_,rfl⟩
    rw [hLT] at hTl hkl hVf
    have HLT:=Lib.hid hLT
    have hsz:=hb.size
    subst hVf
    clear hg hLT
    have HOWN:=Lib.hid hown
    have HV:=Lib.hid hV
    have HB2:=Lib.hid hb
    have HSN:=Lib.hid hsn
    by_cases hlt:k < LT
    · obtain ⟨pp,hp⟩:∃ p,T[k]? = some p:=⟨_,List.getElem?_eq_getElem (by rw [HLT.out]; exact hlt)⟩
      have hpb:=hsn.bd pp (List.mem_of_getElem? hp)
      obtain ⟨p,rfl⟩:∃ p:Nat,pp=(p:Int):=⟨pp.toNat,by omega⟩
      have hpN:p < N:=by have:=hpb.2; rw [HN.out] at this; omega
      obtain ⟨b1,o1,rfl,hb1l,hct⟩:=hrd k _ hp
      obtain ⟨i,hi⟩:∃ i,f.code[p]? = some i:=⟨_,List.getElem?_eq_getElem (by rw [HN.out]; exact hpN)⟩
      obtain ⟨bb,oo,rfl,hbl,hcs⟩:=(HC1.out.below hb) p i hi
      obtain ⟨x0,x1,x2,x3,x4,x5,x6,x7,x8,x9,x10,x11,x12,x13,x14⟩:=RdI.load hcs
      have hx4:wr.heap[w.heap.size]? = _:=(hb.block _ hBl).trans HBX.out
      have g4:=cell_of_heap hx4 4 _ rfl
      obtain ⟨kk,op,dst,a',b',n,text,r0,r1,r2,r3,r4,r5,to_,els⟩:=i
      simp only at x0 x1 x2 x3 x4 x5 x6 x7 x8 x9 x10 x11 x12 x13 x14
      have HP:=Lib.hid hp
      have HI:=Lib.hid hi
      have HVL:=Lib.hid hVl
      have hna:=fun W=>refNext_fr ⟨kk,op,dst,a',b',n,text,r0,r1,r2,r3,r4,r5,to_,els⟩ p (by omega) W
      have hnl:=Ins.next_len ⟨kk,op,dst,a',b',n,text,r0,r1,r2,r3,r4,r5,to_,els⟩ p
      have hnxt:=HF.out.next HI.out
      have HNX:Hid (∀ T' Ln,(Ins.next ⟨kk,op,dst,a',b',n,text,r0,r1,r2,r3,r4,r5,to_,els⟩ p).length=Ln→GrowW N nt (Ins.next ⟨kk,op,dst,a',b',n,text,r0,r1,r2,r3,r4,r5,to_,els⟩ p) T T' Ln→SeenW f a nt T' (k + 1)):=Lib.hid fun T' Ln hL hg=>HSN.out.grow (Ln:=Ln) (i:=⟨kk,op,dst,a',b',n,text,r0,r1,r2,r3,r4,r5,to_,els⟩) HP.out (by rw [Int.toNat_natCast]; exact HI.out) (by rw [Int.toNat_natCast]; exact hL) (by rw [Int.toNat_natCast,HN.out]; exact hg)
      obtain ⟨nx,hnx⟩:∃ nx,Ins.next ⟨kk,op,dst,a',b',n,text,r0,r1,r2,r3,r4,r5,to_,els⟩ p=nx:=⟨_,rfl⟩
      rw [hnx] at hna hnl hnxt HNX
      obtain ⟨Ln,hLn⟩:∃ Ln,nx.length=Ln:=⟨_,rfl⟩
      have HNA:Hid (∀ W,Calls Try.prog 27 (#[.agg #[.int .i64 kk,.int .i64 op,.int .i64 dst,.int .i64 a',.int .i64 b',.int .i64 n,.string text,.int .i64 r0,.int .i64 r1,.int .i64 r2,.int .i64 r3,.int .i64 r4,.int .i64 r5,.int .i64 to_,.int .i64 els]].push (.int .i64 p)) W fun e w'=>(∃ A c,e = .returned (.slice A Ln c)∧RdN w' A nx∧∀ b o,A=some ⟨b,o,none⟩→W.heap.size≤b)∧Below W.heap.size W w'):=Lib.hid fun W=>(hna W).mono fun e w' ⟨⟨A,c,h1,h2,h3⟩,h4⟩=>⟨⟨A,c,by rw [h1,hLn],h2,h3⟩,h4⟩
      simp only [List.push_toArray,List.cons_append,List.nil_append] at HNA
      have HLn:=Lib.hid hLn
      have HNXT:Hid (∀ n ∈ nx,0≤n∧n < (N:Int)):=Lib.hid fun n hn=>by
        have:=hnxt n hn
        rw [HN.out] at this
        omega
      have HLn2:Hid (Ln≤100):=Lib.hid (by omega)
      clear hown hV hb hsn hp hi hcs hpb hrd hx4 hVl hna hnl hnxt hnx hLn
      go_wp2_with fail
      go_still_tail 12,(by kernel_rfl)
      go_wp2_with (first
        | (refine (HNA.out _).mono ?_; rintro e w8 ⟨⟨A8,c8,rfl,hrd8,hfr8⟩,hb8⟩))
      have hbw8:Below wr.heap.size wr w8:=((Below.refl wr.heap.size wr).drew).trans hb8
      have HA8:∀ b o,A8=some ⟨b,o,none⟩→(Value.slice (some ⟨b1,o1,none⟩) LT c1).ownBlock≠some b:=fun b o h e=>by
        have h1:=hfr8 b o h
        have h2:=HVL.out b e
        have h3:wr.heap.size≤b:=h1
        omega
      refine wd2_any w8 W.heap.size N hN2 nt nx T (.slice (some ⟨b1,o1,none⟩) LT c1) A8 c8 Ln HLn.out HLn2.out (HOWN.out.later hbw8) HV.out (Nat.le_trans hsz hbw8.size) hrd8 HA8 HNXT.out HSN.out.nd (fun x hx=>by have:=HSN.out.bd x hx; rw [HN.out] at this; exact this) _ ?_
      intro z7 z38 z39 z40 z41 z42 z43 z44 z45 z46 z47 z48 z49 z50 z51 z52 z53 z54 z55 z56 z57 z58 z59 z60 z61 z62 z63 z64 z65 w9 T' hown9 hV9 hb9 hg9
      have HSN9:=Lib.hid (HNX.out T' Ln HLn.out hg9)
      have HO9:=Lib.hid hown9
      have HV9:=Lib.hid hV9
      have HB9:=Lib.hid ((HB2.out.trans (hbw8.mono hsz)).trans hb9)
      clear hown9 hV9 hb9 hg9 hbw8 hb8 hrd8 hfr8
      go_wp2
      go_roundg (N - (k + 1))
      case measure=>rw [HG.out]; omega
      case rel=>exact ⟨k + 1,T',rfl,by go_num,HO9.out,HV9.out,HB9.out,HSN9.out⟩
    · obtain rfl:k=LT:=by omega
      have HR:=Lib.hid hrd
      have HCLO:Hid (∀ p:Nat,(p:Int) ∈ T↔WR f.code a nt p):=Lib.hid (by
        have h:=HSN.out
        rw [← HLT.out] at h
        exact h.closed)
      clear hown hV hb hsn hrd hVl
      go_wp2
      go_returns
      exact ⟨⟨T,A1,c1,by rw [HLT.out]; rfl,HR.out,by rw [HLT.out,HN.out]; exact hTl,HCLO.out⟩,HB.out.trans (HB2.out.mono HB.out.size)⟩
end Go.Proofs.Ytgdbkoncaojmoaa
namespace Go.Proofs.Ytgdbkoncaojmoaa
open Go.RowKit Go.BigFrame
theorem WR_rch {f:Fn7}(hf:OkF f)(p:Nat):WR f.code 0 (-1) p↔Rch f.code p:=by
  constructor
  · intro h
    induction h with
    | zero=>exact Rch.zero (by have:=hf.len; omega)
    | step hr h hn hne ih=>exact Rch.step ih h hn
  · intro h
    induction h with
    | zero h=>exact WR.zero
    | step hr h hn ih=>exact WR.step ih h hn (by have:=hf.next h _ hn; omega)
set_option maxRecDepth 1000000 in
theorem Reached_any (f:Fn7)(hf:OkF f)(n:Nat)(C:Option Addr)(cap:Nat)(w:World)(hC:RdI w C f.code) :
    Calls Try.prog 18 #[funcAgg f.nm f.ps f.R f.Fr C f.code.length cap,.int .i64 n] w fun e w'=>e = .returned (.bool (tb (Rch f.code n)))∧Below w.heap.size w w':=by
  have hB:=Below.one w (funcObj f.nm f.ps f.R f.Fr C f.code.length cap)
  have bx:=heap_alloc_new w (funcObj f.nm f.ps f.R f.Fr C f.code.length cap)
  have hwo:=Without_any f hf 0 (by have:=hf.len; omega) (-1) (by decide) C cap _ (hC.below hB)
  have hl:=hf.len
  obtain ⟨N,hN⟩:∃ N,f.code.length=N:=⟨_,rfl⟩
  rw [hN] at hwo hB bx hl ⊢
  simp only [funcObj,funcAgg] at hwo hB bx ⊢
  obtain ⟨z,hz⟩:∃ z,tb (Rch f.code n)=z:=⟨_,rfl⟩
  rw [hz]
  have hzz:∀ T:List Int,(∀ p:Nat,(p:Int) ∈ T↔WR f.code 0 (-1) p)→T.contains (n:Int)=z:=fun T h=>by
    rw [← hz]
    cases hc:tb (Rch f.code n) with
    | true=>exact List.contains_iff_mem.2 ((h n).2 ((WR_rch hf n).2 (tb_true.1 hc)))
    | false =>
      rw [Bool.eq_false_iff]
      intro h2
      exact (tb_false.1 hc) ((WR_rch hf n).1 ((h n).1 (List.contains_iff_mem.1 h2)))
  have HZ:=Lib.hid hzz
  have HWO:=Lib.hid hwo
  have HB:=Lib.hid hB
  have HN:=Lib.hid hN
  clear hf hC hwo hB hN hz hzz
  go_enter Try.func18,Try.ntmps18
  go_wp2_with fail
  refine HWO.out.mono ?_
  rintro e w3 ⟨⟨T,A,c,rfl,hrd,hlen,hmem⟩,hb3⟩
  have hi:=In_any A T c n w3 hrd (by rw [HN.out] at hlen; omega)
  rw [HZ.out T hmem] at hi
  obtain ⟨LT,hLT⟩:∃ LT,T.length=LT:=⟨_,rfl⟩
  rw [hLT] at hi ⊢
  have HI:=Lib.hid hi
  clear hi hLT hlen hmem hrd
  go_wp2_with fail
  refine HI.out.mono ?_
  rintro e w4 ⟨rfl,rfl⟩
  go_wp2
  go_returns
  exact ⟨rfl,HB.out.trans (hb3.mono HB.out.size)⟩
end Go.Proofs.Ytgdbkoncaojmoaa

