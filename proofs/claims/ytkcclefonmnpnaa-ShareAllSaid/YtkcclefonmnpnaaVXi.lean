import Derived.Test.YtkcclefonmnpnaaVXe
set_option maxRecDepth 1000000
set_option maxHeartbeats 32000000
namespace Go.Proofs.Ytkcclefonmnpnaa
open Go.RowKit Go.BigFrame
theorem GM:oU 6 (fun _ _ _=>True):=by
 intro w0 w l t b m scap sb fb ib mb rb ub np i E iv ov R Fr L hm hok hkd hR hnp hx hS hf hi hfs
 intros
 rename_i K Q hK hF
 clear hx
 conv=>arg 2;whnf
 have HK:=Hz hK
 have HF:=Hz hF
 have HS:=Hz hS
 have HFB:=Hz hf
 have HIB:=Hz hi
 obtain⟨f0,f1,f2,f3,f4⟩:=cC hf
 obtain⟨c0,c1,c2,c3,c4,c5,c6,c7,c8,c9,c10,c11,c12,c13,c14⟩:=Ins.cells hi
 obtain⟨n,hn⟩:∃ n,t.ρ.length=n:=⟨_,rfl⟩
 rw[hn] at f4 hR
 have HOK:=Hz hok
 have HN:=Hz hn
 have HR:=Hz hR
 have HNP:=Hz hnp
 have HM:=Hz hm
 have HFS:=Hz hfs
 have HKD:=Hz hkd
 clear hK hF hS hf hi hok hR hm hn hnp hfs
 rw[hkd] at c0
 clear hkd
 obtain⟨ra,ha,hra⟩:=HOK.out.useA (by rw[HKD.out];rfl)
 rw[ha] at c3
 have hran:ra<n:=by rw[HR.out];exact hra
 have hrv:=(HS.out.regs (t,b) (by simp)).2.2
 have r0:=bZ hrv (r:=ra) (by rw[HN.out];exact hran)
 simp only at r0
 have HA:Hid (t.ρ.getD ra 0=rg t.ρ i.a):=Hz (by unfold rg;rw[ha];rfl)
 rw[HA.out] at r0
 obtain⟨av,hav⟩:∃ av,rg t.ρ i.a=av:=⟨_,rfl⟩
 rw[hav] at r0
 have HAV:=Hz hav
 clear hrv ha hav
 have hpl:=fun W=>aG av W
 obtain⟨a,hpa⟩:∃ a,eJ av=a:=⟨_,rfl⟩
 rw[show pl av=a from hpa] at hpl
 have HPL:=Hz (show eJ (rg t.ρ i.a)=a by rw[HAV.out];exact hpa)
 clear hpa
 by_cases hlo:a<1
 ·as_aux_lemma =>
  have q1:decide (a<1)=true:=by simpa using hlo
  obtain⟨oA,oc,hov,hfin⟩:=HS.out.told 2 1
  obtain⟨cs,hres,hsz⟩:=HS.out.res
  have HFN:=Hz hfin
  have HLO:=Hz hlo
  clear hfin hlo
  subst hov
  go_wp2_with (first
   |(go_at_call 59;refine (hpl _).mono ?_;rintro e w3 ⟨rfl,hw3⟩;subst hw3)
   |(show wpList Try.prog _ _ (⟨none,.store _ (.tmp 6) _,_,_,_,_⟩::_) _ _;refine wpList_store_row rfl 49 (.tmp 6) (.tmp 201) rfl rb #[.int .i64 2,.int .i64 1,.slice oA E.out.length oc] rfl rfl 49 _ hres zO hsz (eB _ _ _ _ _) ?_))
  exact HF.out _ _  (by unfold aQ;have h:=HLO.out;simp[HKD.out,HPL.out,h]) HFN.out
 by_cases hhi:4096≤a
 ·as_aux_lemma =>
  have q1:decide (a<1)=false:=by simpa using hlo
  have q2:decide (4096≤a)=true:=by simpa using hhi
  have q3:decide (a ≥ 4096)=true:=by simpa using hhi
  obtain⟨oA,oc,hov,hfin⟩:=HS.out.told 2 1
  obtain⟨cs,hres,hsz⟩:=HS.out.res
  have HFN:=Hz hfin
  have HHI:=Hz hhi
  clear hfin hhi hlo
  subst hov
  go_wp2_with (first
   |(go_at_call 59;refine (hpl _).mono ?_;rintro e w3 ⟨rfl,hw3⟩;subst hw3)
   |(show wpList Try.prog _ _ (⟨none,.store _ (.tmp 6) _,_,_,_,_⟩::_) _ _;refine wpList_store_row rfl 49 (.tmp 6) (.tmp 201) rfl rb #[.int .i64 2,.int .i64 1,.slice oA E.out.length oc] rfl rfl 49 _ hres zO hsz (eB _ _ _ _ _) ?_))
  exact HF.out _ _  (by unfold aQ;have h:=HHI.out;simp[HKD.out,HPL.out,h]) HFN.out
 as_aux_lemma =>
  obtain⟨na,hna⟩:∃ na:Nat,a=na:=⟨a.toNat,by omega⟩
  subst hna
  have q1:decide ((na:Int)<1)=false:=by simpa using hlo
  have q2:decide (4096≤(na:Int))=false:=by simpa using hhi
  have q3:decide ((na:Int) ≥ 4096)=false:=by simpa using hhi
  have hl:na<4096:=by omega
  have hlm:na<E.mem.length:=by rw[HS.out.ml];exact hl
  have mc:=bZ HS.out.mem hlm
  have mf:=aK HS.out.mem na
  obtain⟨mv,hmv⟩:∃ mv,E.mem.getD na 0=mv:=⟨_,rfl⟩
  rw[hmv] at mc
  have HMV:Hid (E.mem[na]?.getD 0=mv):=Hz (by rw[←List.getD_eq_getElem?_getD];exact hmv)
  clear hmv
  have HX:Hid (¬ ((na:Int)<1∨4096≤(na:Int))):=Hz (by omega)
  clear hlo hhi
  go_wp2_with (first
   |(go_at_call 59;refine (hpl _).mono ?_;rintro e w3 ⟨rfl,hw3⟩;subst hw3))
  exact HK.out _ _ _ _ _ _ ⟨by unfold aQ;rw[(show i.sets=i.dst from by unfold Ins.sets;rw[HKD.out];rfl)];have h:=HX.out;simp only[not_or,Int.not_lt,Int.not_le] at h;simp[HKD.out,HNP.out,HPL.out,HMV.out,Int.not_lt.2 h.1,Int.not_le.2 h.2],HS.out,HFB.out,HIB.out,Nat.le_succ _⟩
theorem GN:oU 7 (fun _ _ _=>True):=by
 intro w0 w l t b m scap sb fb ib mb rb ub np i E iv ov R Fr L hm hok hkd hR hnp hx hS hf hi hfs
 intros
 rename_i K Q hK hF
 clear hx
 conv=>arg 2;whnf
 have HK:=Hz hK
 have HF:=Hz hF
 have HS:=Hz hS
 have HFB:=Hz hf
 have HIB:=Hz hi
 obtain⟨f0,f1,f2,f3,f4⟩:=cC hf
 obtain⟨c0,c1,c2,c3,c4,c5,c6,c7,c8,c9,c10,c11,c12,c13,c14⟩:=Ins.cells hi
 obtain⟨n,hn⟩:∃ n,t.ρ.length=n:=⟨_,rfl⟩
 rw[hn] at f4 hR
 have HOK:=Hz hok
 have HN:=Hz hn
 have HR:=Hz hR
 have HNP:=Hz hnp
 have HM:=Hz hm
 have HFS:=Hz hfs
 have HKD:=Hz hkd
 clear hK hF hS hf hi hok hR hm hn hnp hfs
 rw[hkd] at c0
 clear hkd
 obtain⟨ra,ha,hra⟩:=HOK.out.useA (by rw[HKD.out];rfl)
 rw[ha] at c3
 have hran:ra<n:=by rw[HR.out];exact hra
 have hrv:=(HS.out.regs (t,b) (by simp)).2.2
 have r0:=bZ hrv (r:=ra) (by rw[HN.out];exact hran)
 simp only at r0
 have HA:Hid (t.ρ.getD ra 0=rg t.ρ i.a):=Hz (by unfold rg;rw[ha];rfl)
 rw[HA.out] at r0
 obtain⟨av,hav⟩:∃ av,rg t.ρ i.a=av:=⟨_,rfl⟩
 rw[hav] at r0
 have HAV:=Hz hav
 clear hrv ha hav
 obtain⟨rbb,hb,hrb⟩:=HOK.out.useB (by rw[HKD.out];rfl)
 rw[hb] at c4
 have hrbn:rbb<n:=by rw[HR.out];exact hrb
 have hrv:=(HS.out.regs (t,b) (by simp)).2.2
 have r1:=bZ hrv (r:=rbb) (by rw[HN.out];exact hrbn)
 simp only at r1
 have HBb:Hid (t.ρ.getD rbb 0=rg t.ρ i.b):=Hz (by unfold rg;rw[hb];rfl)
 rw[HBb.out] at r1
 obtain⟨bv,hbv⟩:∃ bv,rg t.ρ i.b=bv:=⟨_,rfl⟩
 rw[hbv] at r1
 have HBV:=Hz hbv
 clear hrv hb hbv
 have hpl:=fun W=>aG av W
 obtain⟨a,hpa⟩:∃ a,eJ av=a:=⟨_,rfl⟩
 rw[show pl av=a from hpa] at hpl
 have HPL:=Hz (show eJ (rg t.ρ i.a)=a by rw[HAV.out];exact hpa)
 clear hpa
 by_cases hlo:a<1
 ·as_aux_lemma =>
  have q1:decide (a<1)=true:=by simpa using hlo
  obtain⟨oA,oc,hov,hfin⟩:=HS.out.told 2 1
  obtain⟨cs,hres,hsz⟩:=HS.out.res
  have HFN:=Hz hfin
  have HLO:=Hz hlo
  clear hfin hlo
  subst hov
  go_wp2_with (first
   |(go_at_call 59;refine (hpl _).mono ?_;rintro e w3 ⟨rfl,hw3⟩;subst hw3)
   |(show wpList Try.prog _ _ (⟨none,.store _ (.tmp 6) _,_,_,_,_⟩::_) _ _;refine wpList_store_row rfl 49 (.tmp 6) (.tmp 201) rfl rb #[.int .i64 2,.int .i64 1,.slice oA E.out.length oc] rfl rfl 49 _ hres zO hsz (eB _ _ _ _ _) ?_))
  exact HF.out _ _  (by unfold aQ;have h:=HLO.out;simp[HKD.out,HPL.out,h]) HFN.out
 by_cases hhi:4096≤a
 ·as_aux_lemma =>
  have q1:decide (a<1)=false:=by simpa using hlo
  have q2:decide (4096≤a)=true:=by simpa using hhi
  have q3:decide (a ≥ 4096)=true:=by simpa using hhi
  obtain⟨oA,oc,hov,hfin⟩:=HS.out.told 2 1
  obtain⟨cs,hres,hsz⟩:=HS.out.res
  have HFN:=Hz hfin
  have HHI:=Hz hhi
  clear hfin hhi hlo
  subst hov
  go_wp2_with (first
   |(go_at_call 59;refine (hpl _).mono ?_;rintro e w3 ⟨rfl,hw3⟩;subst hw3)
   |(show wpList Try.prog _ _ (⟨none,.store _ (.tmp 6) _,_,_,_,_⟩::_) _ _;refine wpList_store_row rfl 49 (.tmp 6) (.tmp 201) rfl rb #[.int .i64 2,.int .i64 1,.slice oA E.out.length oc] rfl rfl 49 _ hres zO hsz (eB _ _ _ _ _) ?_))
  exact HF.out _ _  (by unfold aQ;have h:=HHI.out;simp[HKD.out,HPL.out,h]) HFN.out
 as_aux_lemma =>
  obtain⟨na,hna⟩:∃ na:Nat,a=na:=⟨a.toNat,by omega⟩
  subst hna
  have q1:decide ((na:Int)<1)=false:=by simpa using hlo
  have q2:decide (4096≤(na:Int))=false:=by simpa using hhi
  have q3:decide ((na:Int) ≥ 4096)=false:=by simpa using hhi
  have hl:na<4096:=by omega
  have hlm:na<E.mem.length:=by rw[HS.out.ml];exact hl
  have mc:=bZ HS.out.mem hlm
  have mf:=aK HS.out.mem na
  have HX:Hid (¬ ((na:Int)<1∨4096≤(na:Int))):=Hz (by omega)
  clear hlo hhi
  go_wp2_with (first
   |(go_at_call 59;refine (hpl _).mono ?_;rintro e w3 ⟨rfl,hw3⟩;subst hw3))
  exact HK.out _ _ _ _ _ _ ⟨by unfold aQ bB;rw[(show i.sets=-1 from by unfold Ins.sets;rw[HKD.out];rfl)];have h:=HX.out;simp only[not_or,Int.not_lt,Int.not_le] at h;simp[HKD.out,HNP.out,HPL.out,HBV.out,Int.not_lt.2 h.1,Int.not_le.2 h.2],HS.out.mem_set na bv,(heap_setCell_other w ⟨mb,na,none⟩ fb _ (dO HFB.out HS.out.mem (by decide))).trans HFB.out,(heap_setCell_other w ⟨mb,na,none⟩ ib _ (dO HIB.out HS.out.mem (by decide))).trans HIB.out,Nat.le_succ _⟩
theorem GO:oU 2 (fun _ _ _=>True):=by
 intro w0 w l t b m scap sb fb ib mb rb ub np i E iv ov R Fr L hm hok hkd hR hnp hx hS hf hi hfs
 intros
 rename_i K Q hK hF
 clear hx
 conv=>arg 2;whnf
 have HK:=Hz hK
 have HF:=Hz hF
 have HS:=Hz hS
 have HFB:=Hz hf
 have HIB:=Hz hi
 obtain⟨f0,f1,f2,f3,f4⟩:=cC hf
 obtain⟨c0,c1,c2,c3,c4,c5,c6,c7,c8,c9,c10,c11,c12,c13,c14⟩:=Ins.cells hi
 obtain⟨n,hn⟩:∃ n,t.ρ.length=n:=⟨_,rfl⟩
 rw[hn] at f4 hR
 have HOK:=Hz hok
 have HN:=Hz hn
 have HR:=Hz hR
 have HNP:=Hz hnp
 have HM:=Hz hm
 have HFS:=Hz hfs
 have HKD:=Hz hkd
 clear hK hF hS hf hi hok hR hm hn hnp hfs
 rw[hkd] at c0
 clear hkd
 obtain⟨ra,ha,hra⟩:=HOK.out.useA (by rw[HKD.out];rfl)
 rw[ha] at c3
 have hran:ra<n:=by rw[HR.out];exact hra
 have hrv:=(HS.out.regs (t,b) (by simp)).2.2
 have r0:=bZ hrv (r:=ra) (by rw[HN.out];exact hran)
 simp only at r0
 have HA:Hid (t.ρ.getD ra 0=rg t.ρ i.a):=Hz (by unfold rg;rw[ha];rfl)
 rw[HA.out] at r0
 obtain⟨av,hav⟩:∃ av,rg t.ρ i.a=av:=⟨_,rfl⟩
 rw[hav] at r0
 have HAV:=Hz hav
 clear hrv ha hav
 have hdo:=fun W=>qK i.op av 0 W
 obtain⟨⟨d1,d2⟩,hD⟩:∃ D,iN i.op av 0=D:=⟨_,rfl⟩
 rw[hD] at hdo
 simp only at hdo
 have HDO:=Hz hdo
 have HDV:Hid (iN i.op (rg t.ρ i.a) (i.bv t.ρ)=(d1,d2)):=Hz (by rw[HAV.out,show i.bv t.ρ=0 from by unfold Ins.bv;rw[HKD.out];rfl];exact hD)
 clear hD hdo
 go_wp2_with fail
 have e1:=fun s:Later w=>Later.cell c1 s
 have e3:=fun s:Later w=>Later.cell c3 s
 have e4:=fun s:Later w=>Later.cell f4 s
 have e0:=fun s:Later w=>Later.cell r0 s
 refine cM (by kernel_rfl) (by kernel_rfl) ?_
 repeat (go_big_quiet_step ((go_at_call 46;exact Calls.later (HDO.out _))))
 refine wpQuiet_nil ?_
 rintro w7 ⟨s',rfl⟩
 have hb7:=s'.h
 generalize s'.w=w7 at *
 have HS7:=Hz (HS.out.later hb7)
 have HF7:=Hz ((hb7.block _ (Az HFB.out).1).trans HFB.out)
 have HI7:=Hz ((hb7.block _ (Az HIB.out).1).trans HIB.out)
 clear hb7 e1 e3 e4 e0 c0 c1 c2 c3 c4 c5 c6 c7 c8 c9 c10 c11 c12 c13 c14 f0 f1 f2 f3 f4 r0
 cases d2 with
 | true=>as_aux_lemma =>
  go_wp2
  exact HK.out _ _ _ _ _ _ ⟨by unfold aQ;rw[(show i.sets=i.dst from by unfold Ins.sets;rw[HKD.out];rfl)];simp[HKD.out,HNP.out,HDV.out],HS7.out,HF7.out,HI7.out,Nat.le_succ _⟩
 | false=>as_aux_lemma =>
  obtain⟨oA,oc,hov,hfin⟩:=HS7.out.told 2 2
  obtain⟨cs,hres,hsz⟩:=HS7.out.res
  have HFN:=Hz hfin
  clear hfin
  subst hov
  go_wp2_with (first
   |(show wpList Try.prog _ _ (⟨none,.store _ (.tmp 6) _,_,_,_,_⟩::_) _ _;refine wpList_store_row rfl 49 (.tmp 6) (.tmp 160) rfl rb #[.int .i64 2,.int .i64 2,.slice oA E.out.length oc] rfl rfl 49 _ hres zO hsz (eB _ _ _ _ _) ?_))
  exact HF.out _ _  (by unfold aQ;simp[HKD.out,HDV.out]) HFN.out
theorem GP:oU 3 (fun _ _ _=>True):=by
 intro w0 w l t b m scap sb fb ib mb rb ub np i E iv ov R Fr L hm hok hkd hR hnp hx hS hf hi hfs
 intros
 rename_i K Q hK hF
 clear hx
 conv=>arg 2;whnf
 have HK:=Hz hK
 have HF:=Hz hF
 have HS:=Hz hS
 have HFB:=Hz hf
 have HIB:=Hz hi
 obtain⟨f0,f1,f2,f3,f4⟩:=cC hf
 obtain⟨c0,c1,c2,c3,c4,c5,c6,c7,c8,c9,c10,c11,c12,c13,c14⟩:=Ins.cells hi
 obtain⟨n,hn⟩:∃ n,t.ρ.length=n:=⟨_,rfl⟩
 rw[hn] at f4 hR
 have HOK:=Hz hok
 have HN:=Hz hn
 have HR:=Hz hR
 have HNP:=Hz hnp
 have HM:=Hz hm
 have HFS:=Hz hfs
 have HKD:=Hz hkd
 clear hK hF hS hf hi hok hR hm hn hnp hfs
 rw[hkd] at c0
 clear hkd
 obtain⟨ra,ha,hra⟩:=HOK.out.useA (by rw[HKD.out];rfl)
 rw[ha] at c3
 have hran:ra<n:=by rw[HR.out];exact hra
 have hrv:=(HS.out.regs (t,b) (by simp)).2.2
 have r0:=bZ hrv (r:=ra) (by rw[HN.out];exact hran)
 simp only at r0
 have HA:Hid (t.ρ.getD ra 0=rg t.ρ i.a):=Hz (by unfold rg;rw[ha];rfl)
 rw[HA.out] at r0
 obtain⟨av,hav⟩:∃ av,rg t.ρ i.a=av:=⟨_,rfl⟩
 rw[hav] at r0
 have HAV:=Hz hav
 clear hrv ha hav
 obtain⟨rbb,hb,hrb⟩:=HOK.out.useB (by rw[HKD.out];rfl)
 rw[hb] at c4
 have hrbn:rbb<n:=by rw[HR.out];exact hrb
 have hrv:=(HS.out.regs (t,b) (by simp)).2.2
 have r1:=bZ hrv (r:=rbb) (by rw[HN.out];exact hrbn)
 simp only at r1
 have HBb:Hid (t.ρ.getD rbb 0=rg t.ρ i.b):=Hz (by unfold rg;rw[hb];rfl)
 rw[HBb.out] at r1
 obtain⟨bv,hbv⟩:∃ bv,rg t.ρ i.b=bv:=⟨_,rfl⟩
 rw[hbv] at r1
 have HBV:=Hz hbv
 clear hrv hb hbv
 have hdo:=fun W=>qK i.op av bv W
 obtain⟨⟨d1,d2⟩,hD⟩:∃ D,iN i.op av bv=D:=⟨_,rfl⟩
 rw[hD] at hdo
 simp only at hdo
 have HDO:=Hz hdo
 have HDV:Hid (iN i.op (rg t.ρ i.a) (i.bv t.ρ)=(d1,d2)):=Hz (by rw[HAV.out,show i.bv t.ρ=bv from by unfold Ins.bv;rw[HKD.out];exact HBV.out];exact hD)
 clear hD hdo
 go_wp2_with fail
 have e1:=fun s:Later w=>Later.cell c1 s
 have e3:=fun s:Later w=>Later.cell c3 s
 have e4:=fun s:Later w=>Later.cell f4 s
 have e0:=fun s:Later w=>Later.cell r0 s
 refine cM (by kernel_rfl) (by kernel_rfl) ?_
 repeat (go_big_quiet_step ((go_at_call 46;exact Calls.later (HDO.out _))))
 refine wpQuiet_nil ?_
 rintro w7 ⟨s',rfl⟩
 have hb7:=s'.h
 generalize s'.w=w7 at *
 have HS7:=Hz (HS.out.later hb7)
 have HF7:=Hz ((hb7.block _ (Az HFB.out).1).trans HFB.out)
 have HI7:=Hz ((hb7.block _ (Az HIB.out).1).trans HIB.out)
 clear hb7 e1 e3 e4 e0 c0 c1 c2 c3 c4 c5 c6 c7 c8 c9 c10 c11 c12 c13 c14 f0 f1 f2 f3 f4 r0 r1
 cases d2 with
 | true=>as_aux_lemma =>
  go_wp2
  exact HK.out _ _ _ _ _ _ ⟨by unfold aQ;rw[(show i.sets=i.dst from by unfold Ins.sets;rw[HKD.out];rfl)];simp[HKD.out,HNP.out,HDV.out],HS7.out,HF7.out,HI7.out,Nat.le_succ _⟩
 | false=>as_aux_lemma =>
  obtain⟨oA,oc,hov,hfin⟩:=HS7.out.told 2 2
  obtain⟨cs,hres,hsz⟩:=HS7.out.res
  have HFN:=Hz hfin
  clear hfin
  subst hov
  go_wp2_with (first
   |(show wpList Try.prog _ _ (⟨none,.store _ (.tmp 6) _,_,_,_,_⟩::_) _ _;refine wpList_store_row rfl 49 (.tmp 6) (.tmp 160) rfl rb #[.int .i64 2,.int .i64 2,.slice oA E.out.length oc] rfl rfl 49 _ hres zO hsz (eB _ _ _ _ _) ?_))
  exact HF.out _ _  (by unfold aQ;simp[HKD.out,HDV.out]) HFN.out
end Go.Proofs.Ytkcclefonmnpnaa
