import Derived.Test.YtkcclefonmnpnaaVXe
set_option maxRecDepth 1000000
set_option maxHeartbeats 32000000
namespace Go.Proofs.Ytkcclefonmnpnaa
open Go.RowKit Go.BigFrame
theorem IM:oU 1 (fun _ _ _=>True):=by
 intro w0 w l t b m scap sb fb ib mb rb ub np i E iv ov R Fr L hm hok hkd hR hnp hx hS hf hi hfs
 intros
 rename_i K Q hK hF
 clear hx
 conv=>arg 2;whnf
 have HK:=Hz hK
 have HF:=Hz hF
 have HS:=Hz hS
 have HFB:=Hz hf
 have HIB:=Hz hi
 obtain⟨f0,f1,f2,f3,f4⟩:=cC hf
 obtain⟨c0,c1,c2,c3,c4,c5,c6,c7,c8,c9,c10,c11,c12,c13,c14⟩:=Ins.cells hi
 obtain⟨n,hn⟩:∃ n,t.ρ.length=n:=⟨_,rfl⟩
 rw[hn] at f4 hR
 have HOK:=Hz hok
 have HN:=Hz hn
 have HR:=Hz hR
 have HNP:=Hz hnp
 have HM:=Hz hm
 have HFS:=Hz hfs
 have HKD:=Hz hkd
 clear hK hF hS hf hi hok hR hm hn hnp hfs
 rw[hkd] at c0
 clear hkd
 go_wp2
 exact HK.out _ _ _ _ _ _ ⟨by unfold aQ;rw[(show i.sets=i.dst from by unfold Ins.sets;rw[HKD.out];rfl)];simp[HKD.out,HNP.out],HS.out,HFB.out,HIB.out,Nat.le_succ _⟩
theorem IN:oU 4 (fun _ _ _=>True):=by
 intro w0 w l t b m scap sb fb ib mb rb ub np i E iv ov R Fr L hm hok hkd hR hnp hx hS hf hi hfs
 intros
 rename_i K Q hK hF
 clear hx
 conv=>arg 2;whnf
 have HK:=Hz hK
 have HF:=Hz hF
 have HS:=Hz hS
 have HFB:=Hz hf
 have HIB:=Hz hi
 obtain⟨f0,f1,f2,f3,f4⟩:=cC hf
 obtain⟨c0,c1,c2,c3,c4,c5,c6,c7,c8,c9,c10,c11,c12,c13,c14⟩:=Ins.cells hi
 obtain⟨n,hn⟩:∃ n,t.ρ.length=n:=⟨_,rfl⟩
 rw[hn] at f4 hR
 have HOK:=Hz hok
 have HN:=Hz hn
 have HR:=Hz hR
 have HNP:=Hz hnp
 have HM:=Hz hm
 have HFS:=Hz hfs
 have HKD:=Hz hkd
 clear hK hF hS hf hi hok hR hm hn hnp hfs
 rw[hkd] at c0
 clear hkd
 obtain⟨ra,ha,hra⟩:=HOK.out.useA (by rw[HKD.out];rfl)
 rw[ha] at c3
 have hran:ra<n:=by rw[HR.out];exact hra
 have hrv:=(HS.out.regs (t,b) (by simp)).2.2
 have r0:=bZ hrv (r:=ra) (by rw[HN.out];exact hran)
 simp only at r0
 have HA:Hid (t.ρ.getD ra 0=rg t.ρ i.a):=Hz (by unfold rg;rw[ha];rfl)
 rw[HA.out] at r0
 obtain⟨av,hav⟩:∃ av,rg t.ρ i.a=av:=⟨_,rfl⟩
 rw[hav] at r0
 have HAV:=Hz hav
 clear hrv ha hav
 go_wp2
 exact HK.out _ _ _ _ _ _ ⟨by unfold aQ;rw[(show i.sets=i.dst from by unfold Ins.sets;rw[HKD.out];rfl)];simp[HKD.out,HNP.out,HAV.out],HS.out,HFB.out,HIB.out,Nat.le_succ _⟩
theorem IP:oU 5 (fun t _ Fr=>(0≤t.base∧t.base≤4096)∧Fr≤4096):=by
 intro w0 w l t b m scap sb fb ib mb rb ub np i E iv ov R Fr L hm hok hkd hR hnp hx hS hf hi hfs
 intros
 rename_i K Q hK hF
 obtain⟨hbase,hFr⟩:=hx
 conv=>arg 2;whnf
 have HK:=Hz hK
 have HF:=Hz hF
 have HS:=Hz hS
 have HFB:=Hz hf
 have HIB:=Hz hi
 obtain⟨f0,f1,f2,f3,f4⟩:=cC hf
 obtain⟨c0,c1,c2,c3,c4,c5,c6,c7,c8,c9,c10,c11,c12,c13,c14⟩:=Ins.cells hi
 obtain⟨n,hn⟩:∃ n,t.ρ.length=n:=⟨_,rfl⟩
 rw[hn] at f4 hR
 have HOK:=Hz hok
 have HN:=Hz hn
 have HR:=Hz hR
 have HNP:=Hz hnp
 have HM:=Hz hm
 have HFS:=Hz hfs
 have HKD:=Hz hkd
 clear hK hF hS hf hi hok hR hm hn hnp hfs
 rw[hkd] at c0
 have hfr:=HOK.out.fr hkd
 clear hkd
 go_wp2
 exact HK.out _ _ _ _ _ _ ⟨by unfold aQ;rw[(show i.sets=i.dst from by unfold Ins.sets;rw[HKD.out];rfl)];simp[HKD.out,HNP.out],HS.out,HFB.out,HIB.out,Nat.le_succ _⟩
theorem EO:oU 11 (fun _ _ _=>True):=by
 intro w0 w l t b m scap sb fb ib mb rb ub np i E iv ov R Fr L hm hok hkd hR hnp hx hS hf hi hfs
 intros
 rename_i K Q hK hF
 clear hx
 conv=>arg 2;whnf
 have HK:=Hz hK
 have HF:=Hz hF
 have HS:=Hz hS
 have HFB:=Hz hf
 have HIB:=Hz hi
 obtain⟨f0,f1,f2,f3,f4⟩:=cC hf
 obtain⟨c0,c1,c2,c3,c4,c5,c6,c7,c8,c9,c10,c11,c12,c13,c14⟩:=Ins.cells hi
 obtain⟨n,hn⟩:∃ n,t.ρ.length=n:=⟨_,rfl⟩
 rw[hn] at f4 hR
 have HOK:=Hz hok
 have HN:=Hz hn
 have HR:=Hz hR
 have HNP:=Hz hnp
 have HM:=Hz hm
 have HFS:=Hz hfs
 have HKD:=Hz hkd
 clear hK hF hS hf hi hok hR hm hn hnp hfs
 rw[hkd] at c0
 have hto:=HOK.out.to_ (Or.inl hkd)
 obtain⟨q,hq⟩:∃ q:Nat,i.to_=q:=⟨i.to_.toNat,by omega⟩
 rw[hq] at c13
 have HQ:=Hz hq
 clear hkd hto hq
 go_wp2
 exact HK.out _ _ _ _ _ _ ⟨by unfold aQ bB;rw[(show i.sets=-1 from by unfold Ins.sets;rw[HKD.out];rfl)];simp[HKD.out,HQ.out],HS.out,HFB.out,HIB.out,Nat.le_succ _⟩
theorem EP:oU 12 (fun _ _ _=>True):=by
 intro w0 w l t b m scap sb fb ib mb rb ub np i E iv ov R Fr L hm hok hkd hR hnp hx hS hf hi hfs
 intros
 rename_i K Q hK hF
 clear hx
 conv=>arg 2;whnf
 have HK:=Hz hK
 have HF:=Hz hF
 have HS:=Hz hS
 have HFB:=Hz hf
 have HIB:=Hz hi
 obtain⟨f0,f1,f2,f3,f4⟩:=cC hf
 obtain⟨c0,c1,c2,c3,c4,c5,c6,c7,c8,c9,c10,c11,c12,c13,c14⟩:=Ins.cells hi
 obtain⟨n,hn⟩:∃ n,t.ρ.length=n:=⟨_,rfl⟩
 rw[hn] at f4 hR
 have HOK:=Hz hok
 have HN:=Hz hn
 have HR:=Hz hR
 have HNP:=Hz hnp
 have HM:=Hz hm
 have HFS:=Hz hfs
 have HKD:=Hz hkd
 clear hK hF hS hf hi hok hR hm hn hnp hfs
 rw[hkd] at c0
 have hto:=HOK.out.to_ (Or.inr hkd)
 have hel:=HOK.out.els hkd
 obtain⟨q,hq⟩:∃ q:Nat,i.to_=q:=⟨i.to_.toNat,by omega⟩
 obtain⟨p,hp⟩:∃ p:Nat,i.els=p:=⟨i.els.toNat,by omega⟩
 rw[hq] at c13
 rw[hp] at c14
 have HQ:=Hz hq
 have HP:=Hz hp
 clear hkd hto hel hq hp
 obtain⟨ra,ha,hra⟩:=HOK.out.useA (by rw[HKD.out];rfl)
 rw[ha] at c3
 have hran:ra<n:=by rw[HR.out];exact hra
 have hrv:=(HS.out.regs (t,b) (by simp)).2.2
 have r0:=bZ hrv (r:=ra) (by rw[HN.out];exact hran)
 simp only at r0
 have HA:Hid (t.ρ.getD ra 0=rg t.ρ i.a):=Hz (by unfold rg;rw[ha];rfl)
 rw[HA.out] at r0
 obtain⟨av,hav⟩:∃ av,rg t.ρ i.a=av:=⟨_,rfl⟩
 rw[hav] at r0
 have HAV:=Hz hav
 clear hrv ha hav
 by_cases h0:av=0
 ·as_aux_lemma =>
  have q1:(av != 0)=false:=by simpa using h0
  have q2:decide (av=0)=true:=by simpa using h0
  have H0:=Hz h0
  clear h0
  go_wp2
  exact HK.out _ _ _ _ _ _ ⟨by unfold aQ bB;rw[(show i.sets=-1 from by unfold Ins.sets;rw[HKD.out];rfl)];simp[HKD.out,HP.out,HAV.out,H0.out],HS.out,HFB.out,HIB.out,Nat.le_succ _⟩
 ·as_aux_lemma =>
  have q1:(av != 0)=true:=by simpa using h0
  have q2:decide (av=0)=false:=by simpa using h0
  have H0:=Hz h0
  clear h0
  go_wp2
  exact HK.out _ _ _ _ _ _ ⟨by unfold aQ bB;rw[(show i.sets=-1 from by unfold Ins.sets;rw[HKD.out];rfl)];simp[HKD.out,HQ.out,HAV.out,H0.out],HS.out,HFB.out,HIB.out,Nat.le_succ _⟩
end Go.Proofs.Ytkcclefonmnpnaa
