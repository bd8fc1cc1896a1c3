import Derived.Test.YtkcclefonmnpnaaVXe
set_option maxRecDepth 1000000
set_option maxHeartbeats 32000000
namespace Go.Proofs.Ytkcclefonmnpnaa
open Go.RowKit Go.BigFrame
theorem DM:oU 10 (fun _ E _=>E.out.length≤6000):=by
 intro w0 w l t b m scap sb fb ib mb rb ub np i E iv ov R Fr L hm hok hkd hR hnp hx hS hf hi hfs
 intros
 rename_i K Q hK hF
 have hol:E.out.length≤6000:=hx
 clear hx
 conv=>arg 2;whnf
 have HK:=Hz hK
 have HF:=Hz hF
 have HS:=Hz hS
 have HFB:=Hz hf
 have HIB:=Hz hi
 obtain⟨f0,f1,f2,f3,f4⟩:=cC hf
 obtain⟨c0,c1,c2,c3,c4,c5,c6,c7,c8,c9,c10,c11,c12,c13,c14⟩:=Ins.cells hi
 obtain⟨n,hn⟩:∃ n,t.ρ.length=n:=⟨_,rfl⟩
 rw[hn] at f4 hR
 have HOK:=Hz hok
 have HN:=Hz hn
 have HR:=Hz hR
 have HNP:=Hz hnp
 have HM:=Hz hm
 have HFS:=Hz hfs
 have HKD:=Hz hkd
 clear hK hF hS hf hi hok hR hm hn hnp hfs
 rw[hkd] at c0
 clear hkd
 obtain⟨ra,ha,hra⟩:=HOK.out.useA (by rw[HKD.out];rfl)
 rw[ha] at c3
 have hran:ra<n:=by rw[HR.out];exact hra
 have hrv:=(HS.out.regs (t,b) (by simp)).2.2
 have r0:=bZ hrv (r:=ra) (by rw[HN.out];exact hran)
 simp only at r0
 have HA:Hid (t.ρ.getD ra 0=rg t.ρ i.a):=Hz (by unfold rg;rw[ha];rfl)
 rw[HA.out] at r0
 obtain⟨av,hav⟩:∃ av,rg t.ρ i.a=av:=⟨_,rfl⟩
 rw[hav] at r0
 have HAV:=Hz hav
 clear hrv ha hav
 have hpl:=fun W=>aG av W
 obtain⟨a,hpa⟩:∃ a,eJ av=a:=⟨_,rfl⟩
 rw[show pl av=a from hpa] at hpl
 have ha0:0≤a:=by rw[←hpa];unfold eJ;omega
 have HPL:=Hz (show eJ (rg t.ρ i.a)=a by rw[HAV.out];exact hpa)
 have hO1:=fun o=>eY HS.out.out (Below.one w o)
 have HO1:=Hz hO1
 have hsz:=HS.out.b.size
 clear hpa hO1
 go_wp2_with (first
  |(go_at_call 59;refine (hpl _).mono ?_;rintro e w3 ⟨rfl,hw3⟩;subst hw3)
  |(show wpList Try.prog _ _ (⟨some 309,.call _,_,_,_,_⟩::_) _ _;refine tM (o:=⟨some 309,_,_,_,_,_⟩) rfl (.tmp 298) (.tmp 308) rfl w0.heap.size ov E.out rfl (HO1.out _) w.heap.size _ rfl (heap_alloc_new w _) (by omega) (by simp;omega) ?_;intro V' w' hO hG hV))
 obtain⟨ob,hG⟩:∃ ob,(w.alloc ob).grownBy w' ov.ownBlock:=⟨_,hG⟩
 have hS1:=HS.out.later (Below.one w ob)
 have hf1:=aC HFB.out ob
 have hi1:=aC HIB.out ob
 have hf2:=(hG.block fb (Az hf1).1 (Ne.symm (lZ hS1.out hf1 (by decide)))).trans hf1
 have hi2:=(hG.block ib (Az hi1).1 (Ne.symm (lZ hS1.out hi1 (by decide)))).trans hi1
 exact HK.out _ _ _ ⟨E.mem,E.inp,E.out++[a % 256]⟩ _ _ ⟨by unfold aQ bB;rw[(show i.sets=-1 from by unfold Ins.sets;rw[HKD.out];rfl)];simp[HKD.out,HNP.out,HPL.out],hS1.grown hG hO,hf2,hi2,by simp⟩
theorem GQ:oU 9 (fun _ _ _=>True):=by
 intro w0 w l t b m scap sb fb ib mb rb ub np i E iv ov R Fr L hm hok hkd hR hnp hx hS hf hi hfs
 intros
 rename_i K Q hK hF
 clear hx
 conv=>arg 2;whnf
 have HK:=Hz hK
 have HF:=Hz hF
 have HS:=Hz hS
 have HFB:=Hz hf
 have HIB:=Hz hi
 obtain⟨f0,f1,f2,f3,f4⟩:=cC hf
 obtain⟨c0,c1,c2,c3,c4,c5,c6,c7,c8,c9,c10,c11,c12,c13,c14⟩:=Ins.cells hi
 obtain⟨n,hn⟩:∃ n,t.ρ.length=n:=⟨_,rfl⟩
 rw[hn] at f4 hR
 have HOK:=Hz hok
 have HN:=Hz hn
 have HR:=Hz hR
 have HNP:=Hz hnp
 have HM:=Hz hm
 have HFS:=Hz hfs
 have HKD:=Hz hkd
 clear hK hF hS hf hi hok hR hm hn hnp hfs
 rw[hkd] at c0
 clear hkd
 obtain⟨em,ei,eo⟩:=E
 obtain⟨A,icap,hiv,hrd,hle,hby⟩:=HS.out.inp
 simp only at hiv hrd hle hby
 subst hiv
 have HRD:=Hz (hrd.below HS.out.b)
 have HRD0:=Hz hrd
 cases ei with
 | nil=>as_aux_lemma =>
  clear hrd
  go_wp2
  exact HK.out _ _ _ _ _ _ ⟨by unfold aQ;rw[(show i.sets=i.dst from by unfold Ins.sets;rw[HKD.out];rfl)];simp[HKD.out,HNP.out],HS.out,HFB.out,HIB.out,Nat.le_succ _⟩
 | cons a rest=>as_aux_lemma =>
  obtain⟨ab,ao,rfl,hab,hc⟩:=HRD.out 0 a rfl
  rw[Nat.add_zero] at hc
  have hb:=hby a (by simp)
  obtain⟨ln,hln⟩:∃ ln,rest.length=ln:=⟨_,rfl⟩
  simp only[List.length_cons] at hle
  rw[hln] at hle
  simp only[List.length_cons,hln]
  have HBY:=Hz hby
  clear hrd hby
  go_wp2
  all_goals
   refine HK.out _ _ _ ⟨em,rest,eo⟩ _ _ ⟨by unfold aQ;rw[(show i.sets=i.dst from by unfold Ins.sets;rw[HKD.out];rfl)];simp[HKD.out,HNP.out],⟨HS.out.b,HS.out.mem,HS.out.ml,HS.out.mB,HS.out.res,HS.out.rB,⟨_,_,by rw[←hln],?_,by simp only;omega,fun x hx=>HBY.out x (by simp[hx])⟩,HS.out.out,HS.out.stk,HS.out.regs,HS.out.nd⟩,HFB.out,HIB.out,Nat.le_succ _⟩
   first
    | exact fun j n hj=>absurd (Lz hj).1 (by simp only;omega)
    |exact fun j n hj=>by
      obtain⟨b',o',e1,e2,e3⟩:=HRD0.out (j+1) n hj
      injection e1 with e1
      injection e1 with e1 e4
      subst e1 e4
      exact⟨ab,ao+1,rfl,e2,by rw[show ao+1+j=ao+(j+1) by omega];exact e3⟩
theorem dR (w0 w:World)(l:List (cU × Nat))(t:cU)(b m scap sb fb ib mb rb ub q:Nat)(i:Ins)(E:eX)(iv ov:Value)(R Fr:Int)(L:Nat)(v:Int)
  (hm:l.length=m) (hok:Ok i R Fr L) (hk8:i.kind≠8) (hR:t.ρ.length=R.toNat) (hml:m≤100000)
  (hS:RnS w0 w (l++[(t,b)]) E mb rb iv ov (.slice (some ⟨sb,0,none⟩) (m+1) scap)) (hf:w.heap[fb]? = some (jA t b t.ρ.length)) (hi:w.heap[ib]? = some i.obj)
  {x0 x2 x4 x5 x7 x9 x16 x17 x18 x19 x20 x21 x22 x23 x24 x25 x26 x27 x28 x29 x30 x31 x32 x33 x34 x35 x36 x37 x38 x39 x40 x41 x42 x43 x44 x45 x46 x47 x48 x49 x50 x51 x52 x53 x54 x55 x56 x57 x58 x59 x60 x61 x62 x63 x64 x65 x66 x67 x68 x69 x70 x71 x72 x73 x74 x75 x76 x77 x78 x79 x80 x81 x82 x83 x84 x85 x86 x87 x88 x89 x90 x91 x92 x93 x94 x95 x96 x97 x98 x99 xA0 xA1 xA2 xA3 xA4 xA5 xA6 xA7 xA8 xA9 xB0 xB1 xB2 xB3 xB4 xB5 xB6 xB7 xB8 xB9 xC0 xC1 xC2 xC3 xC4 xC5 xC6 xC7 xC8 xC9 xD0 xD1 xD2 xD3 xD4 xD5 xD6 xD7 xD8 xD9 xE0 xE1 xE2 xE3 xE4 xE5 xE6 xE7 xE8 xE9 xF0 xF1 xF2 xF3 xF4 xF5 xF6 xF7 xF8 xF9 xG0 xG1 xG2 xG3 xG4 xG5 xG6 xG7 xG8 xG9 xH0 xH1 xH2 xH3 xH4 xH5 xH6 xH7 xH8 xH9 xI0 xI1 xI2 xI3 xI4 xI5 xI6 xI7 xI8 xI9 xJ0 xJ1 xJ2 xJ3 xJ4 xJ5 xJ6 xJ7 xJ8 xJ9 xK0 xK1 xK2 xK3 xK4 xK5 xK6 xK7 xK8 xK9 xL0 xL1 xL2 xL3 xL4 xL5 xL6 xL7 xL8 xL9 xM0 xM1 xM2 xM3 xM4 xM5 xM6 xM7 xM8 xM9 xN0 xN1 xN2 xN3 xN4 xN5 xN6 xN7 xN8 xN9 xO0 xO1 xO2 xO3 xO4 xO5 xO6 xO7 xO8 xO9 xP0 xP1 xP2 xP3 xP4 xP5 xP6 xP7 xP8 xP9 xQ0 xQ1 xQ2 xQ3 xQ4 xQ5 xQ6 xQ7 xQ8 xQ9 xR0 xR1 xR2 xR3 xR4 xR5 xR6 xR7 xR8 xR9 xS0 xS1 xS2 xS3 xS4 xS5 xS6 xS7 xS8 xS9 xT0 xT1 xT2 xT3 xT4 xT5 xT6 xT7 xT8 xT9 xU0 xU1 xU2 xU3 xU4 xU5 xU6 xU7 xU8 xU9 xV0 xV1 xV2 xV3 xV4 xV5 xV6 xV7 xV8 xV9 xW0 xW1 xW2 xW3 xW4 xW5 xW6 xW7 xW8 xW9 xX0 xX1 xX2 xX3 xX4 xX5 xX6 xX7 xX8 xX9 xY0 xY1 xY2 xY3 xY4 xY5 xY6 xY7 xY8 xY9 xZ0 xZ1 xZ2 xZ3 xZ4 xZ5 xZ6 xZ7 xZ8 xZ9 xa0 xa1 xa2 xa3 xa4 xa5 xa6 xa7 xa8 xa9 xb0 xb1 xb2 xb3 xb4 xb5 xb6 xb7:Value} (Q:Exit→Act→World→Prop)
  (hQ:∀ ⦃ya0 ya1 ya2 ya3 ya4 ya5 ya6 ya7 ya8 ya9 yb0 yb1 yb2 yb3 yb4 yb5:Value⦄ (w':World),RnS w0 w' (l++[({ t with p:=q,ρ:=bB i.sets v t.ρ },b)]) E mb rb iv ov (.slice (some ⟨sb,0,none⟩) (m+1) scap)→Q .normal ⟨(x0::iv::x2::.pointer (some ⟨ub,0,none⟩)::x4::x5::.pointer (some ⟨rb,0,none⟩)::x7::.slice (some ⟨mb,0,none⟩) 4096 4096::x9::ov::.slice (some ⟨sb,0,none⟩) (m+1) scap::.pointer (some ⟨fb,0,none⟩)::.pointer (some ⟨ib,0,none⟩)::.int .i64 (q:Int)::.int .i64 v::x16::x17::x18::x19::x20::x21::x22::x23::x24::x25::x26::x27::x28::x29::x30::x31::x32::x33::x34::x35::x36::x37::x38::x39::x40::x41::x42::x43::x44::x45::x46::x47::x48::x49::x50::x51::x52::x53::x54::x55::x56::x57::x58::x59::x60::x61::x62::x63::x64::x65::x66::x67::x68::x69::x70::x71::x72::x73::x74::x75::x76::x77::x78::x79::x80::x81::x82::x83::x84::x85::x86::x87::x88::x89::x90::x91::x92::x93::x94::x95::x96::x97::x98::x99::xA0::xA1::xA2::xA3::xA4::xA5::xA6::xA7::xA8::xA9::xB0::xB1::xB2::xB3::xB4::xB5::xB6::xB7::xB8::xB9::xC0::xC1::xC2::xC3::xC4::xC5::xC6::xC7::xC8::xC9::xD0::xD1::xD2::xD3::xD4::xD5::xD6::xD7::xD8::xD9::xE0::xE1::xE2::xE3::xE4::xE5::xE6::xE7::xE8::xE9::xF0::xF1::xF2::xF3::xF4::xF5::xF6::xF7::xF8::xF9::xG0::xG1::xG2::xG3::xG4::xG5::xG6::xG7::xG8::xG9::xH0::xH1::xH2::xH3::xH4::xH5::xH6::xH7::xH8::xH9::xI0::xI1::xI2::xI3::xI4::xI5::xI6::xI7::xI8::xI9::xJ0::xJ1::xJ2::xJ3::xJ4::xJ5::xJ6::xJ7::xJ8::xJ9::xK0::xK1::xK2::xK3::xK4::xK5::xK6::xK7::xK8::xK9::xL0::xL1::xL2::xL3::xL4::xL5::xL6::xL7::xL8::xL9::xM0::xM1::xM2::xM3::xM4::xM5::xM6::xM7::xM8::xM9::xN0::xN1::xN2::xN3::xN4::xN5::xN6::xN7::xN8::xN9::xO0::xO1::xO2::xO3::xO4::xO5::xO6::xO7::xO8::xO9::xP0::xP1::xP2::xP3::xP4::xP5::xP6::xP7::xP8::xP9::xQ0::xQ1::xQ2::xQ3::xQ4::xQ5::xQ6::xQ7::xQ8::xQ9::xR0::xR1::xR2::xR3::xR4::xR5::xR6::xR7::xR8::xR9::xS0::xS1::xS2::xS3::xS4::xS5::xS6::xS7::xS8::xS9::xT0::xT1::xT2::xT3::xT4::xT5::xT6::xT7::xT8::xT9::xU0::xU1::xU2::xU3::xU4::xU5::xU6::xU7::xU8::xU9::xV0::xV1::xV2::xV3::xV4::xV5::xV6::xV7::xV8::xV9::xW0::xW1::xW2::xW3::xW4::xW5::xW6::xW7::xW8::xW9::xX0::xX1::xX2::xX3::xX4::xX5::xX6::xX7::xX8::xX9::xY0::xY1::xY2::xY3::xY4::xY5::xY6::xY7::xY8::xY9::xZ0::xZ1::xZ2::xZ3::xZ4::xZ5::xZ6::xZ7::xZ8::xZ9::ya0::ya1::ya2::ya3::ya4::ya5::ya6::ya7::ya8::ya9::yb0::yb1::yb2::yb3::yb4::yb5::xb6::xb7::[]).toArray,[]⟩ w') :
  Code.wp Try.prog JZ Q ⟨(x0::iv::x2::.pointer (some ⟨ub,0,none⟩)::x4::x5::.pointer (some ⟨rb,0,none⟩)::x7::.slice (some ⟨mb,0,none⟩) 4096 4096::x9::ov::.slice (some ⟨sb,0,none⟩) (m+1) scap::.pointer (some ⟨fb,0,none⟩)::.pointer (some ⟨ib,0,none⟩)::.int .i64 (q:Int)::.int .i64 v::x16::x17::x18::x19::x20::x21::x22::x23::x24::x25::x26::x27::x28::x29::x30::x31::x32::x33::x34::x35::x36::x37::x38::x39::x40::x41::x42::x43::x44::x45::x46::x47::x48::x49::x50::x51::x52::x53::x54::x55::x56::x57::x58::x59::x60::x61::x62::x63::x64::x65::x66::x67::x68::x69::x70::x71::x72::x73::x74::x75::x76::x77::x78::x79::x80::x81::x82::x83::x84::x85::x86::x87::x88::x89::x90::x91::x92::x93::x94::x95::x96::x97::x98::x99::xA0::xA1::xA2::xA3::xA4::xA5::xA6::xA7::xA8::xA9::xB0::xB1::xB2::xB3::xB4::xB5::xB6::xB7::xB8::xB9::xC0::xC1::xC2::xC3::xC4::xC5::xC6::xC7::xC8::xC9::xD0::xD1::xD2::xD3::xD4::xD5::xD6::xD7::xD8::xD9::xE0::xE1::xE2::xE3::xE4::xE5::xE6::xE7::xE8::xE9::xF0::xF1::xF2::xF3::xF4::xF5::xF6::xF7::xF8::xF9::xG0::xG1::xG2::xG3::xG4::xG5::xG6::xG7::xG8::xG9::xH0::xH1::xH2::xH3::xH4::xH5::xH6::xH7::xH8::xH9::xI0::xI1::xI2::xI3::xI4::xI5::xI6::xI7::xI8::xI9::xJ0::xJ1::xJ2::xJ3::xJ4::xJ5::xJ6::xJ7::xJ8::xJ9::xK0::xK1::xK2::xK3::xK4::xK5::xK6::xK7::xK8::xK9::xL0::xL1::xL2::xL3::xL4::xL5::xL6::xL7::xL8::xL9::xM0::xM1::xM2::xM3::xM4::xM5::xM6::xM7::xM8::xM9::xN0::xN1::xN2::xN3::xN4::xN5::xN6::xN7::xN8::xN9::xO0::xO1::xO2::xO3::xO4::xO5::xO6::xO7::xO8::xO9::xP0::xP1::xP2::xP3::xP4::xP5::xP6::xP7::xP8::xP9::xQ0::xQ1::xQ2::xQ3::xQ4::xQ5::xQ6::xQ7::xQ8::xQ9::xR0::xR1::xR2::xR3::xR4::xR5::xR6::xR7::xR8::xR9::xS0::xS1::xS2::xS3::xS4::xS5::xS6::xS7::xS8::xS9::xT0::xT1::xT2::xT3::xT4::xT5::xT6::xT7::xT8::xT9::xU0::xU1::xU2::xU3::xU4::xU5::xU6::xU7::xU8::xU9::xV0::xV1::xV2::xV3::xV4::xV5::xV6::xV7::xV8::xV9::xW0::xW1::xW2::xW3::xW4::xW5::xW6::xW7::xW8::xW9::xX0::xX1::xX2::xX3::xX4::xX5::xX6::xX7::xX8::xX9::xY0::xY1::xY2::xY3::xY4::xY5::xY6::xY7::xY8::xY9::xZ0::xZ1::xZ2::xZ3::xZ4::xZ5::xZ6::xZ7::xZ8::xZ9::xa0::xa1::xa2::xa3::xa4::xa5::xa6::xa7::xa8::xa9::xb0::xb1::xb2::xb3::xb4::xb5::xb6::xb7::[]).toArray,[]⟩ w:=by
 conv=>arg 2;whnf
 have HQ:=Hz hQ
 have HM:=Hz hm
 have hse:=fun W=>bI i W
 simp only[Ins.agg] at hse
 obtain⟨c0,c1,c2,c3,c4,c5,c6,c7,c8,c9,c10,c11,c12,c13,c14⟩:=Ins.cells hi
 have HS:=Hz hS
 have HFB:=Hz hf
 have HIB:=Hz hi
 have HOK:=Hz hok
 have HR:=Hz hR
 have HK8:=Hz hk8
 clear hQ hm hS hf hi hok hk8 hR
 go_wp2_with fail
 refine (hse _).mono ?_
 rintro e w1 ⟨rfl,hb1⟩
 have HS1:=Hz (HS.out.later hb1)
 have hf1:=(hb1.block _ (Az HFB.out).1).trans HFB.out
 have hi1:=(hb1.block _ (Az HIB.out).1).trans HIB.out
 obtain⟨f0,f1,f2,f3,f4⟩:=cC hf1
 obtain⟨g0,g1,g2,g3,g4,g5,g6,g7,g8,g9,g10,g11,g12,g13,g14⟩:=Ins.cells hi1
 obtain⟨⟨cur,hsb⟩,_,_,s2,_,_⟩:=HS1.out.top HM.out
 have hbr:=(HS1.out.regs (t,b) (by simp)).2.2
 simp only at hbr
 have hbs:b≠sb:=dO hbr hsb (by decide)
 have hsb2:sb≠b:=Ne.symm hbs
 have zs:=aK hsb (m*5+2)
 clear hb1 hse c0 c1 c2 c3 c4 c5 c6 c7 c8 c9 c10 c11 c12 c13 c14 hf1 hi1
 cases hk:kS i.kind with
 | false=>as_aux_lemma =>
  have hs:i.sets=-1:=by unfold Ins.sets;rw[hk];rfl
  have HSE:=Hz hs
  rw[hs]
  clear hs hk
  go_wp2
  exact HQ.out _ (by rw[HSE.out,show bB (-1) v t.ρ=t.ρ from by unfold bB;rw[if_neg (by decide)]];exact HS1.out.at_set HM.out q)
 | true=>as_aux_lemma =>
  have hs:i.sets=i.dst:=by unfold Ins.sets;rw[hk];rfl
  have hd:0≤i.dst∧i.dst<R:=(HOK.out.dst hk).resolve_right fun h=>HK8.out h.1
  obtain⟨rd,hrd⟩:∃ rd:Nat,i.dst=rd:=⟨i.dst.toNat,by omega⟩
  rw[hs,hrd]
  rw[hrd] at g2
  obtain⟨n,hn⟩:∃ n,t.ρ.length=n:=⟨_,rfl⟩
  have hrn:rd<n:=by have:=HR.out;omega
  rw[hn] at f4
  have zb:=aK hbr rd
  have zc:=bZ hbr (r:=rd) (by rw[hn];exact hrn)
  have HSE:=Hz (show bB i.sets v t.ρ=t.ρ.set rd v by rw[hs,hrd];unfold bB;rw[if_pos (by omega)];rfl)
  have hq0:decide ((rd:Int) ≥ 0)=true:=by simp
  have hq1:decide ((0:Int)≤rd)=true:=by simp
  clear hs hk hd hrd hn
  go_wp2
  exact HQ.out _ (by rw[HSE.out];exact (HS1.out.reg_set rd v).at_set HM.out q)
end Go.Proofs.Ytkcclefonmnpnaa
