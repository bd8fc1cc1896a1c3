import Derived.Test.YtkcclefonmnpnaaVXe
set_option maxRecDepth 1000000
set_option maxHeartbeats 32000000
namespace Go.Proofs.Ytkcclefonmnpnaa
open Go.RowKit Go.BigFrame
theorem RnS.pop {w0 w:World}{l:List (cU × Nat)}{E:eX}{mb rb:Nat}{iv ov:Value}{x:cU × Nat}{m sb scap:Nat}(h:RnS w0 w (l++[x]) E mb rb iv ov (.slice (some ⟨sb,0,none⟩) (m+1) scap))(hm:l.length=m):RnS w0 w l E mb rb iv ov (.slice (some ⟨sb,0,none⟩) m scap)∧m+1≤scap:=by
 obtain⟨sb',cap',cur,e1,e2,e3,e4,e5,e6,e7⟩:=nV h.stk
 rw[hm] at e1 e4 e7
 injection e1 with e1 _ e8
 injection e1 with e1
 injection e1 with e1
 subst e1 e8
 refine⟨⟨h.b,h.mem,h.ml,h.mB,h.res,h.rB,h.inp,h.out,⟨by rw[dB],Or.inr ⟨sb,scap,cur,by rw[hm],e2,e3,by omega,e5,e6,?_⟩⟩,fun y hy=>h.regs y (List.mem_append_left _ hy),?_⟩,e4⟩
 ·have h1:=congrArg (List.take (m*5)) e7
  rw[List.take_take,show min (m*5) ((m+1)*5)=m*5 by omega,List.flatMap_append,List.take_append_of_le_length (by rw[dB,hm];exact Nat.le_refl _)] at h1
  rw[hm,h1,List.take_of_length_le (by rw[dB,hm];exact Nat.le_refl _)]
 ·have:=h.nd
  rw[List.map_append,List.nodup_append] at this
  exact this.1
theorem EQ (w0 w:World)(l:List (cU × Nat))(t:cU)(b m scap sb fb ib mb rb ub np:Nat)(i:Ins)(E:eX)(iv ov:Value)(R Fr:Int)(L:Nat)
  (hm:l.length=m) (hok:Ok i R Fr L) (hkd:i.kind=13) (hR:t.ρ.length=R.toNat) (hml:m≤100000)
  (hD:∀ l2 t2 b2,l=l2++[(t2,b2)]→0≤t.dst→t.dst.toNat<t2.ρ.length)
  (hS:RnS w0 w (l++[(t,b)]) E mb rb iv ov (.slice (some ⟨sb,0,none⟩) (m+1) scap)) (hf:w.heap[fb]? = some (jA t b t.ρ.length)) (hi:w.heap[ib]? = some i.obj)
  {x0 x2 x4 x5 x7 x9 x16 x17 x18 x19 x20 x21 x22 x23 x24 x25 x26 x27 x28 x29 x30 x31 x32 x33 x34 x35 x36 x37 x38 x39 x40 x41 x42 x43 x44 x45 x46 x47 x48 x49 x50 x51 x52 x53 x54 x55 x56 x57 x58 x59 x60 x61 x62 x63 x64 x65 x66 x67 x68 x69 x70 x71 x72 x73 x74 x75 x76 x77 x78 x79 x80 x81 x82 x83 x84 x85 x86 x87 x88 x89 x90 x91 x92 x93 x94 x95 x96 x97 x98 x99 xA0 xA1 xA2 xA3 xA4 xA5 xA6 xA7 xA8 xA9 xB0 xB1 xB2 xB3 xB4 xB5 xB6 xB7 xB8 xB9 xC0 xC1 xC2 xC3 xC4 xC5 xC6 xC7 xC8 xC9 xD0 xD1 xD2 xD3 xD4 xD5 xD6 xD7 xD8 xD9 xE0 xE1 xE2 xE3 xE4 xE5 xE6 xE7 xE8 xE9 xF0 xF1 xF2 xF3 xF4 xF5 xF6 xF7 xF8 xF9 xG0 xG1 xG2 xG3 xG4 xG5 xG6 xG7 xG8 xG9 xH0 xH1 xH2 xH3 xH4 xH5 xH6 xH7 xH8 xH9 xI0 xI1 xI2 xI3 xI4 xI5 xI6 xI7 xI8 xI9 xJ0 xJ1 xJ2 xJ3 xJ4 xJ5 xJ6 xJ7 xJ8 xJ9 xK0 xK1 xK2 xK3 xK4 xK5 xK6 xK7 xK8 xK9 xL0 xL1 xL2 xL3 xL4 xL5 xL6 xL7 xL8 xL9 xM0 xM1 xM2 xM3 xM4 xM5 xM6 xM7 xM8 xM9 xN0 xN1 xN2 xN3 xN4 xN5 xN6 xN7 xN8 xN9 xO0 xO1 xO2 xO3 xO4 xO5 xO6 xO7 xO8 xO9 xP0 xP1 xP2 xP3 xP4 xP5 xP6 xP7 xP8 xP9 xQ0 xQ1 xQ2 xQ3 xQ4 xQ5 xQ6 xQ7 xQ8 xQ9 xR0 xR1 xR2 xR3 xR4 xR5 xR6 xR7 xR8 xR9 xS0 xS1 xS2 xS3 xS4 xS5 xS6 xS7 xS8 xS9 xT0 xT1 xT2 xT3 xT4 xT5 xT6 xT7 xT8 xT9 xU0 xU1 xU2 xU3 xU4 xU5 xU6 xU7 xU8 xU9 xV0 xV1 xV2 xV3 xV4 xV5 xV6 xV7 xV8 xV9 xW0 xW1 xW2 xW3 xW4 xW5 xW6 xW7 xW8 xW9 xX0 xX1 xX2 xX3 xX4 xX5 xX6 xX7 xX8 xX9 xY0 xY1 xY2 xY3 xY4 xY5 xY6 xY7 xY8 xY9 xZ0 xZ1 xZ2 xZ3 xZ4 xZ5 xZ6 xZ7 xZ8 xZ9 xa0 xa1 xa2 xa3 xa4 xa5 xa6 xa7 xa8 xa9 xb0 xb1 xb2 xb3 xb4 xb5 xb6 xb7:Value} (K:Act→World→Prop) (Q:Exit→Act→World→Prop)
  (hX:∀ ⦃y16 y17 y18 y19 y20 y21 y22 y23 y24 yC2 yC3 yC4 yC5 yC6 yC7 yC8 yC9 yD0 yD1 yD2 yD3 yD4 yD5 yD6 yD7 yD8 yD9 yE0 yE1 yE2 yE3 yE4 yE5 yE6 yE7 yE8 yE9 yF0 yF1 yF2 yF3 yF4 yF5 yF6 yF7 yF8 yF9 yG0 yG1 yG2 yG3 yG4 yG5 yG6 yG7 yG8 yG9 yH0 yH1 yH2 yH3 yH4 yH5 yH6 yH7 yH8 yH9 yI0 yI1 yI2 yI3 yI4 yI5 yI6 yI7 yI8 yI9 yJ0 yJ1 yJ2 yJ3 yJ4 yJ5 yJ6 yJ7 yJ8 yJ9 yK0 yK1 yK2 yK3 yK4 yK5 yK6 yK7 yK8 yK9 yL0 yL1 yL2 yL3 yL4 yL5 yL6 yL7 yL8 yL9 yM0 yM1 yM2 yM3 yM4 yM5 yM6 yM7 yM8 yM9 yN0 yN1 yN2 yN3 yN4 yN5 yN6 yN7 yN8 yN9 yO0 yO1 yO2 yO3 yO4 yO5 yO6 yO7 yO8 yO9 yP0 yP1 yP2 yP3 yP4 yP5 yP6 yP7 yP8 yP9 yQ0 yQ1 yQ2 yQ3 yQ4 yQ5 yQ6 yQ7 yQ8 yQ9 yR0 yR1 yR2 yR3 yR4 yR5 yR6 yR7 yR8 yR9 yS0 yS1 yS2 yS3 yS4 yS5 yS6 yS7 yS8 yS9 yT0 yT1 yT2 yT3 yT4 yT5 yT6 yT7 yT8 yT9 yU0 yU1 yU2 yU3 yU4 yU5 yU6 yU7 yU8 yU9 yV0 yV1 yV2 yV3 yV4 yV5 yV6 yV7 yV8 yV9 yW0 yW1 yW2 yW3 yW4 yW5 yW6 yW7 yW8 yW9 yX0 yX1 yX2 yX3 yX4 yX5 yX6 yX7 yX8 yX9 yY0 yY1 yY2 yY3 yY4 yY5 yY6 yY7 yY8 yY9 yZ0 yZ1 yZ2 yZ3 yZ4 yZ5 yZ6 yZ7 yZ8 yZ9 z14 z15:Value⦄ (w':World) (sv':Value) (l2:List (cU × Nat)) (t2:cU) (b2:Nat),l=l2++[(t2,b2)]→RnS w0 w' (l2++[({ t2 with ρ:=bB t.dst (rg t.ρ i.a) t2.ρ },b2)]) E mb rb iv ov sv'→Q (.exit 3) ⟨(x0::iv::x2::.pointer (some ⟨ub,0,none⟩)::x4::x5::.pointer (some ⟨rb,0,none⟩)::x7::.slice (some ⟨mb,0,none⟩) 4096 4096::x9::ov::sv'::.pointer (some ⟨fb,0,none⟩)::.pointer (some ⟨ib,0,none⟩)::z14::z15::y16::y17::y18::y19::y20::y21::y22::y23::y24::x25::x26::x27::x28::x29::x30::x31::x32::x33::x34::x35::x36::x37::x38::x39::x40::x41::x42::x43::x44::x45::x46::x47::x48::x49::x50::x51::x52::x53::x54::x55::x56::x57::x58::x59::x60::x61::x62::x63::x64::x65::x66::x67::x68::x69::x70::x71::x72::x73::x74::x75::x76::x77::x78::x79::x80::x81::x82::x83::x84::x85::x86::x87::x88::x89::x90::x91::x92::x93::x94::x95::x96::x97::x98::x99::xA0::xA1::xA2::xA3::xA4::xA5::xA6::xA7::xA8::xA9::xB0::xB1::xB2::xB3::xB4::xB5::xB6::xB7::xB8::xB9::xC0::xC1::yC2::yC3::yC4::yC5::yC6::yC7::yC8::yC9::yD0::yD1::yD2::yD3::yD4::yD5::yD6::yD7::yD8::yD9::yE0::yE1::yE2::yE3::yE4::yE5::yE6::yE7::yE8::yE9::yF0::yF1::yF2::yF3::yF4::yF5::yF6::yF7::yF8::yF9::yG0::yG1::yG2::yG3::yG4::yG5::yG6::yG7::yG8::yG9::yH0::yH1::yH2::yH3::yH4::yH5::yH6::yH7::yH8::yH9::yI0::yI1::yI2::yI3::yI4::yI5::yI6::yI7::yI8::yI9::yJ0::yJ1::yJ2::yJ3::yJ4::yJ5::yJ6::yJ7::yJ8::yJ9::yK0::yK1::yK2::yK3::yK4::yK5::yK6::yK7::yK8::yK9::yL0::yL1::yL2::yL3::yL4::yL5::yL6::yL7::yL8::yL9::yM0::yM1::yM2::yM3::yM4::yM5::yM6::yM7::yM8::yM9::yN0::yN1::yN2::yN3::yN4::yN5::yN6::yN7::yN8::yN9::yO0::yO1::yO2::yO3::yO4::yO5::yO6::yO7::yO8::yO9::yP0::yP1::yP2::yP3::yP4::yP5::yP6::yP7::yP8::yP9::yQ0::yQ1::yQ2::yQ3::yQ4::yQ5::yQ6::yQ7::yQ8::yQ9::yR0::yR1::yR2::yR3::yR4::yR5::yR6::yR7::yR8::yR9::yS0::yS1::yS2::yS3::yS4::yS5::yS6::yS7::yS8::yS9::yT0::yT1::yT2::yT3::yT4::yT5::yT6::yT7::yT8::yT9::yU0::yU1::yU2::yU3::yU4::yU5::yU6::yU7::yU8::yU9::yV0::yV1::yV2::yV3::yV4::yV5::yV6::yV7::yV8::yV9::yW0::yW1::yW2::yW3::yW4::yW5::yW6::yW7::yW8::yW9::yX0::yX1::yX2::yX3::yX4::yX5::yX6::yX7::yX8::yX9::yY0::yY1::yY2::yY3::yY4::yY5::yY6::yY7::yY8::yY9::yZ0::yZ1::yZ2::yZ3::yZ4::yZ5::yZ6::yZ7::yZ8::yZ9::xa0::xa1::xa2::xa3::xa4::xa5::xa6::xa7::xa8::xa9::xb0::xb1::xb2::xb3::xb4::xb5::xb6::xb7::[]).toArray,[]⟩ w')
  (hF:∀ ⦃y16 y17 y18 y19 y20 y21 y22 y23 y24 yC2 yC3 yC4 yC5 yC6 yC7 yC8 yC9 yD0 yD1 yD2 yD3 yD4 yD5 yD6 yD7 yD8 yD9 yE0 yE1 yE2 yE3 yE4 yE5 yE6 yE7 yE8 yE9 yF0 yF1 yF2 yF3 yF4 yF5 yF6 yF7 yF8 yF9 yG0 yG1 yG2 yG3 yG4 yG5 yG6 yG7 yG8 yG9 yH0 yH1 yH2 yH3 yH4 yH5 yH6 yH7 yH8 yH9 yI0 yI1 yI2 yI3 yI4 yI5 yI6 yI7 yI8 yI9 yJ0 yJ1 yJ2 yJ3 yJ4 yJ5 yJ6 yJ7 yJ8 yJ9 yK0 yK1 yK2 yK3 yK4 yK5 yK6 yK7 yK8 yK9 yL0 yL1 yL2 yL3 yL4 yL5 yL6 yL7 yL8 yL9 yM0 yM1 yM2 yM3 yM4 yM5 yM6 yM7 yM8 yM9 yN0 yN1 yN2 yN3 yN4 yN5 yN6 yN7 yN8 yN9 yO0 yO1 yO2 yO3 yO4 yO5 yO6 yO7 yO8 yO9 yP0 yP1 yP2 yP3 yP4 yP5 yP6 yP7 yP8 yP9 yQ0 yQ1 yQ2 yQ3 yQ4 yQ5 yQ6 yQ7 yQ8 yQ9 yR0 yR1 yR2 yR3 yR4 yR5 yR6 yR7 yR8 yR9 yS0 yS1 yS2 yS3 yS4 yS5 yS6 yS7 yS8 yS9 yT0 yT1 yT2 yT3 yT4 yT5 yT6 yT7 yT8 yT9 yU0 yU1 yU2 yU3 yU4 yU5 yU6 yU7 yU8 yU9 yV0 yV1 yV2 yV3 yV4 yV5 yV6 yV7 yV8 yV9 yW0 yW1 yW2 yW3 yW4 yW5 yW6 yW7 yW8 yW9 yX0 yX1 yX2 yX3 yX4 yX5 yX6 yX7 yX8 yX9 yY0 yY1 yY2 yY3 yY4 yY5 yY6 yY7 yY8 yY9 yZ0 yZ1 yZ2 yZ3 yZ4 yZ5 yZ6 yZ7 yZ8 yZ9 sv' z14 z15:Value⦄ (w':World),l=[]→IT w0 w' rb ⟨1,rg t.ρ i.a,E.out⟩→Q .ret ⟨(x0::iv::x2::.pointer (some ⟨ub,0,none⟩)::x4::x5::.pointer (some ⟨rb,0,none⟩)::x7::.slice (some ⟨mb,0,none⟩) 4096 4096::x9::ov::sv'::.pointer (some ⟨fb,0,none⟩)::.pointer (some ⟨ib,0,none⟩)::z14::z15::y16::y17::y18::y19::y20::y21::y22::y23::y24::x25::x26::x27::x28::x29::x30::x31::x32::x33::x34::x35::x36::x37::x38::x39::x40::x41::x42::x43::x44::x45::x46::x47::x48::x49::x50::x51::x52::x53::x54::x55::x56::x57::x58::x59::x60::x61::x62::x63::x64::x65::x66::x67::x68::x69::x70::x71::x72::x73::x74::x75::x76::x77::x78::x79::x80::x81::x82::x83::x84::x85::x86::x87::x88::x89::x90::x91::x92::x93::x94::x95::x96::x97::x98::x99::xA0::xA1::xA2::xA3::xA4::xA5::xA6::xA7::xA8::xA9::xB0::xB1::xB2::xB3::xB4::xB5::xB6::xB7::xB8::xB9::xC0::xC1::yC2::yC3::yC4::yC5::yC6::yC7::yC8::yC9::yD0::yD1::yD2::yD3::yD4::yD5::yD6::yD7::yD8::yD9::yE0::yE1::yE2::yE3::yE4::yE5::yE6::yE7::yE8::yE9::yF0::yF1::yF2::yF3::yF4::yF5::yF6::yF7::yF8::yF9::yG0::yG1::yG2::yG3::yG4::yG5::yG6::yG7::yG8::yG9::yH0::yH1::yH2::yH3::yH4::yH5::yH6::yH7::yH8::yH9::yI0::yI1::yI2::yI3::yI4::yI5::yI6::yI7::yI8::yI9::yJ0::yJ1::yJ2::yJ3::yJ4::yJ5::yJ6::yJ7::yJ8::yJ9::yK0::yK1::yK2::yK3::yK4::yK5::yK6::yK7::yK8::yK9::yL0::yL1::yL2::yL3::yL4::yL5::yL6::yL7::yL8::yL9::yM0::yM1::yM2::yM3::yM4::yM5::yM6::yM7::yM8::yM9::yN0::yN1::yN2::yN3::yN4::yN5::yN6::yN7::yN8::yN9::yO0::yO1::yO2::yO3::yO4::yO5::yO6::yO7::yO8::yO9::yP0::yP1::yP2::yP3::yP4::yP5::yP6::yP7::yP8::yP9::yQ0::yQ1::yQ2::yQ3::yQ4::yQ5::yQ6::yQ7::yQ8::yQ9::yR0::yR1::yR2::yR3::yR4::yR5::yR6::yR7::yR8::yR9::yS0::yS1::yS2::yS3::yS4::yS5::yS6::yS7::yS8::yS9::yT0::yT1::yT2::yT3::yT4::yT5::yT6::yT7::yT8::yT9::yU0::yU1::yU2::yU3::yU4::yU5::yU6::yU7::yU8::yU9::yV0::yV1::yV2::yV3::yV4::yV5::yV6::yV7::yV8::yV9::yW0::yW1::yW2::yW3::yW4::yW5::yW6::yW7::yW8::yW9::yX0::yX1::yX2::yX3::yX4::yX5::yX6::yX7::yX8::yX9::yY0::yY1::yY2::yY3::yY4::yY5::yY6::yY7::yY8::yY9::yZ0::yZ1::yZ2::yZ3::yZ4::yZ5::yZ6::yZ7::yZ8::yZ9::xa0::xa1::xa2::xa3::xa4::xa5::xa6::xa7::xa8::xa9::xb0::xb1::xb2::xb3::xb4::xb5::xb6::xb7::[]).toArray,[]⟩ w') :
  Code.wp Try.prog AN (Exit.then K Q) ⟨(x0::iv::x2::.pointer (some ⟨ub,0,none⟩)::x4::x5::.pointer (some ⟨rb,0,none⟩)::x7::.slice (some ⟨mb,0,none⟩) 4096 4096::x9::ov::.slice (some ⟨sb,0,none⟩) (m+1) scap::.pointer (some ⟨fb,0,none⟩)::.pointer (some ⟨ib,0,none⟩)::.int .i64 (np:Int)::.int .i64 0::x16::x17::x18::x19::x20::x21::x22::x23::x24::x25::x26::x27::x28::x29::x30::x31::x32::x33::x34::x35::x36::x37::x38::x39::x40::x41::x42::x43::x44::x45::x46::x47::x48::x49::x50::x51::x52::x53::x54::x55::x56::x57::x58::x59::x60::x61::x62::x63::x64::x65::x66::x67::x68::x69::x70::x71::x72::x73::x74::x75::x76::x77::x78::x79::x80::x81::x82::x83::x84::x85::x86::x87::x88::x89::x90::x91::x92::x93::x94::x95::x96::x97::x98::x99::xA0::xA1::xA2::xA3::xA4::xA5::xA6::xA7::xA8::xA9::xB0::xB1::xB2::xB3::xB4::xB5::xB6::xB7::xB8::xB9::xC0::xC1::xC2::xC3::xC4::xC5::xC6::xC7::xC8::xC9::xD0::xD1::xD2::xD3::xD4::xD5::xD6::xD7::xD8::xD9::xE0::xE1::xE2::xE3::xE4::xE5::xE6::xE7::xE8::xE9::xF0::xF1::xF2::xF3::xF4::xF5::xF6::xF7::xF8::xF9::xG0::xG1::xG2::xG3::xG4::xG5::xG6::xG7::xG8::xG9::xH0::xH1::xH2::xH3::xH4::xH5::xH6::xH7::xH8::xH9::xI0::xI1::xI2::xI3::xI4::xI5::xI6::xI7::xI8::xI9::xJ0::xJ1::xJ2::xJ3::xJ4::xJ5::xJ6::xJ7::xJ8::xJ9::xK0::xK1::xK2::xK3::xK4::xK5::xK6::xK7::xK8::xK9::xL0::xL1::xL2::xL3::xL4::xL5::xL6::xL7::xL8::xL9::xM0::xM1::xM2::xM3::xM4::xM5::xM6::xM7::xM8::xM9::xN0::xN1::xN2::xN3::xN4::xN5::xN6::xN7::xN8::xN9::xO0::xO1::xO2::xO3::xO4::xO5::xO6::xO7::xO8::xO9::xP0::xP1::xP2::xP3::xP4::xP5::xP6::xP7::xP8::xP9::xQ0::xQ1::xQ2::xQ3::xQ4::xQ5::xQ6::xQ7::xQ8::xQ9::xR0::xR1::xR2::xR3::xR4::xR5::xR6::xR7::xR8::xR9::xS0::xS1::xS2::xS3::xS4::xS5::xS6::xS7::xS8::xS9::xT0::xT1::xT2::xT3::xT4::xT5::xT6::xT7::xT8::xT9::xU0::xU1::xU2::xU3::xU4::xU5::xU6::xU7::xU8::xU9::xV0::xV1::xV2::xV3::xV4::xV5::xV6::xV7::xV8::xV9::xW0::xW1::xW2::xW3::xW4::xW5::xW6::xW7::xW8::xW9::xX0::xX1::xX2::xX3::xX4::xX5::xX6::xX7::xX8::xX9::xY0::xY1::xY2::xY3::xY4::xY5::xY6::xY7::xY8::xY9::xZ0::xZ1::xZ2::xZ3::xZ4::xZ5::xZ6::xZ7::xZ8::xZ9::xa0::xa1::xa2::xa3::xa4::xa5::xa6::xa7::xa8::xa9::xb0::xb1::xb2::xb3::xb4::xb5::xb6::xb7::[]).toArray,[]⟩ w:=by
 conv=>arg 2;whnf
 have HX:=Hz hX
 have HF:=Hz hF
 have HS:=Hz hS
 have HFB:=Hz hf
 have HIB:=Hz hi
 obtain⟨f0,f1,f2,f3,f4⟩:=cC hf
 obtain⟨c0,c1,c2,c3,c4,c5,c6,c7,c8,c9,c10,c11,c12,c13,c14⟩:=Ins.cells hi
 obtain⟨n,hn⟩:∃ n,t.ρ.length=n:=⟨_,rfl⟩
 rw[hn] at f4 hR
 have HOK:=Hz hok
 have HN:=Hz hn
 have HR:=Hz hR
 have HM:=Hz hm
 have HKD:=Hz hkd
 have HD:=Hz hD
 rw[hkd] at c0
 clear hX hF hS hf hi hok hR hm hn hkd hD
 obtain⟨hpop,hcap⟩:=HS.out.pop HM.out
 have HP:=Hz hpop
 clear hpop
 obtain⟨ra,ha,hra⟩:=HOK.out.useA (by rw[HKD.out];rfl)
 rw[ha] at c3
 have hran:ra<n:=by rw[HR.out];exact hra
 have hrv:=(HS.out.regs (t,b) (by simp)).2.2
 have r0:=bZ hrv (r:=ra) (by rw[HN.out];exact hran)
 simp only at r0
 have HA:Hid (t.ρ.getD ra 0=rg t.ρ i.a):=Hz (by unfold rg;rw[ha];rfl)
 rw[HA.out] at r0
 obtain⟨av,hav⟩:∃ av,rg t.ρ i.a=av:=⟨_,rfl⟩
 rw[hav] at r0
 have HAV:=Hz hav
 clear hrv ha hav
 rcases List.eq_nil_or_concat l with hl|⟨l2,⟨t2,b2⟩,hl⟩
 ·as_aux_lemma =>
  have hm0:m=0:=by rw[←HM.out,hl];rfl
  subst hm0
  have HL:=Hz hl
  obtain⟨oA,oc,hov,hfin⟩:=HP.out.told 1 av
  obtain⟨cs,hres,hsz⟩:=HP.out.res
  have HFN:=Hz hfin
  clear hfin hl
  subst hov
  go_wp2_with (first
   |(show wpList Try.prog _ _ (⟨none,.store _ (.tmp 6) _,_,_,_,_⟩::_) _ _;refine wpList_store_row rfl 49 (.tmp 6) (.tmp 345) rfl rb #[.int .i64 1,.int .i64 av,.slice oA E.out.length oc] rfl rfl 49 _ hres zO hsz (eB _ _ _ _ _) ?_))
  exact HF.out _ HL.out (by rw[HAV.out];exact HFN.out)
 ·as_aux_lemma =>
  rw[List.concat_eq_append] at hl
  obtain⟨m2,hm2⟩:∃ m2,m=m2+1:=⟨l2.length,by rw[←HM.out,hl];simp⟩
  subst hm2
  have hl2:l2.length=m2:=by have h:=HM.out;rw[hl] at h;simpa using h
  have HPL:Hid (RnS w0 w (l2++[(t2,b2)]) E mb rb iv ov (.slice (some ⟨sb,0,none⟩) (m2+1) scap)):=Hz (by rw[←hl];exact HP.out)
  obtain⟨_,s0,s1,s2,s3,s4⟩:=HPL.out.top hl2
  have hbr:=(HPL.out.regs (t2,b2) (by simp)).2.2
  simp only at hbr
  have hdd:=HD.out l2 t2 b2 hl
  have HL:=Hz hl
  obtain⟨n2,hn2⟩:∃ n2,t2.ρ.length=n2:=⟨_,rfl⟩
  rw[hn2] at s4 hdd
  have HN2:=Hz hn2
  clear hl hl2 hn2
  by_cases hd:0≤t.dst
  ·obtain⟨rd,hrd⟩:∃ rd:Nat,t.dst=rd:=⟨t.dst.toNat,by omega⟩
   have hdl:=hdd hd
   rw[hrd] at f3 hdl
   simp only[Int.toNat_natCast] at hdl
   have HSE:=Hz (show bB t.dst (rg t.ρ i.a) t2.ρ=t2.ρ.set rd av by rw[hrd,HAV.out];unfold bB;rw[if_pos (by omega)];rfl)
   have zb:=aK hbr rd
   have zc:=bZ hbr (r:=rd) (by rw[HN2.out];exact hdl)
   have hq0:decide ((rd:Int) ≥ 0)=true:=by simp
   have hq1:decide ((0:Int)≤rd)=true:=by simp
   clear hdd hd hrd
   go_wp2_with fail
   go_region
   go_wp2
   exact HX.out _ _ l2 t2 b2 HL.out (by rw[HSE.out];exact (HPL.out.reg_set rd av).later (Below.refl _ _).drew)
  ·have HSE:=Hz (show bB t.dst (rg t.ρ i.a) t2.ρ=t2.ρ by unfold bB;rw[if_neg hd])
   have hq0:decide (t.dst ≥ 0)=false:=by simpa using hd
   have hq1:decide (0≤t.dst)=false:=by simpa using hd
   clear hdd hd
   go_wp2
   exact HX.out _ _ l2 t2 b2 HL.out (by rw[HSE.out];exact HPL.out)
end Go.Proofs.Ytkcclefonmnpnaa
