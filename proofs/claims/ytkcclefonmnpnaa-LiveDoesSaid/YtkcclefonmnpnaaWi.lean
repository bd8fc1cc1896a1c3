import Derived.Test.YtkcclefonmnpnaaWe
import Derived.Test.YtkcclefonmnpnaaZw2p
namespace Go.Proofs.Ytkcclefonmnpnaa
open Go.RowKit Go.BigFrame
set_option maxRecDepth 1000000 in
set_option maxHeartbeats 32000000 in
theorem run_k6 (w0 w:World)(l:List (Fr7 × Nat))(t:Fr7)(b m scap sb fb ib mb rb ub np:Nat)(i:Ins)(E:Env)(iv ov:Value)(R Fr:Int)(L:Nat)
    (hm:l.length=m) (hok:Ok i R Fr L) (hkd:i.kind=6) (hR:t.ρ.length=R.toNat) (hnp:np=t.p + 1) 
    (hS:RnS w0 w (l++[(t,b)]) E mb rb iv ov (.slice (some ⟨sb,0,none⟩) (m + 1) scap)) (hf:w.heap[fb]? = some (frObj t b t.ρ.length)) (hi:w.heap[ib]? = some i.obj) (hfs:fb≠sb)
    {x0 x2 x4 x5 x7 x9 x16 x17 x18 x19 x20 x21 x22 x23 x24 x25 x26 x27 x28 x29 x30 x31 x32 x33 x34 x35 x36 x37 x38 x39 x40 x41 x42 x43 x44 x45 x46 x47 x48 x49 x50 x51 x52 x53 x54 x55 x56 x57 x58 x59 x60 x61 x62 x63 x64 x65 x66 x67 x68 x69 x70 x71 x72 x73 x74 x75 x76 x77 x78 x79 x80 x81 x82 x83 x84 x85 x86 x87 x88 x89 x90 x91 x92 x93 x94 x95 x96 x97 x98 x99 xA0 xA1 xA2 xA3 xA4 xA5 xA6 xA7 xA8 xA9 xB0 xB1 xB2 xB3 xB4 xB5 xB6 xB7 xB8 xB9 xC0 xC1 xC2 xC3 xC4 xC5 xC6 xC7 xC8 xC9 xD0 xD1 xD2 xD3 xD4 xD5 xD6 xD7 xD8 xD9 xE0 xE1 xE2 xE3 xE4 xE5 xE6 xE7 xE8 xE9 xF0 xF1 xF2 xF3 xF4 xF5 xF6 xF7 xF8 xF9 xG0 xG1 xG2 xG3 xG4 xG5 xG6 xG7 xG8 xG9 xH0 xH1 xH2 xH3 xH4 xH5 xH6 xH7 xH8 xH9 xI0 xI1 xI2 xI3 xI4 xI5 xI6 xI7 xI8 xI9 xJ0 xJ1 xJ2 xJ3 xJ4 xJ5 xJ6 xJ7 xJ8 xJ9 xK0 xK1 xK2 xK3 xK4 xK5 xK6 xK7 xK8 xK9 xL0 xL1 xL2 xL3 xL4 xL5 xL6 xL7 xL8 xL9 xM0 xM1 xM2 xM3 xM4 xM5 xM6 xM7 xM8 xM9 xN0 xN1 xN2 xN3 xN4 xN5 xN6 xN7 xN8 xN9 xO0 xO1 xO2 xO3 xO4 xO5 xO6 xO7 xO8 xO9 xP0 xP1 xP2 xP3 xP4 xP5 xP6 xP7 xP8 xP9 xQ0 xQ1 xQ2 xQ3 xQ4 xQ5 xQ6 xQ7 xQ8 xQ9 xR0 xR1 xR2 xR3 xR4 xR5 xR6 xR7 xR8 xR9 xS0 xS1 xS2 xS3 xS4 xS5 xS6 xS7 xS8 xS9 xT0 xT1 xT2 xT3 xT4 xT5 xT6 xT7 xT8 xT9 xU0 xU1 xU2 xU3 xU4 xU5 xU6 xU7 xU8 xU9 xV0 xV1 xV2 xV3 xV4 xV5 xV6 xV7 xV8 xV9 xW0 xW1 xW2 xW3 xW4 xW5 xW6 xW7 xW8 xW9 xX0 xX1 xX2 xX3 xX4 xX5 xX6 xX7 xX8 xX9 xY0 xY1 xY2 xY3 xY4 xY5 xY6 xY7 xY8 xY9 xZ0 xZ1 xZ2 xZ3 xZ4 xZ5 xZ6 xZ7 xZ8 xZ9 xa0 xa1 xa2 xa3 xa4 xa5 xa6 xa7 xa8 xa9 xb0 xb1 xb2 xb3 xb4 xb5 xb6 xb7:Value} (K:Act→World→Prop) (Q:Exit→Act→World→Prop)
    (hK:∀ (y16 y17 y18 y19 y20 y21 y22 y23 y24 yC2 yC3 yC4 yC5 yC6 yC7 yC8 yC9 yD0 yD1 yD2 yD3 yD4 yD5 yD6 yD7 yD8 yD9 yE0 yE1 yE2 yE3 yE4 yE5 yE6 yE7 yE8 yE9 yF0 yF1 yF2 yF3 yF4 yF5 yF6 yF7 yF8 yF9 yG0 yG1 yG2 yG3 yG4 yG5 yG6 yG7 yG8 yG9 yH0 yH1 yH2 yH3 yH4 yH5 yH6 yH7 yH8 yH9 yI0 yI1 yI2 yI3 yI4 yI5 yI6 yI7 yI8 yI9 yJ0 yJ1 yJ2 yJ3 yJ4 yJ5 yJ6 yJ7 yJ8 yJ9 yK0 yK1 yK2 yK3 yK4 yK5 yK6 yK7 yK8 yK9 yL0 yL1 yL2 yL3 yL4 yL5 yL6 yL7 yL8 yL9 yM0 yM1 yM2 yM3 yM4 yM5 yM6 yM7 yM8 yM9 yN0 yN1 yN2 yN3 yN4 yN5 yN6 yN7 yN8 yN9 yO0 yO1 yO2 yO3 yO4 yO5 yO6 yO7 yO8 yO9 yP0 yP1 yP2 yP3 yP4 yP5 yP6 yP7 yP8 yP9 yQ0 yQ1 yQ2 yQ3 yQ4 yQ5 yQ6 yQ7 yQ8 yQ9 yR0 yR1 yR2 yR3 yR4 yR5 yR6 yR7 yR8 yR9 yS0 yS1 yS2 yS3 yS4 yS5 yS6 yS7 yS8 yS9 yT0 yT1 yT2 yT3 yT4 yT5 yT6 yT7 yT8 yT9 yU0 yU1 yU2 yU3 yU4 yU5 yU6 yU7 yU8 yU9 yV0 yV1 yV2 yV3 yV4 yV5 yV6 yV7 yV8 yV9 yW0 yW1 yW2 yW3 yW4 yW5 yW6 yW7 yW8 yW9 yX0 yX1 yX2 yX3 yX4 yX5 yX6 yX7 yX8 yX9 yY0 yY1 yY2 yY3 yY4 yY5 yY6 yY7 yY8 yY9 yZ0 yZ1 yZ2 yZ3 yZ4 yZ5 yZ6 yZ7 yZ8 yZ9:Value) (w':World) (iv' ov':Value) (E':Env) (q:Nat) (v:Int),RunGo w0 w' l t b i E E' mb rb iv' ov' (.slice (some ⟨sb,0,none⟩) (m + 1) scap) fb ib q v→K ⟨(x0::iv'::x2::.pointer (some ⟨ub,0,none⟩)::x4::x5::.pointer (some ⟨rb,0,none⟩)::x7::.slice (some ⟨mb,0,none⟩) 4096 4096::x9::ov'::.slice (some ⟨sb,0,none⟩) (m + 1) scap::.pointer (some ⟨fb,0,none⟩)::.pointer (some ⟨ib,0,none⟩)::.int .i64 (q:Int)::.int .i64 v::y16::y17::y18::y19::y20::y21::y22::y23::y24::x25::x26::x27::x28::x29::x30::x31::x32::x33::x34::x35::x36::x37::x38::x39::x40::x41::x42::x43::x44::x45::x46::x47::x48::x49::x50::x51::x52::x53::x54::x55::x56::x57::x58::x59::x60::x61::x62::x63::x64::x65::x66::x67::x68::x69::x70::x71::x72::x73::x74::x75::x76::x77::x78::x79::x80::x81::x82::x83::x84::x85::x86::x87::x88::x89::x90::x91::x92::x93::x94::x95::x96::x97::x98::x99::xA0::xA1::xA2::xA3::xA4::xA5::xA6::xA7::xA8::xA9::xB0::xB1::xB2::xB3::xB4::xB5::xB6::xB7::xB8::xB9::xC0::xC1::yC2::yC3::yC4::yC5::yC6::yC7::yC8::yC9::yD0::yD1::yD2::yD3::yD4::yD5::yD6::yD7::yD8::yD9::yE0::yE1::yE2::yE3::yE4::yE5::yE6::yE7::yE8::yE9::yF0::yF1::yF2::yF3::yF4::yF5::yF6::yF7::yF8::yF9::yG0::yG1::yG2::yG3::yG4::yG5::yG6::yG7::yG8::yG9::yH0::yH1::yH2::yH3::yH4::yH5::yH6::yH7::yH8::yH9::yI0::yI1::yI2::yI3::yI4::yI5::yI6::yI7::yI8::yI9::yJ0::yJ1::yJ2::yJ3::yJ4::yJ5::yJ6::yJ7::yJ8::yJ9::yK0::yK1::yK2::yK3::yK4::yK5::yK6::yK7::yK8::yK9::yL0::yL1::yL2::yL3::yL4::yL5::yL6::yL7::yL8::yL9::yM0::yM1::yM2::yM3::yM4::yM5::yM6::yM7::yM8::yM9::yN0::yN1::yN2::yN3::yN4::yN5::yN6::yN7::yN8::yN9::yO0::yO1::yO2::yO3::yO4::yO5::yO6::yO7::yO8::yO9::yP0::yP1::yP2::yP3::yP4::yP5::yP6::yP7::yP8::yP9::yQ0::yQ1::yQ2::yQ3::yQ4::yQ5::yQ6::yQ7::yQ8::yQ9::yR0::yR1::yR2::yR3::yR4::yR5::yR6::yR7::yR8::yR9::yS0::yS1::yS2::yS3::yS4::yS5::yS6::yS7::yS8::yS9::yT0::yT1::yT2::yT3::yT4::yT5::yT6::yT7::yT8::yT9::yU0::yU1::yU2::yU3::yU4::yU5::yU6::yU7::yU8::yU9::yV0::yV1::yV2::yV3::yV4::yV5::yV6::yV7::yV8::yV9::yW0::yW1::yW2::yW3::yW4::yW5::yW6::yW7::yW8::yW9::yX0::yX1::yX2::yX3::yX4::yX5::yX6::yX7::yX8::yX9::yY0::yY1::yY2::yY3::yY4::yY5::yY6::yY7::yY8::yY9::yZ0::yZ1::yZ2::yZ3::yZ4::yZ5::yZ6::yZ7::yZ8::yZ9::xa0::xa1::xa2::xa3::xa4::xa5::xa6::xa7::xa8::xa9::xb0::xb1::xb2::xb3::xb4::xb5::xb6::xb7::[]).toArray,[]⟩ w')
    (hF:∀ (y16 y17 y18 y19 y20 y21 y22 y23 y24 yC2 yC3 yC4 yC5 yC6 yC7 yC8 yC9 yD0 yD1 yD2 yD3 yD4 yD5 yD6 yD7 yD8 yD9 yE0 yE1 yE2 yE3 yE4 yE5 yE6 yE7 yE8 yE9 yF0 yF1 yF2 yF3 yF4 yF5 yF6 yF7 yF8 yF9 yG0 yG1 yG2 yG3 yG4 yG5 yG6 yG7 yG8 yG9 yH0 yH1 yH2 yH3 yH4 yH5 yH6 yH7 yH8 yH9 yI0 yI1 yI2 yI3 yI4 yI5 yI6 yI7 yI8 yI9 yJ0 yJ1 yJ2 yJ3 yJ4 yJ5 yJ6 yJ7 yJ8 yJ9 yK0 yK1 yK2 yK3 yK4 yK5 yK6 yK7 yK8 yK9 yL0 yL1 yL2 yL3 yL4 yL5 yL6 yL7 yL8 yL9 yM0 yM1 yM2 yM3 yM4 yM5 yM6 yM7 yM8 yM9 yN0 yN1 yN2 yN3 yN4 yN5 yN6 yN7 yN8 yN9 yO0 yO1 yO2 yO3 yO4 yO5 yO6 yO7 yO8 yO9 yP0 yP1 yP2 yP3 yP4 yP5 yP6 yP7 yP8 yP9 yQ0 yQ1 yQ2 yQ3 yQ4 yQ5 yQ6 yQ7 yQ8 yQ9 yR0 yR1 yR2 yR3 yR4 yR5 yR6 yR7 yR8 yR9 yS0 yS1 yS2 yS3 yS4 yS5 yS6 yS7 yS8 yS9 yT0 yT1 yT2 yT3 yT4 yT5 yT6 yT7 yT8 yT9 yU0 yU1 yU2 yU3 yU4 yU5 yU6 yU7 yU8 yU9 yV0 yV1 yV2 yV3 yV4 yV5 yV6 yV7 yV8 yV9 yW0 yW1 yW2 yW3 yW4 yW5 yW6 yW7 yW8 yW9 yX0 yX1 yX2 yX3 yX4 yX5 yX6 yX7 yX8 yX9 yY0 yY1 yY2 yY3 yY4 yY5 yY6 yY7 yY8 yY9 yZ0 yZ1 yZ2 yZ3 yZ4 yZ5 yZ6 yZ7 yZ8 yZ9 z1 z10 z11 z14 z15:Value) (w':World) (c:Int),lstep i t.p t.base t.ρ E = .stop c→Fin w0 w' rb ⟨2,c,E.out⟩→Q .ret ⟨(x0::z1::x2::.pointer (some ⟨ub,0,none⟩)::x4::x5::.pointer (some ⟨rb,0,none⟩)::x7::.slice (some ⟨mb,0,none⟩) 4096 4096::x9::z10::z11::.pointer (some ⟨fb,0,none⟩)::.pointer (some ⟨ib,0,none⟩)::z14::z15::y16::y17::y18::y19::y20::y21::y22::y23::y24::x25::x26::x27::x28::x29::x30::x31::x32::x33::x34::x35::x36::x37::x38::x39::x40::x41::x42::x43::x44::x45::x46::x47::x48::x49::x50::x51::x52::x53::x54::x55::x56::x57::x58::x59::x60::x61::x62::x63::x64::x65::x66::x67::x68::x69::x70::x71::x72::x73::x74::x75::x76::x77::x78::x79::x80::x81::x82::x83::x84::x85::x86::x87::x88::x89::x90::x91::x92::x93::x94::x95::x96::x97::x98::x99::xA0::xA1::xA2::xA3::xA4::xA5::xA6::xA7::xA8::xA9::xB0::xB1::xB2::xB3::xB4::xB5::xB6::xB7::xB8::xB9::xC0::xC1::yC2::yC3::yC4::yC5::yC6::yC7::yC8::yC9::yD0::yD1::yD2::yD3::yD4::yD5::yD6::yD7::yD8::yD9::yE0::yE1::yE2::yE3::yE4::yE5::yE6::yE7::yE8::yE9::yF0::yF1::yF2::yF3::yF4::yF5::yF6::yF7::yF8::yF9::yG0::yG1::yG2::yG3::yG4::yG5::yG6::yG7::yG8::yG9::yH0::yH1::yH2::yH3::yH4::yH5::yH6::yH7::yH8::yH9::yI0::yI1::yI2::yI3::yI4::yI5::yI6::yI7::yI8::yI9::yJ0::yJ1::yJ2::yJ3::yJ4::yJ5::yJ6::yJ7::yJ8::yJ9::yK0::yK1::yK2::yK3::yK4::yK5::yK6::yK7::yK8::yK9::yL0::yL1::yL2::yL3::yL4::yL5::yL6::yL7::yL8::yL9::yM0::yM1::yM2::yM3::yM4::yM5::yM6::yM7::yM8::yM9::yN0::yN1::yN2::yN3::yN4::yN5::yN6::yN7::yN8::yN9::yO0::yO1::yO2::yO3::yO4::yO5::yO6::yO7::yO8::yO9::yP0::yP1::yP2::yP3::yP4::yP5::yP6::yP7::yP8::yP9::yQ0::yQ1::yQ2::yQ3::yQ4::yQ5::yQ6::yQ7::yQ8::yQ9::yR0::yR1::yR2::yR3::yR4::yR5::yR6::yR7::yR8::yR9::yS0::yS1::yS2::yS3::yS4::yS5::yS6::yS7::yS8::yS9::yT0::yT1::yT2::yT3::yT4::yT5::yT6::yT7::yT8::yT9::yU0::yU1::yU2::yU3::yU4::yU5::yU6::yU7::yU8::yU9::yV0::yV1::yV2::yV3::yV4::yV5::yV6::yV7::yV8::yV9::yW0::yW1::yW2::yW3::yW4::yW5::yW6::yW7::yW8::yW9::yX0::yX1::yX2::yX3::yX4::yX5::yX6::yX7::yX8::yX9::yY0::yY1::yY2::yY3::yY4::yY5::yY6::yY7::yY8::yY9::yZ0::yZ1::yZ2::yZ3::yZ4::yZ5::yZ6::yZ7::yZ8::yZ9::xa0::xa1::xa2::xa3::xa4::xa5::xa6::xa7::xa8::xa9::xb0::xb1::xb2::xb3::xb4::xb5::xb6::xb7::[]).toArray,[]⟩ w') :
    Code.wp Try.prog run22 (Exit.then K Q) ⟨(x0::iv::x2::.pointer (some ⟨ub,0,none⟩)::x4::x5::.pointer (some ⟨rb,0,none⟩)::x7::.slice (some ⟨mb,0,none⟩) 4096 4096::x9::ov::.slice (some ⟨sb,0,none⟩) (m + 1) scap::.pointer (some ⟨fb,0,none⟩)::.pointer (some ⟨ib,0,none⟩)::.int .i64 (np:Int)::.int .i64 0::x16::x17::x18::x19::x20::x21::x22::x23::x24::x25::x26::x27::x28::x29::x30::x31::x32::x33::x34::x35::x36::x37::x38::x39::x40::x41::x42::x43::x44::x45::x46::x47::x48::x49::x50::x51::x52::x53::x54::x55::x56::x57::x58::x59::x60::x61::x62::x63::x64::x65::x66::x67::x68::x69::x70::x71::x72::x73::x74::x75::x76::x77::x78::x79::x80::x81::x82::x83::x84::x85::x86::x87::x88::x89::x90::x91::x92::x93::x94::x95::x96::x97::x98::x99::xA0::xA1::xA2::xA3::xA4::xA5::xA6::xA7::xA8::xA9::xB0::xB1::xB2::xB3::xB4::xB5::xB6::xB7::xB8::xB9::xC0::xC1::xC2::xC3::xC4::xC5::xC6::xC7::xC8::xC9::xD0::xD1::xD2::xD3::xD4::xD5::xD6::xD7::xD8::xD9::xE0::xE1::xE2::xE3::xE4::xE5::xE6::xE7::xE8::xE9::xF0::xF1::xF2::xF3::xF4::xF5::xF6::xF7::xF8::xF9::xG0::xG1::xG2::xG3::xG4::xG5::xG6::xG7::xG8::xG9::xH0::xH1::xH2::xH3::xH4::xH5::xH6::xH7::xH8::xH9::xI0::xI1::xI2::xI3::xI4::xI5::xI6::xI7::xI8::xI9::xJ0::xJ1::xJ2::xJ3::xJ4::xJ5::xJ6::xJ7::xJ8::xJ9::xK0::xK1::xK2::xK3::xK4::xK5::xK6::xK7::xK8::xK9::xL0::xL1::xL2::xL3::xL4::xL5::xL6::xL7::xL8::xL9::xM0::xM1::xM2::xM3::xM4::xM5::xM6::xM7::xM8::xM9::xN0::xN1::xN2::xN3::xN4::xN5::xN6::xN7::xN8::xN9::xO0::xO1::xO2::xO3::xO4::xO5::xO6::xO7::xO8::xO9::xP0::xP1::xP2::xP3::xP4::xP5::xP6::xP7::xP8::xP9::xQ0::xQ1::xQ2::xQ3::xQ4::xQ5::xQ6::xQ7::xQ8::xQ9::xR0::xR1::xR2::xR3::xR4::xR5::xR6::xR7::xR8::xR9::xS0::xS1::xS2::xS3::xS4::xS5::xS6::xS7::xS8::xS9::xT0::xT1::xT2::xT3::xT4::xT5::xT6::xT7::xT8::xT9::xU0::xU1::xU2::xU3::xU4::xU5::xU6::xU7::xU8::xU9::xV0::xV1::xV2::xV3::xV4::xV5::xV6::xV7::xV8::xV9::xW0::xW1::xW2::xW3::xW4::xW5::xW6::xW7::xW8::xW9::xX0::xX1::xX2::xX3::xX4::xX5::xX6::xX7::xX8::xX9::xY0::xY1::xY2::xY3::xY4::xY5::xY6::xY7::xY8::xY9::xZ0::xZ1::xZ2::xZ3::xZ4::xZ5::xZ6::xZ7::xZ8::xZ9::xa0::xa1::xa2::xa3::xa4::xa5::xa6::xa7::xa8::xa9::xb0::xb1::xb2::xb3::xb4::xb5::xb6::xb7::[]).toArray,[]⟩ w:=by
  conv=>arg 2; whnf
  have HK:=Lib.hid hK
  have HF:=Lib.hid hF
  have HS:=Lib.hid hS
  have HFB:=Lib.hid hf
  have HIB:=Lib.hid hi
  obtain ⟨f0,f1,f2,f3,f4⟩:=fr_cells hf
  obtain ⟨c0,c1,c2,c3,c4,c5,c6,c7,c8,c9,c10,c11,c12,c13,c14⟩:=Ins.cells hi
  obtain ⟨n,hn⟩:∃ n,t.ρ.length=n:=⟨_,rfl⟩
  rw [hn] at f4 hR
  have HOK:=Lib.hid hok
  have HN:=Lib.hid hn
  have HR:=Lib.hid hR
  have HNP:=Lib.hid hnp
  have HM:=Lib.hid hm
  have HFS:=Lib.hid hfs
  have HKD:=Lib.hid hkd
  clear hK hF hS hf hi hok hR hm hn hnp hfs
  rw [hkd] at c0
  clear hkd
  obtain ⟨ra,ha,hra⟩:=HOK.out.useA (by rw [HKD.out]; rfl)
  rw [ha] at c3
  have hran:ra < n:=by rw [HR.out]; exact hra
  have hrv:=(HS.out.regs (t,b) (by simp)).2.2
  have r0:=regs_cell hrv (r:=ra) (by rw [HN.out]; exact hran)
  simp only at r0
  have HA:Hid (t.ρ.getD ra 0=rg t.ρ i.a):=Lib.hid (by unfold rg; rw [ha]; rfl)
  rw [HA.out] at r0
  obtain ⟨av,hav⟩:∃ av,rg t.ρ i.a=av:=⟨_,rfl⟩
  rw [hav] at r0
  have HAV:=Lib.hid hav
  clear hrv ha hav
  have hpl:=fun W=>refplain_any av W
  obtain ⟨a,hpa⟩:∃ a,pln av=a:=⟨_,rfl⟩
  rw [show pl av=a from hpa] at hpl
  have HPL:=Lib.hid (show pln (rg t.ρ i.a)=a by rw [HAV.out]; exact hpa)
  clear hpa
  by_cases hlo:a < 1
  · as_aux_lemma =>
    have q1:decide (a < 1)=true:=by simpa using hlo
    obtain ⟨oA,oc,hov,hfin⟩:=HS.out.told 2 1
    obtain ⟨cs,hres,hsz⟩:=HS.out.res
    have HFN:=Lib.hid hfin
    have HLO:=Lib.hid hlo
    clear hfin hlo
    subst hov
    go_wp2_with (first
      | (go_at_call 59; refine (hpl _).mono ?_; rintro e w3 ⟨rfl,hw3⟩; subst hw3)
      | (show wpList Try.prog _ _ (⟨none,.store _ (.tmp 6) _,_,_,_,_⟩::_) _ _; refine wpList_store_row rfl 49 (.tmp 6) (.tmp 201) rfl rb #[.int .i64 2,.int .i64 1,.slice oA E.out.length oc] rfl rfl 49 _ hres sRe hsz (re_one _ _ _ _ _) ?_))
    exact HF.out _ _ _ _ _ _ _ _ _ _ _ _ _ _ _ _ _ _ _ _ _ _ _ _ _ _ _ _ _ _ _ _ _ _ _ _ _ _ _ _ _ _ _ _ _ _ _ _ _ _ _ _ _ _ _ _ _ _ _ _ _ _ _ _ _ _ _ _ _ _ _ _ _ _ _ _ _ _ _ _ _ _ _ _ _ _ _ _ _ _ _ _ _ _ _ _ _ _ _ _ _ _ _ _ _ _ _ _ _ _ _ _ _ _ _ _ _ _ _ _ _ _ _ _ _ _ _ _ _ _ _ _ _ _ _ _ _ _ _ _ _ _ _ _ _ _ _ _ _ _ _ _ _ _ _ _ _ _ _ _ _ _ _ _ _ _ _ _ _ _ _ _ _ _ _ _ _ _ _ _ _ _ _ _ _ _ _ _ _ _ _ _ _ _ _ _ _ _ _ _ _ _ _ _ _ _ _ _ _ _ _ _ _ _ _ _ _ _ _ _ _ _ _ _ _ _ _ _ _ _ _ _ _ _ _ _ _ _ _ _ _ _ _ _ _ _ _ _ _ _ _ _ _ _  (by unfold lstep; have h:=HLO.out; simp [HKD.out,HPL.out,h]) HFN.out
  by_cases hhi:4096≤a
  · as_aux_lemma =>
    have q1:decide (a < 1)=false:=by simpa using hlo
    have q2:decide (4096≤a)=true:=by simpa using hhi
    have q3:decide (a ≥ 4096)=true:=by simpa using hhi
    obtain ⟨oA,oc,hov,hfin⟩:=HS.out.told 2 1
    obtain ⟨cs,hres,hsz⟩:=HS.out.res
    have HFN:=Lib.hid hfin
    have HHI:=Lib.hid hhi
    clear hfin hhi hlo
    subst hov
    go_wp2_with (first
      | (go_at_call 59; refine (hpl _).mono ?_; rintro e w3 ⟨rfl,hw3⟩; subst hw3)
      | (show wpList Try.prog _ _ (⟨none,.store _ (.tmp 6) _,_,_,_,_⟩::_) _ _; refine wpList_store_row rfl 49 (.tmp 6) (.tmp 201) rfl rb #[.int .i64 2,.int .i64 1,.slice oA E.out.length oc] rfl rfl 49 _ hres sRe hsz (re_one _ _ _ _ _) ?_))
    exact HF.out _ _ _ _ _ _ _ _ _ _ _ _ _ _ _ _ _ _ _ _ _ _ _ _ _ _ _ _ _ _ _ _ _ _ _ _ _ _ _ _ _ _ _ _ _ _ _ _ _ _ _ _ _ _ _ _ _ _ _ _ _ _ _ _ _ _ _ _ _ _ _ _ _ _ _ _ _ _ _ _ _ _ _ _ _ _ _ _ _ _ _ _ _ _ _ _ _ _ _ _ _ _ _ _ _ _ _ _ _ _ _ _ _ _ _ _ _ _ _ _ _ _ _ _ _ _ _ _ _ _ _ _ _ _ _ _ _ _ _ _ _ _ _ _ _ _ _ _ _ _ _ _ _ _ _ _ _ _ _ _ _ _ _ _ _ _ _ _ _ _ _ _ _ _ _ _ _ _ _ _ _ _ _ _ _ _ _ _ _ _ _ _ _ _ _ _ _ _ _ _ _ _ _ _ _ _ _ _ _ _ _ _ _ _ _ _ _ _ _ _ _ _ _ _ _ _ _ _ _ _ _ _ _ _ _ _ _ _ _ _ _ _ _ _ _ _ _ _ _ _ _ _ _ _  (by unfold lstep; have h:=HHI.out; simp [HKD.out,HPL.out,h]) HFN.out
  as_aux_lemma =>
    obtain ⟨na,hna⟩:∃ na:Nat,a=na:=⟨a.toNat,by omega⟩
    subst hna
    have q1:decide ((na:Int) < 1)=false:=by simpa using hlo
    have q2:decide (4096≤(na:Int))=false:=by simpa using hhi
    have q3:decide ((na:Int) ≥ 4096)=false:=by simpa using hhi
    have hl:na < 4096:=by omega
    have hlm:na < E.mem.length:=by rw [HS.out.ml]; exact hl
    have mc:=regs_cell HS.out.mem hlm
    have mf:=free_of_heap HS.out.mem na
    obtain ⟨mv,hmv⟩:∃ mv,E.mem.getD na 0=mv:=⟨_,rfl⟩
    rw [hmv] at mc
    have HMV:Hid (E.mem[na]?.getD 0=mv):=Lib.hid (by rw [← List.getD_eq_getElem?_getD]; exact hmv)
    clear hmv
    have HX:Hid (¬ ((na:Int) < 1∨4096≤(na:Int))):=Lib.hid (by omega)
    clear hlo hhi
    go_wp2_with (first
      | (go_at_call 59; refine (hpl _).mono ?_; rintro e w3 ⟨rfl,hw3⟩; subst hw3))
    exact HK.out _ _ _ _ _ _ _ _ _ _ _ _ _ _ _ _ _ _ _ _ _ _ _ _ _ _ _ _ _ _ _ _ _ _ _ _ _ _ _ _ _ _ _ _ _ _ _ _ _ _ _ _ _ _ _ _ _ _ _ _ _ _ _ _ _ _ _ _ _ _ _ _ _ _ _ _ _ _ _ _ _ _ _ _ _ _ _ _ _ _ _ _ _ _ _ _ _ _ _ _ _ _ _ _ _ _ _ _ _ _ _ _ _ _ _ _ _ _ _ _ _ _ _ _ _ _ _ _ _ _ _ _ _ _ _ _ _ _ _ _ _ _ _ _ _ _ _ _ _ _ _ _ _ _ _ _ _ _ _ _ _ _ _ _ _ _ _ _ _ _ _ _ _ _ _ _ _ _ _ _ _ _ _ _ _ _ _ _ _ _ _ _ _ _ _ _ _ _ _ _ _ _ _ _ _ _ _ _ _ _ _ _ _ _ _ _ _ _ _ _ _ _ _ _ _ _ _ _ _ _ _ _ _ _ _ _ _ _ _ _ _ _ _ _ _ _ _ _ _ _ _ _ _ ⟨by unfold lstep; rw [(show i.sets=i.dst from by unfold Ins.sets; rw [HKD.out]; rfl)]; have h:=HX.out; simp only [not_or,Int.not_lt,Int.not_le] at h; simp [HKD.out,HNP.out,HPL.out,HMV.out,Int.not_lt.2 h.1,Int.not_le.2 h.2],HS.out,HFB.out,HIB.out,Nat.le_succ _⟩
set_option maxRecDepth 1000000 in
set_option maxHeartbeats 32000000 in
theorem run_k7 (w0 w:World)(l:List (Fr7 × Nat))(t:Fr7)(b m scap sb fb ib mb rb ub np:Nat)(i:Ins)(E:Env)(iv ov:Value)(R Fr:Int)(L:Nat)
    (hm:l.length=m) (hok:Ok i R Fr L) (hkd:i.kind=7) (hR:t.ρ.length=R.toNat) (hnp:np=t.p + 1) 
    (hS:RnS w0 w (l++[(t,b)]) E mb rb iv ov (.slice (some ⟨sb,0,none⟩) (m + 1) scap)) (hf:w.heap[fb]? = some (frObj t b t.ρ.length)) (hi:w.heap[ib]? = some i.obj) (hfs:fb≠sb)
    {x0 x2 x4 x5 x7 x9 x16 x17 x18 x19 x20 x21 x22 x23 x24 x25 x26 x27 x28 x29 x30 x31 x32 x33 x34 x35 x36 x37 x38 x39 x40 x41 x42 x43 x44 x45 x46 x47 x48 x49 x50 x51 x52 x53 x54 x55 x56 x57 x58 x59 x60 x61 x62 x63 x64 x65 x66 x67 x68 x69 x70 x71 x72 x73 x74 x75 x76 x77 x78 x79 x80 x81 x82 x83 x84 x85 x86 x87 x88 x89 x90 x91 x92 x93 x94 x95 x96 x97 x98 x99 xA0 xA1 xA2 xA3 xA4 xA5 xA6 xA7 xA8 xA9 xB0 xB1 xB2 xB3 xB4 xB5 xB6 xB7 xB8 xB9 xC0 xC1 xC2 xC3 xC4 xC5 xC6 xC7 xC8 xC9 xD0 xD1 xD2 xD3 xD4 xD5 xD6 xD7 xD8 xD9 xE0 xE1 xE2 xE3 xE4 xE5 xE6 xE7 xE8 xE9 xF0 xF1 xF2 xF3 xF4 xF5 xF6 xF7 xF8 xF9 xG0 xG1 xG2 xG3 xG4 xG5 xG6 xG7 xG8 xG9 xH0 xH1 xH2 xH3 xH4 xH5 xH6 xH7 xH8 xH9 xI0 xI1 xI2 xI3 xI4 xI5 xI6 xI7 xI8 xI9 xJ0 xJ1 xJ2 xJ3 xJ4 xJ5 xJ6 xJ7 xJ8 xJ9 xK0 xK1 xK2 xK3 xK4 xK5 xK6 xK7 xK8 xK9 xL0 xL1 xL2 xL3 xL4 xL5 xL6 xL7 xL8 xL9 xM0 xM1 xM2 xM3 xM4 xM5 xM6 xM7 xM8 xM9 xN0 xN1 xN2 xN3 xN4 xN5 xN6 xN7 xN8 xN9 xO0 xO1 xO2 xO3 xO4 xO5 xO6 xO7 xO8 xO9 xP0 xP1 xP2 xP3 xP4 xP5 xP6 xP7 xP8 xP9 xQ0 xQ1 xQ2 xQ3 xQ4 xQ5 xQ6 xQ7 xQ8 xQ9 xR0 xR1 xR2 xR3 xR4 xR5 xR6 xR7 xR8 xR9 xS0 xS1 xS2 xS3 xS4 xS5 xS6 xS7 xS8 xS9 xT0 xT1 xT2 xT3 xT4 xT5 xT6 xT7 xT8 xT9 xU0 xU1 xU2 xU3 xU4 xU5 xU6 xU7 xU8 xU9 xV0 xV1 xV2 xV3 xV4 xV5 xV6 xV7 xV8 xV9 xW0 xW1 xW2 xW3 xW4 xW5 xW6 xW7 xW8 xW9 xX0 xX1 xX2 xX3 xX4 xX5 xX6 xX7 xX8 xX9 xY0 xY1 xY2 xY3 xY4 xY5 xY6 xY7 xY8 xY9 xZ0 xZ1 xZ2 xZ3 xZ4 xZ5 xZ6 xZ7 xZ8 xZ9 xa0 xa1 xa2 xa3 xa4 xa5 xa6 xa7 xa8 xa9 xb0 xb1 xb2 xb3 xb4 xb5 xb6 xb7:Value} (K:Act→World→Prop) (Q:Exit→Act→World→Prop)
    (hK:∀ (y16 y17 y18 y19 y20 y21 y22 y23 y24 yC2 yC3 yC4 yC5 yC6 yC7 yC8 yC9 yD0 yD1 yD2 yD3 yD4 yD5 yD6 yD7 yD8 yD9 yE0 yE1 yE2 yE3 yE4 yE5 yE6 yE7 yE8 yE9 yF0 yF1 yF2 yF3 yF4 yF5 yF6 yF7 yF8 yF9 yG0 yG1 yG2 yG3 yG4 yG5 yG6 yG7 yG8 yG9 yH0 yH1 yH2 yH3 yH4 yH5 yH6 yH7 yH8 yH9 yI0 yI1 yI2 yI3 yI4 yI5 yI6 yI7 yI8 yI9 yJ0 yJ1 yJ2 yJ3 yJ4 yJ5 yJ6 yJ7 yJ8 yJ9 yK0 yK1 yK2 yK3 yK4 yK5 yK6 yK7 yK8 yK9 yL0 yL1 yL2 yL3 yL4 yL5 yL6 yL7 yL8 yL9 yM0 yM1 yM2 yM3 yM4 yM5 yM6 yM7 yM8 yM9 yN0 yN1 yN2 yN3 yN4 yN5 yN6 yN7 yN8 yN9 yO0 yO1 yO2 yO3 yO4 yO5 yO6 yO7 yO8 yO9 yP0 yP1 yP2 yP3 yP4 yP5 yP6 yP7 yP8 yP9 yQ0 yQ1 yQ2 yQ3 yQ4 yQ5 yQ6 yQ7 yQ8 yQ9 yR0 yR1 yR2 yR3 yR4 yR5 yR6 yR7 yR8 yR9 yS0 yS1 yS2 yS3 yS4 yS5 yS6 yS7 yS8 yS9 yT0 yT1 yT2 yT3 yT4 yT5 yT6 yT7 yT8 yT9 yU0 yU1 yU2 yU3 yU4 yU5 yU6 yU7 yU8 yU9 yV0 yV1 yV2 yV3 yV4 yV5 yV6 yV7 yV8 yV9 yW0 yW1 yW2 yW3 yW4 yW5 yW6 yW7 yW8 yW9 yX0 yX1 yX2 yX3 yX4 yX5 yX6 yX7 yX8 yX9 yY0 yY1 yY2 yY3 yY4 yY5 yY6 yY7 yY8 yY9 yZ0 yZ1 yZ2 yZ3 yZ4 yZ5 yZ6 yZ7 yZ8 yZ9:Value) (w':World) (iv' ov':Value) (E':Env) (q:Nat) (v:Int),RunGo w0 w' l t b i E E' mb rb iv' ov' (.slice (some ⟨sb,0,none⟩) (m + 1) scap) fb ib q v→K ⟨(x0::iv'::x2::.pointer (some ⟨ub,0,none⟩)::x4::x5::.pointer (some ⟨rb,0,none⟩)::x7::.slice (some ⟨mb,0,none⟩) 4096 4096::x9::ov'::.slice (some ⟨sb,0,none⟩) (m + 1) scap::.pointer (some ⟨fb,0,none⟩)::.pointer (some ⟨ib,0,none⟩)::.int .i64 (q:Int)::.int .i64 v::y16::y17::y18::y19::y20::y21::y22::y23::y24::x25::x26::x27::x28::x29::x30::x31::x32::x33::x34::x35::x36::x37::x38::x39::x40::x41::x42::x43::x44::x45::x46::x47::x48::x49::x50::x51::x52::x53::x54::x55::x56::x57::x58::x59::x60::x61::x62::x63::x64::x65::x66::x67::x68::x69::x70::x71::x72::x73::x74::x75::x76::x77::x78::x79::x80::x81::x82::x83::x84::x85::x86::x87::x88::x89::x90::x91::x92::x93::x94::x95::x96::x97::x98::x99::xA0::xA1::xA2::xA3::xA4::xA5::xA6::xA7::xA8::xA9::xB0::xB1::xB2::xB3::xB4::xB5::xB6::xB7::xB8::xB9::xC0::xC1::yC2::yC3::yC4::yC5::yC6::yC7::yC8::yC9::yD0::yD1::yD2::yD3::yD4::yD5::yD6::yD7::yD8::yD9::yE0::yE1::yE2::yE3::yE4::yE5::yE6::yE7::yE8::yE9::yF0::yF1::yF2::yF3::yF4::yF5::yF6::yF7::yF8::yF9::yG0::yG1::yG2::yG3::yG4::yG5::yG6::yG7::yG8::yG9::yH0::yH1::yH2::yH3::yH4::yH5::yH6::yH7::yH8::yH9::yI0::yI1::yI2::yI3::yI4::yI5::yI6::yI7::yI8::yI9::yJ0::yJ1::yJ2::yJ3::yJ4::yJ5::yJ6::yJ7::yJ8::yJ9::yK0::yK1::yK2::yK3::yK4::yK5::yK6::yK7::yK8::yK9::yL0::yL1::yL2::yL3::yL4::yL5::yL6::yL7::yL8::yL9::yM0::yM1::yM2::yM3::yM4::yM5::yM6::yM7::yM8::yM9::yN0::yN1::yN2::yN3::yN4::yN5::yN6::yN7::yN8::yN9::yO0::yO1::yO2::yO3::yO4::yO5::yO6::yO7::yO8::yO9::yP0::yP1::yP2::yP3::yP4::yP5::yP6::yP7::yP8::yP9::yQ0::yQ1::yQ2::yQ3::yQ4::yQ5::yQ6::yQ7::yQ8::yQ9::yR0::yR1::yR2::yR3::yR4::yR5::yR6::yR7::yR8::yR9::yS0::yS1::yS2::yS3::yS4::yS5::yS6::yS7::yS8::yS9::yT0::yT1::yT2::yT3::yT4::yT5::yT6::yT7::yT8::yT9::yU0::yU1::yU2::yU3::yU4::yU5::yU6::yU7::yU8::yU9::yV0::yV1::yV2::yV3::yV4::yV5::yV6::yV7::yV8::yV9::yW0::yW1::yW2::yW3::yW4::yW5::yW6::yW7::yW8::yW9::yX0::yX1::yX2::yX3::yX4::yX5::yX6::yX7::yX8::yX9::yY0::yY1::yY2::yY3::yY4::yY5::yY6::yY7::yY8::yY9::yZ0::yZ1::yZ2::yZ3::yZ4::yZ5::yZ6::yZ7::yZ8::yZ9::xa0::xa1::xa2::xa3::xa4::xa5::xa6::xa7::xa8::xa9::xb0::xb1::xb2::xb3::xb4::xb5::xb6::xb7::[]).toArray,[]⟩ w')
    (hF:∀ (y16 y17 y18 y19 y20 y21 y22 y23 y24 yC2 yC3 yC4 yC5 yC6 yC7 yC8 yC9 yD0 yD1 yD2 yD3 yD4 yD5 yD6 yD7 yD8 yD9 yE0 yE1 yE2 yE3 yE4 yE5 yE6 yE7 yE8 yE9 yF0 yF1 yF2 yF3 yF4 yF5 yF6 yF7 yF8 yF9 yG0 yG1 yG2 yG3 yG4 yG5 yG6 yG7 yG8 yG9 yH0 yH1 yH2 yH3 yH4 yH5 yH6 yH7 yH8 yH9 yI0 yI1 yI2 yI3 yI4 yI5 yI6 yI7 yI8 yI9 yJ0 yJ1 yJ2 yJ3 yJ4 yJ5 yJ6 yJ7 yJ8 yJ9 yK0 yK1 yK2 yK3 yK4 yK5 yK6 yK7 yK8 yK9 yL0 yL1 yL2 yL3 yL4 yL5 yL6 yL7 yL8 yL9 yM0 yM1 yM2 yM3 yM4 yM5 yM6 yM7 yM8 yM9 yN0 yN1 yN2 yN3 yN4 yN5 yN6 yN7 yN8 yN9 yO0 yO1 yO2 yO3 yO4 yO5 yO6 yO7 yO8 yO9 yP0 yP1 yP2 yP3 yP4 yP5 yP6 yP7 yP8 yP9 yQ0 yQ1 yQ2 yQ3 yQ4 yQ5 yQ6 yQ7 yQ8 yQ9 yR0 yR1 yR2 yR3 yR4 yR5 yR6 yR7 yR8 yR9 yS0 yS1 yS2 yS3 yS4 yS5 yS6 yS7 yS8 yS9 yT0 yT1 yT2 yT3 yT4 yT5 yT6 yT7 yT8 yT9 yU0 yU1 yU2 yU3 yU4 yU5 yU6 yU7 yU8 yU9 yV0 yV1 yV2 yV3 yV4 yV5 yV6 yV7 yV8 yV9 yW0 yW1 yW2 yW3 yW4 yW5 yW6 yW7 yW8 yW9 yX0 yX1 yX2 yX3 yX4 yX5 yX6 yX7 yX8 yX9 yY0 yY1 yY2 yY3 yY4 yY5 yY6 yY7 yY8 yY9 yZ0 yZ1 yZ2 yZ3 yZ4 yZ5 yZ6 yZ7 yZ8 yZ9 z1 z10 z11 z14 z15:Value) (w':World) (c:Int),lstep i t.p t.base t.ρ E = .stop c→Fin w0 w' rb ⟨2,c,E.out⟩→Q .ret ⟨(x0::z1::x2::.pointer (some ⟨ub,0,none⟩)::x4::x5::.pointer (some ⟨rb,0,none⟩)::x7::.slice (some ⟨mb,0,none⟩) 4096 4096::x9::z10::z11::.pointer (some ⟨fb,0,none⟩)::.pointer (some ⟨ib,0,none⟩)::z14::z15::y16::y17::y18::y19::y20::y21::y22::y23::y24::x25::x26::x27::x28::x29::x30::x31::x32::x33::x34::x35::x36::x37::x38::x39::x40::x41::x42::x43::x44::x45::x46::x47::x48::x49::x50::x51::x52::x53::x54::x55::x56::x57::x58::x59::x60::x61::x62::x63::x64::x65::x66::x67::x68::x69::x70::x71::x72::x73::x74::x75::x76::x77::x78::x79::x80::x81::x82::x83::x84::x85::x86::x87::x88::x89::x90::x91::x92::x93::x94::x95::x96::x97::x98::x99::xA0::xA1::xA2::xA3::xA4::xA5::xA6::xA7::xA8::xA9::xB0::xB1::xB2::xB3::xB4::xB5::xB6::xB7::xB8::xB9::xC0::xC1::yC2::yC3::yC4::yC5::yC6::yC7::yC8::yC9::yD0::yD1::yD2::yD3::yD4::yD5::yD6::yD7::yD8::yD9::yE0::yE1::yE2::yE3::yE4::yE5::yE6::yE7::yE8::yE9::yF0::yF1::yF2::yF3::yF4::yF5::yF6::yF7::yF8::yF9::yG0::yG1::yG2::yG3::yG4::yG5::yG6::yG7::yG8::yG9::yH0::yH1::yH2::yH3::yH4::yH5::yH6::yH7::yH8::yH9::yI0::yI1::yI2::yI3::yI4::yI5::yI6::yI7::yI8::yI9::yJ0::yJ1::yJ2::yJ3::yJ4::yJ5::yJ6::yJ7::yJ8::yJ9::yK0::yK1::yK2::yK3::yK4::yK5::yK6::yK7::yK8::yK9::yL0::yL1::yL2::yL3::yL4::yL5::yL6::yL7::yL8::yL9::yM0::yM1::yM2::yM3::yM4::yM5::yM6::yM7::yM8::yM9::yN0::yN1::yN2::yN3::yN4::yN5::yN6::yN7::yN8::yN9::yO0::yO1::yO2::yO3::yO4::yO5::yO6::yO7::yO8::yO9::yP0::yP1::yP2::yP3::yP4::yP5::yP6::yP7::yP8::yP9::yQ0::yQ1::yQ2::yQ3::yQ4::yQ5::yQ6::yQ7::yQ8::yQ9::yR0::yR1::yR2::yR3::yR4::yR5::yR6::yR7::yR8::yR9::yS0::yS1::yS2::yS3::yS4::yS5::yS6::yS7::yS8::yS9::yT0::yT1::yT2::yT3::yT4::yT5::yT6::yT7::yT8::yT9::yU0::yU1::yU2::yU3::yU4::yU5::yU6::yU7::yU8::yU9::yV0::yV1::yV2::yV3::yV4::yV5::yV6::yV7::yV8::yV9::yW0::yW1::yW2::yW3::yW4::yW5::yW6::yW7::yW8::yW9::yX0::yX1::yX2::yX3::yX4::yX5::yX6::yX7::yX8::yX9::yY0::yY1::yY2::yY3::yY4::yY5::yY6::yY7::yY8::yY9::yZ0::yZ1::yZ2::yZ3::yZ4::yZ5::yZ6::yZ7::yZ8::yZ9::xa0::xa1::xa2::xa3::xa4::xa5::xa6::xa7::xa8::xa9::xb0::xb1::xb2::xb3::xb4::xb5::xb6::xb7::[]).toArray,[]⟩ w') :
    Code.wp Try.prog run22 (Exit.then K Q) ⟨(x0::iv::x2::.pointer (some ⟨ub,0,none⟩)::x4::x5::.pointer (some ⟨rb,0,none⟩)::x7::.slice (some ⟨mb,0,none⟩) 4096 4096::x9::ov::.slice (some ⟨sb,0,none⟩) (m + 1) scap::.pointer (some ⟨fb,0,none⟩)::.pointer (some ⟨ib,0,none⟩)::.int .i64 (np:Int)::.int .i64 0::x16::x17::x18::x19::x20::x21::x22::x23::x24::x25::x26::x27::x28::x29::x30::x31::x32::x33::x34::x35::x36::x37::x38::x39::x40::x41::x42::x43::x44::x45::x46::x47::x48::x49::x50::x51::x52::x53::x54::x55::x56::x57::x58::x59::x60::x61::x62::x63::x64::x65::x66::x67::x68::x69::x70::x71::x72::x73::x74::x75::x76::x77::x78::x79::x80::x81::x82::x83::x84::x85::x86::x87::x88::x89::x90::x91::x92::x93::x94::x95::x96::x97::x98::x99::xA0::xA1::xA2::xA3::xA4::xA5::xA6::xA7::xA8::xA9::xB0::xB1::xB2::xB3::xB4::xB5::xB6::xB7::xB8::xB9::xC0::xC1::xC2::xC3::xC4::xC5::xC6::xC7::xC8::xC9::xD0::xD1::xD2::xD3::xD4::xD5::xD6::xD7::xD8::xD9::xE0::xE1::xE2::xE3::xE4::xE5::xE6::xE7::xE8::xE9::xF0::xF1::xF2::xF3::xF4::xF5::xF6::xF7::xF8::xF9::xG0::xG1::xG2::xG3::xG4::xG5::xG6::xG7::xG8::xG9::xH0::xH1::xH2::xH3::xH4::xH5::xH6::xH7::xH8::xH9::xI0::xI1::xI2::xI3::xI4::xI5::xI6::xI7::xI8::xI9::xJ0::xJ1::xJ2::xJ3::xJ4::xJ5::xJ6::xJ7::xJ8::xJ9::xK0::xK1::xK2::xK3::xK4::xK5::xK6::xK7::xK8::xK9::xL0::xL1::xL2::xL3::xL4::xL5::xL6::xL7::xL8::xL9::xM0::xM1::xM2::xM3::xM4::xM5::xM6::xM7::xM8::xM9::xN0::xN1::xN2::xN3::xN4::xN5::xN6::xN7::xN8::xN9::xO0::xO1::xO2::xO3::xO4::xO5::xO6::xO7::xO8::xO9::xP0::xP1::xP2::xP3::xP4::xP5::xP6::xP7::xP8::xP9::xQ0::xQ1::xQ2::xQ3::xQ4::xQ5::xQ6::xQ7::xQ8::xQ9::xR0::xR1::xR2::xR3::xR4::xR5::xR6::xR7::xR8::xR9::xS0::xS1::xS2::xS3::xS4::xS5::xS6::xS7::xS8::xS9::xT0::xT1::xT2::xT3::xT4::xT5::xT6::xT7::xT8::xT9::xU0::xU1::xU2::xU3::xU4::xU5::xU6::xU7::xU8::xU9::xV0::xV1::xV2::xV3::xV4::xV5::xV6::xV7::xV8::xV9::xW0::xW1::xW2::xW3::xW4::xW5::xW6::xW7::xW8::xW9::xX0::xX1::xX2::xX3::xX4::xX5::xX6::xX7::xX8::xX9::xY0::xY1::xY2::xY3::xY4::xY5::xY6::xY7::xY8::xY9::xZ0::xZ1::xZ2::xZ3::xZ4::xZ5::xZ6::xZ7::xZ8::xZ9::xa0::xa1::xa2::xa3::xa4::xa5::xa6::xa7::xa8::xa9::xb0::xb1::xb2::xb3::xb4::xb5::xb6::xb7::[]).toArray,[]⟩ w:=by
  conv=>arg 2; whnf
  have HK:=Lib.hid hK
  have HF:=Lib.hid hF
  have HS:=Lib.hid hS
  have HFB:=Lib.hid hf
  have HIB:=Lib.hid hi
  obtain ⟨f0,f1,f2,f3,f4⟩:=fr_cells hf
  obtain ⟨c0,c1,c2,c3,c4,c5,c6,c7,c8,c9,c10,c11,c12,c13,c14⟩:=Ins.cells hi
  obtain ⟨n,hn⟩:∃ n,t.ρ.length=n:=⟨_,rfl⟩
  rw [hn] at f4 hR
  have HOK:=Lib.hid hok
  have HN:=Lib.hid hn
  have HR:=Lib.hid hR
  have HNP:=Lib.hid hnp
  have HM:=Lib.hid hm
  have HFS:=Lib.hid hfs
  have HKD:=Lib.hid hkd
  clear hK hF hS hf hi hok hR hm hn hnp hfs
  rw [hkd] at c0
  clear hkd
  obtain ⟨ra,ha,hra⟩:=HOK.out.useA (by rw [HKD.out]; rfl)
  rw [ha] at c3
  have hran:ra < n:=by rw [HR.out]; exact hra
  have hrv:=(HS.out.regs (t,b) (by simp)).2.2
  have r0:=regs_cell hrv (r:=ra) (by rw [HN.out]; exact hran)
  simp only at r0
  have HA:Hid (t.ρ.getD ra 0=rg t.ρ i.a):=Lib.hid (by unfold rg; rw [ha]; rfl)
  rw [HA.out] at r0
  obtain ⟨av,hav⟩:∃ av,rg t.ρ i.a=av:=⟨_,rfl⟩
  rw [hav] at r0
  have HAV:=Lib.hid hav
  clear hrv ha hav
  obtain ⟨rbb,hb,hrb⟩:=HOK.out.useB (by rw [HKD.out]; rfl)
  rw [hb] at c4
  have hrbn:rbb < n:=by rw [HR.out]; exact hrb
  have hrv:=(HS.out.regs (t,b) (by simp)).2.2
  have r1:=regs_cell hrv (r:=rbb) (by rw [HN.out]; exact hrbn)
  simp only at r1
  have HBb:Hid (t.ρ.getD rbb 0=rg t.ρ i.b):=Lib.hid (by unfold rg; rw [hb]; rfl)
  rw [HBb.out] at r1
  obtain ⟨bv,hbv⟩:∃ bv,rg t.ρ i.b=bv:=⟨_,rfl⟩
  rw [hbv] at r1
  have HBV:=Lib.hid hbv
  clear hrv hb hbv
  have hpl:=fun W=>refplain_any av W
  obtain ⟨a,hpa⟩:∃ a,pln av=a:=⟨_,rfl⟩
  rw [show pl av=a from hpa] at hpl
  have HPL:=Lib.hid (show pln (rg t.ρ i.a)=a by rw [HAV.out]; exact hpa)
  clear hpa
  by_cases hlo:a < 1
  · as_aux_lemma =>
    have q1:decide (a < 1)=true:=by simpa using hlo
    obtain ⟨oA,oc,hov,hfin⟩:=HS.out.told 2 1
    obtain ⟨cs,hres,hsz⟩:=HS.out.res
    have HFN:=Lib.hid hfin
    have HLO:=Lib.hid hlo
    clear hfin hlo
    subst hov
    go_wp2_with (first
      | (go_at_call 59; refine (hpl _).mono ?_; rintro e w3 ⟨rfl,hw3⟩; subst hw3)
      | (show wpList Try.prog _ _ (⟨none,.store _ (.tmp 6) _,_,_,_,_⟩::_) _ _; refine wpList_store_row rfl 49 (.tmp 6) (.tmp 201) rfl rb #[.int .i64 2,.int .i64 1,.slice oA E.out.length oc] rfl rfl 49 _ hres sRe hsz (re_one _ _ _ _ _) ?_))
    exact HF.out _ _ _ _ _ _ _ _ _ _ _ _ _ _ _ _ _ _ _ _ _ _ _ _ _ _ _ _ _ _ _ _ _ _ _ _ _ _ _ _ _ _ _ _ _ _ _ _ _ _ _ _ _ _ _ _ _ _ _ _ _ _ _ _ _ _ _ _ _ _ _ _ _ _ _ _ _ _ _ _ _ _ _ _ _ _ _ _ _ _ _ _ _ _ _ _ _ _ _ _ _ _ _ _ _ _ _ _ _ _ _ _ _ _ _ _ _ _ _ _ _ _ _ _ _ _ _ _ _ _ _ _ _ _ _ _ _ _ _ _ _ _ _ _ _ _ _ _ _ _ _ _ _ _ _ _ _ _ _ _ _ _ _ _ _ _ _ _ _ _ _ _ _ _ _ _ _ _ _ _ _ _ _ _ _ _ _ _ _ _ _ _ _ _ _ _ _ _ _ _ _ _ _ _ _ _ _ _ _ _ _ _ _ _ _ _ _ _ _ _ _ _ _ _ _ _ _ _ _ _ _ _ _ _ _ _ _ _ _ _ _ _ _ _ _ _ _ _ _ _ _ _ _ _  (by unfold lstep; have h:=HLO.out; simp [HKD.out,HPL.out,h]) HFN.out
  by_cases hhi:4096≤a
  · as_aux_lemma =>
    have q1:decide (a < 1)=false:=by simpa using hlo
    have q2:decide (4096≤a)=true:=by simpa using hhi
    have q3:decide (a ≥ 4096)=true:=by simpa using hhi
    obtain ⟨oA,oc,hov,hfin⟩:=HS.out.told 2 1
    obtain ⟨cs,hres,hsz⟩:=HS.out.res
    have HFN:=Lib.hid hfin
    have HHI:=Lib.hid hhi
    clear hfin hhi hlo
    subst hov
    go_wp2_with (first
      | (go_at_call 59; refine (hpl _).mono ?_; rintro e w3 ⟨rfl,hw3⟩; subst hw3)
      | (show wpList Try.prog _ _ (⟨none,.store _ (.tmp 6) _,_,_,_,_⟩::_) _ _; refine wpList_store_row rfl 49 (.tmp 6) (.tmp 201) rfl rb #[.int .i64 2,.int .i64 1,.slice oA E.out.length oc] rfl rfl 49 _ hres sRe hsz (re_one _ _ _ _ _) ?_))
    exact HF.out _ _ _ _ _ _ _ _ _ _ _ _ _ _ _ _ _ _ _ _ _ _ _ _ _ _ _ _ _ _ _ _ _ _ _ _ _ _ _ _ _ _ _ _ _ _ _ _ _ _ _ _ _ _ _ _ _ _ _ _ _ _ _ _ _ _ _ _ _ _ _ _ _ _ _ _ _ _ _ _ _ _ _ _ _ _ _ _ _ _ _ _ _ _ _ _ _ _ _ _ _ _ _ _ _ _ _ _ _ _ _ _ _ _ _ _ _ _ _ _ _ _ _ _ _ _ _ _ _ _ _ _ _ _ _ _ _ _ _ _ _ _ _ _ _ _ _ _ _ _ _ _ _ _ _ _ _ _ _ _ _ _ _ _ _ _ _ _ _ _ _ _ _ _ _ _ _ _ _ _ _ _ _ _ _ _ _ _ _ _ _ _ _ _ _ _ _ _ _ _ _ _ _ _ _ _ _ _ _ _ _ _ _ _ _ _ _ _ _ _ _ _ _ _ _ _ _ _ _ _ _ _ _ _ _ _ _ _ _ _ _ _ _ _ _ _ _ _ _ _ _ _ _ _  (by unfold lstep; have h:=HHI.out; simp [HKD.out,HPL.out,h]) HFN.out
  as_aux_lemma =>
    obtain ⟨na,hna⟩:∃ na:Nat,a=na:=⟨a.toNat,by omega⟩
    subst hna
    have q1:decide ((na:Int) < 1)=false:=by simpa using hlo
    have q2:decide (4096≤(na:Int))=false:=by simpa using hhi
    have q3:decide ((na:Int) ≥ 4096)=false:=by simpa using hhi
    have hl:na < 4096:=by omega
    have hlm:na < E.mem.length:=by rw [HS.out.ml]; exact hl
    have mc:=regs_cell HS.out.mem hlm
    have mf:=free_of_heap HS.out.mem na
    have HX:Hid (¬ ((na:Int) < 1∨4096≤(na:Int))):=Lib.hid (by omega)
    clear hlo hhi
    go_wp2_with (first
      | (go_at_call 59; refine (hpl _).mono ?_; rintro e w3 ⟨rfl,hw3⟩; subst hw3))
    exact HK.out _ _ _ _ _ _ _ _ _ _ _ _ _ _ _ _ _ _ _ _ _ _ _ _ _ _ _ _ _ _ _ _ _ _ _ _ _ _ _ _ _ _ _ _ _ _ _ _ _ _ _ _ _ _ _ _ _ _ _ _ _ _ _ _ _ _ _ _ _ _ _ _ _ _ _ _ _ _ _ _ _ _ _ _ _ _ _ _ _ _ _ _ _ _ _ _ _ _ _ _ _ _ _ _ _ _ _ _ _ _ _ _ _ _ _ _ _ _ _ _ _ _ _ _ _ _ _ _ _ _ _ _ _ _ _ _ _ _ _ _ _ _ _ _ _ _ _ _ _ _ _ _ _ _ _ _ _ _ _ _ _ _ _ _ _ _ _ _ _ _ _ _ _ _ _ _ _ _ _ _ _ _ _ _ _ _ _ _ _ _ _ _ _ _ _ _ _ _ _ _ _ _ _ _ _ _ _ _ _ _ _ _ _ _ _ _ _ _ _ _ _ _ _ _ _ _ _ _ _ _ _ _ _ _ _ _ _ _ _ _ _ _ _ _ _ _ _ _ _ _ _ _ _ ⟨by unfold lstep setd; rw [(show i.sets=-1 from by unfold Ins.sets; rw [HKD.out]; rfl)]; have h:=HX.out; simp only [not_or,Int.not_lt,Int.not_le] at h; simp [HKD.out,HNP.out,HPL.out,HBV.out,Int.not_lt.2 h.1,Int.not_le.2 h.2],HS.out.mem_set na bv,(heap_setCell_other w ⟨mb,na,none⟩ fb _ (ty_ne HFB.out HS.out.mem (by decide))).trans HFB.out,(heap_setCell_other w ⟨mb,na,none⟩ ib _ (ty_ne HIB.out HS.out.mem (by decide))).trans HIB.out,Nat.le_succ _⟩
end Go.Proofs.Ytkcclefonmnpnaa
namespace Go.Proofs.Ytkcclefonmnpnaa
open Go.RowKit Go.BigFrame
set_option maxRecDepth 1000000 in
set_option maxHeartbeats 32000000 in
theorem run_k2 (w0 w:World)(l:List (Fr7 × Nat))(t:Fr7)(b m scap sb fb ib mb rb ub np:Nat)(i:Ins)(E:Env)(iv ov:Value)(R Fr:Int)(L:Nat)
    (hm:l.length=m) (hok:Ok i R Fr L) (hkd:i.kind=2) (hR:t.ρ.length=R.toNat) (hnp:np=t.p + 1) 
    (hS:RnS w0 w (l++[(t,b)]) E mb rb iv ov (.slice (some ⟨sb,0,none⟩) (m + 1) scap)) (hf:w.heap[fb]? = some (frObj t b t.ρ.length)) (hi:w.heap[ib]? = some i.obj) (hfs:fb≠sb)
    {x0 x2 x4 x5 x7 x9 x16 x17 x18 x19 x20 x21 x22 x23 x24 x25 x26 x27 x28 x29 x30 x31 x32 x33 x34 x35 x36 x37 x38 x39 x40 x41 x42 x43 x44 x45 x46 x47 x48 x49 x50 x51 x52 x53 x54 x55 x56 x57 x58 x59 x60 x61 x62 x63 x64 x65 x66 x67 x68 x69 x70 x71 x72 x73 x74 x75 x76 x77 x78 x79 x80 x81 x82 x83 x84 x85 x86 x87 x88 x89 x90 x91 x92 x93 x94 x95 x96 x97 x98 x99 xA0 xA1 xA2 xA3 xA4 xA5 xA6 xA7 xA8 xA9 xB0 xB1 xB2 xB3 xB4 xB5 xB6 xB7 xB8 xB9 xC0 xC1 xC2 xC3 xC4 xC5 xC6 xC7 xC8 xC9 xD0 xD1 xD2 xD3 xD4 xD5 xD6 xD7 xD8 xD9 xE0 xE1 xE2 xE3 xE4 xE5 xE6 xE7 xE8 xE9 xF0 xF1 xF2 xF3 xF4 xF5 xF6 xF7 xF8 xF9 xG0 xG1 xG2 xG3 xG4 xG5 xG6 xG7 xG8 xG9 xH0 xH1 xH2 xH3 xH4 xH5 xH6 xH7 xH8 xH9 xI0 xI1 xI2 xI3 xI4 xI5 xI6 xI7 xI8 xI9 xJ0 xJ1 xJ2 xJ3 xJ4 xJ5 xJ6 xJ7 xJ8 xJ9 xK0 xK1 xK2 xK3 xK4 xK5 xK6 xK7 xK8 xK9 xL0 xL1 xL2 xL3 xL4 xL5 xL6 xL7 xL8 xL9 xM0 xM1 xM2 xM3 xM4 xM5 xM6 xM7 xM8 xM9 xN0 xN1 xN2 xN3 xN4 xN5 xN6 xN7 xN8 xN9 xO0 xO1 xO2 xO3 xO4 xO5 xO6 xO7 xO8 xO9 xP0 xP1 xP2 xP3 xP4 xP5 xP6 xP7 xP8 xP9 xQ0 xQ1 xQ2 xQ3 xQ4 xQ5 xQ6 xQ7 xQ8 xQ9 xR0 xR1 xR2 xR3 xR4 xR5 xR6 xR7 xR8 xR9 xS0 xS1 xS2 xS3 xS4 xS5 xS6 xS7 xS8 xS9 xT0 xT1 xT2 xT3 xT4 xT5 xT6 xT7 xT8 xT9 xU0 xU1 xU2 xU3 xU4 xU5 xU6 xU7 xU8 xU9 xV0 xV1 xV2 xV3 xV4 xV5 xV6 xV7 xV8 xV9 xW0 xW1 xW2 xW3 xW4 xW5 xW6 xW7 xW8 xW9 xX0 xX1 xX2 xX3 xX4 xX5 xX6 xX7 xX8 xX9 xY0 xY1 xY2 xY3 xY4 xY5 xY6 xY7 xY8 xY9 xZ0 xZ1 xZ2 xZ3 xZ4 xZ5 xZ6 xZ7 xZ8 xZ9 xa0 xa1 xa2 xa3 xa4 xa5 xa6 xa7 xa8 xa9 xb0 xb1 xb2 xb3 xb4 xb5 xb6 xb7:Value} (K:Act→World→Prop) (Q:Exit→Act→World→Prop)
    (hK:∀ (y16 y17 y18 y19 y20 y21 y22 y23 y24 yC2 yC3 yC4 yC5 yC6 yC7 yC8 yC9 yD0 yD1 yD2 yD3 yD4 yD5 yD6 yD7 yD8 yD9 yE0 yE1 yE2 yE3 yE4 yE5 yE6 yE7 yE8 yE9 yF0 yF1 yF2 yF3 yF4 yF5 yF6 yF7 yF8 yF9 yG0 yG1 yG2 yG3 yG4 yG5 yG6 yG7 yG8 yG9 yH0 yH1 yH2 yH3 yH4 yH5 yH6 yH7 yH8 yH9 yI0 yI1 yI2 yI3 yI4 yI5 yI6 yI7 yI8 yI9 yJ0 yJ1 yJ2 yJ3 yJ4 yJ5 yJ6 yJ7 yJ8 yJ9 yK0 yK1 yK2 yK3 yK4 yK5 yK6 yK7 yK8 yK9 yL0 yL1 yL2 yL3 yL4 yL5 yL6 yL7 yL8 yL9 yM0 yM1 yM2 yM3 yM4 yM5 yM6 yM7 yM8 yM9 yN0 yN1 yN2 yN3 yN4 yN5 yN6 yN7 yN8 yN9 yO0 yO1 yO2 yO3 yO4 yO5 yO6 yO7 yO8 yO9 yP0 yP1 yP2 yP3 yP4 yP5 yP6 yP7 yP8 yP9 yQ0 yQ1 yQ2 yQ3 yQ4 yQ5 yQ6 yQ7 yQ8 yQ9 yR0 yR1 yR2 yR3 yR4 yR5 yR6 yR7 yR8 yR9 yS0 yS1 yS2 yS3 yS4 yS5 yS6 yS7 yS8 yS9 yT0 yT1 yT2 yT3 yT4 yT5 yT6 yT7 yT8 yT9 yU0 yU1 yU2 yU3 yU4 yU5 yU6 yU7 yU8 yU9 yV0 yV1 yV2 yV3 yV4 yV5 yV6 yV7 yV8 yV9 yW0 yW1 yW2 yW3 yW4 yW5 yW6 yW7 yW8 yW9 yX0 yX1 yX2 yX3 yX4 yX5 yX6 yX7 yX8 yX9 yY0 yY1 yY2 yY3 yY4 yY5 yY6 yY7 yY8 yY9 yZ0 yZ1 yZ2 yZ3 yZ4 yZ5 yZ6 yZ7 yZ8 yZ9:Value) (w':World) (iv' ov':Value) (E':Env) (q:Nat) (v:Int),RunGo w0 w' l t b i E E' mb rb iv' ov' (.slice (some ⟨sb,0,none⟩) (m + 1) scap) fb ib q v→K ⟨(x0::iv'::x2::.pointer (some ⟨ub,0,none⟩)::x4::x5::.pointer (some ⟨rb,0,none⟩)::x7::.slice (some ⟨mb,0,none⟩) 4096 4096::x9::ov'::.slice (some ⟨sb,0,none⟩) (m + 1) scap::.pointer (some ⟨fb,0,none⟩)::.pointer (some ⟨ib,0,none⟩)::.int .i64 (q:Int)::.int .i64 v::y16::y17::y18::y19::y20::y21::y22::y23::y24::x25::x26::x27::x28::x29::x30::x31::x32::x33::x34::x35::x36::x37::x38::x39::x40::x41::x42::x43::x44::x45::x46::x47::x48::x49::x50::x51::x52::x53::x54::x55::x56::x57::x58::x59::x60::x61::x62::x63::x64::x65::x66::x67::x68::x69::x70::x71::x72::x73::x74::x75::x76::x77::x78::x79::x80::x81::x82::x83::x84::x85::x86::x87::x88::x89::x90::x91::x92::x93::x94::x95::x96::x97::x98::x99::xA0::xA1::xA2::xA3::xA4::xA5::xA6::xA7::xA8::xA9::xB0::xB1::xB2::xB3::xB4::xB5::xB6::xB7::xB8::xB9::xC0::xC1::yC2::yC3::yC4::yC5::yC6::yC7::yC8::yC9::yD0::yD1::yD2::yD3::yD4::yD5::yD6::yD7::yD8::yD9::yE0::yE1::yE2::yE3::yE4::yE5::yE6::yE7::yE8::yE9::yF0::yF1::yF2::yF3::yF4::yF5::yF6::yF7::yF8::yF9::yG0::yG1::yG2::yG3::yG4::yG5::yG6::yG7::yG8::yG9::yH0::yH1::yH2::yH3::yH4::yH5::yH6::yH7::yH8::yH9::yI0::yI1::yI2::yI3::yI4::yI5::yI6::yI7::yI8::yI9::yJ0::yJ1::yJ2::yJ3::yJ4::yJ5::yJ6::yJ7::yJ8::yJ9::yK0::yK1::yK2::yK3::yK4::yK5::yK6::yK7::yK8::yK9::yL0::yL1::yL2::yL3::yL4::yL5::yL6::yL7::yL8::yL9::yM0::yM1::yM2::yM3::yM4::yM5::yM6::yM7::yM8::yM9::yN0::yN1::yN2::yN3::yN4::yN5::yN6::yN7::yN8::yN9::yO0::yO1::yO2::yO3::yO4::yO5::yO6::yO7::yO8::yO9::yP0::yP1::yP2::yP3::yP4::yP5::yP6::yP7::yP8::yP9::yQ0::yQ1::yQ2::yQ3::yQ4::yQ5::yQ6::yQ7::yQ8::yQ9::yR0::yR1::yR2::yR3::yR4::yR5::yR6::yR7::yR8::yR9::yS0::yS1::yS2::yS3::yS4::yS5::yS6::yS7::yS8::yS9::yT0::yT1::yT2::yT3::yT4::yT5::yT6::yT7::yT8::yT9::yU0::yU1::yU2::yU3::yU4::yU5::yU6::yU7::yU8::yU9::yV0::yV1::yV2::yV3::yV4::yV5::yV6::yV7::yV8::yV9::yW0::yW1::yW2::yW3::yW4::yW5::yW6::yW7::yW8::yW9::yX0::yX1::yX2::yX3::yX4::yX5::yX6::yX7::yX8::yX9::yY0::yY1::yY2::yY3::yY4::yY5::yY6::yY7::yY8::yY9::yZ0::yZ1::yZ2::yZ3::yZ4::yZ5::yZ6::yZ7::yZ8::yZ9::xa0::xa1::xa2::xa3::xa4::xa5::xa6::xa7::xa8::xa9::xb0::xb1::xb2::xb3::xb4::xb5::xb6::xb7::[]).toArray,[]⟩ w')
    (hF:∀ (y16 y17 y18 y19 y20 y21 y22 y23 y24 yC2 yC3 yC4 yC5 yC6 yC7 yC8 yC9 yD0 yD1 yD2 yD3 yD4 yD5 yD6 yD7 yD8 yD9 yE0 yE1 yE2 yE3 yE4 yE5 yE6 yE7 yE8 yE9 yF0 yF1 yF2 yF3 yF4 yF5 yF6 yF7 yF8 yF9 yG0 yG1 yG2 yG3 yG4 yG5 yG6 yG7 yG8 yG9 yH0 yH1 yH2 yH3 yH4 yH5 yH6 yH7 yH8 yH9 yI0 yI1 yI2 yI3 yI4 yI5 yI6 yI7 yI8 yI9 yJ0 yJ1 yJ2 yJ3 yJ4 yJ5 yJ6 yJ7 yJ8 yJ9 yK0 yK1 yK2 yK3 yK4 yK5 yK6 yK7 yK8 yK9 yL0 yL1 yL2 yL3 yL4 yL5 yL6 yL7 yL8 yL9 yM0 yM1 yM2 yM3 yM4 yM5 yM6 yM7 yM8 yM9 yN0 yN1 yN2 yN3 yN4 yN5 yN6 yN7 yN8 yN9 yO0 yO1 yO2 yO3 yO4 yO5 yO6 yO7 yO8 yO9 yP0 yP1 yP2 yP3 yP4 yP5 yP6 yP7 yP8 yP9 yQ0 yQ1 yQ2 yQ3 yQ4 yQ5 yQ6 yQ7 yQ8 yQ9 yR0 yR1 yR2 yR3 yR4 yR5 yR6 yR7 yR8 yR9 yS0 yS1 yS2 yS3 yS4 yS5 yS6 yS7 yS8 yS9 yT0 yT1 yT2 yT3 yT4 yT5 yT6 yT7 yT8 yT9 yU0 yU1 yU2 yU3 yU4 yU5 yU6 yU7 yU8 yU9 yV0 yV1 yV2 yV3 yV4 yV5 yV6 yV7 yV8 yV9 yW0 yW1 yW2 yW3 yW4 yW5 yW6 yW7 yW8 yW9 yX0 yX1 yX2 yX3 yX4 yX5 yX6 yX7 yX8 yX9 yY0 yY1 yY2 yY3 yY4 yY5 yY6 yY7 yY8 yY9 yZ0 yZ1 yZ2 yZ3 yZ4 yZ5 yZ6 yZ7 yZ8 yZ9 z1 z10 z11 z14 z15:Value) (w':World) (c:Int),lstep i t.p t.base t.ρ E = .stop c→Fin w0 w' rb ⟨2,c,E.out⟩→Q .ret ⟨(x0::z1::x2::.pointer (some ⟨ub,0,none⟩)::x4::x5::.pointer (some ⟨rb,0,none⟩)::x7::.slice (some ⟨mb,0,none⟩) 4096 4096::x9::z10::z11::.pointer (some ⟨fb,0,none⟩)::.pointer (some ⟨ib,0,none⟩)::z14::z15::y16::y17::y18::y19::y20::y21::y22::y23::y24::x25::x26::x27::x28::x29::x30::x31::x32::x33::x34::x35::x36::x37::x38::x39::x40::x41::x42::x43::x44::x45::x46::x47::x48::x49::x50::x51::x52::x53::x54::x55::x56::x57::x58::x59::x60::x61::x62::x63::x64::x65::x66::x67::x68::x69::x70::x71::x72::x73::x74::x75::x76::x77::x78::x79::x80::x81::x82::x83::x84::x85::x86::x87::x88::x89::x90::x91::x92::x93::x94::x95::x96::x97::x98::x99::xA0::xA1::xA2::xA3::xA4::xA5::xA6::xA7::xA8::xA9::xB0::xB1::xB2::xB3::xB4::xB5::xB6::xB7::xB8::xB9::xC0::xC1::yC2::yC3::yC4::yC5::yC6::yC7::yC8::yC9::yD0::yD1::yD2::yD3::yD4::yD5::yD6::yD7::yD8::yD9::yE0::yE1::yE2::yE3::yE4::yE5::yE6::yE7::yE8::yE9::yF0::yF1::yF2::yF3::yF4::yF5::yF6::yF7::yF8::yF9::yG0::yG1::yG2::yG3::yG4::yG5::yG6::yG7::yG8::yG9::yH0::yH1::yH2::yH3::yH4::yH5::yH6::yH7::yH8::yH9::yI0::yI1::yI2::yI3::yI4::yI5::yI6::yI7::yI8::yI9::yJ0::yJ1::yJ2::yJ3::yJ4::yJ5::yJ6::yJ7::yJ8::yJ9::yK0::yK1::yK2::yK3::yK4::yK5::yK6::yK7::yK8::yK9::yL0::yL1::yL2::yL3::yL4::yL5::yL6::yL7::yL8::yL9::yM0::yM1::yM2::yM3::yM4::yM5::yM6::yM7::yM8::yM9::yN0::yN1::yN2::yN3::yN4::yN5::yN6::yN7::yN8::yN9::yO0::yO1::yO2::yO3::yO4::yO5::yO6::yO7::yO8::yO9::yP0::yP1::yP2::yP3::yP4::yP5::yP6::yP7::yP8::yP9::yQ0::yQ1::yQ2::yQ3::yQ4::yQ5::yQ6::yQ7::yQ8::yQ9::yR0::yR1::yR2::yR3::yR4::yR5::yR6::yR7::yR8::yR9::yS0::yS1::yS2::yS3::yS4::yS5::yS6::yS7::yS8::yS9::yT0::yT1::yT2::yT3::yT4::yT5::yT6::yT7::yT8::yT9::yU0::yU1::yU2::yU3::yU4::yU5::yU6::yU7::yU8::yU9::yV0::yV1::yV2::yV3::yV4::yV5::yV6::yV7::yV8::yV9::yW0::yW1::yW2::yW3::yW4::yW5::yW6::yW7::yW8::yW9::yX0::yX1::yX2::yX3::yX4::yX5::yX6::yX7::yX8::yX9::yY0::yY1::yY2::yY3::yY4::yY5::yY6::yY7::yY8::yY9::yZ0::yZ1::yZ2::yZ3::yZ4::yZ5::yZ6::yZ7::yZ8::yZ9::xa0::xa1::xa2::xa3::xa4::xa5::xa6::xa7::xa8::xa9::xb0::xb1::xb2::xb3::xb4::xb5::xb6::xb7::[]).toArray,[]⟩ w') :
    Code.wp Try.prog run22 (Exit.then K Q) ⟨(x0::iv::x2::.pointer (some ⟨ub,0,none⟩)::x4::x5::.pointer (some ⟨rb,0,none⟩)::x7::.slice (some ⟨mb,0,none⟩) 4096 4096::x9::ov::.slice (some ⟨sb,0,none⟩) (m + 1) scap::.pointer (some ⟨fb,0,none⟩)::.pointer (some ⟨ib,0,none⟩)::.int .i64 (np:Int)::.int .i64 0::x16::x17::x18::x19::x20::x21::x22::x23::x24::x25::x26::x27::x28::x29::x30::x31::x32::x33::x34::x35::x36::x37::x38::x39::x40::x41::x42::x43::x44::x45::x46::x47::x48::x49::x50::x51::x52::x53::x54::x55::x56::x57::x58::x59::x60::x61::x62::x63::x64::x65::x66::x67::x68::x69::x70::x71::x72::x73::x74::x75::x76::x77::x78::x79::x80::x81::x82::x83::x84::x85::x86::x87::x88::x89::x90::x91::x92::x93::x94::x95::x96::x97::x98::x99::xA0::xA1::xA2::xA3::xA4::xA5::xA6::xA7::xA8::xA9::xB0::xB1::xB2::xB3::xB4::xB5::xB6::xB7::xB8::xB9::xC0::xC1::xC2::xC3::xC4::xC5::xC6::xC7::xC8::xC9::xD0::xD1::xD2::xD3::xD4::xD5::xD6::xD7::xD8::xD9::xE0::xE1::xE2::xE3::xE4::xE5::xE6::xE7::xE8::xE9::xF0::xF1::xF2::xF3::xF4::xF5::xF6::xF7::xF8::xF9::xG0::xG1::xG2::xG3::xG4::xG5::xG6::xG7::xG8::xG9::xH0::xH1::xH2::xH3::xH4::xH5::xH6::xH7::xH8::xH9::xI0::xI1::xI2::xI3::xI4::xI5::xI6::xI7::xI8::xI9::xJ0::xJ1::xJ2::xJ3::xJ4::xJ5::xJ6::xJ7::xJ8::xJ9::xK0::xK1::xK2::xK3::xK4::xK5::xK6::xK7::xK8::xK9::xL0::xL1::xL2::xL3::xL4::xL5::xL6::xL7::xL8::xL9::xM0::xM1::xM2::xM3::xM4::xM5::xM6::xM7::xM8::xM9::xN0::xN1::xN2::xN3::xN4::xN5::xN6::xN7::xN8::xN9::xO0::xO1::xO2::xO3::xO4::xO5::xO6::xO7::xO8::xO9::xP0::xP1::xP2::xP3::xP4::xP5::xP6::xP7::xP8::xP9::xQ0::xQ1::xQ2::xQ3::xQ4::xQ5::xQ6::xQ7::xQ8::xQ9::xR0::xR1::xR2::xR3::xR4::xR5::xR6::xR7::xR8::xR9::xS0::xS1::xS2::xS3::xS4::xS5::xS6::xS7::xS8::xS9::xT0::xT1::xT2::xT3::xT4::xT5::xT6::xT7::xT8::xT9::xU0::xU1::xU2::xU3::xU4::xU5::xU6::xU7::xU8::xU9::xV0::xV1::xV2::xV3::xV4::xV5::xV6::xV7::xV8::xV9::xW0::xW1::xW2::xW3::xW4::xW5::xW6::xW7::xW8::xW9::xX0::xX1::xX2::xX3::xX4::xX5::xX6::xX7::xX8::xX9::xY0::xY1::xY2::xY3::xY4::xY5::xY6::xY7::xY8::xY9::xZ0::xZ1::xZ2::xZ3::xZ4::xZ5::xZ6::xZ7::xZ8::xZ9::xa0::xa1::xa2::xa3::xa4::xa5::xa6::xa7::xa8::xa9::xb0::xb1::xb2::xb3::xb4::xb5::xb6::xb7::[]).toArray,[]⟩ w:=by
  conv=>arg 2; whnf
  have HK:=Lib.hid hK
  have HF:=Lib.hid hF
  have HS:=Lib.hid hS
  have HFB:=Lib.hid hf
  have HIB:=Lib.hid hi
  obtain ⟨f0,f1,f2,f3,f4⟩:=fr_cells hf
  obtain ⟨c0,c1,c2,c3,c4,c5,c6,c7,c8,c9,c10,c11,c12,c13,c14⟩:=Ins.cells hi
  obtain ⟨n,hn⟩:∃ n,t.ρ.length=n:=⟨_,rfl⟩
  rw [hn] at f4 hR
  have HOK:=Lib.hid hok
  have HN:=Lib.hid hn
  have HR:=Lib.hid hR
  have HNP:=Lib.hid hnp
  have HM:=Lib.hid hm
  have HFS:=Lib.hid hfs
  have HKD:=Lib.hid hkd
  clear hK hF hS hf hi hok hR hm hn hnp hfs
  rw [hkd] at c0
  clear hkd
  obtain ⟨ra,ha,hra⟩:=HOK.out.useA (by rw [HKD.out]; rfl)
  rw [ha] at c3
  have hran:ra < n:=by rw [HR.out]; exact hra
  have hrv:=(HS.out.regs (t,b) (by simp)).2.2
  have r0:=regs_cell hrv (r:=ra) (by rw [HN.out]; exact hran)
  simp only at r0
  have HA:Hid (t.ρ.getD ra 0=rg t.ρ i.a):=Lib.hid (by unfold rg; rw [ha]; rfl)
  rw [HA.out] at r0
  obtain ⟨av,hav⟩:∃ av,rg t.ρ i.a=av:=⟨_,rfl⟩
  rw [hav] at r0
  have HAV:=Lib.hid hav
  clear hrv ha hav
  have hdo:=fun W=>refdo_any i.op av 0 W
  obtain ⟨⟨d1,d2⟩,hD⟩:∃ D,dov i.op av 0=D:=⟨_,rfl⟩
  rw [hD] at hdo
  simp only at hdo
  have HDO:=Lib.hid hdo
  have HDV:Hid (dov i.op (rg t.ρ i.a) (i.bv t.ρ)=(d1,d2)):=Lib.hid (by rw [HAV.out,show i.bv t.ρ=0 from by unfold Ins.bv; rw [HKD.out]; rfl]; exact hD)
  clear hD hdo
  go_wp2_with fail
  have e1:=fun s:Later w=>Later.cell c1 s
  have e3:=fun s:Later w=>Later.cell c3 s
  have e4:=fun s:Later w=>Later.cell f4 s
  have e0:=fun s:Later w=>Later.cell r0 s
  refine wp_region_later (by kernel_rfl) (by kernel_rfl) ?_
  repeat (go_big_quiet_step ((go_at_call 46; exact Calls.later (HDO.out _))))
  refine wpQuiet_nil ?_
  rintro w7 ⟨s',rfl⟩
  have hb7:=s'.h
  generalize s'.w=w7 at *
  have HS7:=Lib.hid (HS.out.later hb7)
  have HF7:=Lib.hid ((hb7.block _ (Array.getElem?_eq_some_iff.1 HFB.out).1).trans HFB.out)
  have HI7:=Lib.hid ((hb7.block _ (Array.getElem?_eq_some_iff.1 HIB.out).1).trans HIB.out)
  clear hb7 e1 e3 e4 e0 c0 c1 c2 c3 c4 c5 c6 c7 c8 c9 c10 c11 c12 c13 c14 f0 f1 f2 f3 f4 r0
  cases d2 with
  | true=>as_aux_lemma =>
    go_wp2
    exact HK.out _ _ _ _ _ _ _ _ _ _ _ _ _ _ _ _ _ _ _ _ _ _ _ _ _ _ _ _ _ _ _ _ _ _ _ _ _ _ _ _ _ _ _ _ _ _ _ _ _ _ _ _ _ _ _ _ _ _ _ _ _ _ _ _ _ _ _ _ _ _ _ _ _ _ _ _ _ _ _ _ _ _ _ _ _ _ _ _ _ _ _ _ _ _ _ _ _ _ _ _ _ _ _ _ _ _ _ _ _ _ _ _ _ _ _ _ _ _ _ _ _ _ _ _ _ _ _ _ _ _ _ _ _ _ _ _ _ _ _ _ _ _ _ _ _ _ _ _ _ _ _ _ _ _ _ _ _ _ _ _ _ _ _ _ _ _ _ _ _ _ _ _ _ _ _ _ _ _ _ _ _ _ _ _ _ _ _ _ _ _ _ _ _ _ _ _ _ _ _ _ _ _ _ _ _ _ _ _ _ _ _ _ _ _ _ _ _ _ _ _ _ _ _ _ _ _ _ _ _ _ _ _ _ _ _ _ _ _ _ _ _ _ _ _ _ _ _ _ _ _ _ _ _ ⟨by unfold lstep; rw [(show i.sets=i.dst from by unfold Ins.sets; rw [HKD.out]; rfl)]; simp [HKD.out,HNP.out,HDV.out],HS7.out,HF7.out,HI7.out,Nat.le_succ _⟩
  | false=>as_aux_lemma =>
    obtain ⟨oA,oc,hov,hfin⟩:=HS7.out.told 2 2
    obtain ⟨cs,hres,hsz⟩:=HS7.out.res
    have HFN:=Lib.hid hfin
    clear hfin
    subst hov
    go_wp2_with (first
      | (show wpList Try.prog _ _ (⟨none,.store _ (.tmp 6) _,_,_,_,_⟩::_) _ _; refine wpList_store_row rfl 49 (.tmp 6) (.tmp 160) rfl rb #[.int .i64 2,.int .i64 2,.slice oA E.out.length oc] rfl rfl 49 _ hres sRe hsz (re_one _ _ _ _ _) ?_))
    exact HF.out _ _ _ _ _ _ _ _ _ _ _ _ _ _ _ _ _ _ _ _ _ _ _ _ _ _ _ _ _ _ _ _ _ _ _ _ _ _ _ _ _ _ _ _ _ _ _ _ _ _ _ _ _ _ _ _ _ _ _ _ _ _ _ _ _ _ _ _ _ _ _ _ _ _ _ _ _ _ _ _ _ _ _ _ _ _ _ _ _ _ _ _ _ _ _ _ _ _ _ _ _ _ _ _ _ _ _ _ _ _ _ _ _ _ _ _ _ _ _ _ _ _ _ _ _ _ _ _ _ _ _ _ _ _ _ _ _ _ _ _ _ _ _ _ _ _ _ _ _ _ _ _ _ _ _ _ _ _ _ _ _ _ _ _ _ _ _ _ _ _ _ _ _ _ _ _ _ _ _ _ _ _ _ _ _ _ _ _ _ _ _ _ _ _ _ _ _ _ _ _ _ _ _ _ _ _ _ _ _ _ _ _ _ _ _ _ _ _ _ _ _ _ _ _ _ _ _ _ _ _ _ _ _ _ _ _ _ _ _ _ _ _ _ _ _ _ _ _ _ _ _ _ _ _  (by unfold lstep; simp [HKD.out,HDV.out]) HFN.out
set_option maxRecDepth 1000000 in
set_option maxHeartbeats 32000000 in
theorem run_k3 (w0 w:World)(l:List (Fr7 × Nat))(t:Fr7)(b m scap sb fb ib mb rb ub np:Nat)(i:Ins)(E:Env)(iv ov:Value)(R Fr:Int)(L:Nat)
    (hm:l.length=m) (hok:Ok i R Fr L) (hkd:i.kind=3) (hR:t.ρ.length=R.toNat) (hnp:np=t.p + 1) 
    (hS:RnS w0 w (l++[(t,b)]) E mb rb iv ov (.slice (some ⟨sb,0,none⟩) (m + 1) scap)) (hf:w.heap[fb]? = some (frObj t b t.ρ.length)) (hi:w.heap[ib]? = some i.obj) (hfs:fb≠sb)
    {x0 x2 x4 x5 x7 x9 x16 x17 x18 x19 x20 x21 x22 x23 x24 x25 x26 x27 x28 x29 x30 x31 x32 x33 x34 x35 x36 x37 x38 x39 x40 x41 x42 x43 x44 x45 x46 x47 x48 x49 x50 x51 x52 x53 x54 x55 x56 x57 x58 x59 x60 x61 x62 x63 x64 x65 x66 x67 x68 x69 x70 x71 x72 x73 x74 x75 x76 x77 x78 x79 x80 x81 x82 x83 x84 x85 x86 x87 x88 x89 x90 x91 x92 x93 x94 x95 x96 x97 x98 x99 xA0 xA1 xA2 xA3 xA4 xA5 xA6 xA7 xA8 xA9 xB0 xB1 xB2 xB3 xB4 xB5 xB6 xB7 xB8 xB9 xC0 xC1 xC2 xC3 xC4 xC5 xC6 xC7 xC8 xC9 xD0 xD1 xD2 xD3 xD4 xD5 xD6 xD7 xD8 xD9 xE0 xE1 xE2 xE3 xE4 xE5 xE6 xE7 xE8 xE9 xF0 xF1 xF2 xF3 xF4 xF5 xF6 xF7 xF8 xF9 xG0 xG1 xG2 xG3 xG4 xG5 xG6 xG7 xG8 xG9 xH0 xH1 xH2 xH3 xH4 xH5 xH6 xH7 xH8 xH9 xI0 xI1 xI2 xI3 xI4 xI5 xI6 xI7 xI8 xI9 xJ0 xJ1 xJ2 xJ3 xJ4 xJ5 xJ6 xJ7 xJ8 xJ9 xK0 xK1 xK2 xK3 xK4 xK5 xK6 xK7 xK8 xK9 xL0 xL1 xL2 xL3 xL4 xL5 xL6 xL7 xL8 xL9 xM0 xM1 xM2 xM3 xM4 xM5 xM6 xM7 xM8 xM9 xN0 xN1 xN2 xN3 xN4 xN5 xN6 xN7 xN8 xN9 xO0 xO1 xO2 xO3 xO4 xO5 xO6 xO7 xO8 xO9 xP0 xP1 xP2 xP3 xP4 xP5 xP6 xP7 xP8 xP9 xQ0 xQ1 xQ2 xQ3 xQ4 xQ5 xQ6 xQ7 xQ8 xQ9 xR0 xR1 xR2 xR3 xR4 xR5 xR6 xR7 xR8 xR9 xS0 xS1 xS2 xS3 xS4 xS5 xS6 xS7 xS8 xS9 xT0 xT1 xT2 xT3 xT4 xT5 xT6 xT7 xT8 xT9 xU0 xU1 xU2 xU3 xU4 xU5 xU6 xU7 xU8 xU9 xV0 xV1 xV2 xV3 xV4 xV5 xV6 xV7 xV8 xV9 xW0 xW1 xW2 xW3 xW4 xW5 xW6 xW7 xW8 xW9 xX0 xX1 xX2 xX3 xX4 xX5 xX6 xX7 xX8 xX9 xY0 xY1 xY2 xY3 xY4 xY5 xY6 xY7 xY8 xY9 xZ0 xZ1 xZ2 xZ3 xZ4 xZ5 xZ6 xZ7 xZ8 xZ9 xa0 xa1 xa2 xa3 xa4 xa5 xa6 xa7 xa8 xa9 xb0 xb1 xb2 xb3 xb4 xb5 xb6 xb7:Value} (K:Act→World→Prop) (Q:Exit→Act→World→Prop)
    (hK:∀ (y16 y17 y18 y19 y20 y21 y22 y23 y24 yC2 yC3 yC4 yC5 yC6 yC7 yC8 yC9 yD0 yD1 yD2 yD3 yD4 yD5 yD6 yD7 yD8 yD9 yE0 yE1 yE2 yE3 yE4 yE5 yE6 yE7 yE8 yE9 yF0 yF1 yF2 yF3 yF4 yF5 yF6 yF7 yF8 yF9 yG0 yG1 yG2 yG3 yG4 yG5 yG6 yG7 yG8 yG9 yH0 yH1 yH2 yH3 yH4 yH5 yH6 yH7 yH8 yH9 yI0 yI1 yI2 yI3 yI4 yI5 yI6 yI7 yI8 yI9 yJ0 yJ1 yJ2 yJ3 yJ4 yJ5 yJ6 yJ7 yJ8 yJ9 yK0 yK1 yK2 yK3 yK4 yK5 yK6 yK7 yK8 yK9 yL0 yL1 yL2 yL3 yL4 yL5 yL6 yL7 yL8 yL9 yM0 yM1 yM2 yM3 yM4 yM5 yM6 yM7 yM8 yM9 yN0 yN1 yN2 yN3 yN4 yN5 yN6 yN7 yN8 yN9 yO0 yO1 yO2 yO3 yO4 yO5 yO6 yO7 yO8 yO9 yP0 yP1 yP2 yP3 yP4 yP5 yP6 yP7 yP8 yP9 yQ0 yQ1 yQ2 yQ3 yQ4 yQ5 yQ6 yQ7 yQ8 yQ9 yR0 yR1 yR2 yR3 yR4 yR5 yR6 yR7 yR8 yR9 yS0 yS1 yS2 yS3 yS4 yS5 yS6 yS7 yS8 yS9 yT0 yT1 yT2 yT3 yT4 yT5 yT6 yT7 yT8 yT9 yU0 yU1 yU2 yU3 yU4 yU5 yU6 yU7 yU8 yU9 yV0 yV1 yV2 yV3 yV4 yV5 yV6 yV7 yV8 yV9 yW0 yW1 yW2 yW3 yW4 yW5 yW6 yW7 yW8 yW9 yX0 yX1 yX2 yX3 yX4 yX5 yX6 yX7 yX8 yX9 yY0 yY1 yY2 yY3 yY4 yY5 yY6 yY7 yY8 yY9 yZ0 yZ1 yZ2 yZ3 yZ4 yZ5 yZ6 yZ7 yZ8 yZ9:Value) (w':World) (iv' ov':Value) (E':Env) (q:Nat) (v:Int),RunGo w0 w' l t b i E E' mb rb iv' ov' (.slice (some ⟨sb,0,none⟩) (m + 1) scap) fb ib q v→K ⟨(x0::iv'::x2::.pointer (some ⟨ub,0,none⟩)::x4::x5::.pointer (some ⟨rb,0,none⟩)::x7::.slice (some ⟨mb,0,none⟩) 4096 4096::x9::ov'::.slice (some ⟨sb,0,none⟩) (m + 1) scap::.pointer (some ⟨fb,0,none⟩)::.pointer (some ⟨ib,0,none⟩)::.int .i64 (q:Int)::.int .i64 v::y16::y17::y18::y19::y20::y21::y22::y23::y24::x25::x26::x27::x28::x29::x30::x31::x32::x33::x34::x35::x36::x37::x38::x39::x40::x41::x42::x43::x44::x45::x46::x47::x48::x49::x50::x51::x52::x53::x54::x55::x56::x57::x58::x59::x60::x61::x62::x63::x64::x65::x66::x67::x68::x69::x70::x71::x72::x73::x74::x75::x76::x77::x78::x79::x80::x81::x82::x83::x84::x85::x86::x87::x88::x89::x90::x91::x92::x93::x94::x95::x96::x97::x98::x99::xA0::xA1::xA2::xA3::xA4::xA5::xA6::xA7::xA8::xA9::xB0::xB1::xB2::xB3::xB4::xB5::xB6::xB7::xB8::xB9::xC0::xC1::yC2::yC3::yC4::yC5::yC6::yC7::yC8::yC9::yD0::yD1::yD2::yD3::yD4::yD5::yD6::yD7::yD8::yD9::yE0::yE1::yE2::yE3::yE4::yE5::yE6::yE7::yE8::yE9::yF0::yF1::yF2::yF3::yF4::yF5::yF6::yF7::yF8::yF9::yG0::yG1::yG2::yG3::yG4::yG5::yG6::yG7::yG8::yG9::yH0::yH1::yH2::yH3::yH4::yH5::yH6::yH7::yH8::yH9::yI0::yI1::yI2::yI3::yI4::yI5::yI6::yI7::yI8::yI9::yJ0::yJ1::yJ2::yJ3::yJ4::yJ5::yJ6::yJ7::yJ8::yJ9::yK0::yK1::yK2::yK3::yK4::yK5::yK6::yK7::yK8::yK9::yL0::yL1::yL2::yL3::yL4::yL5::yL6::yL7::yL8::yL9::yM0::yM1::yM2::yM3::yM4::yM5::yM6::yM7::yM8::yM9::yN0::yN1::yN2::yN3::yN4::yN5::yN6::yN7::yN8::yN9::yO0::yO1::yO2::yO3::yO4::yO5::yO6::yO7::yO8::yO9::yP0::yP1::yP2::yP3::yP4::yP5::yP6::yP7::yP8::yP9::yQ0::yQ1::yQ2::yQ3::yQ4::yQ5::yQ6::yQ7::yQ8::yQ9::yR0::yR1::yR2::yR3::yR4::yR5::yR6::yR7::yR8::yR9::yS0::yS1::yS2::yS3::yS4::yS5::yS6::yS7::yS8::yS9::yT0::yT1::yT2::yT3::yT4::yT5::yT6::yT7::yT8::yT9::yU0::yU1::yU2::yU3::yU4::yU5::yU6::yU7::yU8::yU9::yV0::yV1::yV2::yV3::yV4::yV5::yV6::yV7::yV8::yV9::yW0::yW1::yW2::yW3::yW4::yW5::yW6::yW7::yW8::yW9::yX0::yX1::yX2::yX3::yX4::yX5::yX6::yX7::yX8::yX9::yY0::yY1::yY2::yY3::yY4::yY5::yY6::yY7::yY8::yY9::yZ0::yZ1::yZ2::yZ3::yZ4::yZ5::yZ6::yZ7::yZ8::yZ9::xa0::xa1::xa2::xa3::xa4::xa5::xa6::xa7::xa8::xa9::xb0::xb1::xb2::xb3::xb4::xb5::xb6::xb7::[]).toArray,[]⟩ w')
    (hF:∀ (y16 y17 y18 y19 y20 y21 y22 y23 y24 yC2 yC3 yC4 yC5 yC6 yC7 yC8 yC9 yD0 yD1 yD2 yD3 yD4 yD5 yD6 yD7 yD8 yD9 yE0 yE1 yE2 yE3 yE4 yE5 yE6 yE7 yE8 yE9 yF0 yF1 yF2 yF3 yF4 yF5 yF6 yF7 yF8 yF9 yG0 yG1 yG2 yG3 yG4 yG5 yG6 yG7 yG8 yG9 yH0 yH1 yH2 yH3 yH4 yH5 yH6 yH7 yH8 yH9 yI0 yI1 yI2 yI3 yI4 yI5 yI6 yI7 yI8 yI9 yJ0 yJ1 yJ2 yJ3 yJ4 yJ5 yJ6 yJ7 yJ8 yJ9 yK0 yK1 yK2 yK3 yK4 yK5 yK6 yK7 yK8 yK9 yL0 yL1 yL2 yL3 yL4 yL5 yL6 yL7 yL8 yL9 yM0 yM1 yM2 yM3 yM4 yM5 yM6 yM7 yM8 yM9 yN0 yN1 yN2 yN3 yN4 yN5 yN6 yN7 yN8 yN9 yO0 yO1 yO2 yO3 yO4 yO5 yO6 yO7 yO8 yO9 yP0 yP1 yP2 yP3 yP4 yP5 yP6 yP7 yP8 yP9 yQ0 yQ1 yQ2 yQ3 yQ4 yQ5 yQ6 yQ7 yQ8 yQ9 yR0 yR1 yR2 yR3 yR4 yR5 yR6 yR7 yR8 yR9 yS0 yS1 yS2 yS3 yS4 yS5 yS6 yS7 yS8 yS9 yT0 yT1 yT2 yT3 yT4 yT5 yT6 yT7 yT8 yT9 yU0 yU1 yU2 yU3 yU4 yU5 yU6 yU7 yU8 yU9 yV0 yV1 yV2 yV3 yV4 yV5 yV6 yV7 yV8 yV9 yW0 yW1 yW2 yW3 yW4 yW5 yW6 yW7 yW8 yW9 yX0 yX1 yX2 yX3 yX4 yX5 yX6 yX7 yX8 yX9 yY0 yY1 yY2 yY3 yY4 yY5 yY6 yY7 yY8 yY9 yZ0 yZ1 yZ2 yZ3 yZ4 yZ5 yZ6 yZ7 yZ8 yZ9 z1 z10 z11 z14 z15:Value) (w':World) (c:Int),lstep i t.p t.base t.ρ E = .stop c→Fin w0 w' rb ⟨2,c,E.out⟩→Q .ret ⟨(x0::z1::x2::.pointer (some ⟨ub,0,none⟩)::x4::x5::.pointer (some ⟨rb,0,none⟩)::x7::.slice (some ⟨mb,0,none⟩) 4096 4096::x9::z10::z11::.pointer (some ⟨fb,0,none⟩)::.pointer (some ⟨ib,0,none⟩)::z14::z15::y16::y17::y18::y19::y20::y21::y22::y23::y24::x25::x26::x27::x28::x29::x30::x31::x32::x33::x34::x35::x36::x37::x38::x39::x40::x41::x42::x43::x44::x45::x46::x47::x48::x49::x50::x51::x52::x53::x54::x55::x56::x57::x58::x59::x60::x61::x62::x63::x64::x65::x66::x67::x68::x69::x70::x71::x72::x73::x74::x75::x76::x77::x78::x79::x80::x81::x82::x83::x84::x85::x86::x87::x88::x89::x90::x91::x92::x93::x94::x95::x96::x97::x98::x99::xA0::xA1::xA2::xA3::xA4::xA5::xA6::xA7::xA8::xA9::xB0::xB1::xB2::xB3::xB4::xB5::xB6::xB7::xB8::xB9::xC0::xC1::yC2::yC3::yC4::yC5::yC6::yC7::yC8::yC9::yD0::yD1::yD2::yD3::yD4::yD5::yD6::yD7::yD8::yD9::yE0::yE1::yE2::yE3::yE4::yE5::yE6::yE7::yE8::yE9::yF0::yF1::yF2::yF3::yF4::yF5::yF6::yF7::yF8::yF9::yG0::yG1::yG2::yG3::yG4::yG5::yG6::yG7::yG8::yG9::yH0::yH1::yH2::yH3::yH4::yH5::yH6::yH7::yH8::yH9::yI0::yI1::yI2::yI3::yI4::yI5::yI6::yI7::yI8::yI9::yJ0::yJ1::yJ2::yJ3::yJ4::yJ5::yJ6::yJ7::yJ8::yJ9::yK0::yK1::yK2::yK3::yK4::yK5::yK6::yK7::yK8::yK9::yL0::yL1::yL2::yL3::yL4::yL5::yL6::yL7::yL8::yL9::yM0::yM1::yM2::yM3::yM4::yM5::yM6::yM7::yM8::yM9::yN0::yN1::yN2::yN3::yN4::yN5::yN6::yN7::yN8::yN9::yO0::yO1::yO2::yO3::yO4::yO5::yO6::yO7::yO8::yO9::yP0::yP1::yP2::yP3::yP4::yP5::yP6::yP7::yP8::yP9::yQ0::yQ1::yQ2::yQ3::yQ4::yQ5::yQ6::yQ7::yQ8::yQ9::yR0::yR1::yR2::yR3::yR4::yR5::yR6::yR7::yR8::yR9::yS0::yS1::yS2::yS3::yS4::yS5::yS6::yS7::yS8::yS9::yT0::yT1::yT2::yT3::yT4::yT5::yT6::yT7::yT8::yT9::yU0::yU1::yU2::yU3::yU4::yU5::yU6::yU7::yU8::yU9::yV0::yV1::yV2::yV3::yV4::yV5::yV6::yV7::yV8::yV9::yW0::yW1::yW2::yW3::yW4::yW5::yW6::yW7::yW8::yW9::yX0::yX1::yX2::yX3::yX4::yX5::yX6::yX7::yX8::yX9::yY0::yY1::yY2::yY3::yY4::yY5::yY6::yY7::yY8::yY9::yZ0::yZ1::yZ2::yZ3::yZ4::yZ5::yZ6::yZ7::yZ8::yZ9::xa0::xa1::xa2::xa3::xa4::xa5::xa6::xa7::xa8::xa9::xb0::xb1::xb2::xb3::xb4::xb5::xb6::xb7::[]).toArray,[]⟩ w') :
    Code.wp Try.prog run22 (Exit.then K Q) ⟨(x0::iv::x2::.pointer (some ⟨ub,0,none⟩)::x4::x5::.pointer (some ⟨rb,0,none⟩)::x7::.slice (some ⟨mb,0,none⟩) 4096 4096::x9::ov::.slice (some ⟨sb,0,none⟩) (m + 1) scap::.pointer (some ⟨fb,0,none⟩)::.pointer (some ⟨ib,0,none⟩)::.int .i64 (np:Int)::.int .i64 0::x16::x17::x18::x19::x20::x21::x22::x23::x24::x25::x26::x27::x28::x29::x30::x31::x32::x33::x34::x35::x36::x37::x38::x39::x40::x41::x42::x43::x44::x45::x46::x47::x48::x49::x50::x51::x52::x53::x54::x55::x56::x57::x58::x59::x60::x61::x62::x63::x64::x65::x66::x67::x68::x69::x70::x71::x72::x73::x74::x75::x76::x77::x78::x79::x80::x81::x82::x83::x84::x85::x86::x87::x88::x89::x90::x91::x92::x93::x94::x95::x96::x97::x98::x99::xA0::xA1::xA2::xA3::xA4::xA5::xA6::xA7::xA8::xA9::xB0::xB1::xB2::xB3::xB4::xB5::xB6::xB7::xB8::xB9::xC0::xC1::xC2::xC3::xC4::xC5::xC6::xC7::xC8::xC9::xD0::xD1::xD2::xD3::xD4::xD5::xD6::xD7::xD8::xD9::xE0::xE1::xE2::xE3::xE4::xE5::xE6::xE7::xE8::xE9::xF0::xF1::xF2::xF3::xF4::xF5::xF6::xF7::xF8::xF9::xG0::xG1::xG2::xG3::xG4::xG5::xG6::xG7::xG8::xG9::xH0::xH1::xH2::xH3::xH4::xH5::xH6::xH7::xH8::xH9::xI0::xI1::xI2::xI3::xI4::xI5::xI6::xI7::xI8::xI9::xJ0::xJ1::xJ2::xJ3::xJ4::xJ5::xJ6::xJ7::xJ8::xJ9::xK0::xK1::xK2::xK3::xK4::xK5::xK6::xK7::xK8::xK9::xL0::xL1::xL2::xL3::xL4::xL5::xL6::xL7::xL8::xL9::xM0::xM1::xM2::xM3::xM4::xM5::xM6::xM7::xM8::xM9::xN0::xN1::xN2::xN3::xN4::xN5::xN6::xN7::xN8::xN9::xO0::xO1::xO2::xO3::xO4::xO5::xO6::xO7::xO8::xO9::xP0::xP1::xP2::xP3::xP4::xP5::xP6::xP7::xP8::xP9::xQ0::xQ1::xQ2::xQ3::xQ4::xQ5::xQ6::xQ7::xQ8::xQ9::xR0::xR1::xR2::xR3::xR4::xR5::xR6::xR7::xR8::xR9::xS0::xS1::xS2::xS3::xS4::xS5::xS6::xS7::xS8::xS9::xT0::xT1::xT2::xT3::xT4::xT5::xT6::xT7::xT8::xT9::xU0::xU1::xU2::xU3::xU4::xU5::xU6::xU7::xU8::xU9::xV0::xV1::xV2::xV3::xV4::xV5::xV6::xV7::xV8::xV9::xW0::xW1::xW2::xW3::xW4::xW5::xW6::xW7::xW8::xW9::xX0::xX1::xX2::xX3::xX4::xX5::xX6::xX7::xX8::xX9::xY0::xY1::xY2::xY3::xY4::xY5::xY6::xY7::xY8::xY9::xZ0::xZ1::xZ2::xZ3::xZ4::xZ5::xZ6::xZ7::xZ8::xZ9::xa0::xa1::xa2::xa3::xa4::xa5::xa6::xa7::xa8::xa9::xb0::xb1::xb2::xb3::xb4::xb5::xb6::xb7::[]).toArray,[]⟩ w:=by
  conv=>arg 2; whnf
  have HK:=Lib.hid hK
  have HF:=Lib.hid hF
  have HS:=Lib.hid hS
  have HFB:=Lib.hid hf
  have HIB:=Lib.hid hi
  obtain ⟨f0,f1,f2,f3,f4⟩:=fr_cells hf
  obtain ⟨c0,c1,c2,c3,c4,c5,c6,c7,c8,c9,c10,c11,c12,c13,c14⟩:=Ins.cells hi
  obtain ⟨n,hn⟩:∃ n,t.ρ.length=n:=⟨_,rfl⟩
  rw [hn] at f4 hR
  have HOK:=Lib.hid hok
  have HN:=Lib.hid hn
  have HR:=Lib.hid hR
  have HNP:=Lib.hid hnp
  have HM:=Lib.hid hm
  have HFS:=Lib.hid hfs
  have HKD:=Lib.hid hkd
  clear hK hF hS hf hi hok hR hm hn hnp hfs
  rw [hkd] at c0
  clear hkd
  obtain ⟨ra,ha,hra⟩:=HOK.out.useA (by rw [HKD.out]; rfl)
  rw [ha] at c3
  have hran:ra < n:=by rw [HR.out]; exact hra
  have hrv:=(HS.out.regs (t,b) (by simp)).2.2
  have r0:=regs_cell hrv (r:=ra) (by rw [HN.out]; exact hran)
  simp only at r0
  have HA:Hid (t.ρ.getD ra 0=rg t.ρ i.a):=Lib.hid (by unfold rg; rw [ha]; rfl)
  rw [HA.out] at r0
  obtain ⟨av,hav⟩:∃ av,rg t.ρ i.a=av:=⟨_,rfl⟩
  rw [hav] at r0
  have HAV:=Lib.hid hav
  clear hrv ha hav
  obtain ⟨rbb,hb,hrb⟩:=HOK.out.useB (by rw [HKD.out]; rfl)
  rw [hb] at c4
  have hrbn:rbb < n:=by rw [HR.out]; exact hrb
  have hrv:=(HS.out.regs (t,b) (by simp)).2.2
  have r1:=regs_cell hrv (r:=rbb) (by rw [HN.out]; exact hrbn)
  simp only at r1
  have HBb:Hid (t.ρ.getD rbb 0=rg t.ρ i.b):=Lib.hid (by unfold rg; rw [hb]; rfl)
  rw [HBb.out] at r1
  obtain ⟨bv,hbv⟩:∃ bv,rg t.ρ i.b=bv:=⟨_,rfl⟩
  rw [hbv] at r1
  have HBV:=Lib.hid hbv
  clear hrv hb hbv
  have hdo:=fun W=>refdo_any i.op av bv W
  obtain ⟨⟨d1,d2⟩,hD⟩:∃ D,dov i.op av bv=D:=⟨_,rfl⟩
  rw [hD] at hdo
  simp only at hdo
  have HDO:=Lib.hid hdo
  have HDV:Hid (dov i.op (rg t.ρ i.a) (i.bv t.ρ)=(d1,d2)):=Lib.hid (by rw [HAV.out,show i.bv t.ρ=bv from by unfold Ins.bv; rw [HKD.out]; exact HBV.out]; exact hD)
  clear hD hdo
  go_wp2_with fail
  have e1:=fun s:Later w=>Later.cell c1 s
  have e3:=fun s:Later w=>Later.cell c3 s
  have e4:=fun s:Later w=>Later.cell f4 s
  have e0:=fun s:Later w=>Later.cell r0 s
  refine wp_region_later (by kernel_rfl) (by kernel_rfl) ?_
  repeat (go_big_quiet_step ((go_at_call 46; exact Calls.later (HDO.out _))))
  refine wpQuiet_nil ?_
  rintro w7 ⟨s',rfl⟩
  have hb7:=s'.h
  generalize s'.w=w7 at *
  have HS7:=Lib.hid (HS.out.later hb7)
  have HF7:=Lib.hid ((hb7.block _ (Array.getElem?_eq_some_iff.1 HFB.out).1).trans HFB.out)
  have HI7:=Lib.hid ((hb7.block _ (Array.getElem?_eq_some_iff.1 HIB.out).1).trans HIB.out)
  clear hb7 e1 e3 e4 e0 c0 c1 c2 c3 c4 c5 c6 c7 c8 c9 c10 c11 c12 c13 c14 f0 f1 f2 f3 f4 r0 r1
  cases d2 with
  | true=>as_aux_lemma =>
    go_wp2
    exact HK.out _ _ _ _ _ _ _ _ _ _ _ _ _ _ _ _ _ _ _ _ _ _ _ _ _ _ _ _ _ _ _ _ _ _ _ _ _ _ _ _ _ _ _ _ _ _ _ _ _ _ _ _ _ _ _ _ _ _ _ _ _ _ _ _ _ _ _ _ _ _ _ _ _ _ _ _ _ _ _ _ _ _ _ _ _ _ _ _ _ _ _ _ _ _ _ _ _ _ _ _ _ _ _ _ _ _ _ _ _ _ _ _ _ _ _ _ _ _ _ _ _ _ _ _ _ _ _ _ _ _ _ _ _ _ _ _ _ _ _ _ _ _ _ _ _ _ _ _ _ _ _ _ _ _ _ _ _ _ _ _ _ _ _ _ _ _ _ _ _ _ _ _ _ _ _ _ _ _ _ _ _ _ _ _ _ _ _ _ _ _ _ _ _ _ _ _ _ _ _ _ _ _ _ _ _ _ _ _ _ _ _ _ _ _ _ _ _ _ _ _ _ _ _ _ _ _ _ _ _ _ _ _ _ _ _ _ _ _ _ _ _ _ _ _ _ _ _ _ _ _ _ _ _ ⟨by unfold lstep; rw [(show i.sets=i.dst from by unfold Ins.sets; rw [HKD.out]; rfl)]; simp [HKD.out,HNP.out,HDV.out],HS7.out,HF7.out,HI7.out,Nat.le_succ _⟩
  | false=>as_aux_lemma =>
    obtain ⟨oA,oc,hov,hfin⟩:=HS7.out.told 2 2
    obtain ⟨cs,hres,hsz⟩:=HS7.out.res
    have HFN:=Lib.hid hfin
    clear hfin
    subst hov
    go_wp2_with (first
      | (show wpList Try.prog _ _ (⟨none,.store _ (.tmp 6) _,_,_,_,_⟩::_) _ _; refine wpList_store_row rfl 49 (.tmp 6) (.tmp 160) rfl rb #[.int .i64 2,.int .i64 2,.slice oA E.out.length oc] rfl rfl 49 _ hres sRe hsz (re_one _ _ _ _ _) ?_))
    exact HF.out _ _ _ _ _ _ _ _ _ _ _ _ _ _ _ _ _ _ _ _ _ _ _ _ _ _ _ _ _ _ _ _ _ _ _ _ _ _ _ _ _ _ _ _ _ _ _ _ _ _ _ _ _ _ _ _ _ _ _ _ _ _ _ _ _ _ _ _ _ _ _ _ _ _ _ _ _ _ _ _ _ _ _ _ _ _ _ _ _ _ _ _ _ _ _ _ _ _ _ _ _ _ _ _ _ _ _ _ _ _ _ _ _ _ _ _ _ _ _ _ _ _ _ _ _ _ _ _ _ _ _ _ _ _ _ _ _ _ _ _ _ _ _ _ _ _ _ _ _ _ _ _ _ _ _ _ _ _ _ _ _ _ _ _ _ _ _ _ _ _ _ _ _ _ _ _ _ _ _ _ _ _ _ _ _ _ _ _ _ _ _ _ _ _ _ _ _ _ _ _ _ _ _ _ _ _ _ _ _ _ _ _ _ _ _ _ _ _ _ _ _ _ _ _ _ _ _ _ _ _ _ _ _ _ _ _ _ _ _ _ _ _ _ _ _ _ _ _ _ _ _ _ _ _  (by unfold lstep; simp [HKD.out,HDV.out]) HFN.out
end Go.Proofs.Ytkcclefonmnpnaa

