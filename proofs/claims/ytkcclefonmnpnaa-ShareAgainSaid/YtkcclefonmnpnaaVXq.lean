import Derived.Test.YtkcclefonmnpnaaVXg
import Derived.Test.YtkcclefonmnpnaaVXi
import Derived.Test.YtkcclefonmnpnaaVXk
import Derived.Test.YtkcclefonmnpnaaVXm
import Derived.Test.YtkcclefonmnpnaaVXo
set_option maxRecDepth 1000000
set_option maxHeartbeats 64000000
namespace Go.Proofs.Ytkcclefonmnpnaa
open Go.RowKit Go.BigFrame
theorem CF (u:eH)(F G:Option Addr)(cF cG:Nat)(w0 w:World)(l:List (cU × Nat))(t:cU)(b m scap sb mb rb ub:Nat)(E:eX)(iv ov:Value)
  (hU:OkU u) (hub:w0.heap[ub]? = some (bD u F G cF cG)) (hRF:RdF w0 F u.funcs) (hm:l.length=m) (hml:m≤80000) (hol:E.out.length≤6000) (hL:LOk u (l++[(t,b)]))
  (hS:RnS w0 w (l++[(t,b)]) E mb rb iv ov (.slice (some ⟨sb,0,none⟩) (m+1) scap))
  {x0 x2 x4 x5 x7 x9 x12 x13 x14 x15 x16 x17 x18 x19 x20 x21 x22 x23 x24 x25 x26 x27 x28 x29 x30 x31 x32 x33 x34 x35 x36 x37 x38 x39 x40 x41 x42 x43 x44 x45 x46 x47 x48 x49 x50 x51 x52 x53 x54 x55 x56 x57 x58 x59 x60 x61 x62 x63 x64 x65 x66 x67 x68 x69 x70 x71 x72 x73 x74 x75 x76 x77 x78 x79 x80 x81 x82 x83 x84 x85 x86 x87 x88 x89 x90 x91 x92 x93 x94 x95 x96 x97 x98 x99 xA0 xA1 xA2 xA3 xA4 xA5 xA6 xA7 xA8 xA9 xB0 xB1 xB2 xB3 xB4 xB5 xB6 xB7 xB8 xB9 xC0 xC1 xC2 xC3 xC4 xC5 xC6 xC7 xC8 xC9 xD0 xD1 xD2 xD3 xD4 xD5 xD6 xD7 xD8 xD9 xE0 xE1 xE2 xE3 xE4 xE5 xE6 xE7 xE8 xE9 xF0 xF1 xF2 xF3 xF4 xF5 xF6 xF7 xF8 xF9 xG0 xG1 xG2 xG3 xG4 xG5 xG6 xG7 xG8 xG9 xH0 xH1 xH2 xH3 xH4 xH5 xH6 xH7 xH8 xH9 xI0 xI1 xI2 xI3 xI4 xI5 xI6 xI7 xI8 xI9 xJ0 xJ1 xJ2 xJ3 xJ4 xJ5 xJ6 xJ7 xJ8 xJ9 xK0 xK1 xK2 xK3 xK4 xK5 xK6 xK7 xK8 xK9 xL0 xL1 xL2 xL3 xL4 xL5 xL6 xL7 xL8 xL9 xM0 xM1 xM2 xM3 xM4 xM5 xM6 xM7 xM8 xM9 xN0 xN1 xN2 xN3 xN4 xN5 xN6 xN7 xN8 xN9 xO0 xO1 xO2 xO3 xO4 xO5 xO6 xO7 xO8 xO9 xP0 xP1 xP2 xP3 xP4 xP5 xP6 xP7 xP8 xP9 xQ0 xQ1 xQ2 xQ3 xQ4 xQ5 xQ6 xQ7 xQ8 xQ9 xR0 xR1 xR2 xR3 xR4 xR5 xR6 xR7 xR8 xR9 xS0 xS1 xS2 xS3 xS4 xS5 xS6 xS7 xS8 xS9 xT0 xT1 xT2 xT3 xT4 xT5 xT6 xT7 xT8 xT9 xU0 xU1 xU2 xU3 xU4 xU5 xU6 xU7 xU8 xU9 xV0 xV1 xV2 xV3 xV4 xV5 xV6 xV7 xV8 xV9 xW0 xW1 xW2 xW3 xW4 xW5 xW6 xW7 xW8 xW9 xX0 xX1 xX2 xX3 xX4 xX5 xX6 xX7 xX8 xX9 xY0 xY1 xY2 xY3 xY4 xY5 xY6 xY7 xY8 xY9 xZ0 xZ1 xZ2 xZ3 xZ4 xZ5 xZ6 xZ7 xZ8 xZ9 xa0 xa1 xa2 xa3 xa4 xa5 xa6 xa7 xa8 xa9 xb0 xb1 xb2 xb3 xb4 xb5 xb6 xb7:Value} (Q:Exit→Act→World→Prop)
  (hN:∀ (x:Exit),(x = .normal∨x = .exit 3)→∀ ⦃y12 y13 y14 y15 y16 y17 y18 y19 y20 y21 y22 y23 y24 yA2 yA3 yA4 yA5 yA6 yA7 yA8 yA9 yB0 yB1 yB2 yB3 yB4 yB5 yB6 yB7 yB8 yB9 yC0 yC1 yC2 yC3 yC4 yC5 yC6 yC7 yC8 yC9 yD0 yD1 yD2 yD3 yD4 yD5 yD6 yD7 yD8 yD9 yE0 yE1 yE2 yE3 yE4 yE5 yE6 yE7 yE8 yE9 yF0 yF1 yF2 yF3 yF4 yF5 yF6 yF7 yF8 yF9 yG0 yG1 yG2 yG3 yG4 yG5 yG6 yG7 yG8 yG9 yH0 yH1 yH2 yH3 yH4 yH5 yH6 yH7 yH8 yH9 yI0 yI1 yI2 yI3 yI4 yI5 yI6 yI7 yI8 yI9 yJ0 yJ1 yJ2 yJ3 yJ4 yJ5 yJ6 yJ7 yJ8 yJ9 yK0 yK1 yK2 yK3 yK4 yK5 yK6 yK7 yK8 yK9 yL0 yL1 yL2 yL3 yL4 yL5 yL6 yL7 yL8 yL9 yM0 yM1 yM2 yM3 yM4 yM5 yM6 yM7 yM8 yM9 yN0 yN1 yN2 yN3 yN4 yN5 yN6 yN7 yN8 yN9 yO0 yO1 yO2 yO3 yO4 yO5 yO6 yO7 yO8 yO9 yP0 yP1 yP2 yP3 yP4 yP5 yP6 yP7 yP8 yP9 yQ0 yQ1 yQ2 yQ3 yQ4 yQ5 yQ6 yQ7 yQ8 yQ9 yR0 yR1 yR2 yR3 yR4 yR5 yR6 yR7 yR8 yR9 yS0 yS1 yS2 yS3 yS4 yS5 yS6 yS7 yS8 yS9 yT0 yT1 yT2 yT3 yT4 yT5 yT6 yT7 yT8 yT9 yU0 yU1 yU2 yU3 yU4 yU5 yU6 yU7 yU8 yU9 yV0 yV1 yV2 yV3 yV4 yV5 yV6 yV7 yV8 yV9 yW0 yW1 yW2 yW3 yW4 yW5 yW6 yW7 yW8 yW9 yX0 yX1 yX2 yX3 yX4 yX5 yX6 yX7 yX8 yX9 yY0 yY1 yY2 yY3 yY4 yY5 yY6 yY7 yY8 yY9 yZ0 yZ1 yZ2 yZ3 yZ4 yZ5 yZ6 yZ7 yZ8 yZ9 ya0 ya1 ya2 ya3 ya4 ya5 ya6 ya7 ya8 ya9 yb0 yb1 yb2 yb3 yb4 yb5:Value⦄ (w':World) (iv' ov' sv':Value) (l':List (cU × Nat)) (E':eX),cW u (stk (l++[(t,b)])) E = .inl (stk l',E')→LOk u l'→l'≠[]→l'.length≤m+2→E'.out.length≤E.out.length+1→RnS w0 w' l' E' mb rb iv' ov' sv'→Q x ⟨(x0::iv'::x2::.pointer (some ⟨ub,0,none⟩)::x4::x5::.pointer (some ⟨rb,0,none⟩)::x7::.slice (some ⟨mb,0,none⟩) 4096 4096::x9::ov'::sv'::y12::y13::y14::y15::y16::y17::y18::y19::y20::y21::y22::y23::y24::x25::x26::x27::x28::x29::x30::x31::x32::x33::x34::x35::x36::x37::x38::x39::x40::x41::x42::x43::x44::x45::x46::x47::x48::x49::x50::x51::x52::x53::x54::x55::x56::x57::x58::x59::x60::x61::x62::x63::x64::x65::x66::x67::x68::x69::x70::x71::x72::x73::x74::x75::x76::x77::x78::x79::x80::x81::x82::x83::x84::x85::x86::x87::x88::x89::x90::x91::x92::x93::x94::x95::x96::x97::x98::x99::xA0::xA1::yA2::yA3::yA4::yA5::yA6::yA7::yA8::yA9::yB0::yB1::yB2::yB3::yB4::yB5::yB6::yB7::yB8::yB9::yC0::yC1::yC2::yC3::yC4::yC5::yC6::yC7::yC8::yC9::yD0::yD1::yD2::yD3::yD4::yD5::yD6::yD7::yD8::yD9::yE0::yE1::yE2::yE3::yE4::yE5::yE6::yE7::yE8::yE9::yF0::yF1::yF2::yF3::yF4::yF5::yF6::yF7::yF8::yF9::yG0::yG1::yG2::yG3::yG4::yG5::yG6::yG7::yG8::yG9::yH0::yH1::yH2::yH3::yH4::yH5::yH6::yH7::yH8::yH9::yI0::yI1::yI2::yI3::yI4::yI5::yI6::yI7::yI8::yI9::yJ0::yJ1::yJ2::yJ3::yJ4::yJ5::yJ6::yJ7::yJ8::yJ9::yK0::yK1::yK2::yK3::yK4::yK5::yK6::yK7::yK8::yK9::yL0::yL1::yL2::yL3::yL4::yL5::yL6::yL7::yL8::yL9::yM0::yM1::yM2::yM3::yM4::yM5::yM6::yM7::yM8::yM9::yN0::yN1::yN2::yN3::yN4::yN5::yN6::yN7::yN8::yN9::yO0::yO1::yO2::yO3::yO4::yO5::yO6::yO7::yO8::yO9::yP0::yP1::yP2::yP3::yP4::yP5::yP6::yP7::yP8::yP9::yQ0::yQ1::yQ2::yQ3::yQ4::yQ5::yQ6::yQ7::yQ8::yQ9::yR0::yR1::yR2::yR3::yR4::yR5::yR6::yR7::yR8::yR9::yS0::yS1::yS2::yS3::yS4::yS5::yS6::yS7::yS8::yS9::yT0::yT1::yT2::yT3::yT4::yT5::yT6::yT7::yT8::yT9::yU0::yU1::yU2::yU3::yU4::yU5::yU6::yU7::yU8::yU9::yV0::yV1::yV2::yV3::yV4::yV5::yV6::yV7::yV8::yV9::yW0::yW1::yW2::yW3::yW4::yW5::yW6::yW7::yW8::yW9::yX0::yX1::yX2::yX3::yX4::yX5::yX6::yX7::yX8::yX9::yY0::yY1::yY2::yY3::yY4::yY5::yY6::yY7::yY8::yY9::yZ0::yZ1::yZ2::yZ3::yZ4::yZ5::yZ6::yZ7::yZ8::yZ9::ya0::ya1::ya2::ya3::ya4::ya5::ya6::ya7::ya8::ya9::yb0::yb1::yb2::yb3::yb4::yb5::xb6::xb7::[]).toArray,[]⟩ w')
  (hR:∀ ⦃y12 y13 y14 y15 y16 y17 y18 y19 y20 y21 y22 y23 y24 yA2 yA3 yA4 yA5 yA6 yA7 yA8 yA9 yB0 yB1 yB2 yB3 yB4 yB5 yB6 yB7 yB8 yB9 yC0 yC1 yC2 yC3 yC4 yC5 yC6 yC7 yC8 yC9 yD0 yD1 yD2 yD3 yD4 yD5 yD6 yD7 yD8 yD9 yE0 yE1 yE2 yE3 yE4 yE5 yE6 yE7 yE8 yE9 yF0 yF1 yF2 yF3 yF4 yF5 yF6 yF7 yF8 yF9 yG0 yG1 yG2 yG3 yG4 yG5 yG6 yG7 yG8 yG9 yH0 yH1 yH2 yH3 yH4 yH5 yH6 yH7 yH8 yH9 yI0 yI1 yI2 yI3 yI4 yI5 yI6 yI7 yI8 yI9 yJ0 yJ1 yJ2 yJ3 yJ4 yJ5 yJ6 yJ7 yJ8 yJ9 yK0 yK1 yK2 yK3 yK4 yK5 yK6 yK7 yK8 yK9 yL0 yL1 yL2 yL3 yL4 yL5 yL6 yL7 yL8 yL9 yM0 yM1 yM2 yM3 yM4 yM5 yM6 yM7 yM8 yM9 yN0 yN1 yN2 yN3 yN4 yN5 yN6 yN7 yN8 yN9 yO0 yO1 yO2 yO3 yO4 yO5 yO6 yO7 yO8 yO9 yP0 yP1 yP2 yP3 yP4 yP5 yP6 yP7 yP8 yP9 yQ0 yQ1 yQ2 yQ3 yQ4 yQ5 yQ6 yQ7 yQ8 yQ9 yR0 yR1 yR2 yR3 yR4 yR5 yR6 yR7 yR8 yR9 yS0 yS1 yS2 yS3 yS4 yS5 yS6 yS7 yS8 yS9 yT0 yT1 yT2 yT3 yT4 yT5 yT6 yT7 yT8 yT9 yU0 yU1 yU2 yU3 yU4 yU5 yU6 yU7 yU8 yU9 yV0 yV1 yV2 yV3 yV4 yV5 yV6 yV7 yV8 yV9 yW0 yW1 yW2 yW3 yW4 yW5 yW6 yW7 yW8 yW9 yX0 yX1 yX2 yX3 yX4 yX5 yX6 yX7 yX8 yX9 yY0 yY1 yY2 yY3 yY4 yY5 yY6 yY7 yY8 yY9 yZ0 yZ1 yZ2 yZ3 yZ4 yZ5 yZ6 yZ7 yZ8 yZ9 ya0 ya1 ya2 ya3 ya4 ya5 ya6 ya7 ya8 ya9 yb0 yb1 yb2 yb3 yb4 yb5 iv' ov' sv':Value⦄ (w':World) (r:jQ),cW u (stk (l++[(t,b)])) E = .inr r→IT w0 w' rb r→Q .ret ⟨(x0::iv'::x2::.pointer (some ⟨ub,0,none⟩)::x4::x5::.pointer (some ⟨rb,0,none⟩)::x7::.slice (some ⟨mb,0,none⟩) 4096 4096::x9::ov'::sv'::y12::y13::y14::y15::y16::y17::y18::y19::y20::y21::y22::y23::y24::x25::x26::x27::x28::x29::x30::x31::x32::x33::x34::x35::x36::x37::x38::x39::x40::x41::x42::x43::x44::x45::x46::x47::x48::x49::x50::x51::x52::x53::x54::x55::x56::x57::x58::x59::x60::x61::x62::x63::x64::x65::x66::x67::x68::x69::x70::x71::x72::x73::x74::x75::x76::x77::x78::x79::x80::x81::x82::x83::x84::x85::x86::x87::x88::x89::x90::x91::x92::x93::x94::x95::x96::x97::x98::x99::xA0::xA1::yA2::yA3::yA4::yA5::yA6::yA7::yA8::yA9::yB0::yB1::yB2::yB3::yB4::yB5::yB6::yB7::yB8::yB9::yC0::yC1::yC2::yC3::yC4::yC5::yC6::yC7::yC8::yC9::yD0::yD1::yD2::yD3::yD4::yD5::yD6::yD7::yD8::yD9::yE0::yE1::yE2::yE3::yE4::yE5::yE6::yE7::yE8::yE9::yF0::yF1::yF2::yF3::yF4::yF5::yF6::yF7::yF8::yF9::yG0::yG1::yG2::yG3::yG4::yG5::yG6::yG7::yG8::yG9::yH0::yH1::yH2::yH3::yH4::yH5::yH6::yH7::yH8::yH9::yI0::yI1::yI2::yI3::yI4::yI5::yI6::yI7::yI8::yI9::yJ0::yJ1::yJ2::yJ3::yJ4::yJ5::yJ6::yJ7::yJ8::yJ9::yK0::yK1::yK2::yK3::yK4::yK5::yK6::yK7::yK8::yK9::yL0::yL1::yL2::yL3::yL4::yL5::yL6::yL7::yL8::yL9::yM0::yM1::yM2::yM3::yM4::yM5::yM6::yM7::yM8::yM9::yN0::yN1::yN2::yN3::yN4::yN5::yN6::yN7::yN8::yN9::yO0::yO1::yO2::yO3::yO4::yO5::yO6::yO7::yO8::yO9::yP0::yP1::yP2::yP3::yP4::yP5::yP6::yP7::yP8::yP9::yQ0::yQ1::yQ2::yQ3::yQ4::yQ5::yQ6::yQ7::yQ8::yQ9::yR0::yR1::yR2::yR3::yR4::yR5::yR6::yR7::yR8::yR9::yS0::yS1::yS2::yS3::yS4::yS5::yS6::yS7::yS8::yS9::yT0::yT1::yT2::yT3::yT4::yT5::yT6::yT7::yT8::yT9::yU0::yU1::yU2::yU3::yU4::yU5::yU6::yU7::yU8::yU9::yV0::yV1::yV2::yV3::yV4::yV5::yV6::yV7::yV8::yV9::yW0::yW1::yW2::yW3::yW4::yW5::yW6::yW7::yW8::yW9::yX0::yX1::yX2::yX3::yX4::yX5::yX6::yX7::yX8::yX9::yY0::yY1::yY2::yY3::yY4::yY5::yY6::yY7::yY8::yY9::yZ0::yZ1::yZ2::yZ3::yZ4::yZ5::yZ6::yZ7::yZ8::yZ9::ya0::ya1::ya2::ya3::ya4::ya5::ya6::ya7::ya8::ya9::yb0::yb1::yb2::yb3::yb4::yb5::xb6::xb7::[]).toArray,[]⟩ w') :
  Code.wp Try.prog rS Q ⟨(x0::iv::x2::.pointer (some ⟨ub,0,none⟩)::x4::x5::.pointer (some ⟨rb,0,none⟩)::x7::.slice (some ⟨mb,0,none⟩) 4096 4096::x9::ov::.slice (some ⟨sb,0,none⟩) (m+1) scap::x12::x13::x14::x15::x16::x17::x18::x19::x20::x21::x22::x23::x24::x25::x26::x27::x28::x29::x30::x31::x32::x33::x34::x35::x36::x37::x38::x39::x40::x41::x42::x43::x44::x45::x46::x47::x48::x49::x50::x51::x52::x53::x54::x55::x56::x57::x58::x59::x60::x61::x62::x63::x64::x65::x66::x67::x68::x69::x70::x71::x72::x73::x74::x75::x76::x77::x78::x79::x80::x81::x82::x83::x84::x85::x86::x87::x88::x89::x90::x91::x92::x93::x94::x95::x96::x97::x98::x99::xA0::xA1::xA2::xA3::xA4::xA5::xA6::xA7::xA8::xA9::xB0::xB1::xB2::xB3::xB4::xB5::xB6::xB7::xB8::xB9::xC0::xC1::xC2::xC3::xC4::xC5::xC6::xC7::xC8::xC9::xD0::xD1::xD2::xD3::xD4::xD5::xD6::xD7::xD8::xD9::xE0::xE1::xE2::xE3::xE4::xE5::xE6::xE7::xE8::xE9::xF0::xF1::xF2::xF3::xF4::xF5::xF6::xF7::xF8::xF9::xG0::xG1::xG2::xG3::xG4::xG5::xG6::xG7::xG8::xG9::xH0::xH1::xH2::xH3::xH4::xH5::xH6::xH7::xH8::xH9::xI0::xI1::xI2::xI3::xI4::xI5::xI6::xI7::xI8::xI9::xJ0::xJ1::xJ2::xJ3::xJ4::xJ5::xJ6::xJ7::xJ8::xJ9::xK0::xK1::xK2::xK3::xK4::xK5::xK6::xK7::xK8::xK9::xL0::xL1::xL2::xL3::xL4::xL5::xL6::xL7::xL8::xL9::xM0::xM1::xM2::xM3::xM4::xM5::xM6::xM7::xM8::xM9::xN0::xN1::xN2::xN3::xN4::xN5::xN6::xN7::xN8::xN9::xO0::xO1::xO2::xO3::xO4::xO5::xO6::xO7::xO8::xO9::xP0::xP1::xP2::xP3::xP4::xP5::xP6::xP7::xP8::xP9::xQ0::xQ1::xQ2::xQ3::xQ4::xQ5::xQ6::xQ7::xQ8::xQ9::xR0::xR1::xR2::xR3::xR4::xR5::xR6::xR7::xR8::xR9::xS0::xS1::xS2::xS3::xS4::xS5::xS6::xS7::xS8::xS9::xT0::xT1::xT2::xT3::xT4::xT5::xT6::xT7::xT8::xT9::xU0::xU1::xU2::xU3::xU4::xU5::xU6::xU7::xU8::xU9::xV0::xV1::xV2::xV3::xV4::xV5::xV6::xV7::xV8::xV9::xW0::xW1::xW2::xW3::xW4::xW5::xW6::xW7::xW8::xW9::xX0::xX1::xX2::xX3::xX4::xX5::xX6::xX7::xX8::xX9::xY0::xY1::xY2::xY3::xY4::xY5::xY6::xY7::xY8::xY9::xZ0::xZ1::xZ2::xZ3::xZ4::xZ5::xZ6::xZ7::xZ8::xZ9::xa0::xa1::xa2::xa3::xa4::xa5::xa6::xa7::xa8::xa9::xb0::xb1::xb2::xb3::xb4::xb5::xb6::xb7::[]).toArray,[]⟩ w:=by
 conv=>arg 2;whnf
 have HN:=Hz hN
 have HRt:=Hz hR
 have HS:=Hz hS
 obtain⟨f,hfk,hR,hb0,hbF,htp⟩:=hL.fr (t,b) (by simp)
 simp only at hfk hR hb0 hbF htp
 have hOf:=hU.ok f (Mz hfk)
 obtain⟨i,hik⟩:∃ i,f.code[t.p]? = some i:=⟨_,List.getElem?_eq_getElem htp⟩
 have hok:=hOf.ok i (Mz hik)
 have hfF:=hOf.Fr
 obtain⟨⟨cur,hsb⟩,s0,s1,s2,s3,s4⟩:=hS.top hm
 have hub1:=(hS.b.block _ (Az hub).1).trans hub
 have HRF:=Hz (hRF.below hS.b)
 have HB1:=Hz (Below.one w (jA t b t.ρ.length))
 have hfb:=heap_alloc_new w (jA t b t.ρ.length)
 have hub2:=(HB1.out.block _ (Az hub1).1).trans hub1
 have HS1:=Hz (HS.out.later HB1.out)
 have HRF1:=Hz (HRF.out.below HB1.out)
 have hul:=hU.len
 obtain⟨N,hNn⟩:∃ N,u.funcs.length=N:=⟨_,rfl⟩
 have htN:t.k<N:=by rw[←hNn];exact (Lz hfk).1
 have HUB2:=Hz hub2
 simp only[bD] at hub2
 rw[hNn] at hub2 hul
 have gu0:=aA hub2 0 (.slice F N cF) rfl
 obtain⟨n,hn⟩:∃ n,t.ρ.length=n:=⟨_,rfl⟩
 have HFB:=Hz hfb
 rw[hn] at s4 hR
 have HR:=Hz hR
 simp only[hn] at hfb HS1 HRF1 HUB2 HFB gu0
 have HNl:=Hz hn
 have HLn:=Hz hNn
 clear hR hn hNn
 obtain⟨bF,oF,C,cap,rfl,hbl,hcs,hrI⟩:=HRF1.out t.k f hfk
 obtain⟨gx0,gx1,gx2,gx3,gx4⟩:=cX hcs
 obtain⟨bc,oc,rfl,hbl3,hci⟩:=hrI t.p i hik
 obtain⟨LC,hLC⟩:∃ LC,f.code.length=LC:=⟨_,rfl⟩
 have htpL:t.p<LC:=by rw[←hLC];exact htp
 rw[hLC] at gx4
 obtain⟨y0,y1,y2,y3,y4,y5,y6,y7,y8,y9,y10,y11,y12,y13,y14⟩:=RdI.load hci
 obtain⟨f0,f1,f2,f3,f4⟩:=cC hfb
 have hLC8:LC≤8192:=by rw[←hLC];exact hOf.len.2
 have HLC:=Hz hLC
 have HOK:=Hz hok
 have HOF:=Hz hOf
 have HFK:=Hz hfk
 have HIK:=Hz hik
 have HLL:=Hz hL
 have HU:=Hz hU
 have HM:=Hz hm
 clear hLC hok hOf hfk hik hL hU hm
 clear hN hcs hci hrI hS hub hub1 hub2 hRF
 go_upto_region 19 with fail
 clear s0 s1 s2 s3 s4
 have hz1:(w.alloc (.cells #[.int .i64 t.k,.int .i64 t.base,.int .i64 t.p,.int .i64 t.dst,.slice (some ⟨b,0,none⟩) n n] 84)).heap.size=w.heap.size+1:=by simp
 have hz0:(w.alloc (jA t b n)).heap.size=w.heap.size+1:=by simp
 have hlub:ub<w.heap.size+1:=by rw[←hz0];exact (Az HUB2.out).1
 rw[hz0] at hbl hbl3
 clear hz0
 generalize hw1:w.alloc (.cells #[.int .i64 t.k,.int .i64 t.base,.int .i64 t.p,.int .i64 t.dst,.slice (some ⟨b,0,none⟩) n n] 84)=w1 at *
 rw[←hz1] at hbl hbl3 hlub
 have hlfb:w.heap.size<w1.heap.size:=by omega
 have HZ1:=Hz hz1
 clear hw1 hz1
 go_cut [13] from 108 to 118 (fun s wx=>s = .pointer (some ⟨w1.heap.size,0,none⟩)∧wx.heap[w1.heap.size]? = some i.obj∧Below w1.heap.size w1 wx)
 case first =>
  go_region_held3 (fun w'=>∀ (q o:Nat),q<w1.heap.size→w'.cell? ⟨q,o,none⟩=w1.cell? ⟨q,o,none⟩)
   (first
   | with_reducible exact fun q o h=>rfl
   | exact fun q o h=>(Below.one w1 _).cell (p:=⟨q,o,none⟩) h
   | exact fun q o h=>rfl)
   (fail)
  all_goals (go_wp2_with fail;go_meet)
  all_goals exact⟨rfl,heap_alloc_new w1 _,⟨rfl,rfl,rfl,by simp,fun k hk=>Below.heap_alloc w1 _ k hk⟩⟩
 case rest =>
  obtain⟨rfl,hib,hbc⟩:=hcut
  obtain⟨wi,hwi⟩:∃ wi,wi=wc:=⟨_,rfl⟩
  subst hwi
  have HS3:=Hz (HS1.out.later hbc)
  have HRF3:=Hz (HRF1.out.below hbc)
  have HUB3:=Hz ((hbc.block _ (Az HUB2.out).1).trans HUB2.out)
  have HF3:=Hz ((hbc.block _ (Az HFB.out).1).trans HFB.out)
  have HI3:=Hz hib
  have hfs:w.heap.size≠sb:=Ne.symm (Nat.ne_of_lt (Az hsb).1)
  rename_i hK19
  refine hK19 _ _ ?_
  clear f0 f1 f2 f3 f4 y0 y1 y2 y3 y4 y5 y6 y7 y8 y9 y10 y11 y12 y13 y14 gu0 gx0 gx1 gx2 gx3 gx4 hib hbc HS1 HRF1 HUB2 HFB
  obtain⟨f0,f1,f2,f3,f4⟩:=cC HF3.out
  go_upto_region 21 with fail
  go_cut [15] from 15 to 15 (fun s wx=>s = .int .i64 0∧wx=wi)
  case first =>
   go_wp2_with fail
   go_meet
   exact⟨rfl,rfl⟩
  case rest =>
   obtain⟨rfl,hwc⟩:=hcut
   subst hwc
   rename_i hK21
   refine hK21 _ _ ?_
   refine wp_seq_k (fun Kt hKt=>?_)
   clear f0 f1 f2 f3 f4
   rw[show (t.p:Int)+1=((t.p+1:Nat):Int) by omega]
   have hL:=HLL.out
   have hm:=HM.out
   have hok:=HOK.out
   have hOf:=HOF.out
   have hfk:=HFK.out
   have hik:=HIK.out
   have hU:=HU.out
   have hR:t.ρ.length=f.R.toNat:=by rw[HNl.out];exact HR.out
   have hF3:=HF3.out
   rw[←HNl.out] at hF3
   have HF3:=Hz hF3
   have hz1:=HZ1.out
   generalize w.heap.size=fb at *
   generalize w1.heap.size=ib at *
   have hkk:i.kind=1∨i.kind=2∨i.kind=3∨i.kind=4∨i.kind=5∨i.kind=6∨i.kind=7∨i.kind=8∨i.kind=9∨i.kind=10∨i.kind=11∨i.kind=12∨i.kind=13:=by
    have:=hok.kind
    omega
   rcases hkk with hk|hk|hk|hk|hk|hk|hk|hk|hk|hk|hk|hk|hk
   ·refine IM w0 wc l t b m scap sb fb ib mb rb ub (t.p+1) i E iv ov f.R f.Fr f.code.length hm hok hk hR rfl trivial HS3.out HF3.out HI3.out hfs _ _ ?_ ?_
    ·intros
     rename_i w' iv' ov' E' q v hgo
     refine hKt _ _ ?_
     refine dR w0 w' l t b m scap sb fb ib mb rb ub q i E' iv' ov' f.R f.Fr f.code.length v hm hok (by omega) hR (by omega) hgo.S hgo.f hgo.i _ ?_
     intros
     rename_i w'' hS''
     refine HN.out _ (Or.inl rfl) w'' _ _ _ (l++[({ t with p:=q,ρ:=bB i.sets v t.ρ },b)]) E' ?_ (hL.go rfl rfl rfl (setd_len _ _ _) hfk (dQ hOf hik hgo.st)) (by simp) (by simp[hm]) hgo.out hS''
     rw[aT,aT]
     exact dP hfk hik hgo.st
    ·intros
     rename_i w' c hst hfin
     refine HRt.out w' _ ?_ hfin
     rw[aT]
     exact cN hfk hik hst
   ·refine GO w0 wc l t b m scap sb fb ib mb rb ub (t.p+1) i E iv ov f.R f.Fr f.code.length hm hok hk hR rfl trivial HS3.out HF3.out HI3.out hfs _ _ ?_ ?_
    ·intros
     rename_i w' iv' ov' E' q v hgo
     refine hKt _ _ ?_
     refine dR w0 w' l t b m scap sb fb ib mb rb ub q i E' iv' ov' f.R f.Fr f.code.length v hm hok (by omega) hR (by omega) hgo.S hgo.f hgo.i _ ?_
     intros
     rename_i w'' hS''
     refine HN.out _ (Or.inl rfl) w'' _ _ _ (l++[({ t with p:=q,ρ:=bB i.sets v t.ρ },b)]) E' ?_ (hL.go rfl rfl rfl (setd_len _ _ _) hfk (dQ hOf hik hgo.st)) (by simp) (by simp[hm]) hgo.out hS''
     rw[aT,aT]
     exact dP hfk hik hgo.st
    ·intros
     rename_i w' c hst hfin
     refine HRt.out w' _ ?_ hfin
     rw[aT]
     exact cN hfk hik hst
   ·refine GP w0 wc l t b m scap sb fb ib mb rb ub (t.p+1) i E iv ov f.R f.Fr f.code.length hm hok hk hR rfl trivial HS3.out HF3.out HI3.out hfs _ _ ?_ ?_
    ·intros
     rename_i w' iv' ov' E' q v hgo
     refine hKt _ _ ?_
     refine dR w0 w' l t b m scap sb fb ib mb rb ub q i E' iv' ov' f.R f.Fr f.code.length v hm hok (by omega) hR (by omega) hgo.S hgo.f hgo.i _ ?_
     intros
     rename_i w'' hS''
     refine HN.out _ (Or.inl rfl) w'' _ _ _ (l++[({ t with p:=q,ρ:=bB i.sets v t.ρ },b)]) E' ?_ (hL.go rfl rfl rfl (setd_len _ _ _) hfk (dQ hOf hik hgo.st)) (by simp) (by simp[hm]) hgo.out hS''
     rw[aT,aT]
     exact dP hfk hik hgo.st
    ·intros
     rename_i w' c hst hfin
     refine HRt.out w' _ ?_ hfin
     rw[aT]
     exact cN hfk hik hst
   ·refine IN w0 wc l t b m scap sb fb ib mb rb ub (t.p+1) i E iv ov f.R f.Fr f.code.length hm hok hk hR rfl trivial HS3.out HF3.out HI3.out hfs _ _ ?_ ?_
    ·intros
     rename_i w' iv' ov' E' q v hgo
     refine hKt _ _ ?_
     refine dR w0 w' l t b m scap sb fb ib mb rb ub q i E' iv' ov' f.R f.Fr f.code.length v hm hok (by omega) hR (by omega) hgo.S hgo.f hgo.i _ ?_
     intros
     rename_i w'' hS''
     refine HN.out _ (Or.inl rfl) w'' _ _ _ (l++[({ t with p:=q,ρ:=bB i.sets v t.ρ },b)]) E' ?_ (hL.go rfl rfl rfl (setd_len _ _ _) hfk (dQ hOf hik hgo.st)) (by simp) (by simp[hm]) hgo.out hS''
     rw[aT,aT]
     exact dP hfk hik hgo.st
    ·intros
     rename_i w' c hst hfin
     refine HRt.out w' _ ?_ hfin
     rw[aT]
     exact cN hfk hik hst
   ·refine IP w0 wc l t b m scap sb fb ib mb rb ub (t.p+1) i E iv ov f.R f.Fr f.code.length hm hok hk hR rfl ⟨⟨hb0,by omega⟩,by omega⟩ HS3.out HF3.out HI3.out hfs _ _ ?_ ?_
    ·intros
     rename_i w' iv' ov' E' q v hgo
     refine hKt _ _ ?_
     refine dR w0 w' l t b m scap sb fb ib mb rb ub q i E' iv' ov' f.R f.Fr f.code.length v hm hok (by omega) hR (by omega) hgo.S hgo.f hgo.i _ ?_
     intros
     rename_i w'' hS''
     refine HN.out _ (Or.inl rfl) w'' _ _ _ (l++[({ t with p:=q,ρ:=bB i.sets v t.ρ },b)]) E' ?_ (hL.go rfl rfl rfl (setd_len _ _ _) hfk (dQ hOf hik hgo.st)) (by simp) (by simp[hm]) hgo.out hS''
     rw[aT,aT]
     exact dP hfk hik hgo.st
    ·intros
     rename_i w' c hst hfin
     refine HRt.out w' _ ?_ hfin
     rw[aT]
     exact cN hfk hik hst
   ·refine GM w0 wc l t b m scap sb fb ib mb rb ub (t.p+1) i E iv ov f.R f.Fr f.code.length hm hok hk hR rfl trivial HS3.out HF3.out HI3.out hfs _ _ ?_ ?_
    ·intros
     rename_i w' iv' ov' E' q v hgo
     refine hKt _ _ ?_
     refine dR w0 w' l t b m scap sb fb ib mb rb ub q i E' iv' ov' f.R f.Fr f.code.length v hm hok (by omega) hR (by omega) hgo.S hgo.f hgo.i _ ?_
     intros
     rename_i w'' hS''
     refine HN.out _ (Or.inl rfl) w'' _ _ _ (l++[({ t with p:=q,ρ:=bB i.sets v t.ρ },b)]) E' ?_ (hL.go rfl rfl rfl (setd_len _ _ _) hfk (dQ hOf hik hgo.st)) (by simp) (by simp[hm]) hgo.out hS''
     rw[aT,aT]
     exact dP hfk hik hgo.st
    ·intros
     rename_i w' c hst hfin
     refine HRt.out w' _ ?_ hfin
     rw[aT]
     exact cN hfk hik hst
   ·refine GN w0 wc l t b m scap sb fb ib mb rb ub (t.p+1) i E iv ov f.R f.Fr f.code.length hm hok hk hR rfl trivial HS3.out HF3.out HI3.out hfs _ _ ?_ ?_
    ·intros
     rename_i w' iv' ov' E' q v hgo
     refine hKt _ _ ?_
     refine dR w0 w' l t b m scap sb fb ib mb rb ub q i E' iv' ov' f.R f.Fr f.code.length v hm hok (by omega) hR (by omega) hgo.S hgo.f hgo.i _ ?_
     intros
     rename_i w'' hS''
     refine HN.out _ (Or.inl rfl) w'' _ _ _ (l++[({ t with p:=q,ρ:=bB i.sets v t.ρ },b)]) E' ?_ (hL.go rfl rfl rfl (setd_len _ _ _) hfk (dQ hOf hik hgo.st)) (by simp) (by simp[hm]) hgo.out hS''
     rw[aT,aT]
     exact dP hfk hik hgo.st
    ·intros
     rename_i w' c hst hfin
     refine HRt.out w' _ ?_ hfin
     rw[aT]
     exact cN hfk hik hst
   ·obtain⟨k,g,hfi,hgk,hgn⟩:=hU.calls f (Mz hfk) i (Mz hik) hk
    have hgo:=hU.ok g (Mz hgk)
    have hgR:=hgo.R
    have hgF:=hgo.Fr
    have hgp:=hgo.ps
    have hcl:=hok.call hk
    have hlst:=hOf.last
    refine GR u (some ⟨bF,oF,none⟩) G cF cG w0 wc l t b m scap sb fb ib mb rb ub (t.p+1) i E iv ov f.R f.Fr f.code.length f g k hm hok hk hR hml HUB3.out HRF3.out (by have:=hU.len;omega) hfk hfi hgk hgn hgR.1 hgR.2 hgF hfF ⟨hb0,by omega⟩ HS3.out HF3.out HI3.out _ _ ?_ ?_
    ·intros
     rename_i w' sv' b' hno hS'
     have hin:t.p+1<f.code.length:=by
      by_cases he:t.p+1=f.code.length
      ·have:=hlst i (by rw[←he,Nat.add_sub_cancel];exact hik)
       omega
      ·have:=(Lz hik).1
       omega
     refine HN.out _ (Or.inr rfl) w' _ _ sv' _ E ?_ (LOk.push (hL.go (t':={ t with p:=t.p+1 }) rfl rfl rfl rfl hfk hin) ⟨g,hgk,?_,by simp only;omega,by simp only;omega,by simp only;have:=hgo.len;omega⟩ ?_) (by simp) (by simp[hm]) (Nat.le_succ _) hS'
     ·rw[aT,aT,aT]
      exact vO hfk hik hk ⟨hcl.1,hcl.2.1⟩ hfi hgk hno
     ·simp[Ins.args]
      omega
     ·intro hd
      simp only at hd ⊢
      rcases hok.dst (by rw[hk];rfl) with h|h
      ·omega
      ·omega
    ·intros
     rename_i w' hov hfin
     refine HRt.out w' _ ?_ hfin
     rw[aT]
     exact vN hfk hik hk hfi hgk hov
   ·refine GQ w0 wc l t b m scap sb fb ib mb rb ub (t.p+1) i E iv ov f.R f.Fr f.code.length hm hok hk hR rfl trivial HS3.out HF3.out HI3.out hfs _ _ ?_ ?_
    ·intros
     rename_i w' iv' ov' E' q v hgo
     refine hKt _ _ ?_
     refine dR w0 w' l t b m scap sb fb ib mb rb ub q i E' iv' ov' f.R f.Fr f.code.length v hm hok (by omega) hR (by omega) hgo.S hgo.f hgo.i _ ?_
     intros
     rename_i w'' hS''
     refine HN.out _ (Or.inl rfl) w'' _ _ _ (l++[({ t with p:=q,ρ:=bB i.sets v t.ρ },b)]) E' ?_ (hL.go rfl rfl rfl (setd_len _ _ _) hfk (dQ hOf hik hgo.st)) (by simp) (by simp[hm]) hgo.out hS''
     rw[aT,aT]
     exact dP hfk hik hgo.st
    ·intros
     rename_i w' c hst hfin
     refine HRt.out w' _ ?_ hfin
     rw[aT]
     exact cN hfk hik hst
   ·refine DM w0 wc l t b m scap sb fb ib mb rb ub (t.p+1) i E iv ov f.R f.Fr f.code.length hm hok hk hR rfl hol HS3.out HF3.out HI3.out hfs _ _ ?_ ?_
    ·intros
     rename_i w' iv' ov' E' q v hgo
     refine hKt _ _ ?_
     refine dR w0 w' l t b m scap sb fb ib mb rb ub q i E' iv' ov' f.R f.Fr f.code.length v hm hok (by omega) hR (by omega) hgo.S hgo.f hgo.i _ ?_
     intros
     rename_i w'' hS''
     refine HN.out _ (Or.inl rfl) w'' _ _ _ (l++[({ t with p:=q,ρ:=bB i.sets v t.ρ },b)]) E' ?_ (hL.go rfl rfl rfl (setd_len _ _ _) hfk (dQ hOf hik hgo.st)) (by simp) (by simp[hm]) hgo.out hS''
     rw[aT,aT]
     exact dP hfk hik hgo.st
    ·intros
     rename_i w' c hst hfin
     refine HRt.out w' _ ?_ hfin
     rw[aT]
     exact cN hfk hik hst
   ·refine EO w0 wc l t b m scap sb fb ib mb rb ub (t.p+1) i E iv ov f.R f.Fr f.code.length hm hok hk hR rfl trivial HS3.out HF3.out HI3.out hfs _ _ ?_ ?_
    ·intros
     rename_i w' iv' ov' E' q v hgo
     refine hKt _ _ ?_
     refine dR w0 w' l t b m scap sb fb ib mb rb ub q i E' iv' ov' f.R f.Fr f.code.length v hm hok (by omega) hR (by omega) hgo.S hgo.f hgo.i _ ?_
     intros
     rename_i w'' hS''
     refine HN.out _ (Or.inl rfl) w'' _ _ _ (l++[({ t with p:=q,ρ:=bB i.sets v t.ρ },b)]) E' ?_ (hL.go rfl rfl rfl (setd_len _ _ _) hfk (dQ hOf hik hgo.st)) (by simp) (by simp[hm]) hgo.out hS''
     rw[aT,aT]
     exact dP hfk hik hgo.st
    ·intros
     rename_i w' c hst hfin
     refine HRt.out w' _ ?_ hfin
     rw[aT]
     exact cN hfk hik hst
   ·refine EP w0 wc l t b m scap sb fb ib mb rb ub (t.p+1) i E iv ov f.R f.Fr f.code.length hm hok hk hR rfl trivial HS3.out HF3.out HI3.out hfs _ _ ?_ ?_
    ·intros
     rename_i w' iv' ov' E' q v hgo
     refine hKt _ _ ?_
     refine dR w0 w' l t b m scap sb fb ib mb rb ub q i E' iv' ov' f.R f.Fr f.code.length v hm hok (by omega) hR (by omega) hgo.S hgo.f hgo.i _ ?_
     intros
     rename_i w'' hS''
     refine HN.out _ (Or.inl rfl) w'' _ _ _ (l++[({ t with p:=q,ρ:=bB i.sets v t.ρ },b)]) E' ?_ (hL.go rfl rfl rfl (setd_len _ _ _) hfk (dQ hOf hik hgo.st)) (by simp) (by simp[hm]) hgo.out hS''
     rw[aT,aT]
     exact dP hfk hik hgo.st
    ·intros
     rename_i w' c hst hfin
     refine HRt.out w' _ ?_ hfin
     rw[aT]
     exact cN hfk hik hst
   ·refine EQ w0 wc l t b m scap sb fb ib mb rb ub (t.p+1) i E iv ov f.R f.Fr f.code.length hm hok hk hR (by omega) (fun l2 t2 b2 e=>hL.dst l2 (t2,b2) (t,b) [] (by rw[e];simp)) HS3.out HF3.out HI3.out _ _ ?_ ?_
    ·intros
     rename_i w' sv' l2 t2 b2 e hS'
     have hLp:=hL.pop
     rw[e] at hLp
     obtain⟨f2,hf2,_,_,_,hp2⟩:=hLp.fr (t2,b2) (by simp)
     refine HN.out _ (Or.inr rfl) w' _ _ sv' (l2++[({ t2 with ρ:=bB t.dst (rg t.ρ i.a) t2.ρ },b2)]) E ?_ (hLp.go rfl rfl rfl (setd_len _ _ _) hf2 hp2) (by simp) (by rw[←hm,e];simp) (Nat.le_succ _) hS'
     rw[aT,e,aT,aT,qR hfk hik hk]
     rfl
    ·intros
     rename_i w' e hfin
     refine HRt.out w' _ ?_ hfin
     rw[aT,e,qR hfk hik hk]
     rfl
end Go.Proofs.Ytkcclefonmnpnaa
