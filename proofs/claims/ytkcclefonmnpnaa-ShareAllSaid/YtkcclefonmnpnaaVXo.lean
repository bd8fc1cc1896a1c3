import Derived.Deep.CutRange
import Derived.Test.YtkcclefonmnpnaaVXe
set_option maxRecDepth 1000000
set_option maxHeartbeats 64000000
namespace Go.Proofs.Ytkcclefonmnpnaa
open Go.RowKit Go.BigFrame
theorem mA (L:Nat)(hL:L≤100000)(W:World):(Instr.makeSlice 33 (.int .i64 L) (.int .i64 L)).run Try.prog W = .ok (.slice (some ⟨W.heap.size,0,none⟩) L L) (W.alloc (.cells (madeCells #[.int .i64 0] L) 3)):=by
 obtain⟨i0,hi,hz0,hz1,hz2⟩:=info_parts lS
 have:=run_make (P:=Try.prog) W 33 3 i0 (.int .i64 0) (by kernel_rfl) hi hz0 .i64 .i64 L L (by omega) (by omega) (by rw[hz2];omega) (by omega)
 simpa[hz1,Value.cells] using this
theorem mC (L:Nat):Obj.cells (madeCells #[.int .i64 0] L) 3 (0,0)=lY (List.replicate L 0):=by
 unfold lY madeCells
 congr 1
 apply Array.ext
 ·simp
 ·intro k h1 h2
  simp[Nat.mod_one]
theorem DN:(Try.prog.info? 84).map (fun i=>(i.zero,i.size,i.bytes))=some (some (.agg #[.int .i64 0,.int .i64 0,.int .i64 0,.int .i64 0,.slice none 0 0]),5,56):=by kernel_rfl
theorem rT {ops:Array Oper}{rest:List Oper}{o:Oper}{a:Act}{w:World}{Q:Exit→Act→World→Prop}(hgd:o.guard=none)(s x:Operand)
  (ho:o.op = .call { callee:=.builtin .append,args:=#[s,x],argTypes:=#[85,85] }) (base:Nat) (V:Value) (k:List (cU × Nat)) (hs:a.eval s=V) (hown:w.ownsRow base 84 5 V k.length (k.flatMap oS))
  (g:Nat) (y:cU × Nat) (hx:a.eval x = .slice (some ⟨g,0,none⟩) 1 1) (hg:w.heap[g]? = some (.cells (oS y).toArray 84 (0,0))) (hn:k.length≤90000) (hb:base≤w.heap.size)
  (h:∀ V' w',w'.ownsRow base 84 5 V' (k++[y]).length ((k++[y]).flatMap oS)→w.grownBy w' V.ownBlock→wpList Try.prog ops Q rest (a.put o.dst V') w') :
  wpList Try.prog ops Q (o::rest) a w:=by
 obtain⟨i0,hi,hz0,hz1,hz2⟩:=info_parts DN
 obtain⟨V',w',hr,h1,h2,_,h4⟩:=run_append_own_at (P:=Try.prog) w base 85 o.type 84 i0 (.agg #[.int .i64 0,.int .i64 0,.int .i64 0,.int .i64 0,.slice none 0 0]) 5 56 (by kernel_rfl) hi hz0 hz1 hz2 rfl (by decide) V k.length (k.flatMap oS) hown ⟨g,0,none⟩ 1 1 (oS y) (by rfl)
  (fun j u hu=>by
   have hadd:(⟨g,0,none⟩:Addr).add j=⟨g,j,none⟩:=by
    unfold Addr.add;split
    ·rename_i h0;rw[h0]
    ·simp
   rw[hadd]
   exact aA hg j u (by simpa using hu)) (fun u hu=>vM [y] u (by simpa using hu)) (by simp only[maxLen];omega) (by omega) hb
 have hfl:(k++[y]).flatMap oS=k.flatMap oS++oS y:=by simp
 exact bW hgd s x ho hs hx hr (h V' w' (by rw[List.length_append,hfl];exact h1) h2)
theorem RnS.push {w0 w w':World}{l:List (cU × Nat)}{E:eX}{mb rb:Nat}{iv ov sv V':Value}{x:cU × Nat}(h:RnS w0 w l E mb rb iv ov sv)(hg:w.grownBy w' sv.ownBlock)(ho:w'.ownsRow w0.heap.size 84 5 V' (l++[x]).length ((l++[x]).flatMap oS))
  (hx1:w0.heap.size≤x.2) (hx2:x.2≠mb) (hx3:w.heap[x.2]? = some (lY x.1.ρ)) (hx4:∀ y ∈ l,y.2≠x.2):RnS w0 w' (l++[x]) E mb rb iv ov V':=by
 have hk:∀ (k:Nat) (cs:Array Value) (ty:TypeId),w.heap[k]? = some (.cells cs ty (0,0))→84≠ty→w'.heap[k]? = w.heap[k]?:=fun k cs ty hc ht=>hg.block k (Az hc).1 (Ne.symm (lZ h.stk hc ht))
 have hob:∀ k,sv.ownBlock=some k→w0.heap.size≤k:=fun k hk=>by
  obtain⟨_,h2⟩:=h.stk
  rcases h2 with ⟨rfl,_⟩|⟨g,cap,cur,rfl,hB,_⟩
  ·simp[Value.ownBlock] at hk
  ·simp[Value.ownBlock] at hk
   omega
 exact {
  b:=h.b.grown hg h.b.size hob
  mem:=(hk _ _ _ h.mem (by decide)).trans h.mem
  ml:=h.ml
  mB:=h.mB
  res:=by
   obtain⟨cs,h1,h2⟩:=h.res
   exact⟨cs,(hk _ _ _ h1 (by decide)).trans h1,h2⟩
  rB:=h.rB
  inp:=h.inp
  out:=bT h.out fun g _ _ cur hc=>hk _ _ _ hc (by decide)
  stk:=ho
  regs:=fun y hy=>by
   rcases List.mem_append.1 hy with hy|hy
   ·obtain⟨h1,h2,h3⟩:=h.regs y hy
    exact⟨h1,h2,(hk _ _ _ h3 (by decide)).trans h3⟩
   ·obtain rfl:=List.mem_singleton.1 hy
    exact⟨hx1,hx2,(hk _ _ _ hx3 (by decide)).trans hx3⟩
  nd:=by
   rw[List.map_append,List.nodup_append]
   refine⟨h.nd,by simp,fun a ha c hc=>?_⟩
   obtain⟨y,hy,rfl⟩:=List.mem_map.1 ha
   simp at hc
   subst hc
   exact hx4 y hy }
theorem yL {ρ:List Int}{ar:List Int}{N n:Nat}{r:Int}(hr:ar[n]? = some r)(hN:n<N):(((ar.take n).map (rg ρ))++List.replicate (N-n) 0).set n (rg ρ r)=((ar.take (n+1)).map (rg ρ))++List.replicate (N-(n+1)) 0:=by
 have hn:n<ar.length:=(Lz hr).1
 have e1:((ar.take n).map (rg ρ)).length=n:=by simp;omega
 rw[List.set_append_right _ _ (by omega),e1,Nat.sub_self,show N-n=(N-(n+1))+1 by omega,List.replicate_succ,List.set_cons_zero,List.take_add_one,hr]
 simp
theorem RnS.aside {w0 w:World}{l:List (cU × Nat)}{E:eX}{mb rb:Nat}{iv ov sv:Value}{B:Nat}{ρ:List Int}(h:RnS w0 w l E mb rb iv ov sv)(hB:w.heap[B]? = some (lY ρ))(h0:w0.heap.size≤B)(h1:mb≠B)(h2:∀ y ∈ l,y.2≠B)(n:Nat)(v:Value):RnS w0 (w.setCell ⟨B,n,none⟩ v) l E mb rb iv ov sv where
 b:=h.b.setCell h0 _
 mem:=(heap_setCell_other w ⟨B,n,none⟩ mb _ h1).trans h.mem
 ml:=h.ml
 mB:=h.mB
 res:=by
  obtain⟨cs,h3,h4⟩:=h.res
  exact⟨cs,(heap_setCell_other w ⟨B,n,none⟩ rb _ (dO h3 hB (by decide))).trans h3,h4⟩
 rB:=h.rB
 inp:=h.inp
 out:=bT h.out fun g _ _ cur hc=>heap_setCell_other w ⟨B,n,none⟩ g _ (dO hc hB (by decide))
 stk:=bT h.stk fun g _ _ cur hc=>heap_setCell_other w ⟨B,n,none⟩ g _ (dO hc hB (by decide))
 regs:=fun y hy=>by
  obtain⟨h3,h4,h5⟩:=h.regs y hy
  exact⟨h3,h4,(heap_setCell_other w ⟨B,n,none⟩ y.2 _ (h2 y hy)).trans h5⟩
 nd:=h.nd
theorem RnS.fresh {w0 w:World}{l:List (cU × Nat)}{E:eX}{mb rb:Nat}{iv ov sv:Value}(h:RnS w0 w l E mb rb iv ov sv):mb≠w.heap.size∧∀ y ∈ l,y.2≠w.heap.size:=by
 refine⟨?_,fun y hy=>?_⟩
 ·have:=(Az h.mem).1
  omega
 ·have:=(Az (h.regs y hy).2.2).1
  omega
theorem Ok.arg {i:Ins}{R Fr:Int}{L:Nat}(h:Ok i R Fr L)(hk:i.kind=8){n:Nat}{r:Int}(hr:i.args[n]? = some r)(hn:(n:Int)<i.n):0≤r∧r<R:=by
 refine h.uses r ?_
 unfold Ins.uses
 rw[if_pos hk]
 refine List.mem_append_right _ (List.mem_append_right _ ?_)
 refine Mz (i:=n) ?_
 rw[List.getElem?_take,if_pos (by omega)]
 exact hr
theorem AO {w:World}{ib:Nat}{i:Ins}(hi:w.heap[ib]? = some i.obj){n:Nat}{r:Int}(hr:i.args[n]? = some r):w.cell? ⟨ib,7+n,none⟩=some (.int .i64 r):=by
 obtain⟨_,_,_,_,_,_,_,c7,c8,c9,c10,c11,c12,_,_⟩:=Ins.cells hi
 match n,hr with
 | 0,hr=>injection hr with hr;rw[←hr];exact c7
 | 1,hr=>injection hr with hr;rw[←hr];exact c8
 | 2,hr=>injection hr with hr;rw[←hr];exact c9
 | 3,hr=>injection hr with hr;rw[←hr];exact c10
 | 4,hr=>injection hr with hr;rw[←hr];exact c11
 | 5,hr=>injection hr with hr;rw[←hr];exact c12
 | n+6,hr=>simp[Ins.args] at hr
theorem GR (u:eH)(F G:Option Addr)(cF cG:Nat)(w0 w:World)(l:List (cU × Nat))(t:cU)(b m scap sb fb ib mb rb ub np:Nat)(i:Ins)(E:eX)(iv ov:Value)(R Fr:Int)(L:Nat)(f g:aR)(k:Nat)
  (hm:l.length=m) (hok:Ok i R Fr L) (hkd:i.kind=8) (hR:t.ρ.length=R.toNat) (hml:m≤80000)
  (hub:w.heap[ub]? = some (bD u F G cF cG)) (hRF:RdF w F u.funcs) (hul:u.funcs.length≤100000) (hfk:u.funcs[t.k]? = some f) (hfi:bV u.funcs i.text=some k) (hgk:u.funcs[k]? = some g) (hgn:g.ps=i.n) (hgps:g.ps≤g.R) (hgR:g.R≤4096) (hgF:0≤g.Fr∧g.Fr≤4096) (hfF:0≤f.Fr∧f.Fr≤4096) (hbase:0≤t.base∧t.base≤4096)
  (hS:RnS w0 w (l++[(t,b)]) E mb rb iv ov (.slice (some ⟨sb,0,none⟩) (m+1) scap)) (hf:w.heap[fb]? = some (jA t b t.ρ.length)) (hi:w.heap[ib]? = some i.obj)
  {x0 x2 x4 x5 x7 x9 x16 x17 x18 x19 x20 x21 x22 x23 x24 x25 x26 x27 x28 x29 x30 x31 x32 x33 x34 x35 x36 x37 x38 x39 x40 x41 x42 x43 x44 x45 x46 x47 x48 x49 x50 x51 x52 x53 x54 x55 x56 x57 x58 x59 x60 x61 x62 x63 x64 x65 x66 x67 x68 x69 x70 x71 x72 x73 x74 x75 x76 x77 x78 x79 x80 x81 x82 x83 x84 x85 x86 x87 x88 x89 x90 x91 x92 x93 x94 x95 x96 x97 x98 x99 xA0 xA1 xA2 xA3 xA4 xA5 xA6 xA7 xA8 xA9 xB0 xB1 xB2 xB3 xB4 xB5 xB6 xB7 xB8 xB9 xC0 xC1 xC2 xC3 xC4 xC5 xC6 xC7 xC8 xC9 xD0 xD1 xD2 xD3 xD4 xD5 xD6 xD7 xD8 xD9 xE0 xE1 xE2 xE3 xE4 xE5 xE6 xE7 xE8 xE9 xF0 xF1 xF2 xF3 xF4 xF5 xF6 xF7 xF8 xF9 xG0 xG1 xG2 xG3 xG4 xG5 xG6 xG7 xG8 xG9 xH0 xH1 xH2 xH3 xH4 xH5 xH6 xH7 xH8 xH9 xI0 xI1 xI2 xI3 xI4 xI5 xI6 xI7 xI8 xI9 xJ0 xJ1 xJ2 xJ3 xJ4 xJ5 xJ6 xJ7 xJ8 xJ9 xK0 xK1 xK2 xK3 xK4 xK5 xK6 xK7 xK8 xK9 xL0 xL1 xL2 xL3 xL4 xL5 xL6 xL7 xL8 xL9 xM0 xM1 xM2 xM3 xM4 xM5 xM6 xM7 xM8 xM9 xN0 xN1 xN2 xN3 xN4 xN5 xN6 xN7 xN8 xN9 xO0 xO1 xO2 xO3 xO4 xO5 xO6 xO7 xO8 xO9 xP0 xP1 xP2 xP3 xP4 xP5 xP6 xP7 xP8 xP9 xQ0 xQ1 xQ2 xQ3 xQ4 xQ5 xQ6 xQ7 xQ8 xQ9 xR0 xR1 xR2 xR3 xR4 xR5 xR6 xR7 xR8 xR9 xS0 xS1 xS2 xS3 xS4 xS5 xS6 xS7 xS8 xS9 xT0 xT1 xT2 xT3 xT4 xT5 xT6 xT7 xT8 xT9 xU0 xU1 xU2 xU3 xU4 xU5 xU6 xU7 xU8 xU9 xV0 xV1 xV2 xV3 xV4 xV5 xV6 xV7 xV8 xV9 xW0 xW1 xW2 xW3 xW4 xW5 xW6 xW7 xW8 xW9 xX0 xX1 xX2 xX3 xX4 xX5 xX6 xX7 xX8 xX9 xY0 xY1 xY2 xY3 xY4 xY5 xY6 xY7 xY8 xY9 xZ0 xZ1 xZ2 xZ3 xZ4 xZ5 xZ6 xZ7 xZ8 xZ9 xa0 xa1 xa2 xa3 xa4 xa5 xa6 xa7 xa8 xa9 xb0 xb1 xb2 xb3 xb4 xb5 xb6 xb7:Value} (K:Act→World→Prop) (Q:Exit→Act→World→Prop)
  (hX:∀ ⦃y16 y17 y18 y19 y20 y21 y22 y23 y24 yC2 yC3 yC4 yC5 yC6 yC7 yC8 yC9 yD0 yD1 yD2 yD3 yD4 yD5 yD6 yD7 yD8 yD9 yE0 yE1 yE2 yE3 yE4 yE5 yE6 yE7 yE8 yE9 yF0 yF1 yF2 yF3 yF4 yF5 yF6 yF7 yF8 yF9 yG0 yG1 yG2 yG3 yG4 yG5 yG6 yG7 yG8 yG9 yH0 yH1 yH2 yH3 yH4 yH5 yH6 yH7 yH8 yH9 yI0 yI1 yI2 yI3 yI4 yI5 yI6 yI7 yI8 yI9 yJ0 yJ1 yJ2 yJ3 yJ4 yJ5 yJ6 yJ7 yJ8 yJ9 yK0 yK1 yK2 yK3 yK4 yK5 yK6 yK7 yK8 yK9 yL0 yL1 yL2 yL3 yL4 yL5 yL6 yL7 yL8 yL9 yM0 yM1 yM2 yM3 yM4 yM5 yM6 yM7 yM8 yM9 yN0 yN1 yN2 yN3 yN4 yN5 yN6 yN7 yN8 yN9 yO0 yO1 yO2 yO3 yO4 yO5 yO6 yO7 yO8 yO9 yP0 yP1 yP2 yP3 yP4 yP5 yP6 yP7 yP8 yP9 yQ0 yQ1 yQ2 yQ3 yQ4 yQ5 yQ6 yQ7 yQ8 yQ9 yR0 yR1 yR2 yR3 yR4 yR5 yR6 yR7 yR8 yR9 yS0 yS1 yS2 yS3 yS4 yS5 yS6 yS7 yS8 yS9 yT0 yT1 yT2 yT3 yT4 yT5 yT6 yT7 yT8 yT9 yU0 yU1 yU2 yU3 yU4 yU5 yU6 yU7 yU8 yU9 yV0 yV1 yV2 yV3 yV4 yV5 yV6 yV7 yV8 yV9 yW0 yW1 yW2 yW3 yW4 yW5 yW6 yW7 yW8 yW9 yX0 yX1 yX2 yX3 yX4 yX5 yX6 yX7 yX8 yX9 yY0 yY1 yY2 yY3 yY4 yY5 yY6 yY7 yY8 yY9 yZ0 yZ1 yZ2 yZ3 yZ4 yZ5 yZ6 yZ7 yZ8 yZ9 z14 z15:Value⦄ (w':World) (sv':Value) (b':Nat),¬ 4096<t.base+f.Fr+g.Fr→RnS w0 w' ((l++[({ t with p:=np },b)])++[(⟨k,t.base+f.Fr,0,i.dst,((i.args.take i.n.toNat).map (rg t.ρ))++List.replicate (g.R.toNat-i.n.toNat) 0⟩,b')]) E mb rb iv ov sv'→Q (.exit 3) ⟨(x0::iv::x2::.pointer (some ⟨ub,0,none⟩)::x4::x5::.pointer (some ⟨rb,0,none⟩)::x7::.slice (some ⟨mb,0,none⟩) 4096 4096::x9::ov::sv'::.pointer (some ⟨fb,0,none⟩)::.pointer (some ⟨ib,0,none⟩)::z14::z15::y16::y17::y18::y19::y20::y21::y22::y23::y24::x25::x26::x27::x28::x29::x30::x31::x32::x33::x34::x35::x36::x37::x38::x39::x40::x41::x42::x43::x44::x45::x46::x47::x48::x49::x50::x51::x52::x53::x54::x55::x56::x57::x58::x59::x60::x61::x62::x63::x64::x65::x66::x67::x68::x69::x70::x71::x72::x73::x74::x75::x76::x77::x78::x79::x80::x81::x82::x83::x84::x85::x86::x87::x88::x89::x90::x91::x92::x93::x94::x95::x96::x97::x98::x99::xA0::xA1::xA2::xA3::xA4::xA5::xA6::xA7::xA8::xA9::xB0::xB1::xB2::xB3::xB4::xB5::xB6::xB7::xB8::xB9::xC0::xC1::yC2::yC3::yC4::yC5::yC6::yC7::yC8::yC9::yD0::yD1::yD2::yD3::yD4::yD5::yD6::yD7::yD8::yD9::yE0::yE1::yE2::yE3::yE4::yE5::yE6::yE7::yE8::yE9::yF0::yF1::yF2::yF3::yF4::yF5::yF6::yF7::yF8::yF9::yG0::yG1::yG2::yG3::yG4::yG5::yG6::yG7::yG8::yG9::yH0::yH1::yH2::yH3::yH4::yH5::yH6::yH7::yH8::yH9::yI0::yI1::yI2::yI3::yI4::yI5::yI6::yI7::yI8::yI9::yJ0::yJ1::yJ2::yJ3::yJ4::yJ5::yJ6::yJ7::yJ8::yJ9::yK0::yK1::yK2::yK3::yK4::yK5::yK6::yK7::yK8::yK9::yL0::yL1::yL2::yL3::yL4::yL5::yL6::yL7::yL8::yL9::yM0::yM1::yM2::yM3::yM4::yM5::yM6::yM7::yM8::yM9::yN0::yN1::yN2::yN3::yN4::yN5::yN6::yN7::yN8::yN9::yO0::yO1::yO2::yO3::yO4::yO5::yO6::yO7::yO8::yO9::yP0::yP1::yP2::yP3::yP4::yP5::yP6::yP7::yP8::yP9::yQ0::yQ1::yQ2::yQ3::yQ4::yQ5::yQ6::yQ7::yQ8::yQ9::yR0::yR1::yR2::yR3::yR4::yR5::yR6::yR7::yR8::yR9::yS0::yS1::yS2::yS3::yS4::yS5::yS6::yS7::yS8::yS9::yT0::yT1::yT2::yT3::yT4::yT5::yT6::yT7::yT8::yT9::yU0::yU1::yU2::yU3::yU4::yU5::yU6::yU7::yU8::yU9::yV0::yV1::yV2::yV3::yV4::yV5::yV6::yV7::yV8::yV9::yW0::yW1::yW2::yW3::yW4::yW5::yW6::yW7::yW8::yW9::yX0::yX1::yX2::yX3::yX4::yX5::yX6::yX7::yX8::yX9::yY0::yY1::yY2::yY3::yY4::yY5::yY6::yY7::yY8::yY9::yZ0::yZ1::yZ2::yZ3::yZ4::yZ5::yZ6::yZ7::yZ8::yZ9::xa0::xa1::xa2::xa3::xa4::xa5::xa6::xa7::xa8::xa9::xb0::xb1::xb2::xb3::xb4::xb5::xb6::xb7::[]).toArray,[]⟩ w')
  (hF:∀ ⦃y16 y17 y18 y19 y20 y21 y22 y23 y24 yC2 yC3 yC4 yC5 yC6 yC7 yC8 yC9 yD0 yD1 yD2 yD3 yD4 yD5 yD6 yD7 yD8 yD9 yE0 yE1 yE2 yE3 yE4 yE5 yE6 yE7 yE8 yE9 yF0 yF1 yF2 yF3 yF4 yF5 yF6 yF7 yF8 yF9 yG0 yG1 yG2 yG3 yG4 yG5 yG6 yG7 yG8 yG9 yH0 yH1 yH2 yH3 yH4 yH5 yH6 yH7 yH8 yH9 yI0 yI1 yI2 yI3 yI4 yI5 yI6 yI7 yI8 yI9 yJ0 yJ1 yJ2 yJ3 yJ4 yJ5 yJ6 yJ7 yJ8 yJ9 yK0 yK1 yK2 yK3 yK4 yK5 yK6 yK7 yK8 yK9 yL0 yL1 yL2 yL3 yL4 yL5 yL6 yL7 yL8 yL9 yM0 yM1 yM2 yM3 yM4 yM5 yM6 yM7 yM8 yM9 yN0 yN1 yN2 yN3 yN4 yN5 yN6 yN7 yN8 yN9 yO0 yO1 yO2 yO3 yO4 yO5 yO6 yO7 yO8 yO9 yP0 yP1 yP2 yP3 yP4 yP5 yP6 yP7 yP8 yP9 yQ0 yQ1 yQ2 yQ3 yQ4 yQ5 yQ6 yQ7 yQ8 yQ9 yR0 yR1 yR2 yR3 yR4 yR5 yR6 yR7 yR8 yR9 yS0 yS1 yS2 yS3 yS4 yS5 yS6 yS7 yS8 yS9 yT0 yT1 yT2 yT3 yT4 yT5 yT6 yT7 yT8 yT9 yU0 yU1 yU2 yU3 yU4 yU5 yU6 yU7 yU8 yU9 yV0 yV1 yV2 yV3 yV4 yV5 yV6 yV7 yV8 yV9 yW0 yW1 yW2 yW3 yW4 yW5 yW6 yW7 yW8 yW9 yX0 yX1 yX2 yX3 yX4 yX5 yX6 yX7 yX8 yX9 yY0 yY1 yY2 yY3 yY4 yY5 yY6 yY7 yY8 yY9 yZ0 yZ1 yZ2 yZ3 yZ4 yZ5 yZ6 yZ7 yZ8 yZ9 sv' z14 z15:Value⦄ (w':World),4096<t.base+f.Fr+g.Fr→IT w0 w' rb ⟨3,0,E.out⟩→Q .ret ⟨(x0::iv::x2::.pointer (some ⟨ub,0,none⟩)::x4::x5::.pointer (some ⟨rb,0,none⟩)::x7::.slice (some ⟨mb,0,none⟩) 4096 4096::x9::ov::sv'::.pointer (some ⟨fb,0,none⟩)::.pointer (some ⟨ib,0,none⟩)::z14::z15::y16::y17::y18::y19::y20::y21::y22::y23::y24::x25::x26::x27::x28::x29::x30::x31::x32::x33::x34::x35::x36::x37::x38::x39::x40::x41::x42::x43::x44::x45::x46::x47::x48::x49::x50::x51::x52::x53::x54::x55::x56::x57::x58::x59::x60::x61::x62::x63::x64::x65::x66::x67::x68::x69::x70::x71::x72::x73::x74::x75::x76::x77::x78::x79::x80::x81::x82::x83::x84::x85::x86::x87::x88::x89::x90::x91::x92::x93::x94::x95::x96::x97::x98::x99::xA0::xA1::xA2::xA3::xA4::xA5::xA6::xA7::xA8::xA9::xB0::xB1::xB2::xB3::xB4::xB5::xB6::xB7::xB8::xB9::xC0::xC1::yC2::yC3::yC4::yC5::yC6::yC7::yC8::yC9::yD0::yD1::yD2::yD3::yD4::yD5::yD6::yD7::yD8::yD9::yE0::yE1::yE2::yE3::yE4::yE5::yE6::yE7::yE8::yE9::yF0::yF1::yF2::yF3::yF4::yF5::yF6::yF7::yF8::yF9::yG0::yG1::yG2::yG3::yG4::yG5::yG6::yG7::yG8::yG9::yH0::yH1::yH2::yH3::yH4::yH5::yH6::yH7::yH8::yH9::yI0::yI1::yI2::yI3::yI4::yI5::yI6::yI7::yI8::yI9::yJ0::yJ1::yJ2::yJ3::yJ4::yJ5::yJ6::yJ7::yJ8::yJ9::yK0::yK1::yK2::yK3::yK4::yK5::yK6::yK7::yK8::yK9::yL0::yL1::yL2::yL3::yL4::yL5::yL6::yL7::yL8::yL9::yM0::yM1::yM2::yM3::yM4::yM5::yM6::yM7::yM8::yM9::yN0::yN1::yN2::yN3::yN4::yN5::yN6::yN7::yN8::yN9::yO0::yO1::yO2::yO3::yO4::yO5::yO6::yO7::yO8::yO9::yP0::yP1::yP2::yP3::yP4::yP5::yP6::yP7::yP8::yP9::yQ0::yQ1::yQ2::yQ3::yQ4::yQ5::yQ6::yQ7::yQ8::yQ9::yR0::yR1::yR2::yR3::yR4::yR5::yR6::yR7::yR8::yR9::yS0::yS1::yS2::yS3::yS4::yS5::yS6::yS7::yS8::yS9::yT0::yT1::yT2::yT3::yT4::yT5::yT6::yT7::yT8::yT9::yU0::yU1::yU2::yU3::yU4::yU5::yU6::yU7::yU8::yU9::yV0::yV1::yV2::yV3::yV4::yV5::yV6::yV7::yV8::yV9::yW0::yW1::yW2::yW3::yW4::yW5::yW6::yW7::yW8::yW9::yX0::yX1::yX2::yX3::yX4::yX5::yX6::yX7::yX8::yX9::yY0::yY1::yY2::yY3::yY4::yY5::yY6::yY7::yY8::yY9::yZ0::yZ1::yZ2::yZ3::yZ4::yZ5::yZ6::yZ7::yZ8::yZ9::xa0::xa1::xa2::xa3::xa4::xa5::xa6::xa7::xa8::xa9::xb0::xb1::xb2::xb3::xb4::xb5::xb6::xb7::[]).toArray,[]⟩ w') :
  Code.wp Try.prog AN (Exit.then K Q) ⟨(x0::iv::x2::.pointer (some ⟨ub,0,none⟩)::x4::x5::.pointer (some ⟨rb,0,none⟩)::x7::.slice (some ⟨mb,0,none⟩) 4096 4096::x9::ov::.slice (some ⟨sb,0,none⟩) (m+1) scap::.pointer (some ⟨fb,0,none⟩)::.pointer (some ⟨ib,0,none⟩)::.int .i64 (np:Int)::.int .i64 0::x16::x17::x18::x19::x20::x21::x22::x23::x24::x25::x26::x27::x28::x29::x30::x31::x32::x33::x34::x35::x36::x37::x38::x39::x40::x41::x42::x43::x44::x45::x46::x47::x48::x49::x50::x51::x52::x53::x54::x55::x56::x57::x58::x59::x60::x61::x62::x63::x64::x65::x66::x67::x68::x69::x70::x71::x72::x73::x74::x75::x76::x77::x78::x79::x80::x81::x82::x83::x84::x85::x86::x87::x88::x89::x90::x91::x92::x93::x94::x95::x96::x97::x98::x99::xA0::xA1::xA2::xA3::xA4::xA5::xA6::xA7::xA8::xA9::xB0::xB1::xB2::xB3::xB4::xB5::xB6::xB7::xB8::xB9::xC0::xC1::xC2::xC3::xC4::xC5::xC6::xC7::xC8::xC9::xD0::xD1::xD2::xD3::xD4::xD5::xD6::xD7::xD8::xD9::xE0::xE1::xE2::xE3::xE4::xE5::xE6::xE7::xE8::xE9::xF0::xF1::xF2::xF3::xF4::xF5::xF6::xF7::xF8::xF9::xG0::xG1::xG2::xG3::xG4::xG5::xG6::xG7::xG8::xG9::xH0::xH1::xH2::xH3::xH4::xH5::xH6::xH7::xH8::xH9::xI0::xI1::xI2::xI3::xI4::xI5::xI6::xI7::xI8::xI9::xJ0::xJ1::xJ2::xJ3::xJ4::xJ5::xJ6::xJ7::xJ8::xJ9::xK0::xK1::xK2::xK3::xK4::xK5::xK6::xK7::xK8::xK9::xL0::xL1::xL2::xL3::xL4::xL5::xL6::xL7::xL8::xL9::xM0::xM1::xM2::xM3::xM4::xM5::xM6::xM7::xM8::xM9::xN0::xN1::xN2::xN3::xN4::xN5::xN6::xN7::xN8::xN9::xO0::xO1::xO2::xO3::xO4::xO5::xO6::xO7::xO8::xO9::xP0::xP1::xP2::xP3::xP4::xP5::xP6::xP7::xP8::xP9::xQ0::xQ1::xQ2::xQ3::xQ4::xQ5::xQ6::xQ7::xQ8::xQ9::xR0::xR1::xR2::xR3::xR4::xR5::xR6::xR7::xR8::xR9::xS0::xS1::xS2::xS3::xS4::xS5::xS6::xS7::xS8::xS9::xT0::xT1::xT2::xT3::xT4::xT5::xT6::xT7::xT8::xT9::xU0::xU1::xU2::xU3::xU4::xU5::xU6::xU7::xU8::xU9::xV0::xV1::xV2::xV3::xV4::xV5::xV6::xV7::xV8::xV9::xW0::xW1::xW2::xW3::xW4::xW5::xW6::xW7::xW8::xW9::xX0::xX1::xX2::xX3::xX4::xX5::xX6::xX7::xX8::xX9::xY0::xY1::xY2::xY3::xY4::xY5::xY6::xY7::xY8::xY9::xZ0::xZ1::xZ2::xZ3::xZ4::xZ5::xZ6::xZ7::xZ8::xZ9::xa0::xa1::xa2::xa3::xa4::xa5::xa6::xa7::xa8::xa9::xb0::xb1::xb2::xb3::xb4::xb5::xb6::xb7::[]).toArray,[]⟩ w:=by
 conv=>arg 2;whnf
 have HX:=Hz hX
 have HF:=Hz hF
 have HS:=Hz hS
 have HFB:=Hz hf
 have HIB:=Hz hi
 obtain⟨f0,f1,f2,f3,f4⟩:=cC hf
 obtain⟨c0,c1,c2,c3,c4,c5,c6,c7,c8,c9,c10,c11,c12,c13,c14⟩:=Ins.cells hi
 obtain⟨n,hn⟩:∃ n,t.ρ.length=n:=⟨_,rfl⟩
 rw[hn] at f4 hR
 have hcl:=hok.call hkd
 obtain⟨nn,hnn⟩:∃ nn:Nat,i.n=nn:=⟨i.n.toNat,by omega⟩
 obtain⟨gr,hgr⟩:∃ gr:Nat,g.R=gr:=⟨g.R.toNat,by omega⟩
 have hnn6:nn≤6:=by omega
 have hnng:nn≤gr:=by omega
 have hgr4:gr≤4096:=by omega
 have HRHO:Hid (((i.args.take i.n.toNat).map (rg t.ρ))++List.replicate (g.R.toNat-i.n.toNat) 0=(((i.args.take nn).map (rg t.ρ))++List.replicate (gr-nn) 0)):=Hz (by rw[hnn,hgr];rfl)
 have hfind:=fun W h=>oQ u F G cF cG i.text hul W h
 simp only[cK] at hfind
 simp only[bD] at hub
 obtain⟨N,hN⟩:∃ N,u.funcs.length=N:=⟨_,rfl⟩
 obtain⟨M,hM⟩:∃ M,u.globs.length=M:=⟨_,rfl⟩
 rw[hN,hM] at hub
 simp only[hN,hM] at hfind
 rw[iB hfi] at hfind
 have hkN:k<N:=by rw[←hN];exact (Lz hgk).1
 have htN:t.k<N:=by rw[←hN];exact (Lz hfk).1
 rw[hN] at hul
 have u0:=aA hub 0 (.slice F N cF) rfl
 have u1:=aA hub 1 (.slice G M cG) rfl
 have u2:=aA hub 2 (.int .i64 u.top) rfl
 have HUB:=Hz hub
 have HRF:=Hz hRF
 have HFIND:=Hz hfind
 have HGK:=Hz hgk
 have HFK:=Hz hfk
 have HOK:=Hz hok
 have HN:=Hz hn
 have HR:=Hz hR
 have HM:=Hz hm
 have HKD:=Hz hkd
 have HNN:=Hz hnn
 rw[hkd] at c0
 clear hX hF hS hf hi hok hR hm hn hkd hub hRF hfk hfi hgk hgn hgps hgR hcl hnn hN hM hfind
 go_wp2_with fail
 refine (HFIND.out _ HRF.out).mono ?_
 rintro e w1 ⟨rfl,hb1⟩
 dsimp only
 have HRF1:=Hz (HRF.out.below hb1)
 have HUB1:=Hz ((hb1.block _ (Az HUB.out).1).trans HUB.out)
 have HFB1:=Hz ((hb1.block _ (Az HFB.out).1).trans HFB.out)
 have HIB1:=Hz ((hb1.block _ (Az HIB.out).1).trans HIB.out)
 have HS1:=Hz (HS.out.later hb1)
 have v0:=aA HUB1.out 0 (.slice F N cF) rfl
 obtain⟨b',o',C',cap',rfl,hbl',hcs',_⟩:=HRF1.out k g HGK.out
 obtain⟨b2,o2,C2,cap2,hF2,hbl2,hcs2,_⟩:=HRF1.out t.k f HFK.out
 injection hF2 with hF2
 injection hF2 with h1 h2
 subst h1 h2
 obtain⟨gx0,gx1,gx2,gx3,gx4⟩:=cX hcs'
 rw[hgr] at gx2
 obtain⟨LC,hLC⟩:∃ LC,g.code.length=LC:=⟨_,rfl⟩
 rw[hLC] at gx4
 have hB2:=Below.one w1 (.cells #[.string g.nm,.int .i64 g.ps,.int .i64 (gr:Int),.int .i64 g.Fr,.slice C' LC cap'] 24)
 have hk2:=heap_alloc_new w1 (.cells #[.string g.nm,.int .i64 g.ps,.int .i64 (gr:Int),.int .i64 g.Fr,.slice C' LC cap'] 24)
 have HS2:=Hz (HS1.out.later hB2)
 have HFB2:=Hz (aC HFB1.out (.cells #[.string g.nm,.int .i64 g.ps,.int .i64 (gr:Int),.int .i64 g.Fr,.slice C' LC cap'] 24))
 have HIB2:=Hz (aC HIB1.out (.cells #[.string g.nm,.int .i64 g.ps,.int .i64 (gr:Int),.int .i64 g.Fr,.slice C' LC cap'] 24))
 have HUB2:=Hz (aC HUB1.out (.cells #[.string g.nm,.int .i64 g.ps,.int .i64 (gr:Int),.int .i64 g.Fr,.slice C' LC cap'] 24))
 have HK2:=Hz hk2
 have HX2:=Hz ((hB2.cell (p:=⟨b',o'+t.k*5+3,none⟩) hbl').trans (cX hcs2).2.2.2.1)
 clear u0 u1 u2 hb1 c0 c1 c2 c3 c4 c5 c6 c7 c8 c9 c10 c11 c12 c13 c14 f0 f1 f2 f3 f4 hcs' hcs2 hB2 hk2
 obtain⟨f0,f1,f2,f3,f4⟩:=cC HFB1.out
 have zu:ub≠w1.heap.size:=Nat.ne_of_lt (Az HUB1.out).1
 have zf:fb≠w1.heap.size:=Nat.ne_of_lt (Az HFB1.out).1
 go_wp2
 clear gx0 gx1 gx2 gx3 gx4 v0 f0 f1 f2 f3 f4 zu zf
 have hz2:(w1.alloc (.cells #[.string g.nm,.int .i64 g.ps,.int .i64 (gr:Int),.int .i64 g.Fr,.slice C' LC cap'] 24)).heap.size=w1.heap.size+1:=by simp
 generalize w1.alloc (.cells #[.string g.nm,.int .i64 g.ps,.int .i64 (gr:Int),.int .i64 g.Fr,.slice C' LC cap'] 24)=w2 at *
 have gx23:=HX2.out
 obtain⟨f0,f1,f2,f3,f4⟩:=cC HFB2.out
 have v0:=aA HUB2.out 0 (.slice (some ⟨b',o',none⟩) N cF) rfl
 go_quiet (fail)
 have hbc:Below w2.heap.size w2 (w2.drewN nq):=⟨rfl,rfl,rfl,Nat.le_refl _,fun _ _=>rfl⟩
 generalize w2.drewN nq=wc at *
 have HS3:=Hz (HS2.out.later hbc)
 have HFB3:=Hz ((hbc.block _ (Az HFB2.out).1).trans HFB2.out)
 have HIB3:=Hz ((hbc.block _ (Az HIB2.out).1).trans HIB2.out)
 have hk3:=(hbc.block _ (Az HK2.out).1).trans HK2.out
 have gy2:=aA hk3 2 (.int .i64 (gr:Int)) rfl
 have gy3:=aA hk3 3 (.int .i64 g.Fr) rfl
 clear f0 f1 f2 f3 f4 v0 gx23 hk3 hbc hz2
 by_cases hov2:4096<t.base+f.Fr+g.Fr
 ·as_aux_lemma =>
  have q1:decide (t.base+f.Fr+g.Fr>4096)=true:=by simpa using hov2
  have q2:decide (4096<t.base+f.Fr+g.Fr)=true:=by simpa using hov2
  obtain⟨oA,oc,hov,hfin⟩:=HS3.out.told 3 0
  obtain⟨cs,hres,hsz⟩:=HS3.out.res
  have HFN:=Hz hfin
  have HOV:=Hz hov2
  clear hfin hov2
  subst hov
  go_wp2_with (first
   |(show wpList Try.prog _ _ (⟨none,.store _ (.tmp 6) _,_,_,_,_⟩::_) _ _;refine wpList_store_row rfl 49 (.tmp 6) (.tmp 246) rfl rb #[.int .i64 3,.int .i64 0,.slice oA E.out.length oc] rfl rfl 49 _ hres zO hsz (eB _ _ _ _ _) ?_))
  exact HF.out _ HOV.out HFN.out
 ·have q1:decide (t.base+f.Fr+g.Fr>4096)=false:=by simpa using hov2
  have q2:decide (4096<t.base+f.Fr+g.Fr)=false:=by simpa using hov2
  have HOV:=Hz hov2
  have hmk:=fun W=>mA gr (by omega) W
  obtain⟨c0,c1,c2,c3,c4,c5,c6,c7,c8,c9,c10,c11,c12,c13,c14⟩:=Ins.cells HIB3.out
  rw[HNN.out] at c5
  have HS4:=Hz (HS3.out.later (Below.one wc (.cells (madeCells #[.int .i64 0] gr) 3)))
  have HFB4:=Hz (aC HFB3.out (.cells (madeCells #[.int .i64 0] gr) 3))
  have HIB4:=Hz (aC HIB3.out (.cells (madeCells #[.int .i64 0] gr) 3))
  have HRB4:=Hz ((heap_alloc_new wc (.cells (madeCells #[.int .i64 0] gr) 3)).trans (congrArg some (mC gr)))
  have HFR:=Hz HS3.out.fresh
  have HWB:Hid (w0.heap.size≤wc.heap.size):=Hz HS3.out.b.size
  clear hov2
  go_wp2
  clear hmk c0 c1 c2 c3 c4 c5 c6 c7 c8 c9 c10 c11 c12 c13 c14 gy2 gy3
  go_loopw [24] (fun ix wr=>∃ n:Nat,n≤nn∧ix = .int .i64 n∧RnS w0 wr (l++[(t,b)]) E mb rb iv ov (.slice (some ⟨sb,0,none⟩) (m+1) scap)∧wr.heap[fb]? = some (jA t b t.ρ.length)∧wr.heap[ib]? = some i.obj∧wr.heap[wc.heap.size]? = some (lY (((i.args.take n).map (rg t.ρ))++List.replicate (gr-n) 0))) (fun ix _=>nn-(intOf ix).toNat)
  case atStart=>exact⟨0,by omega,rfl,HS4.out,HFB4.out,HIB4.out,by simpa using HRB4.out⟩
  case round =>
   obtain⟨j,hj,rfl,hs,hfb,hib,hrb⟩:=hrel
   have HSr:=Hz hs
   have HFBr:=Hz hfb
   have HIBr:=Hz hib
   have HRBr:=Hz hrb
   obtain⟨c0,c1,c2,c3,c4,c5,c6,c7,c8,c9,c10,c11,c12,c13,c14⟩:=Ins.cells hib
   obtain⟨f0,f1,f2,f3,f4⟩:=cC hfb
   rw[HN.out] at f4
   rw[HNN.out] at c5
   clear hs hfb
   by_cases hlt:j<nn
   ·as_aux_lemma =>
    obtain⟨r,hr⟩:∃ r,i.args[j]? = some r:=⟨_,List.getElem?_eq_getElem (by simp[Ins.args];omega)⟩
    obtain⟨hr0,hrR⟩:=HOK.out.arg HKD.out hr (by rw[HNN.out];omega)
    obtain⟨ra,hra⟩:∃ ra:Nat,r=ra:=⟨r.toNat,by omega⟩
    subst hra
    have ca:=AO hib hr
    have hran:ra<n:=by have:=HR.out;omega
    have hrv:=(HSr.out.regs (t,b) (by simp)).2.2
    have r0:=bZ hrv (r:=ra) (by rw[HN.out];exact hran)
    obtain⟨av,hav⟩:∃ av,rg t.ρ (ra:Int)=av:=⟨_,rfl⟩
    simp only at r0
    rw[show t.ρ.getD ra 0=av from hav] at r0
    have hst:=yL (ρ:=t.ρ) hr (show j<gr by omega)
    rw[hav] at hst
    have zb:=aK hrb j
    have zc:=bZ hrb (r:=j) (by simp[Ins.args];omega)
    have HST:=Hz hst
    clear hst hrv hib hrb hr hav c7 c8 c9 c10 c11 c12
    go_wp2
    go_region
    go_wp2
    refine⟨⟨j+1,by omega,by go_num,((HSr.out.aside HRBr.out HWB.out HFR.out.1 HFR.out.2 j _).later (Below.refl _ _).drew),?_,?_,?_⟩,by simp[intOf];omega⟩
    ·exact (heap_setCell_other wr ⟨wc.heap.size,j,none⟩ fb _ (dO HFBr.out HRBr.out (by decide))).trans HFBr.out
    ·exact (heap_setCell_other wr ⟨wc.heap.size,j,none⟩ ib _ (dO HIBr.out HRBr.out (by decide))).trans HIBr.out
    ·have h:=oT HRBr.out j av
     rw[HST.out] at h
     exact h
   ·as_aux_lemma =>
    obtain rfl:j=nn:=by omega
    obtain⟨⟨cur,hsb⟩,_,_,s2,_,_⟩:=HSr.out.top HM.out
    have zs:=aK hsb (m*5+2)
    have hibs:ib≠sb:=dO HIBr.out hsb (by decide)
    have hsbi:sb≠ib:=Ne.symm hibs
    have hA:=HSr.out.at_set HM.out np
    have HA:=Hz hA
    have hrl:(((i.args.take j).map (rg t.ρ))++List.replicate (gr-j) 0).length=gr:=by simp[Ins.args];omega
    have hsz5:(wr.setCell ⟨sb,m*5+2,none⟩ (.int .i64 (np:Int))).heap.size=wr.heap.size:=by simp
    have hA2:=fun o=>eY HA.out.stk (Below.one (wr.setCell ⟨sb,m*5+2,none⟩ (.int .i64 (np:Int))) o)
    have HA2:=Hz hA2
    have HRL:=Hz hrl
    have hgn':∀ (q:Nat),q=gr→((wr.setCell ⟨sb,m*5+2,none⟩ (.int .i64 (np:Int))).alloc (.cells #[.int .i64 (k:Int),.int .i64 (t.base+f.Fr),.int .i64 0,.int .i64 i.dst,.slice (some ⟨wc.heap.size,0,none⟩) gr gr] 84)).heap[wr.heap.size]? = some (.cells #[.int .i64 (k:Int),.int .i64 (t.base+f.Fr),.int .i64 0,.int .i64 i.dst,.slice (some ⟨wc.heap.size,0,none⟩) q q] 84):=fun q hq=>by
     subst hq
     rw[←hsz5]
     exact heap_alloc_new _ _
    have hwb2:w0.heap.size≤wr.heap.size:=HSr.out.b.size
    have hlm:=HM.out
    clear hA hA2 hrl hib hrb c7 c8 c9 c10 c11 c12
    go_wp2_with (first
     |(show wpList Try.prog _ _ (⟨some 282,.call _,_,_,_,_⟩::_) _ _;refine rT (o:=⟨some 282,_,_,_,_,_⟩) rfl (.tmp 274) (.tmp 281) rfl w0.heap.size (.slice (some ⟨sb,0,none⟩) (m+1) scap) (l++[({ t with p:=np },b)]) rfl (HA2.out _) wr.heap.size (⟨k,t.base+f.Fr,0,i.dst,((i.args.take j).map (rg t.ρ))++List.replicate (gr-j) 0⟩,wc.heap.size) rfl (hgn' _ HRL.out) (by simp;omega) (by simp;omega) ?_;intro V' w' hO hG))
    refine HX.out _ _ wc.heap.size HOV.out ?_
    rw[HRHO.out]
    refine ((HA.out.later (Below.one _ _)).push hG hO HWB.out HFR.out.1.symm ?_ fun y hy=>?_)
    ·exact aC ((heap_setCell_other wr ⟨sb,m*5+2,none⟩ wc.heap.size _ (dO HRBr.out hsb (by decide))).trans HRBr.out) _
    ·rcases List.mem_append.1 hy with hy|hy
     ·exact HFR.out.2 y (List.mem_append_left _ hy)
     ·obtain rfl:=List.mem_singleton.1 hy
      exact HFR.out.2 (t,b) (by simp)
end Go.Proofs.Ytkcclefonmnpnaa
