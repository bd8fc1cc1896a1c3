import Derived.Deep.CutRange
import Derived.StillTailTactics
import Derived.RegionTactic
import Derived.BigRegion
import Derived.ChangeAlike
import Derived.Test.YthbcdckonaljiaaZg2
namespace Go.Proofs.Ythbcdckonaljiaa
open Go.RowKit Go.BigFrame
noncomputable def loop3:Code:=((((Try.f9.body).map loopsOf).getD [])[2]?).getD .skip
noncomputable def loop4:Code:=((loopsOf (inLoop loop3))[0]?).getD .skip
noncomputable def loop5:Code:=((loopsOf (inLoop loop4))[0]?).getD .skip
def part (old u:List Vl)(r:Nat):List Vl:=(jrow old u).take r++old.drop r
theorem part_zero (old u:List Vl):part old u 0=old:=by simp [part]
theorem part_all {old u:List Vl}{R:Nat}(h1:old.length=R)(h2:u.length=R):part old u R=jrow old u:=by
  unfold part
  rw [List.take_of_length_le (by rw [jrow_len h1 h2]; omega),List.drop_eq_nil_of_le (by omega),List.append_nil]
theorem part_at {old u:List Vl}{R r j:Nat}(h1:old.length=R)(h2:u.length=R)(hr:r≤R):(part old u r)[j]? = if j < r then (jrow old u)[j]? else old[j]?:=by
  unfold part
  have hl:=jrow_len h1 h2
  by_cases hj:j < r
  · rw [if_pos hj,List.getElem?_append_left (by rw [List.length_take]; omega),List.getElem?_take,if_pos hj]
  · rw [if_neg hj,List.getElem?_append_right (by rw [List.length_take]; omega),List.getElem?_drop]
    congr 1
    rw [List.length_take]
    omega
theorem jrow_get {old u:List Vl}{R r:Nat}(h1:old.length=R)(h2:u.length=R)(hr:r < R):(jrow old u)[r]? = some (join (at_ old r) (at_ u r)):=by
  have h:=jrow_at h1 h2 r
  rw [← h,at_in (by rw [jrow_len h1 h2]; exact hr)]
  simp
theorem old_get {old:List Vl}{R r:Nat}(h1:old.length=R)(hr:r < R):old[r]? = some (at_ old r):=by rw [at_in (by omega)]; simp
theorem part_get {old u:List Vl}{R r:Nat}(h1:old.length=R)(h2:u.length=R)(hr:r < R):(part old u r)[r]? = some (at_ old r):=by
  rw [part_at h1 h2 (by omega),if_neg (Nat.lt_irrefl r),old_get h1 hr]
theorem part_set {old u:List Vl}{R r:Nat}(h1:old.length=R)(h2:u.length=R)(hr:r < R):(part old u r).set r (join (at_ old r) (at_ u r))=part old u (r + 1):=by
  apply List.ext_getElem?
  intro j
  have hlr:=(List.getElem?_eq_some_iff.1 (part_get h1 h2 hr)).1
  rw [List.getElem?_set,part_at h1 h2 (by omega),part_at h1 h2 (by omega)]
  by_cases hj:r=j
  · subst hj
    rw [if_pos rfl,if_pos hlr,if_pos (Nat.lt_succ_self r),jrow_get h1 h2 hr]
  · rw [if_neg hj]
    by_cases h3:j < r
    · rw [if_pos h3,if_pos (by omega)]
    · rw [if_neg h3,if_neg (by omega)]
theorem part_ne {old u:List Vl} {R r:Nat} (h1:old.length=R) (h2:u.length=R) (hr:r < R):decide (part old u (r + 1)≠old)=(decide (part old u r≠old) || !decide (join (at_ old r) (at_ u r)=at_ old r)):=by
  rw [← part_set h1 h2 hr]
  have hg:=part_get h1 h2 hr
  have ho:=old_get h1 hr
  have hlr:=(List.getElem?_eq_some_iff.1 hg).1
  rw [Bool.eq_iff_iff]
  simp only [ne_eq,decide_not,Bool.not_eq_true',decide_eq_false_iff_not,Bool.or_eq_true]
  constructor
  · intro h
    by_cases e:part old u r=old
    · right
      intro e2
      apply h
      rw [e2,e]
      apply List.ext_getElem?
      intro j
      rw [List.getElem?_set]
      by_cases hj:r=j
      · subst hj; rw [if_pos rfl,if_pos (by omega),ho]
      · rw [if_neg hj]
    · exact Or.inl e
  · intro h e
    have e2:join (at_ old r) (at_ u r)=at_ old r:=by
      have:=congrArg (fun l=>l[r]?) e
      simp only [List.getElem?_set_self hlr] at this
      rw [ho] at this
      injection this
    rcases h with h | h
    · apply h
      apply List.ext_getElem?
      intro j
      by_cases hj:r=j
      · subst hj; rw [hg,ho]
      · have:=congrArg (fun l=>l[j]?) e
        simp only [List.getElem?_set_ne hj] at this
        exact this
    · exact h e2
structure But (q:Nat)(W W':World):Prop where
  below:Below q W W'
  same:∀ b,b < W.heap.size→b≠q→W'.heap[b]? = W.heap[b]?
theorem But.refl (q:Nat)(W:World):But q W W:=⟨Below.refl _ _,fun _ _ _=>rfl⟩
theorem But.later {q:Nat}{W W1 W2:World}(h:But q W W1)(hq:q≤W1.heap.size)(hb:Below W1.heap.size W1 W2):But q W W2 :=
  ⟨h.below.trans (hb.mono hq),fun b h1 h2=>(hb.block b (Nat.lt_of_lt_of_le h1 h.below.size)).trans (h.same b h1 h2)⟩
theorem But.set {q:Nat}{W W1:World}(h:But q W W1)(j:Nat)(v:Value):But q W (W1.setCell ⟨q,j,none⟩ v) :=
  ⟨h.below.setCell (p:=⟨q,j,none⟩) (Nat.le_refl _) _,fun b h1 h2=>(heap_setCell_other _ _ _ _ h2).trans (h.same b h1 h2)⟩
theorem But.drewN {q:Nat}{W W1:World}(h:But q W W1)(n:Nat):But q W (W1.drewN n):=⟨h.below.trans ⟨rfl,rfl,rfl,Nat.le_refl _,fun _ _=>rfl⟩,h.same⟩
theorem But.cell {q:Nat}{W W1:World}(h:But q W W1){a:Addr}{v:Value}(hv:W.cell? a=some v)(hne:a.block≠q):W1.cell? a=some v :=
  (World.cell?_of_block (h.same _ (World.block_lt_of_cell? W a hv) hne)).trans hv
abbrev put2 (W:World)(q:Nat)(y:Vl):World:=(W.setCell ⟨q,0,none⟩ (.int .i64 y.k)).setCell ⟨q,1,none⟩ (.int .i64 y.n)
theorem heap_put2 {W:World}{q:Nat}{x y:Vl}(h:W.heap[q]? = some x.obj):(put2 W q y).heap[q]? = some y.obj:=by
  unfold put2
  rw [heap_setCell (heap_setCell h (j:=0) (.int .i64 y.k)) (j:=1) (.int .i64 y.n)]
  rfl
theorem below_put2 {W0 W:World}{B q:Nat}{y:Vl}(h:Below B W0 W)(hq:B≤q):Below B W0 (put2 W q y):=(h.setCell (p:=⟨q,0,none⟩) hq _).setCell (p:=⟨q,1,none⟩) hq _
theorem zero_kept2 {W w6:World}(hb:Below (W.alloc nv.obj).drew.heap.size (W.alloc nv.obj).drew w6):Below W.heap.size W w6∧w6.heap[W.heap.size]? = some nv.obj∧w6.cell? ⟨W.heap.size,0,none⟩=some (.int .i64 0)∧w6.cell? ⟨W.heap.size,1,none⟩=some (.int .i64 0)∧∀ j,w6.frozen? ⟨W.heap.size,j,none⟩=false:=by
  have hz:w6.heap[W.heap.size]? = some nv.obj:=(hb.block W.heap.size (by show W.heap.size < (W.alloc nv.obj).heap.size; simp)).trans (heap_alloc_new W nv.obj)
  exact ⟨((Below.one W nv.obj).drew).trans (hb.mono (by show W.heap.size≤(W.alloc nv.obj).heap.size; simp)),hz,cell_of_heap hz 0 _ rfl,cell_of_heap hz 1 _ rfl,fun j=>free_of_heap hz j⟩
def Cut38 (W Wx:World)(y:Vl)(a:Value):Prop:=∃ jb,a = .pointer (some ⟨jb,0,none⟩)∧Below W.heap.size W Wx∧Wx.heap[jb]? = some y.obj∧W.heap.size≤jb
set_option maxRecDepth 1000000 in
set_option maxHeartbeats 8000000 in
theorem loop5_any (L Rn ob nb nc n:Nat) (hn:n < L) (hRn:Rn≤4096) (old u:List Vl) (h1:old.length=Rn) (h2:u.length=Rn) (ch0:Bool) (w5:World) (hd:w5.cell? ⟨ob,n,none⟩=some (.slice (some ⟨ob + 1 + n,0,none⟩) Rn Rn)) (hrow:PreV w5 (ob + 1 + n) old) (hu:PreV w5 nb u) (hne:nb≠ob + 1 + n)
    {x0 x1 x2 x4 x5 x6 x7 x8 x9 x10 x12 x13 x14 x15 x18 x19 x20 x21 x22 x23 x24 x25 x26 x27 x28 x29 x30 x31 x32 x33 x34 x35 x36 x37 x38 x39 x40 x41 x42 x43 x44 x45 x46 x47 x48 x49 x50 x51 x52 x53 x54 x55 x56 x57 x58 x59 x60 x61 x62 x63 x64 x65 x66 x67 x68 x69 x70 x71 x72 x73 x74 x75 x76 x77 x78 x79 x80 x81 x82 x83 x84 x85 x86 x87 x88 x89 x90 x91 x92 x93 x94 x95 x96 x97 x98 x99 xA0 xA1 xA2 xA3 xA4 xA5 xA6 xA7 xA8 xA9 xB0 xB1 xB2 xB3 xB4 xB5 xB6 xB7 xB8 xB9 xC0 xC1 xC2 xC3 xC4 xC5 xC6 xC7 xC8 xC9 xD0 xD1 xD2 xD3 xD6 xD7 xD8 xD9 xE0 xE1 xE2 xE3 xE4 xE5 xE6 xE7 xE8 xE9 xF0 xF1 xF2 xF3 xF4 xF5 xF6 xF7 xF8 xF9 xG0 xG1 xG2 xG3 xG4 xG5 xG6 xG7 xG8 xG9 xH0 xH1 xH2 xH3 xH4 xH5 xH6:Value} (Q:Exit→Act→World→Prop)
    (hexit:∀ (y18 y19 yD6 yD7 yD8 yD9 yE0 yE1 yE2 yE3 yE4 yE5 yE6 yE7 yE8 yE9 yF0 yF1 yF2 yF3 yF4 yF5 yF6 yF7 yF8 yF9 yG0 yG1 yG2 yG3 yG4 yG5 yG6 yG7 yG8 yG9:Value) (w':World),But (ob + 1 + n) w5 w'→PreV w' (ob + 1 + n) (jrow old u)→Q (.exit 8) ⟨(x0::x1::x2::.slice (some ⟨ob,0,none⟩) L L::x4::x5::x6::x7::x8::x9::x10::.slice (some ⟨nb,0,none⟩) Rn nc::x12::x13::x14::x15::.int .i64 (n:Int)::.bool (ch0 || decide (jrow old u≠old))::y18::y19::x20::x21::x22::x23::x24::x25::x26::x27::x28::x29::x30::x31::x32::x33::x34::x35::x36::x37::x38::x39::x40::x41::x42::x43::x44::x45::x46::x47::x48::x49::x50::x51::x52::x53::x54::x55::x56::x57::x58::x59::x60::x61::x62::x63::x64::x65::x66::x67::x68::x69::x70::x71::x72::x73::x74::x75::x76::x77::x78::x79::x80::x81::x82::x83::x84::x85::x86::x87::x88::x89::x90::x91::x92::x93::x94::x95::x96::x97::x98::x99::xA0::xA1::xA2::xA3::xA4::xA5::xA6::xA7::xA8::xA9::xB0::xB1::xB2::xB3::xB4::xB5::xB6::xB7::xB8::xB9::xC0::xC1::xC2::xC3::xC4::xC5::xC6::xC7::xC8::xC9::xD0::xD1::xD2::xD3::.int .i64 (Rn:Int)::.int .i64 (Rn:Int)::yD6::yD7::yD8::yD9::yE0::yE1::yE2::yE3::yE4::yE5::yE6::yE7::yE8::yE9::yF0::yF1::yF2::yF3::yF4::yF5::yF6::yF7::yF8::yF9::yG0::yG1::yG2::yG3::yG4::yG5::yG6::yG7::yG8::yG9::xH0::xH1::xH2::xH3::xH4::xH5::xH6::[]).toArray,[]⟩ w') :
    Code.wp Try.prog loop5 Q ⟨(x0::x1::x2::.slice (some ⟨ob,0,none⟩) L L::x4::x5::x6::x7::x8::x9::x10::.slice (some ⟨nb,0,none⟩) Rn nc::x12::x13::x14::x15::.int .i64 (n:Int)::.bool ch0::x18::x19::x20::x21::x22::x23::x24::x25::x26::x27::x28::x29::x30::x31::x32::x33::x34::x35::x36::x37::x38::x39::x40::x41::x42::x43::x44::x45::x46::x47::x48::x49::x50::x51::x52::x53::x54::x55::x56::x57::x58::x59::x60::x61::x62::x63::x64::x65::x66::x67::x68::x69::x70::x71::x72::x73::x74::x75::x76::x77::x78::x79::x80::x81::x82::x83::x84::x85::x86::x87::x88::x89::x90::x91::x92::x93::x94::x95::x96::x97::x98::x99::xA0::xA1::xA2::xA3::xA4::xA5::xA6::xA7::xA8::xA9::xB0::xB1::xB2::xB3::xB4::xB5::xB6::xB7::xB8::xB9::xC0::xC1::xC2::xC3::xC4::xC5::xC6::xC7::xC8::xC9::xD0::xD1::xD2::xD3::.int .i64 (Rn:Int)::.int .i64 0::xD6::xD7::xD8::xD9::xE0::xE1::xE2::xE3::xE4::xE5::xE6::xE7::xE8::xE9::xF0::xF1::xF2::xF3::xF4::xF5::xF6::xF7::xF8::xF9::xG0::xG1::xG2::xG3::xG4::xG5::xG6::xG7::xG8::xG9::xH0::xH1::xH2::xH3::xH4::xH5::xH6::[]).toArray,[]⟩ w5:=by
  conv=>arg 2; whnf
  have H1:=Lib.hid h1
  have H2:=Lib.hid h2
  clear h1 h2
  have hq0:ob + 1 + n≤w5.heap.size:=Nat.le_of_lt (Pre.lt hrow)
  go_loopg [17,135] Rn (fun g C ix wr=>∃ (r:Nat),g=Rn - r∧r≤Rn∧ix = .int .i64 r∧C = .bool (ch0 || decide (part old u r≠old))∧But (ob + 1 + n) w5 wr∧PreV wr (ob + 1 + n) (part old u r))
  case atStart=>exact ⟨0,rfl,by omega,rfl,by rw [part_zero]; simp,But.refl _ _,by rw [part_zero]; exact hrow⟩
  case round =>
    obtain ⟨r,hg,hr,rfl,rfl,hB,hP⟩:=hrel
    have HG:=Lib.hid hg
    clear hg
    by_cases hlt:r < Rn
    · have hc := PreV.cells hP (part_get H1.out H2.out hlt)
      have hv:=PreV.cells (Pre.of_heap hu (hB.same nb hu.lt hne)) (old_get H2.out hlt)
      obtain ⟨c0,c1⟩:=hc
      obtain ⟨v0,v1⟩:=hv
      have hd1:=hB.cell hd (by simp only; omega)
      have hfr:=Pre.free hP
      have hqw:=Pre.lt hP
      have hobw:=World.block_lt_of_cell? wr ⟨ob,n,none⟩ hd1
      have hnbw:=World.block_lt_of_cell? wr ⟨nb,_,none⟩ v0
      have HPN:=Lib.hid (part_ne H1.out H2.out hlt)
      have HPS:=Lib.hid (part_set H1.out H2.out hlt)
      have HPG:=Lib.hid (part_get H1.out H2.out hlt)
      have HP:=Lib.hid hP
      have HB:=Lib.hid hB
      have hjo:=fun W=>join_any (at_ old r) (at_ u r) W
      generalize at_ old r=x at *
      generalize at_ u r=z at *
      generalize hj:join x z=y at *
      clear hj
      have hne':=fun W=>neq_val y x W
      obtain ⟨bb,hbb⟩:∃ bb,bb=decide (y=x):=⟨_,rfl⟩
      simp only [← hbb] at hne'
      have HBB:=Lib.hid hbb
      clear hbb
      obtain ⟨xk,xn⟩:=x
      obtain ⟨yk,yn⟩:=y
      obtain ⟨zk,zn⟩:=z
      simp only [Vl.agg] at c0 c1 v0 v1 hjo hne'
      clear hP hB
      generalize decide (part old u r≠old)=bp at *
      obtain ⟨bc,hbc⟩:∃ bc,bc=(ch0 || bp):=⟨_,rfl⟩
      rw [← hbc]
      have HBC:=Lib.hid hbc
      clear hbc
      go_wp2
      go_cut [19] from 136 to 169 (fun sj wx=>Cut38 wr wx ⟨yk,yn⟩ sj)
      case first =>
        go_region_held3 (fun w'=>∀ (q o:Nat),q < wr.heap.size→w'.cell? ⟨q,o,none⟩=wr.cell? ⟨q,o,none⟩)
          (first
          | with_reducible exact fun q o h=>(below_put2 (y:=⟨yk,yn⟩) (by assumption:Below wr.heap.size wr _) (Nat.le_refl _)).cell (p:=⟨q,o,none⟩) h
          | with_reducible exact fun q o h=>rfl
          | with_reducible exact fun q o h=>(by assumption:Below wr.heap.size wr _).cell (p:=⟨q,o,none⟩) h
          | with_reducible exact fun q o h=>(Below.alloc (by assumption:Below wr.heap.size wr _) (Below.size (by assumption:Below wr.heap.size wr _)) _).cell (p:=⟨q,o,none⟩) h
          | with_reducible exact fun q o h=>(Below.one wr _).cell (p:=⟨q,o,none⟩) h
          | exact fun q o h=>rfl
          | exact fun q o h=>(Below.one wr _).cell (p:=⟨q,o,none⟩) h)
          ((first
          | (go_at_call 33; refine (hjo wr.drew).mono ?_; rintro e w6 ⟨rfl,hb6⟩; have hb7:Below wr.heap.size wr w6:=((Below.refl wr.heap.size wr).drew).trans hb6)
          | (go_at_call 33; refine (hjo (wr.alloc nv.obj).drew).mono ?_; rintro e w6 ⟨rfl,hb6⟩; obtain ⟨hb7,hbz,z0,z1,zf⟩:=zero_kept2 hb6)))
        all_goals (go_wp2_with fail; go_meet)
        · exact ⟨_,rfl,hb7.alloc hb7.size _,heap_alloc_new _ _,hb7.size⟩
        · exact ⟨_,rfl,below_put2 (y:=⟨yk,yn⟩) hb7 (Nat.le_refl _),heap_put2 (y:=⟨yk,yn⟩) hbz,Nat.le_refl _⟩
      case rest =>
        obtain ⟨jb,rfl,hbw,hjb,hjl⟩:=hcut
        obtain ⟨wq,hwq⟩:∃ wq,wq=wc:=⟨_,rfl⟩
        subst hwq
        have j0:=cell_of_heap hjb 0 (.int .i64 yk) rfl
        have j1:=cell_of_heap hjb 1 (.int .i64 yn) rfl
        have d1:=cell_below hbw hd1
        have k0:=cell_below hbw c0
        have k1:=cell_below hbw c1
        have hBw:=HB.out.later (Nat.le_of_lt hqw) hbw
        have hPw:=Pre.later HP.out hbw
        have hfw:=Pre.free hPw
        have hqw':=Pre.lt hPw
        have HBW:=Lib.hid hBw
        have HPW:=Lib.hid hPw
        clear c0 c1 v0 v1 hd1 hfr hBw hPw hjo
        cases bc
        all_goals
          go_wp2_with fail
          go_quiet (fail)
          go_wp2_with fail
          go_region
          go_wp2
          go_roundg (Rn - (r + 1))
          case measure=>have:=HG.out; omega
          case rel =>
            refine ⟨r + 1,rfl,by omega,by go_num,?_,?_,?_⟩
            · have h1:=HPN.out
              have h2:=HBC.out
              have h3:=HBB.out
              rw [h1,← h3,← Bool.or_assoc,← h2]
              simp
            · exact ((HBW.out.drewN (nq + 1)).set _ _).set _ _
            · rw [← HPS.out]
              exact PreV.set (Pre.of_heap HPW.out rfl) HPG.out ⟨yk,yn⟩
    · obtain rfl:Rn=r:=by omega
      have hPP:=hP
      rw [part_all H1.out H2.out] at hPP
      rw [part_all H1.out H2.out]
      have HE:=fun y18 y19 yD6 yD7 yD8 yD9 yE0 yE1 yE2 yE3 yE4 yE5 yE6 yE7 yE8 yE9 yF0 yF1 yF2 yF3 yF4 yF5 yF6 yF7 yF8 yF9 yG0 yG1 yG2 yG3 yG4 yG5 yG6 yG7 yG8 yG9=>Lib.hid (hexit y18 y19 yD6 yD7 yD8 yD9 yE0 yE1 yE2 yE3 yE4 yE5 yE6 yE7 yE8 yE9 yF0 yF1 yF2 yF3 yF4 yF5 yF6 yF7 yF8 yF9 yG0 yG1 yG2 yG3 yG4 yG5 yG6 yG7 yG8 yG9 wr hB hPP)
      clear hexit hP hPP hB hlt hr
      go_wp2
      exact (HE _ _ _ _ _ _ _ _ _ _ _ _ _ _ _ _ _ _ _ _ _ _ _ _ _ _ _ _ _ _ _ _ _ _ _ _).out
end Go.Proofs.Ythbcdckonaljiaa
namespace Go.Proofs.Ythbcdckonaljiaa
open Go.RowKit Go.BigFrame
theorem Mem.but {W1 W W':World}{ob L R:Nat}{M:List (List Vl)}{Cm:List Bool}(h:Mem W1 W ob L R M Cm){n:Nat}(hn:n < L){u:List Vl}(hu:PreV W' (ob + 1 + n) u)(hB:But (ob + 1 + n) W W'):Mem W1 W' ob L R (M.set n u) Cm:=by
  have hs:=h.s
  refine ⟨h.b.trans (hB.below.mono (by omega)),h.h.of_heap (hB.same _ (by omega) (by omega)),fun p v' hv=>?_,h.c.of_heap (hB.same _ (by omega) (by omega)),Nat.le_trans hs hB.below.size,by simpa using h.l⟩
  by_cases hp:n=p
  · subst hp
    rw [List.getElem?_set_self (by rw [h.l]; exact hn)] at hv
    injection hv with hv
    subst hv
    exact hu
  · rw [List.getElem?_set_ne hp] at hv
    have hpl:=(List.getElem?_eq_some_iff.1 hv).1
    have hl:=h.l
    exact Pre.of_heap (h.r p v' hv) (hB.same _ (by omega) (by omega))
theorem RdN.keep {W W':World}{A:Option Addr}{l:List Int}(h:RdN W A l)(hs:∀ b o,A=some ⟨b,o,none⟩→b < W.heap.size→W'.heap[b]? = W.heap[b]?):RdN W' A l:=fun j n hj=>by
  obtain ⟨b,o,e1,e2,e3⟩:=h j n hj
  have hb:=hs b o e1 e2
  exact ⟨b,o,e1,by
    have:W'.heap[b]?.isSome=true:=by rw [hb]; simp [e2]
    by_cases hlt:b < W'.heap.size
    · exact hlt
    · simp [hlt] at this,(World.cell?_of_block hb).trans e3⟩
theorem Que.but {W W':World}{base q:Nat}{V:Value}{T:List Nat}(h:Que W base V T)(hq:q < base)(hB:But q W W'):Que W' base V T:=by
  obtain ⟨b,o,cap,cs,e1,e2,e3,e4,e5,e6,e7⟩:=h
  exact ⟨b,o,cap,cs,e1,e2,e3,e4,(hB.same b (Array.getElem?_eq_some_iff.1 e5).1 (by omega)).trans e5,e6,e7⟩
theorem Que.apart {W:World}{base nb:Nat}{V:Value}{T:List Nat}{v:List Vl}(h:Que W base V T)(hp:PreV W nb v):V.ownBlock≠some nb:=by
  obtain ⟨b,o,cap,cs,rfl,e2,e3,e4,e5,e6,e7⟩:=h
  intro e
  simp only [Value.ownBlock,Option.some.injEq] at e
  subst e
  obtain ⟨cs',h3,_⟩:=hp
  rw [e5] at h3
  injection h3 with h3
  injection h3 with _ h4
  exact absurd h4 (by decide)
theorem next_in {f:Fn7} (hf:OkF f) {p:Nat} {i:Ins} (hi:f.code[p]? = some i) (u:List Vl):∀ n ∈ nextV i p u,0≤n∧n < (f.code.length:Int):=by
  intro n hn
  have hok:=hf.ok i (List.mem_of_getElem? hi)
  have hpl:=(List.getElem?_eq_some_iff.1 hi).1
  unfold nextV at hn
  by_cases h12:i.kind=12
  · rw [if_pos h12] at hn
    have h1:=hok.to_ (Or.inr h12)
    have h2:=hok.els h12
    split at hn
    · split at hn <;> (simp at hn; subst hn; assumption)
    · simp at hn; rcases hn with rfl | rfl <;> assumption
  · rw [if_neg h12] at hn
    unfold Ins.next at hn
    by_cases h11:i.kind=11
    · rw [if_pos h11] at hn; simp at hn; subst hn; exact hok.to_ (Or.inl h11)
    · rw [if_neg h11,if_neg h12] at hn
      by_cases h13:i.kind=13
      · rw [if_pos h13] at hn; simp at hn
      · rw [if_neg h13] at hn
        simp at hn
        subst hn
        have hk:=hok.kind
        have hlast:=hf.last
        by_cases hp:p=f.code.length - 1
        · have:=hlast i (by rw [← hp]; exact hi)
          omega
        · omega
structure Four (f:Fn7)(W1 wr:World)(ob L Rn nb p:Nat)(i:Ins)(v:List Vl)(nl:List Int)(NA:Option Addr)(G:Nat)(V:Value)(M:List (List Vl))(Cm:List Bool)(T:List Nat)(m:Nat):Prop where
  mid:Mid f p i v (nl.take m) M Cm T
  mem:Mem W1 wr ob L Rn M Cm
  que:Que wr (ob + 2 + L) V T
  meas:T.length + 2 * pot M Cm≤G
  rd:RdN wr NA nl
  far:∀ b o,NA=some ⟨b,o,none⟩→ob + 2 + L≤b∧V.ownBlock≠some b
  urow:PreV wr nb (upd i v)
theorem take_snoc {nl:List Int}{m:Nat}{n:Int}(h:nl[m]? = some n):nl.take (m + 1)=nl.take m++[n]:=by
  rw [List.take_add_one,h]
  rfl
theorem Four.step0 {f:Fn7}{W1 wr w':World}{ob L Rn nb p:Nat}{i:Ins}{v:List Vl}{nl:List Int}{NA:Option Addr}{G:Nat}{V:Value}{M:List (List Vl)}{Cm:List Bool}{T:List Nat}{m n:Nat}
    (h:Four f W1 wr ob L Rn nb p i v nl NA G V M Cm T m) (hL:f.code.length=L) (hn:n < L) (hm:nl[m]? = some (n:Int)) (hin:(n:Int) ∈ nextV i p (upd i v)) (hnb:ob + 2 + L≤nb)
    (hch:(!cm Cm n || decide (jrow (row M n) (upd i v)≠row M n))=false) (hB:But (ob + 1 + n) (wr.setCell ⟨ob + 1 + L,n,none⟩ (.bool true)) w') (hr:PreV w' (ob + 1 + n) (jrow (row M n) (upd i v))) :
    Four f W1 w' ob L Rn nb p i v nl NA G V (M.set n (jrow (row M n) (upd i v))) (Cm.set n true) T (m + 1):=by
  have hst:=h.mid.step (by rw [hL]; exact hn) hin false hch.symm
  simp only [Bool.false_eq_true,if_false] at hst
  have hCl:n < Cm.length:=by rw [h.mid.way.clen,hL]; exact hn
  have hs:=h.mem.s
  have hkeep:∀ b,ob + 2 + L≤b→b < wr.heap.size→w'.heap[b]? = wr.heap[b]?:=fun b h1 h2=>(hB.same b (by simpa using h2) (by omega)).trans (heap_setCell_other _ _ _ _ (by simp only; omega))
  exact ⟨by rw [take_snoc hm]; exact hst.1,Mem.but (h.mem.setC hCl true) hn hr hB,(h.que.other (by simp only; omega) _).but (by omega) hB,Nat.le_trans hst.2 h.meas,h.rd.keep fun b o e hb=>hkeep b (h.far b o e).1 hb,h.far,Pre.of_heap h.urow (hkeep nb hnb h.urow.lt)⟩
theorem Four.step1 {f:Fn7}{W1 wr w' w2:World}{ob L Rn nb p:Nat}{i:Ins}{v:List Vl}{nl:List Int}{NA:Option Addr}{G:Nat}{V V':Value}{M:List (List Vl)}{Cm:List Bool}{T:List Nat}{m n:Nat}{o:Obj}
    (h:Four f W1 wr ob L Rn nb p i v nl NA G V M Cm T m) (hL:f.code.length=L) (hn:n < L) (hm:nl[m]? = some (n:Int)) (hin:(n:Int) ∈ nextV i p (upd i v)) (hnb:ob + 2 + L≤nb)
    (hch:(!cm Cm n || decide (jrow (row M n) (upd i v)≠row M n))=true) (hB:But (ob + 1 + n) (wr.setCell ⟨ob + 1 + L,n,none⟩ (.bool true)) w') (hr:PreV w' (ob + 1 + n) (jrow (row M n) (upd i v)))
    (hq:Que w2 (ob + 2 + L) V' (T++[n])) (hb:Below (ob + 2 + L) (w'.alloc o) w2) (hsame:∀ q,q < (w'.alloc o).heap.size→V.ownBlock≠some q→w2.heap[q]? = (w'.alloc o).heap[q]?) (hown:V'.ownBlock=V.ownBlock∨V'.ownBlock=some (w'.alloc o).heap.size) :
    Four f W1 w2 ob L Rn nb p i v nl NA G V' (M.set n (jrow (row M n) (upd i v))) (Cm.set n true) (T++[n]) (m + 1):=by
  have hst:=h.mid.step (by rw [hL]; exact hn) hin true hch.symm
  simp only [if_true] at hst
  have hCl:n < Cm.length:=by rw [h.mid.way.clen,hL]; exact hn
  have hs:=h.mem.s
  have hsz:wr.heap.size≤w'.heap.size:=by have:=hB.below.size; simpa using this
  have hkeep:∀ b,ob + 2 + L≤b→b < wr.heap.size→V.ownBlock≠some b→w2.heap[b]? = wr.heap[b]?:=fun b h1 h2 h3 =>
    (hsame b (by simp; omega) h3).trans (((Below.one w' o).block b (by omega)).trans ((hB.same b (by simpa using h2) (by omega)).trans (heap_setCell_other _ _ _ _ (by simp only; omega))))
  have hbb:Below (ob + 2 + L) w' w2:=((Below.one w' o).mono (by omega)).trans hb
  refine ⟨by rw [take_snoc hm]; exact hst.1,(Mem.but (h.mem.setC hCl true) hn hr hB).past hbb,hq,Nat.le_trans hst.2 h.meas,h.rd.keep fun b o e hb=>hkeep b (h.far b o e).1 hb (h.far b o e).2,fun b o' e=>⟨(h.far b o' e).1,?_⟩,Pre.of_heap h.urow (hkeep nb hnb h.urow.lt (h.que.apart h.urow))⟩
  rcases hown with e1 | e1
  · rw [e1]; exact (h.far b o' e).2
  · rw [e1]
    intro e2
    injection e2 with e2
    have hlt:m < nl.length:=(List.getElem?_eq_some_iff.1 hm).1
    obtain ⟨b2,o2,e3,e4,_⟩:=h.rd m (n:Int) hm
    rw [e] at e3
    injection e3 with e3
    injection e3 with e5 e6
    simp at e2
    omega
set_option maxRecDepth 1000000 in
set_option maxHeartbeats 8000000 in
theorem loop4_any (f:Fn7) (hf:OkF f) (L Rn ob nb nc ncap:Nat) (hL:f.code.length=L) (hRt:f.R.toNat=Rn) (hR4:Rn≤4096) (W1 w4:World) (p:Nat) (i:Ins) (v:List Vl) (nl:List Int) (NA:Option Addr) (G:Nat) (V:Value) (M:List (List Vl)) (Cm:List Bool) (T:List Nat)
    (hnl:nl=nextV i p (upd i v)) (hG:G≤300000) (hnb:ob + 2 + L≤nb) (h4:Four f W1 w4 ob L Rn nb p i v nl NA G V M Cm T 0)
    {x0 x1 x2 x4 x6 x7 x9 x10 x12 x13 x14 x15 x16 x17 x18 x19 x20 x21 x22 x23 x24 x25 x26 x27 x28 x29 x30 x31 x32 x33 x34 x35 x36 x37 x38 x39 x40 x41 x42 x43 x44 x45 x46 x47 x48 x49 x50 x51 x52 x53 x54 x55 x56 x57 x58 x59 x60 x61 x62 x63 x64 x65 x66 x67 x68 x69 x70 x71 x72 x73 x74 x75 x76 x77 x78 x79 x80 x81 x82 x83 x84 x85 x86 x87 x88 x89 x90 x91 x92 x93 x94 x95 x96 x97 x98 x99 xA0 xA1 xA2 xA3 xA4 xA5 xA6 xA7 xA8 xA9 xB0 xB1 xB2 xB3 xB4 xB5 xB6 xB7 xB8 xC2 xC3 xC4 xC5 xC6 xC7 xC8 xC9 xD0 xD1 xD2 xD3 xD4 xD5 xD6 xD7 xD8 xD9 xE0 xE1 xE2 xE3 xE4 xE5 xE6 xE7 xE8 xE9 xF0 xF1 xF2 xF3 xF4 xF5 xF6 xF7 xF8 xF9 xG0 xG1 xG2 xG3 xG4 xG5 xG6 xG7 xG8 xG9 xH0 xH1 xH2 xH3 xH4 xH5 xH6:Value} (Q:Exit→Act→World→Prop)
    (hexit:∀ (V' y16 y17 y18 y19 yC2 yC3 yC4 yC5 yC6 yC7 yC8 yC9 yD0 yD1 yD2 yD3 yD4 yD5 yD6 yD7 yD8 yD9 yE0 yE1 yE2 yE3 yE4 yE5 yE6 yE7 yE8 yE9 yF0 yF1 yF2 yF3 yF4 yF5 yF6 yF7 yF8 yF9 yG0 yG1 yG2 yG3 yG4 yG5 yG6 yG7 yG8 yG9 yH0 yH1 yH2 yH3 yH4 yH5:Value) (M':List (List Vl)) (Cm':List Bool) (T':List Nat) (w':World),Four f W1 w' ob L Rn nb p i v nl NA G V' M' Cm' T' nl.length→Q (.exit 6) ⟨(x0::x1::x2::.slice (some ⟨ob,0,none⟩) L L::x4::.slice (some ⟨ob + 1 + L,0,none⟩) L L::x6::x7::V'::x9::x10::.slice (some ⟨nb,0,none⟩) Rn nc::x12::x13::x14::x15::y16::y17::y18::y19::x20::x21::x22::x23::x24::x25::x26::x27::x28::x29::x30::x31::x32::x33::x34::x35::x36::x37::x38::x39::x40::x41::x42::x43::x44::x45::x46::x47::x48::x49::x50::x51::x52::x53::x54::x55::x56::x57::x58::x59::x60::x61::x62::x63::x64::x65::x66::x67::x68::x69::x70::x71::x72::x73::x74::x75::x76::x77::x78::x79::x80::x81::x82::x83::x84::x85::x86::x87::x88::x89::x90::x91::x92::x93::x94::x95::x96::x97::x98::x99::xA0::xA1::xA2::xA3::xA4::xA5::xA6::xA7::xA8::xA9::xB0::xB1::xB2::xB3::xB4::xB5::xB6::xB7::xB8::.slice NA nl.length ncap::.int .i64 (nl.length:Int)::.int .i64 (nl.length:Int)::yC2::yC3::yC4::yC5::yC6::yC7::yC8::yC9::yD0::yD1::yD2::yD3::yD4::yD5::yD6::yD7::yD8::yD9::yE0::yE1::yE2::yE3::yE4::yE5::yE6::yE7::yE8::yE9::yF0::yF1::yF2::yF3::yF4::yF5::yF6::yF7::yF8::yF9::yG0::yG1::yG2::yG3::yG4::yG5::yG6::yG7::yG8::yG9::yH0::yH1::yH2::yH3::yH4::yH5::xH6::[]).toArray,[]⟩ w') :
    Code.wp Try.prog loop4 Q ⟨(x0::x1::x2::.slice (some ⟨ob,0,none⟩) L L::x4::.slice (some ⟨ob + 1 + L,0,none⟩) L L::x6::x7::V::x9::x10::.slice (some ⟨nb,0,none⟩) Rn nc::x12::x13::x14::x15::x16::x17::x18::x19::x20::x21::x22::x23::x24::x25::x26::x27::x28::x29::x30::x31::x32::x33::x34::x35::x36::x37::x38::x39::x40::x41::x42::x43::x44::x45::x46::x47::x48::x49::x50::x51::x52::x53::x54::x55::x56::x57::x58::x59::x60::x61::x62::x63::x64::x65::x66::x67::x68::x69::x70::x71::x72::x73::x74::x75::x76::x77::x78::x79::x80::x81::x82::x83::x84::x85::x86::x87::x88::x89::x90::x91::x92::x93::x94::x95::x96::x97::x98::x99::xA0::xA1::xA2::xA3::xA4::xA5::xA6::xA7::xA8::xA9::xB0::xB1::xB2::xB3::xB4::xB5::xB6::xB7::xB8::.slice NA nl.length ncap::.int .i64 (nl.length:Int)::.int .i64 0::xC2::xC3::xC4::xC5::xC6::xC7::xC8::xC9::xD0::xD1::xD2::xD3::xD4::xD5::xD6::xD7::xD8::xD9::xE0::xE1::xE2::xE3::xE4::xE5::xE6::xE7::xE8::xE9::xF0::xF1::xF2::xF3::xF4::xF5::xF6::xF7::xF8::xF9::xG0::xG1::xG2::xG3::xG4::xG5::xG6::xG7::xG8::xG9::xH0::xH1::xH2::xH3::xH4::xH5::xH6::[]).toArray,[]⟩ w4:=by
  conv=>arg 2; whnf
  have HL:=Lib.hid hL
  have HRT:=Lib.hid hRt
  have HNL:=Lib.hid hnl
  have HF:=Lib.hid hf
  have hnl2:nl.length≤2:=by
    rw [hnl]; unfold nextV Ins.next
    repeat' split
    all_goals simp
  clear hL hRt hnl hf
  obtain ⟨NL,hNL⟩:∃ NL,nl.length=NL:=⟨_,rfl⟩
  rw [hNL] at hexit hnl2 ⊢
  have HN2:=Lib.hid hNL
  clear hNL
  go_loopg [8,121] NL (fun g V ix wr=>∃ (m:Nat) (M:List (List Vl)) (Cm:List Bool) (T:List Nat),g=NL - m∧m≤NL∧ix = .int .i64 m∧Four f W1 wr ob L Rn nb p i v nl NA G V M Cm T m)
  case atStart=>exact ⟨0,M,Cm,T,rfl,by omega,rfl,h4⟩
  case round =>
    clear h4
    obtain ⟨m,M,Cm,T,hg,hm,rfl,h4⟩:=hrel
    have HG:=Lib.hid hg
    clear hg
    by_cases hlt:m < NL
    · have hnm:nl[m]? = some (nl[m]'(by rw [HN2.out]; exact hlt)):=by simp
      generalize nl[m]'(by rw [HN2.out]; exact hlt)=ni at hnm
      have hmem:ni ∈ nextV i p (upd i v):=by rw [← HNL.out]; exact List.mem_of_getElem? hnm
      have hin:=next_in HF.out h4.mid.ip (upd i v) ni hmem
      rw [HL.out] at hin
      obtain ⟨n,rfl⟩:∃ n:Nat,ni=n:=⟨ni.toNat,by omega⟩
      have hn:n < L:=by omega
      obtain ⟨b,o,rfl,hbl,hcn⟩:=h4.rd m (n:Int) hnm
      have hCl:n < Cm.length:=by have:=h4.mid.way.clen; rw [HL.out] at this; omega
      have hcm:Cm[n]? = some (cm Cm n):=by simp [cm,List.getD,hCl]
      have hc0:=PreB.cell h4.mem.c hcm
      have hcf:=Pre.free h4.mem.c n
      have hcl:=h4.mem.c.lt
      have hM5:=h4.mem.setC hCl true
      have hrow:M[n]? = some (row M n):=row_in (by rw [h4.mem.l]; exact hn)
      have hr5:=hM5.r n _ hrow
      have hd5:=hM5.head hn
      have hrl:(row M n).length=Rn:=by have:=(h4.mid.way.shp.at_ (p:=n) (by rw [HL.out]; exact hn)).1; rw [HRT.out] at this; exact this
      have hul:(upd i v).length=Rn:=by rw [upd_len,h4.mid.vrw.1,HRT.out]
      have hu5:PreV (wr.setCell ⟨ob + 1 + L,n,none⟩ (.bool true)) nb (upd i v):=Pre.other h4.urow (by simp only; omega) _
      have hne:nb≠ob + 1 + n:=by omega
      have hs4:=h4.mem.s
      have H4:=Lib.hid h4
      have HNM:=Lib.hid hnm
      have HIN:=Lib.hid hmem
      have HRL:=Lib.hid hrl
      have HUL:=Lib.hid hul
      have HR5:=Lib.hid hr5
      have HD5:=Lib.hid hd5
      have HU5:=Lib.hid hu5
      clear hnm hmem hrl hul hr5 hd5 hu5 h4 hM5 hrow hcm hin
      generalize hcc:cm Cm n=c at *
      have HCC:=Lib.hid hcc
      clear hcc
      go_wp2
      refine loop5_any L Rn ob nb nc n hn hR4 (row M n) (upd i v) HRL.out HUL.out (!c) _ HD5.out HR5.out HU5.out hne _ ?_
      intro z18 z19 z136 z137 z138 z139 z140 z141 z142 z143 z144 z145 z146 z147 z148 z149 z150 z151 z152 z153 z154 z155 z156 z157 z158 z159 z160 z161 z162 z163 z164 z165 z166 z167 z168 z169 w' hB hP
      obtain ⟨bb,hbb⟩:∃ bb,bb=(!c || decide (jrow (row M n) (upd i v)≠row M n)):=⟨_,rfl⟩
      rw [← hbb]
      have hbb2:=hbb
      rw [← HCC.out] at hbb2
      cases bb
      · have HN:=Lib.hid (H4.out.step0 HL.out hn HNM.out HIN.out hnb hbb2.symm hB hP)
        clear hbb hbb2 hB hP
        go_wp2
        go_roundg (NL - (m + 1))
        case measure=>have:=HG.out; omega
        case rel=>exact ⟨m + 1,_,_,_,rfl,by omega,by go_num,HN.out⟩
      · have hq':=(H4.out.que.other (a:=⟨ob + 1 + L,n,none⟩) (by simp only; omega) (.bool true)).but (q:=ob + 1 + n) (by omega) hB
        have hszw:ob + 2 + L≤w'.heap.size:=Nat.le_trans hs4 (by have:=hB.below.size; simpa using this)
        obtain ⟨V',w2,hrun,hq2,hb2,hsame,hown⟩:=run_append_que (w'.alloc (.cells #[.int .i64 (n:Int)] 3)) (ob + 2 + L) (by simp; omega) _ _ (hq'.later (Below.one _ _)) 45 w'.heap.size n (heap_alloc_new w' _) (by have:=H4.out.meas; omega)
        have HN:=Lib.hid (H4.out.step1 HL.out hn HNM.out HIN.out hnb hbb2.symm hB hP hq2 hb2 hsame hown)
        clear hbb hbb2 hB hP hq' hq2 hb2 hsame hown
        go_wp2_with (first
          | (at_builtin; go_must (refine append_ran rfl (.tmp 171) (.tmp 173) rfl rfl rfl hrun ?_)))
        go_roundg (NL - (m + 1))
        case measure=>have:=HG.out; omega
        case rel=>exact ⟨m + 1,_,_,_,rfl,by omega,by go_num,HN.out⟩
    · obtain rfl:NL=m:=by omega
      have HE:=fun y16 y17 y18 y19 yC2 yC3 yC4 yC5 yC6 yC7 yC8 yC9 yD0 yD1 yD2 yD3 yD4 yD5 yD6 yD7 yD8 yD9 yE0 yE1 yE2 yE3 yE4 yE5 yE6 yE7 yE8 yE9 yF0 yF1 yF2 yF3 yF4 yF5 yF6 yF7 yF8 yF9 yG0 yG1 yG2 yG3 yG4 yG5 yG6 yG7 yG8 yG9 yH0 yH1 yH2 yH3 yH4 yH5=>Lib.hid (hexit _ y16 y17 y18 y19 yC2 yC3 yC4 yC5 yC6 yC7 yC8 yC9 yD0 yD1 yD2 yD3 yD4 yD5 yD6 yD7 yD8 yD9 yE0 yE1 yE2 yE3 yE4 yE5 yE6 yE7 yE8 yE9 yF0 yF1 yF2 yF3 yF4 yF5 yF6 yF7 yF8 yF9 yG0 yG1 yG2 yG3 yG4 yG5 yG6 yG7 yG8 yG9 yH0 yH1 yH2 yH3 yH4 yH5 M Cm T wr h4)
      clear hexit h4 hlt hm
      go_wp2
      exact (HE _ _ _ _ _ _ _ _ _ _ _ _ _ _ _ _ _ _ _ _ _ _ _ _ _ _ _ _ _ _ _ _ _ _ _ _ _ _ _ _ _ _ _ _ _ _ _ _ _ _ _ _ _ _ _ _ _ _).out
end Go.Proofs.Ythbcdckonaljiaa
namespace Go.Proofs.Ythbcdckonaljiaa
open Go.RowKit Go.BigFrame
theorem Que.lt {W:World}{base:Nat}{V:Value}{T:List Nat}(h:Que W base V T){b:Nat}(hb:V.ownBlock=some b):b < W.heap.size:=by
  obtain ⟨b',o,cap,cs,rfl,e2,e3,e4,e5,e6,e7⟩:=h
  simp only [Value.ownBlock,Option.some.injEq] at hb
  subst hb
  exact (Array.getElem?_eq_some_iff.1 e5).1
set_option maxRecDepth 1000000 in
set_option maxHeartbeats 8000000 in
theorem loop3_any (f:Fn7) (hf:OkF f) (L Rn ob B0:Nat) (hL:f.code.length=L) (hRt:f.R.toNat=Rn) (hRn:f.R=Rn) (hR4:Rn≤4096) (hL8:L≤8192) (W1 w3:World) (hob:W1.heap.size=ob) (C:Option Addr) (cap:Nat) (hB0:B0 < ob) (hx4:W1.cell? ⟨B0,4,none⟩=some (.slice C L cap)) (hC1:RdI W1 C f.code)
    (g0:Nat) (V:Value) (M:List (List Vl)) (Cm:List Bool) (T:List Nat) (h3:Third f W1 w3 ob L Rn g0 V M Cm T)
    {x0 x2 x4 x6 x7 x9 x10 x11 x12 x13 x14 x15 x16 x17 x18 x19 x20 x21 x22 x23 x24 x25 x26 x27 x28 x29 x30 x31 x32 x33 x34 x35 x36 x37 x38 x39 x40 x41 x42 x43 x44 x45 x46 x47 x48 x49 x50 x51 x52 x53 x54 x55 x56 x57 x58 x59 x60 x61 x62 x63 x64 x65 x66 x67 x68 x69 x70 x71 x72 x73 x74 x75 x76 x77 x78 x79 x80 x81 x82 x83 x84 x85 x86 x87 x88 x89 x90 x91 x92 x93 x94 x95 x96 x97 x98 x99 xA0 xA1 xA2 xA3 xA4 xA5 xA6 xA7 xA8 xA9 xB0 xB1 xB2 xB3 xB4 xB5 xB6 xB7 xB8 xB9 xC0 xC1 xC2 xC3 xC4 xC5 xC6 xC7 xC8 xC9 xD0 xD1 xD2 xD3 xD4 xD5 xD6 xD7 xD8 xD9 xE0 xE1 xE2 xE3 xE4 xE5 xE6 xE7 xE8 xE9 xF0 xF1 xF2 xF3 xF4 xF5 xF6 xF7 xF8 xF9 xG0 xG1 xG2 xG3 xG4 xG5 xG6 xG7 xG8 xG9 xH0 xH1 xH2 xH3 xH4 xH5 xH6:Value} (Q:Exit→Act→World→Prop)
    (hexit:∀ (V' y9 y10 y11 y12 y13 y14 y16 y17 y18 y19 y82 y83 y84 y85 y86 y87 y88 y89 y90 y91 y92 y93 y94 y95 y96 y97 y98 y99 yA0 yA1 yA2 yA3 yA4 yA5 yA6 yA7 yA8 yA9 yB0 yB1 yB2 yB3 yB4 yB5 yB6 yB7 yB8 yB9 yC0 yC1 yC2 yC3 yC4 yC5 yC6 yC7 yC8 yC9 yD0 yD1 yD2 yD3 yD4 yD5 yD6 yD7 yD8 yD9 yE0 yE1 yE2 yE3 yE4 yE5 yE6 yE7 yE8 yE9 yF0 yF1 yF2 yF3 yF4 yF5 yF6 yF7 yF8 yF9 yG0 yG1 yG2 yG3 yG4 yG5 yG6 yG7 yG8 yG9 yH0 yH1 yH2 yH3 yH4 yH5:Value) (M':List (List Vl)) (w':World),Ans f M'→RdM w' ob Rn M'→Below ob W1 w'→ob < w'.heap.size→Q (.exit 4) ⟨(x0::.pointer (some ⟨B0,0,none⟩)::x2::.slice (some ⟨ob,0,none⟩) L L::x4::.slice (some ⟨ob + 1 + L,0,none⟩) L L::x6::x7::V'::y9::y10::y11::y12::y13::y14::x15::y16::y17::y18::y19::x20::x21::x22::x23::x24::x25::x26::x27::x28::x29::x30::x31::x32::x33::x34::x35::x36::x37::x38::x39::x40::x41::x42::x43::x44::x45::x46::x47::x48::x49::x50::x51::x52::x53::x54::x55::x56::x57::x58::x59::x60::x61::x62::x63::x64::x65::x66::x67::x68::x69::x70::x71::x72::x73::x74::x75::x76::x77::x78::x79::x80::x81::y82::y83::y84::y85::y86::y87::y88::y89::y90::y91::y92::y93::y94::y95::y96::y97::y98::y99::yA0::yA1::yA2::yA3::yA4::yA5::yA6::yA7::yA8::yA9::yB0::yB1::yB2::yB3::yB4::yB5::yB6::yB7::yB8::yB9::yC0::yC1::yC2::yC3::yC4::yC5::yC6::yC7::yC8::yC9::yD0::yD1::yD2::yD3::yD4::yD5::yD6::yD7::yD8::yD9::yE0::yE1::yE2::yE3::yE4::yE5::yE6::yE7::yE8::yE9::yF0::yF1::yF2::yF3::yF4::yF5::yF6::yF7::yF8::yF9::yG0::yG1::yG2::yG3::yG4::yG5::yG6::yG7::yG8::yG9::yH0::yH1::yH2::yH3::yH4::yH5::xH6::[]).toArray,[]⟩ w') :
    Code.wp Try.prog loop3 Q ⟨(x0::.pointer (some ⟨B0,0,none⟩)::x2::.slice (some ⟨ob,0,none⟩) L L::x4::.slice (some ⟨ob + 1 + L,0,none⟩) L L::x6::x7::V::x9::x10::x11::x12::x13::x14::x15::x16::x17::x18::x19::x20::x21::x22::x23::x24::x25::x26::x27::x28::x29::x30::x31::x32::x33::x34::x35::x36::x37::x38::x39::x40::x41::x42::x43::x44::x45::x46::x47::x48::x49::x50::x51::x52::x53::x54::x55::x56::x57::x58::x59::x60::x61::x62::x63::x64::x65::x66::x67::x68::x69::x70::x71::x72::x73::x74::x75::x76::x77::x78::x79::x80::x81::x82::x83::x84::x85::x86::x87::x88::x89::x90::x91::x92::x93::x94::x95::x96::x97::x98::x99::xA0::xA1::xA2::xA3::xA4::xA5::xA6::xA7::xA8::xA9::xB0::xB1::xB2::xB3::xB4::xB5::xB6::xB7::xB8::xB9::xC0::xC1::xC2::xC3::xC4::xC5::xC6::xC7::xC8::xC9::xD0::xD1::xD2::xD3::xD4::xD5::xD6::xD7::xD8::xD9::xE0::xE1::xE2::xE3::xE4::xE5::xE6::xE7::xE8::xE9::xF0::xF1::xF2::xF3::xF4::xF5::xF6::xF7::xF8::xF9::xG0::xG1::xG2::xG3::xG4::xG5::xG6::xG7::xG8::xG9::xH0::xH1::xH2::xH3::xH4::xH5::xH6::[]).toArray,[]⟩ w3:=by
  conv=>arg 2; whnf
  have HL:=Lib.hid hL
  have HRT:=Lib.hid hRt
  have HRN:=Lib.hid hRn
  have HF:=Lib.hid hf
  have HOB:=Lib.hid hob
  clear hL hRt hRn hf hob
  go_loopg [8] g0 (fun g V wr=>∃ M Cm T,Third f W1 wr ob L Rn g V M Cm T)
  case atStart=>exact ⟨_,_,_,h3⟩
  case round =>
    clear h3
    obtain ⟨M,Cm,T,hT⟩:=hrel
    cases T with
    | nil =>
      obtain ⟨b,o,qc,cs,rfl,hq⟩:=hT.que
      have HE:=fun y9 y10 y11 y12 y13 y14 y16 y17 y18 y19 y82 y83 y84 y85 y86 y87 y88 y89 y90 y91 y92 y93 y94 y95 y96 y97 y98 y99 yA0 yA1 yA2 yA3 yA4 yA5 yA6 yA7 yA8 yA9 yB0 yB1 yB2 yB3 yB4 yB5 yB6 yB7 yB8 yB9 yC0 yC1 yC2 yC3 yC4 yC5 yC6 yC7 yC8 yC9 yD0 yD1 yD2 yD3 yD4 yD5 yD6 yD7 yD8 yD9 yE0 yE1 yE2 yE3 yE4 yE5 yE6 yE7 yE8 yE9 yF0 yF1 yF2 yF3 yF4 yF5 yF6 yF7 yF8 yF9 yG0 yG1 yG2 yG3 yG4 yG5 yG6 yG7 yG8 yG9 yH0 yH1 yH2 yH3 yH4 yH5=>Lib.hid (hexit (.slice (some ⟨b,o,none⟩) 0 qc) y9 y10 y11 y12 y13 y14 y16 y17 y18 y19 y82 y83 y84 y85 y86 y87 y88 y89 y90 y91 y92 y93 y94 y95 y96 y97 y98 y99 yA0 yA1 yA2 yA3 yA4 yA5 yA6 yA7 yA8 yA9 yB0 yB1 yB2 yB3 yB4 yB5 yB6 yB7 yB8 yB9 yC0 yC1 yC2 yC3 yC4 yC5 yC6 yC7 yC8 yC9 yD0 yD1 yD2 yD3 yD4 yD5 yD6 yD7 yD8 yD9 yE0 yE1 yE2 yE3 yE4 yE5 yE6 yE7 yE8 yE9 yF0 yF1 yF2 yF3 yF4 yF5 yF6 yF7 yF8 yF9 yG0 yG1 yG2 yG3 yG4 yG5 yG6 yG7 yG8 yG9 yH0 yH1 yH2 yH3 yH4 yH5 M wr hT.head.ans hT.mem.told hT.mem.b hT.mem.h.lt)
      simp only [List.length_nil]
      clear hT hq hexit hC1 hx4
      go_wp2
      exact (HE _ _ _ _ _ _ _ _ _ _ _ _ _ _ _ _ _ _ _ _ _ _ _ _ _ _ _ _ _ _ _ _ _ _ _ _ _ _ _ _ _ _ _ _ _ _ _ _ _ _ _ _ _ _ _ _ _ _ _ _ _ _ _ _ _ _ _ _ _ _ _ _ _ _ _ _ _ _ _ _ _ _ _ _ _ _ _ _ _ _ _ _ _ _ _ _ _ _ _ _ _ _ _ _).out
    | cons p T =>
      obtain ⟨b,o,qc,V',rfl,hqc,hq0,hQ,_,hsl⟩:=que_tail hT.que
      have hcp:=hT.head.way.tin p (by simp)
      have hpl:p < L:=by have h1:=cm_lt hcp; have h2:=hT.head.way.clen; rw [HL.out] at h2; omega
      have hi:f.code[p]? = some (f.code[p]'(by rw [HL.out]; exact hpl)):=by simp
      generalize f.code[p]'(by rw [HL.out]; exact hpl)=i at hi
      have hv:M[p]? = some (row M p):=row_in (by rw [hT.mem.l]; exact hpl)
      have hvl:(row M p).length=Rn:=by have:=(hT.head.way.shp.at_ (p:=p) (by rw [HL.out]; exact hpl)).1; rw [HRT.out] at this; exact this
      have hrp:=hT.mem.r p _ hv
      obtain ⟨cb,co,hCe,hcb,hcs⟩:=(hC1.below (HOB.out.symm ▸ hT.mem.b)) p i hi
      subst hCe
      obtain ⟨c0,c1,c2,c3,c4,c5,c6,c7,c8,c9,c10,c11,c12,c13,c14⟩:=RdI.load hcs
      have hd:=hT.mem.head hpl
      have k4:=(hT.mem.b.cell (p:=⟨B0,4,none⟩) hB0).trans hx4
      have l4:B0 < wr.heap.size:=by have:=hT.mem.s; omega
      have lob:=Pre.lt hT.mem.h
      have HTT:=Lib.hid hT
      have HQ:=Lib.hid hQ
      have HI:=Lib.hid hi
      have HV:=Lib.hid hvl
      have HCS:=Lib.hid hcs
      clear hT hcp hi hv hvl hcs
      obtain ⟨k,op,dst,a,b',n,text,r0,r1,r2,r3,r4,r5,to_,els⟩:=i
      simp only at c0 c1 c2 c3 c4 c5 c6 c7 c8 c9 c10 c11 c12 c13 c14
      go_wp2
      go_cut [10,11] from 82 to 175 (fun sa sb wx=>Cut24 wr wx ⟨k,op,dst,a,b',n,text,r0,r1,r2,r3,r4,r5,to_,els⟩ (row M p) Rn sa sb)
      case first =>
        go_region_held3 (fun w'=>∀ (q o:Nat),q < wr.heap.size→w'.cell? ⟨q,o,none⟩=wr.cell? ⟨q,o,none⟩)
          (first
          | with_reducible exact fun q o h=>(below_put15 (i:=⟨k,op,dst,a,b',n,text,r0,r1,r2,r3,r4,r5,to_,els⟩) (by assumption:Below wr.heap.size wr _) (Nat.le_refl _)).cell (p:=⟨q,o,none⟩) h
          | with_reducible exact fun q o h=>rfl
          | with_reducible exact fun q o h=>(by assumption:Below wr.heap.size wr _).cell (p:=⟨q,o,none⟩) h
          | with_reducible exact fun q o h=>(Below.alloc (by assumption:Below wr.heap.size wr _) (Below.size (by assumption:Below wr.heap.size wr _)) _).cell (p:=⟨q,o,none⟩) h
          | with_reducible exact fun q o h=>(Below.one wr _).cell (p:=⟨q,o,none⟩) h
          | exact fun q o h=>rfl
          | exact fun q o h=>(Below.one wr _).cell (p:=⟨q,o,none⟩) h)
          ((first
          | (go_at_call 29; refine (clone_vals (row M p) Rn HV.out hR4 (ob + 1 + p) Rn wr.drew (Pre.of_heap (W:=wr) hrp rfl)).mono ?_; rintro e w6 ⟨⟨nb,nc,rfl,hnb,hpv⟩,hb6⟩; have hb7:Below wr.heap.size wr w6:=((Below.refl wr.heap.size wr).drew).trans hb6)
          | (go_at_call 29; refine (clone_vals (row M p) Rn HV.out hR4 (ob + 1 + p) Rn (wr.alloc zeroI.obj).drew (Pre.of_heap (W:=wr.alloc zeroI.obj) (Pre.later hrp (Below.one wr zeroI.obj)) rfl)).mono ?_; rintro e w6 ⟨⟨nb,nc,rfl,hnb,hpv⟩,hb6⟩; obtain ⟨hb7,hbz,⟨z0,z1,z2,z3,z4,z5,z6,z7,z8,z9,z10,z11,z12,z13,z14⟩,zf⟩:=zero_kept hb6)))
        all_goals (go_wp2_with fail; go_meet)
        · exact Cut24.a (i:=⟨k,op,dst,a,b',n,text,r0,r1,r2,r3,r4,r5,to_,els⟩) hb7 hnb hpv
        · exact Cut24.b (i:=⟨k,op,dst,a,b',n,text,r0,r1,r2,r3,r4,r5,to_,els⟩) hb7 hbz hnb hpv
      case rest =>
        obtain ⟨ib,nb,nc,rfl,rfl,hbw,hib,hpv,hnb,hib2⟩:=hcut
        have hT:=HTT.out
        have hM7:=hT.mem.later hbw
        have hQ7:=hQ.later hbw
        have hok:Ok ⟨k,op,dst,a,b',n,text,r0,r1,r2,r3,r4,r5,to_,els⟩ (Rn:Int) f.Fr L:=by have h:=HF.out.ok _ (List.mem_of_getElem? HI.out); rw [HL.out,HRN.out] at h; exact h
        have hapart:=Cut24.apart hib hpv
        have hset:=set_any ⟨k,op,dst,a,b',n,text,r0,r1,r2,r3,r4,r5,to_,els⟩ (row M p) hok HV.out (some ⟨nb,0,none⟩) nc wc (PreV.read hpv)
        have hsets:=fun W=>Sets_any ⟨k,op,dst,a,b',n,text,r0,r1,r2,r3,r4,r5,to_,els⟩ W
        obtain ⟨xv,hxv⟩:∃ xv,setV ⟨k,op,dst,a,b',n,text,r0,r1,r2,r3,r4,r5,to_,els⟩ (row M p)=xv:=⟨_,rfl⟩
        unfold SetT at hset
        rw [hxv] at hset
        obtain ⟨⟨xk,xn⟩,on⟩:=xv
        obtain ⟨sr,hsr⟩:∃ sr,Ins.sets ⟨k,op,dst,a,b',n,text,r0,r1,r2,r3,r4,r5,to_,els⟩=sr:=⟨_,rfl⟩
        simp only [hsr] at hsets
        simp only [Ins.agg,Vl.agg] at hset hsets
        have HXV:=Lib.hid hxv
        have HSR:=Lib.hid hsr
        have HOK:=Lib.hid hok
        have HAP:=Lib.hid hapart
        have HM7:=Lib.hid hM7
        have HQ7:=Lib.hid hQ7
        have ⟨b0,b1,b2,b3,b4,b5,b6,b7,b8,b9,b10,b11,b12,b13,b14⟩:=Ins.cells hib
        simp only at b0 b1 b2 b3 b4 b5 b6 b7 b8 b9 b10 b11 b12 b13 b14
        clear hxv hsr hok hapart hM7 hQ7 hT c0 c1 c2 c3 c4 c5 c6 c7 c8 c9 c10 c11 c12 c13 c14 k4 hd hrp hq0 hsl
        cases on
        · go_wp2_with (first
            | (go_at_call 30; refine hset.mono ?_; rintro e w7 ⟨rfl,hb8⟩))
          have hT:=HTT.out
          have hms:=hT.meas
          simp only [List.length_cons] at hms
          have hN:Third f W1 (w7.alloc (.cells #[.int .i64 xk,.int .i64 xn] 41)) ob L Rn (T.length + 2 * pot M Cm) V' M Cm T :=
            ⟨hT.head.skip HI.out (by rw [HXV.out]),(HM7.out.later hb8).later (Below.one _ _),(HQ7.out.later hb8).later (Below.one _ _),rfl,by have:=hT.g3; omega⟩
          have HN:=Lib.hid hN
          clear hT hN
          go_roundg (T.length + 2 * pot M Cm)
          case measure=>omega
          case rel=>exact ⟨M,Cm,T,HN.out⟩
        · go_upto_if 111 with (first
            | (go_at_call 30; refine hset.mono ?_; rintro e w7 ⟨rfl,hb8⟩; have hib7:=(hb8.block _ (Array.getElem?_eq_some_iff.1 hib).1).trans hib; have hib8:=alloc_keeps hib7 (.cells #[.int .i64 xk,.int .i64 xn] 41); have ⟨d0,d1,d2,d3,d4,d5,d6,d7,d8,d9,d10,d11,d12,d13,d14⟩:=Ins.cells hib8; simp only at d0 d1 d2 d3 d4 d5 d6 d7 d8 d9 d10 d11 d12 d13 d14; have hxb:=heap_alloc_new w7 (.cells #[.int .i64 xk,.int .i64 xn] 41); have hsx:=hsets (w7.alloc (.cells #[.int .i64 xk,.int .i64 xn] 41)); have hxl:w7.heap.size < (w7.alloc (.cells #[.int .i64 xk,.int .i64 xn] 41)).heap.size:=by simp)
            | (go_at_call 31; refine hsx.mono ?_; rintro e w9 ⟨rfl,hb9⟩))
          have hxb9:=(hb9.block _ hxl).trans hxb
          have e0:=cell_of_heap hxb9 0 (.int .i64 xk) rfl
          have e1:=cell_of_heap hxb9 1 (.int .i64 xn) rfl
          have hpv9:=Pre.later (Pre.later (Pre.later hpv hb8) (Below.one _ (.cells #[.int .i64 xk,.int .i64 xn] 41))) hb9
          have hib9:=(hb9.block _ (Array.getElem?_eq_some_iff.1 hib8).1).trans hib8
          have hbw9:Below wr.heap.size wr w9:=hbw.trans (((hb8.alloc hb8.size _).trans (hb9.mono (Nat.le_trans hb8.size (by simp)))).mono hbw.size)
          clear d0 d1 d2 d3 d4 d5 d6 d7 d8 d9 d10 d11 d12 d13 d14 hsx hb8 hb9 hib7 hib8 hxb hxb9 hxl hset hsets b0 b1 b2 b3 b4 b5 b6 b7 b8 b9 b10 b11 b12 b13 b14 hpv
          go_cut [] from 82 to 175 (fun wx=>PreV wx nb (upd ⟨k,op,dst,a,b',n,text,r0,r1,r2,r3,r4,r5,to_,els⟩ (row M p))∧wx.heap[ib]? = some (Ins.obj ⟨k,op,dst,a,b',n,text,r0,r1,r2,r3,r4,r5,to_,els⟩)∧Below wr.heap.size wr wx)
          case first =>
            by_cases hs0:0≤sr
            · have hrn:sr < Rn:=by
                have h1:=HSR.out
                have h2:=HOK.out.dst
                simp only [Ins.sets] at h1
                split at h1
                · rename_i hk
                  have h3:=h2 hk
                  simp only at h3
                  omega
                · omega
              obtain ⟨rn,rfl⟩:∃ rn:Nat,sr=rn:=⟨sr.toNat,by omega⟩
              have hrn':rn < Rn:=by omega
              have hat:(row M p)[rn]? = some (at_ (row M p) rn):=by rw [at_in (by rw [HV.out]; exact hrn')]; simp
              obtain ⟨g0,g1⟩:=PreV.cells hpv9 hat
              have g2:=Pre.free hpv9 (rn * 2)
              have g3:=Pre.free hpv9 (rn * 2 + 1)
              have HN:=Lib.hid (PreV.set hpv9 hat ⟨xk,xn⟩)
              have HU:Hid (upd ⟨k,op,dst,a,b',n,text,r0,r1,r2,r3,r4,r5,to_,els⟩ (row M p)=(row M p).set rn ⟨xk,xn⟩):=Lib.hid (by unfold upd; rw [HSR.out,if_pos (by omega),HXV.out]; rfl)
              have HIB:Hid (∀ (j1 j2:Nat) (v1 v2:Value),((w9.setCell ⟨nb,j1,none⟩ v1).setCell ⟨nb,j2,none⟩ v2).heap[ib]? = some (Ins.obj ⟨k,op,dst,a,b',n,text,r0,r1,r2,r3,r4,r5,to_,els⟩)):=Lib.hid fun j1 j2 v1 v2=>(heap_setCell_other _ _ _ _ (by have:=HAP.out; exact this)).trans ((heap_setCell_other _ _ _ _ (by have:=HAP.out; exact this)).trans hib9)
              have HBW:Hid (∀ (j1 j2:Nat) (v1 v2:Value),Below wr.heap.size wr ((w9.setCell ⟨nb,j1,none⟩ v1).setCell ⟨nb,j2,none⟩ v2)):=Lib.hid fun j1 j2 v1 v2=>(hbw9.setCell hnb _).setCell hnb _
              have q1:decide (0≤(rn:Int))=true:=by simp
              clear hat hib9 hbw9 hpv9 hs0 hrn
              go_wp2
              go_meet
              exact ⟨by rw [HU.out]; exact HN.out,HIB.out _ _ _ _,HBW.out _ _ _ _⟩
            · have HU:Hid (upd ⟨k,op,dst,a,b',n,text,r0,r1,r2,r3,r4,r5,to_,els⟩ (row M p)=row M p):=Lib.hid (by unfold upd; rw [HSR.out,if_neg hs0])
              have q1:decide (0≤sr)=false:=by simpa using hs0
              have q2:sr < 0:=by omega
              clear hs0
              go_wp2
              go_meet
              exact ⟨by rw [HU.out]; exact hpv9,hib9,hbw9⟩
          case rest =>
            obtain ⟨hpu,hibu,hbu⟩:=hcut
            obtain ⟨wz,hwz⟩:∃ wz,wz=wc:=⟨_,rfl⟩
            subst hwz
            have hT:=HTT.out
            have hMz:=hT.mem.later hbu
            have hQz:=(HQ.out).later hbu
            have hp9:p≤100000:=by omega
            have hul:(upd ⟨k,op,dst,a,b',n,text,r0,r1,r2,r3,r4,r5,to_,els⟩ (row M p)).length=Rn:=by rw [upd_len]; exact HV.out
            have hnx:=next_any ⟨k,op,dst,a,b',n,text,r0,r1,r2,r3,r4,r5,to_,els⟩ (upd ⟨k,op,dst,a,b',n,text,r0,r1,r2,r3,r4,r5,to_,els⟩ (row M p)) HOK.out hul (some ⟨nb,0,none⟩) nc p hp9 wz (PreV.read hpu)
            obtain ⟨nl,hnl⟩:∃ nl,nl=nextV ⟨k,op,dst,a,b',n,text,r0,r1,r2,r3,r4,r5,to_,els⟩ p (upd ⟨k,op,dst,a,b',n,text,r0,r1,r2,r3,r4,r5,to_,els⟩ (row M p)):=⟨_,rfl⟩
            rw [← hnl] at hnx
            have HNL:=Lib.hid hnl
            have ⟨b0,b1,b2,b3,b4,b5,b6,b7,b8,b9,b10,b11,b12,b13,b14⟩:=Ins.cells hibu
            simp only at b0 b1 b2 b3 b4 b5 b6 b7 b8 b9 b10 b11 b12 b13 b14
            simp only [Ins.agg] at hnx
            have hmid:=Head.mid HF.out hT.head HI.out (by rw [HXV.out])
            have HMID:=Lib.hid hmid
            have HMZ:=Lib.hid hMz
            have HQZ:=Lib.hid hQz
            have HPU:=Lib.hid hpu
            have hnbw:ob + 2 + L≤nb:=by have:=hT.mem.s; omega
            have hms:=hT.meas
            have hg3:=hT.g3
            simp only [List.length_cons] at hms
            clear hT hnl hmid hMz hQz hul
            go_wp2_with (first
              | (go_at_call 32; refine hnx.mono ?_; rintro e w10 ⟨⟨NA,ncap,rfl,hNR,hNF⟩,hbx⟩))
            have h4:Four f W1 w10 ob L Rn nb p ⟨k,op,dst,a,b',n,text,r0,r1,r2,r3,r4,r5,to_,els⟩ (row M p) nl NA (T.length + 2 * pot M Cm) V' M Cm T 0 :=
              ⟨by rw [List.take_zero]; exact HMID.out,HMZ.out.later hbx,HQZ.out.later hbx,Nat.le_refl _,hNR,fun b o e=>by
                have h1:=hNF b o e
                have h2:=HMZ.out.s
                refine ⟨by omega,fun e2=>?_⟩
                have:=HQZ.out.lt e2
                omega,Pre.later HPU.out hbx⟩
            refine loop4_any f HF.out L Rn ob nb nc ncap HL.out HRT.out hR4 W1 w10 p ⟨k,op,dst,a,b',n,text,r0,r1,r2,r3,r4,r5,to_,els⟩ (row M p) nl NA (T.length + 2 * pot M Cm) V' M Cm T HNL.out (by omega) hnbw h4 _ ?_
            clear h4
            intro V'' z16 z17 z18 z19 z122 z123 z124 z125 z126 z127 z128 z129 z130 z131 z132 z133 z134 z135 z136 z137 z138 z139 z140 z141 z142 z143 z144 z145 z146 z147 z148 z149 z150 z151 z152 z153 z154 z155 z156 z157 z158 z159 z160 z161 z162 z163 z164 z165 z166 z167 z168 z169 z170 z171 z172 z173 z174 z175 M' Cm' T' w' h4
            have HN:Hid (Third f W1 w' ob L Rn (T'.length + 2 * pot M' Cm') V'' M' Cm' T'):=Lib.hid ⟨h4.mid.head (by rw [List.take_length]; exact HNL.out),h4.mem,h4.que,rfl,by have:=h4.meas; omega⟩
            have hm4:=h4.meas
            clear h4
            go_wp2
            go_roundg (T'.length + 2 * pot M' Cm')
            case measure=>omega
            case rel=>exact ⟨_,_,_,HN.out⟩
end Go.Proofs.Ythbcdckonaljiaa
namespace Go.Proofs.Ythbcdckonaljiaa
open Go.RowKit Go.BigFrame
def AheadT (f:Fn7)(e:Ending)(w:World):Prop:=∃ ob M,e = .returned (.slice (some ⟨ob,0,none⟩) f.code.length f.code.length)∧Ans f M∧RdM w ob f.R.toNat M∧ob < w.heap.size
theorem copy_ran {P:Program}{ops:Array Oper}{rest:List Oper}{o:Oper}{a:Act}{w w':World}{Q:Exit→Act→World→Prop}{t u:TypeId}{vs vx V:Value}(hgd:o.guard=none)(s x:Operand)
    (ho:o.op = .call { callee:=.builtin .copy,args:=#[s,x],argTypes:=#[t,u] }) (hs:a.eval s=vs) (hx:a.eval x=vx) (hr:(Builtin.copy_ #[t,u] o.type #[vs,vx]).run P w = .ok V w')
    (h:wpList P ops Q rest (a.put o.dst V) w'):wpList P ops Q (o::rest) a w:=by
  refine wpList_plain hgd fun K' hK'=>?_
  unfold Oper.wp execOp
  simp only [ho,resolve,invoke,builtin,Sem.run_bind,Sem.run_pure,Result.andThen_ok,List.map_toArray,List.map_cons,List.map_nil,hs,hx,hr]
  exact hK' _ _ h
set_option maxRecDepth 1000000 in
set_option maxHeartbeats 8000000 in
theorem ahead_yes (f:Fn7) (hf:OkF f) (hsz:f.code.length * (f.R.toNat + 1)≤65536) (C:Option Addr) (cap:Nat) (w:World) (hC:RdI w C f.code)
    (hRF:∀ W:World,RdI W C f.code→Calls Try.prog 28 #[funcAgg f.nm f.ps f.R f.Fr C f.code.length cap] W fun e w'=>Tru (OkF f) e∧Below W.heap.size W w') :
    Calls Try.prog 9 #[funcAgg f.nm f.ps f.R f.Fr C f.code.length cap] w fun e w'=>AheadT f e w'∧Below w.heap.size w w':=by
  have hB0:=Below.one w (funcObj f.nm f.ps f.R f.Fr C f.code.length cap)
  have bx:=heap_alloc_new w (funcObj f.nm f.ps f.R f.Fr C f.code.length cap)
  have hr0:=hRF _ (hC.below hB0)
  have hR0:0≤f.R:=by have:=hf.ps; have:=hf.R; omega
  have hR4:f.R.toNat≤4096:=by have:=hf.R; omega
  have hL1:=hf.len
  obtain ⟨Rn,hRn⟩:∃ Rn:Nat,f.R=Rn:=⟨f.R.toNat,by omega⟩
  have hps:=hf.ps
  obtain ⟨L,hL⟩:∃ L,f.code.length=L:=⟨_,rfl⟩
  have hRt:f.R.toNat=Rn:=by omega
  rw [hL,hRt] at hsz
  rw [hRt] at hR4
  rw [hL] at hL1
  simp only [funcObj,funcAgg,hL,hRn] at hB0 bx hr0 ⊢
  have HL:=Lib.hid hL
  have HF:=Lib.hid hf
  clear hf
  have HRN:=Lib.hid hRn
  have HRT:=Lib.hid hRt
  clear hL hRn hRt hR0
  have hm0:(L:Int) * ((Rn:Int) + 1)≤65536:=by
    have h:((L * (Rn + 1):Nat):Int)≤65536:=Int.ofNat_le.2 hsz
    rwa [Int.natCast_mul,Int.natCast_add,Int.natCast_one] at h
  have hm1:0≤(L:Int) * ((Rn:Int) + 1):=Int.mul_nonneg (by omega) (by omega)
  have hm2:decide ((L:Int) * ((Rn:Int) + 1) > 65536)=false:=by simp; omega
  have hm3:decide (65536 < (L:Int) * ((Rn:Int) + 1))=false:=by simp; omega
  have hmk1:=fun W=>make_rows L (by omega) W
  have hmk2:=fun W=>make_vals Rn (by omega) W
  have hmk3:=fun W=>make_bools L (by omega) W
  obtain ⟨W0,hW0⟩:∃ W0,w.alloc (.cells #[.string f.nm,.int .i64 f.ps,.int .i64 Rn,.int .i64 f.Fr,.slice C L cap] 26)=W0:=⟨_,rfl⟩
  rw [hW0] at hB0 bx hr0
  obtain ⟨y0,y1,y2,y3,y4⟩:W0.cell? ⟨w.heap.size,0,none⟩=some (.string f.nm)∧W0.cell? ⟨w.heap.size,1,none⟩=some (.int .i64 f.ps)∧W0.cell? ⟨w.heap.size,2,none⟩=some (.int .i64 Rn)∧W0.cell? ⟨w.heap.size,3,none⟩=some (.int .i64 f.Fr)∧W0.cell? ⟨w.heap.size,4,none⟩=some (.slice C L cap) :=
    ⟨cell_of_heap bx 0 _ rfl,cell_of_heap bx 1 _ rfl,cell_of_heap bx 2 _ rfl,cell_of_heap bx 3 _ rfl,cell_of_heap bx 4 _ rfl⟩
  have hlt0:=(Array.getElem?_eq_some_iff.1 bx).1
  go_enter Try.func9,Try.ntmps9
  go_wp2_with (first
    | (go_at_call 28; refine hr0.mono ?_; rintro e w1 ⟨⟨b,rfl,hb⟩,hb1⟩; obtain rfl:=hb.2 HF.out; clear hb; have x1:=(hb1.cell (p:=⟨w.heap.size,1,none⟩) hlt0).trans y1; have x2:=(hb1.cell (p:=⟨w.heap.size,2,none⟩) hlt0).trans y2; have x4:=(hb1.cell (p:=⟨w.heap.size,4,none⟩) hlt0).trans y4))
  clear hr0 y0 y1 y2 y3 y4 bx hRF
  have hB1:=hB0.trans (hb1.mono hB0.size)
  have hC1:=hC.below hB1
  have hlt1:=Nat.lt_of_lt_of_le hlt0 hb1.size
  clear hB0 hb1 hlt0 hC hW0
  have HS:=Lp1.start (W1:=w1) (L:=L) (R:=Rn)
  generalize hob:w1.heap.size=ob at *
  have HOB:=Lib.hid hob
  clear hob
  go_loopw [39] (fun ix wr=>∃ k:Nat,k≤L∧ix = .int .i64 k∧Lp1 w1 wr ob L Rn k) (fun ix _=>L - (intOf ix).toNat)
  case atStart=>exact ⟨0,by omega,rfl,HS⟩
  case round =>
    obtain ⟨k,hk,rfl,hr⟩:=hrel
    clear HS
    have z2:=(hr.b.cell (p:=⟨w.heap.size,2,none⟩) hlt1).trans x2
    by_cases hlt:k < L
    · have c0:=hr.cell hlt
      have c1:=Pre.free hr.h k
      have c2:=Pre.lt hr.h
      have HN:=Lib.hid (hr.next hlt)
      go_wp2
      exact ⟨⟨k + 1,by omega,by go_num,HN.out⟩,by simp [intOf]; omega⟩
    · obtain rfl:L=k:=by omega
      clear hk hlt z2
      obtain ⟨w2,hw2⟩:∃ w2,w2=wr:=⟨_,rfl⟩
      subst hw2
      have z2:=(hr.b.cell (p:=⟨w.heap.size,2,none⟩) hlt1).trans x2
      have z1:=(hr.b.cell (p:=⟨w.heap.size,1,none⟩) hlt1).trans x1
      have z4:=(hr.b.cell (p:=⟨w.heap.size,4,none⟩) hlt1).trans x4
      have hlt2:w.heap.size < w2.heap.size:=by have:=hr.s; omega
      have hb3:=Below.one w2 (.cells (madeCells #[.bool false] L) 4)
      have hcm:=made_pre (g:=gB) (d:=1) (t:=4) w2 #[.bool false] L false rfl (fun k hk=>by
        obtain rfl:k=0:=by omega
        rfl)
      rw [Nat.mul_one,hr.s] at hcm
      have hs3:(w2.alloc (.cells (madeCells #[.bool false] L) 4)).heap.size=ob + 2 + L:=by simp [hr.s]; omega
      have hob2:ob < w2.heap.size:=by have:=hr.s; omega
      obtain ⟨W3,hW3⟩:∃ W3,w2.alloc (.cells (madeCells #[.bool false] L) 4)=W3:=⟨_,rfl⟩
      rw [hW3] at hb3 hcm hs3
      have y2:=(hb3.cell (p:=⟨w.heap.size,2,none⟩) hlt2).trans z2
      have y1:=(hb3.cell (p:=⟨w.heap.size,1,none⟩) hlt2).trans z1
      have y4:=(hb3.cell (p:=⟨w.heap.size,4,none⟩) hlt2).trans z4
      have hlt3:=Nat.lt_of_lt_of_le hlt2 hb3.size
      have HS3:=Lib.hid hs3
      have HR:=Lib.hid hr
      have HCM:=Lib.hid hcm
      have HB3:=Lib.hid hb3
      have HX4:=Lib.hid x4
      clear hr hcm hb3 hs3 x1 x2 x4
      have HP:=Lp2.start (W3:=W3) (R:=Rn) (ps:=f.ps)
      go_wp2
      clear hW3 z1 z2 z4
      rw [show w2.heap.size=ob + 1 + L from HR.out.s]
      generalize hfo:W3.heap.size=fo at *
      have HFO:=Lib.hid hfo
      clear hfo
      go_loopw [58] (fun ix wr=>∃ k:Nat,k≤Rn∧ix = .int .i64 k∧Lp2 W3 wr fo Rn f.ps k) (fun ix _=>Rn - (intOf ix).toNat)
      case atStart=>exact ⟨0,by omega,rfl,HP⟩
      case round =>
        obtain ⟨k,hk,rfl,hr⟩:=hrel
        clear HP
        have z1:=(hr.b.cell (p:=⟨w.heap.size,1,none⟩) hlt3).trans y1
        by_cases hlt:k < Rn
        · have hc:=PreV.cells hr.h (fst_get hlt)
          rw [if_neg (Nat.lt_irrefl k)] at hc
          obtain ⟨c0,c1⟩:=hc
          simp only at c0 c1
          have c2:=Pre.free hr.h (k * 2)
          have c3:=Pre.free hr.h (k * 2 + 1)
          have c4:=Pre.lt hr.h
          by_cases hp:(k:Int) < f.ps
          · have HN:=Lib.hid (hr.next1 hlt hp)
            have q1:decide ((k:Int) < f.ps)=true:=by simpa using hp
            clear hp
            go_wp2
            exact ⟨⟨k + 1,by omega,by go_num,HN.out⟩,by simp [intOf]; omega⟩
          · have HN:=Lib.hid (hr.next0 hlt hp)
            have q1:decide ((k:Int) < f.ps)=false:=by simpa using hp
            clear hp
            go_wp2
            exact ⟨⟨k + 1,by omega,by go_num,HN.out⟩,by simp [intOf]; omega⟩
        · obtain rfl:Rn=k:=by omega
          clear hk hlt
          obtain ⟨w4,hw4⟩:∃ w4,w4=wr:=⟨_,rfl⟩
          subst hw4
          have hfo2:fo=ob + 2 + L:=by have h1:=HFO.out; have h2:=HS3.out; omega
          have hM0:=Mem.start HR.out HCM.out HB3.out hfo2 hr
          have hL0:0 < L:=by omega
          have hd0:=hM0.head hL0
          rw [Nat.add_zero] at hd0
          have hrow0:=hM0.r 0 (List.replicate Rn nv) (by simp [hL0])
          rw [Nat.add_zero] at hrow0
          obtain ⟨w5,hcp,hr5,ho5,hs5,hb5⟩:=copy_vals (R:=Rn) hrow0 hr.h (by simp) (by simp [fst]) 3
          have hM5:=Mem.setR hM0 hL0 (u:=fst Rn f.ps Rn) (by rw [Nat.add_zero]; exact hr5) (by rw [Nat.add_zero]; exact ho5) hs5 (by rw [Nat.add_zero]; exact hb5)
          have hc5:=PreB.cell hM5.c (j:=0) (v:=false) (by simp [hL0])
          have hf5:=Pre.free hM5.c 0
          have hM6:=Mem.setC hM5 (n:=0) (by simp [hL0]) true
          have hl5:=hM5.c.lt
          have HM6:=Lib.hid hM6
          clear hM6 hM5 hM0 hr5 hrow0 hs5 hb5 ho5 hr z1 y1 y2 y4
          go_wp2_with (first
            | (refine copy_ran (o:=⟨some 78,_,_,_,_,_⟩) rfl (.tmp 76) (.tmp 77) rfl rfl rfl hcp ?_))
          have HT:=Third.start HF.out HL.out HRT.out rfl hsz rfl HM6.out
          rw [World.size_setCell] at HT
          have HE:Hid (∀ (M':List (List Vl)) (w':World),Ans f M'→RdM w' ob Rn M'→Below ob w1 w'→ob < w'.heap.size→AheadT f (.returned (.slice (some ⟨ob,0,none⟩) L L)) w'∧Below w.heap.size w w'):=Lib.hid fun M' w' hA hR hb hlt =>
            ⟨⟨ob,M',by rw [HL.out],hA,by rw [HRT.out]; exact hR,hlt⟩,hB1.trans (hb.mono (by omega))⟩
          refine loop3_any f HF.out L Rn ob w.heap.size HL.out HRT.out HRN.out hR4 (by omega) w1 _ HOB.out C cap hlt1 HX4.out hC1 (1 + 2 * pot (M0 f) (C0 f)) _ (M0 f) (C0 f) [0] HT _ ?_
          clear HT hC1
          intro V' y9 y10 y11 y12 y13 y14 y16 y17 y18 y19 y82 y83 y84 y85 y86 y87 y88 y89 y90 y91 y92 y93 y94 y95 y96 y97 y98 y99 yA0 yA1 yA2 yA3 yA4 yA5 yA6 yA7 yA8 yA9 yB0 yB1 yB2 yB3 yB4 yB5 yB6 yB7 yB8 yB9 yC0 yC1 yC2 yC3 yC4 yC5 yC6 yC7 yC8 yC9 yD0 yD1 yD2 yD3 yD4 yD5 yD6 yD7 yD8 yD9 yE0 yE1 yE2 yE3 yE4 yE5 yE6 yE7 yE8 yE9 yF0 yF1 yF2 yF3 yF4 yF5 yF6 yF7 yF8 yF9 yG0 yG1 yG2 yG3 yG4 yG5 yG6 yG7 yG8 yG9 yH0 yH1 yH2 yH3 yH4 yH5 M' w' hA hR hb hlt
          have HP:=Lib.hid (HE.out M' w' hA hR hb hlt)
          clear hA hR hb hlt
          go_wp2
          go_returns
          exact HP.out
end Go.Proofs.Ythbcdckonaljiaa
namespace Go.Proofs.Ythbcdckonaljiaa
open Go.RowKit Go.BigFrame
def IdxV (l:List Vl)(e:Ending):Prop:=∃ i:Int,e = .returned (.int .i64 i)∧(i ≥ 0↔∃ x ∈ l,x.k=0)
set_option maxRecDepth 1000000 in
theorem fold1_any (x:Vl)(w:World):Calls Try.prog 35 #[x.agg] w fun e w'=>e = .returned (.bool (x.k == 0))∧Below w.heap.size w w':=by
  have hB:=Below.one w x.obj
  obtain ⟨k,n⟩:=x
  simp only [Vl.agg,Vl.obj] at hB ⊢
  go_enter Try.func35,Try.ntmps35
  go_wp2
  go_returns
  exact ⟨rfl,hB⟩
set_option maxRecDepth 1000000 in
set_option maxHeartbeats 4000000 in
theorem IndexFuncV_any (b cap:Nat) (l:List Vl) (R:Nat) (hR:l.length=R) (hR4:R≤4096) (w:World) (h:PreV w b l) :
    Calls Try.prog 55 #[.slice (some ⟨b,0,none⟩) R cap,.func (.func 35) #[] #[]] w fun e w'=>IdxV l e∧Below w.heap.size w w':=by
  have HL:=Lib.hid hR
  clear hR
  go_enter Try.func55,Try.ntmps55
  go_wp2
  go_loopw [8] (fun i w8=>∃ k:Nat,k≤R∧i = .int .i64 k∧Below w.heap.size w w8∧∀ (j:Nat) x,j < k→l[j]? = some x→x.k≠0) (fun i _=>R - (intOf i).toNat)
  case atStart=>exact ⟨0,by omega,rfl,Below.refl _ _,fun j r hj=>by omega⟩
  case round =>
    obtain ⟨k,hk,rfl,hbw,hno⟩:=hrel
    by_cases hlt:k < R
    · have hr:l[k]? = some (l[k]'(by rw [HL.out]; exact hlt)):=by simp
      generalize l[k]'(by rw [HL.out]; exact hlt)=x at hr
      obtain ⟨c0,c1⟩:=PreV.cells (Pre.later h hbw) hr
      have h1:=fold1_any x wr
      obtain ⟨xk,xn⟩:=x
      simp only [Vl.agg] at c0 c1 h1
      cases hb:(xk == 0)
      · rw [hb] at h1
        have HB:Hid (xk≠0):=Lib.hid (by simpa using hb)
        clear hb
        go_wp2_with (first
          | (go_at_call 35; refine h1.mono ?_; rintro e w1 ⟨rfl,hb1⟩))
        exact ⟨⟨k + 1,by omega,by simp,hbw.trans (hb1.mono hbw.size),fun j x' hj hx'=>by
          by_cases hjk:j=k
          · subst hjk
            rw [hr] at hx'
            injection hx' with hx'
            subst hx'
            exact HB.out
          · exact hno j x' (by omega) hx'⟩,by simp [intOf]; omega⟩
      · rw [hb] at h1
        have HE:Hid ((k:Int) ≥ 0↔∃ x ∈ l,x.k=0):=Lib.hid ⟨fun _=>⟨⟨xk,xn⟩,List.mem_of_getElem? hr,by simpa using hb⟩,fun _=>by omega⟩
        clear hb
        go_wp2_with (first
          | (go_at_call 35; refine h1.mono ?_; rintro e w1 ⟨rfl,hb1⟩))
        go_returns
        exact ⟨⟨_,rfl,HE.out⟩,hbw.trans (hb1.mono hbw.size)⟩
    · have HE:Hid ((-1:Int) ≥ 0↔∃ x ∈ l,x.k=0):=Lib.hid ⟨fun h=>by omega,fun ⟨x,hx,hb⟩=>by
        obtain ⟨j,hj⟩:=List.mem_iff_getElem?.1 hx
        exact absurd hb (hno j x (by have h1:=(List.getElem?_eq_some_iff.1 hj).1; rw [HL.out] at h1; omega) hj)⟩
      clear hno
      go_wp2
      go_returns
      exact ⟨⟨_,rfl,HE.out⟩,hbw⟩
def NevV (l:List Vl)(e:Ending):Prop:=∃ b:Bool,e = .returned (.bool b)∧(b=true↔∃ x ∈ l,x.k=0)
theorem ContainsV_any (b cap:Nat)(l:List Vl)(R:Nat)(hR:l.length=R)(hR4:R≤4096)(w:World)(h:PreV w b l) :
    Calls Try.prog 34 #[.slice (some ⟨b,0,none⟩) R cap,.func (.func 35) #[] #[]] w fun e w'=>NevV l e∧Below w.heap.size w w':=by
  have hI:=IndexFuncV_any b cap l R hR hR4 w h
  clear hR h
  go_enter Try.func34,Try.ntmps34
  go_wp2_with (first
    | (go_at_call 55; refine hI.mono ?_; rintro e w1 ⟨⟨i,rfl,hi⟩,hb⟩; have HI:=Lib.hid hi; clear hi))
  go_returns
  exact ⟨⟨decide (i ≥ 0),by simp,by rw [decide_eq_true_eq]; exact HI.out⟩,hb⟩
end Go.Proofs.Ythbcdckonaljiaa
namespace Go.Proofs.Ythbcdckonaljiaa
open Go.RowKit Go.BigFrame
theorem run_storeVar_at {P:Program}(w:World)(g o:Nat)(t ty:TypeId)(old:Array Value)(vs:List Value)(hg:w.heap[g]? = some (.cells old t (0,0)))(hi:(P.info? ty).map (·.size)=some vs.length)
    (hfit:o + vs.length≤old.size) (h1:∀ v ∈ vs,v.oneCell'=true) :
    (storeVar ty ⟨g,o,none⟩ (.agg vs.toArray)).run P w = .ok () (w.setRow g (old.toList.take o++vs++old.toList.drop (o + vs.length)).toArray):=by
  have:=run_storeCells_at P g o t vs 0 old w hg (by omega) h1
  cases hq:P.info? ty with
  | none=>simp [hq] at hi
  | some i =>
    have hs:i.size=vs.length:=by simpa [hq] using hi
    simp only [Nat.add_zero] at this
    simp [storeVar,sizeOf,typeInfo,hq,Value.cells,hs,this]
theorem wpList_store_at {P:Program}{ops:Array Oper}{rest:List Oper}{o:Oper}{a:Act}{w:World}{Q:Exit→Act→World→Prop}(hgd:o.guard=none)(ty:TypeId)(x y:Operand)(ho:o.op = .store ty x y)
    (g off:Nat) (vs:List Value) (hx:a.eval x = .pointer (some ⟨g,off,none⟩)) (hy:a.eval y = .agg vs.toArray)
    (t:TypeId) (old:Array Value) (hg:w.heap[g]? = some (.cells old t (0,0))) (hi:(P.info? ty).map (·.size)=some vs.length)
    (hfit:off + vs.length≤old.size) (h1:∀ v ∈ vs,v.oneCell'=true)
    (h:wpList P ops Q rest (a.put o.dst undef) (w.setRow g (old.toList.take off++vs++old.toList.drop (off + vs.length)).toArray)):wpList P ops Q (o::rest) a w :=
  wpList_plain hgd fun _ hK=>by
    unfold Oper.wp execOp
    simp only [ho,hx,hy,Instr.storeAt,Instr.sureAddr,Sem.run_bind,Sem.run_pure,Result.andThen_ok,run_storeVar_at w g off t ty old vs hg hi hfit h1]
    exact hK _ _ h
theorem PreI.setRow {W:World}{b:Nat}{l:List Ins}{cs:Array Value}(h1:W.heap[b]? = some (.cells cs 31 (0,0)))(h2:∀ j x,l[j]? = some x→∀ k,k < 15→cs[j * 15 + k]? = (Ins.l x)[k]?){p:Nat}(hp:p < l.length)(y:Ins) :
    p * 15 + 15≤cs.size∧PreI (W.setRow b (cs.toList.take (p * 15)++Ins.l y++cs.toList.drop (p * 15 + 15)).toArray) b (l.set p y):=by
  have hx:=List.getElem?_eq_getElem hp
  have h14:=h2 p _ hx 14 (by omega)
  have hsz:p * 15 + 15≤cs.size:=by
    have:(Ins.l l[p])[14]? = some (.int .i64 (l[p]).els):=rfl
    rw [this] at h14
    have:=(Array.getElem?_eq_some_iff.1 h14).1
    omega
  refine ⟨hsz,⟨_,setRow_heap W b cs _ _ _ h1,fun j x hj k hk=>?_⟩⟩
  have hlt:(cs.toList.take (p * 15)).length=p * 15:=by simp; omega
  rw [List.getElem?_toArray]
  by_cases hjp:p=j
  · subst hjp
    rw [List.getElem?_set_self hp] at hj
    injection hj with hj
    subst hj
    rw [List.append_assoc,List.getElem?_append_right (by rw [hlt]; omega),hlt,List.getElem?_append_left (by rw [ins_len]; omega)]
    congr 1
    omega
  · rw [List.getElem?_set_ne hjp] at hj
    have h3:=h2 j x hj k hk
    by_cases hlt2:j < p
    · have:(j + 1) * 15≤p * 15:=Nat.mul_le_mul_right 15 hlt2
      rw [List.append_assoc,List.getElem?_append_left (by rw [hlt]; omega),List.getElem?_take,if_pos (by omega),← h3]
      simp
    · have:(p + 1) * 15≤j * 15:=Nat.mul_le_mul_right 15 (by omega)
      rw [List.getElem?_append_right (by rw [List.length_append,hlt,ins_len]; omega),List.length_append,hlt,ins_len,List.getElem?_drop,← h3]
      simp only [Array.getElem?_toList]
      congr 1
      omega
def foldI (i:Ins) (p:Nat) (v:List Vl):Ins :=
  if v.any (fun x=>x.k == 0) then i
  else if i.kind=4∨i.kind=2∨i.kind=3 then
    (if (setV i v).2=true∧(setV i v).1.k=1 then ⟨1,0,i.dst,0,0,(setV i v).1.n,⟨#[]⟩,0,0,0,0,0,0,0,-1⟩ else i)
  else if i.kind=12 then
    (match nextV i p v with
     | [n]=>⟨11,0,-1,0,0,0,⟨#[]⟩,0,0,0,0,0,0,n,-1⟩
     | _=>i)
  else i
def insAt (l:List Ins)(p:Nat):Ins:=l.getD p zeroI
theorem insAt_in {l:List Ins}{p:Nat}(h:p < l.length):l[p]? = some (insAt l p):=by simp [insAt,List.getD,h]
def foldL (f:Fn7)(M:List (List Vl)):List Ins:=(List.range f.code.length).map fun p=>foldI (insAt f.code p) p (row M p)
def foldTo (f:Fn7)(M:List (List Vl))(p:Nat):List Ins:=(foldL f M).take p++f.code.drop p
def foldN (f:Fn7)(M:List (List Vl)):Nat→Nat
  | 0=>0
  | p + 1=>foldN f M p + (if foldI (insAt f.code p) p (row M p)=insAt f.code p then 0 else 1)
theorem foldL_len (f:Fn7)(M:List (List Vl)):(foldL f M).length=f.code.length:=by simp [foldL]
theorem foldL_at {f:Fn7}{M:List (List Vl)}{p:Nat}(h:p < f.code.length):(foldL f M)[p]? = some (foldI (insAt f.code p) p (row M p)):=by simp [foldL,h]
theorem foldTo_zero (f:Fn7)(M:List (List Vl)):foldTo f M 0=f.code:=by simp [foldTo]
theorem foldTo_all (f:Fn7)(M:List (List Vl)):foldTo f M f.code.length=foldL f M:=by
  unfold foldTo
  rw [List.take_of_length_le (by rw [foldL_len]; omega),List.drop_eq_nil_of_le (Nat.le_refl _),List.append_nil]
theorem foldTo_len {f:Fn7}{M:List (List Vl)}{p:Nat}(h:p≤f.code.length):(foldTo f M p).length=f.code.length:=by
  unfold foldTo
  rw [List.length_append,List.length_take,List.length_drop,foldL_len]
  omega
theorem foldTo_get {f:Fn7}{M:List (List Vl)}{p j:Nat}(h:p≤f.code.length):(foldTo f M p)[j]? = if j < p then (foldL f M)[j]? else f.code[j]?:=by
  unfold foldTo
  by_cases hj:j < p
  · rw [if_pos hj,List.getElem?_append_left (by rw [List.length_take,foldL_len]; omega),List.getElem?_take,if_pos hj]
  · rw [if_neg hj,List.getElem?_append_right (by rw [List.length_take,foldL_len]; omega),List.getElem?_drop]
    congr 1
    rw [List.length_take,foldL_len]
    omega
theorem foldTo_at {f:Fn7}{M:List (List Vl)}{p:Nat}(h:p < f.code.length):(foldTo f M p)[p]? = some (insAt f.code p):=by
  rw [foldTo_get (by omega),if_neg (Nat.lt_irrefl p),insAt_in h]
theorem foldTo_set {f:Fn7}{M:List (List Vl)}{p:Nat}(h:p < f.code.length):(foldTo f M p).set p (foldI (insAt f.code p) p (row M p))=foldTo f M (p + 1):=by
  apply List.ext_getElem?
  intro j
  rw [List.getElem?_set,foldTo_get (by omega),foldTo_get (by omega),foldTo_len (by omega)]
  by_cases hj:p=j
  · subst hj
    rw [if_pos rfl,if_pos h,if_pos (Nat.lt_succ_self p),foldL_at h]
  · rw [if_neg hj]
    by_cases h3:j < p
    · rw [if_pos h3,if_pos (by omega)]
    · rw [if_neg h3,if_neg (by omega)]
theorem foldTo_same {f:Fn7}{M:List (List Vl)}{p:Nat}(h:p < f.code.length)(e:foldI (insAt f.code p) p (row M p)=insAt f.code p):foldTo f M (p + 1)=foldTo f M p:=by
  rw [← foldTo_set h,e]
  apply List.ext_getElem?
  intro j
  rw [List.getElem?_set]
  by_cases hj:p=j
  · subst hj
    rw [if_pos rfl,if_pos (by rw [foldTo_len (by omega)]; exact h),foldTo_at h]
  · rw [if_neg hj]
theorem foldN_le (f:Fn7)(M:List (List Vl)):∀ p,foldN f M p≤p
  | 0=>Nat.le_refl _
  | p + 1=>by
    have:=foldN_le f M p
    unfold foldN
    split <;> omega
end Go.Proofs.Ythbcdckonaljiaa
namespace Go.Proofs.Ythbcdckonaljiaa
open Go.RowKit Go.BigFrame
theorem PreI.cells {W:World}{b:Nat}{l:List Ins}(h:PreI W b l){p:Nat}{i:Ins}(hp:l[p]? = some i):W.cell? ⟨b,p * 15,none⟩=some (.int .i64 i.kind)∧W.cell? ⟨b,p * 15 + 1,none⟩=some (.int .i64 i.op)∧W.cell? ⟨b,p * 15 + 2,none⟩=some (.int .i64 i.dst)∧W.cell? ⟨b,p * 15 + 3,none⟩=some (.int .i64 i.a)∧W.cell? ⟨b,p * 15 + 4,none⟩=some (.int .i64 i.b)∧W.cell? ⟨b,p * 15 + 5,none⟩=some (.int .i64 i.n)∧W.cell? ⟨b,p * 15 + 6,none⟩=some (.string i.text)∧W.cell? ⟨b,p * 15 + 7,none⟩=some (.int .i64 i.r0)∧W.cell? ⟨b,p * 15 + 8,none⟩=some (.int .i64 i.r1)∧W.cell? ⟨b,p * 15 + 9,none⟩=some (.int .i64 i.r2)∧W.cell? ⟨b,p * 15 + 10,none⟩=some (.int .i64 i.r3)∧W.cell? ⟨b,p * 15 + 11,none⟩=some (.int .i64 i.r4)∧W.cell? ⟨b,p * 15 + 12,none⟩=some (.int .i64 i.r5)∧W.cell? ⟨b,p * 15 + 13,none⟩=some (.int .i64 i.to_)∧W.cell? ⟨b,p * 15 + 14,none⟩=some (.int .i64 i.els) :=
  ⟨Pre.cell h hp (k:=0) (by omega) rfl,Pre.cell h hp (k:=1) (by omega) rfl,Pre.cell h hp (k:=2) (by omega) rfl,Pre.cell h hp (k:=3) (by omega) rfl,Pre.cell h hp (k:=4) (by omega) rfl,Pre.cell h hp (k:=5) (by omega) rfl,Pre.cell h hp (k:=6) (by omega) rfl,Pre.cell h hp (k:=7) (by omega) rfl,Pre.cell h hp (k:=8) (by omega) rfl,Pre.cell h hp (k:=9) (by omega) rfl,Pre.cell h hp (k:=10) (by omega) rfl,Pre.cell h hp (k:=11) (by omega) rfl,Pre.cell h hp (k:=12) (by omega) rfl,Pre.cell h hp (k:=13) (by omega) rfl,Pre.cell h hp (k:=14) (by omega) rfl⟩
noncomputable def foldLoop:Code:=((((Try.f10.body).map loopsOf).getD [])[0]?).getD .skip
def FoldR (H:Fn7→List (List Vl)→Nat→Prop):Prop:=∀ (f:Fn7),∀ (M:List (List Vl)),∀ (L Rn ob cb B0 p:Nat),∀ (pb:Nat→Nat),p < f.code.length→f.code.length=L→L≤8192→Rn≤4096→∀ (wr:World),wr.cell? ⟨B0,4,none⟩=some (.slice (some ⟨cb,0,none⟩) L L)→wr.cell? ⟨ob,p,none⟩=some (.slice (some ⟨pb p,0,none⟩) Rn Rn)→PreV wr (pb p) (row M p)→(row M p).length=Rn→PreI wr cb (foldTo f M p)→Ok (insAt f.code p) (Rn:Int) f.Fr L → 
    H f M p→∀ ⦃x0 x2 x3 x4 x6 x7 x8 x9 x10 x11 x12 x13 x14 x15 x16 x17 x18 x19 x23 x24 x25 x26 x27 x28 x29 x30 x31 x32 x33 x34 x35 x36 x37 x38 x39 x40 x41 x42 x43 x44 x45 x46 x47 x48 x49 x50 x51 x52 x53 x54 x55 x56 x57 x58 x59 x60 x61 x62 x63 x64 x65 x66 x67 x68 x69 x70 x71 x72 x73 x74 x75 x76 x77 x78 x79 x80 x81 x82 x83 x84 x85 x86:Value⦄ (K:Act→World→Prop) (Q:Exit→Act→World→Prop),(∀ ⦃y6 y7 y8 y9 y10 y11 y12 y23 y24 y25 y26 y27 y28 y29 y30 y31 y32 y33 y34 y35 y36 y37 y38 y39 y40 y41 y42 y43 y44 y45 y46 y47 y48 y49 y50 y51 y52 y53 y54 y55 y56 y57 y58 y59 y60 y61 y62 y63 y64 y65 y66 y67 y68 y69 y70 y71 y72 y73 y74 y75 y76 y77 y78 y79 y80 y81 y82 y83 y84:Value⦄ (w':World),Below cb wr w'→PreI w' cb (foldTo f M (p + 1))→K ⟨(x0::.pointer (some ⟨B0,0,none⟩)::x2::x3::x4::.int .i64 (foldN f M (p + 1):Int)::y6::y7::y8::y9::y10::y11::y12::x13::x14::x15::x16::x17::x18::x19::.slice (some ⟨ob,0,none⟩) L L::.int .i64 (L:Int)::.int .i64 ((p:Int) + 1)::y23::y24::y25::y26::y27::y28::y29::y30::y31::y32::y33::y34::y35::y36::y37::y38::y39::y40::y41::y42::y43::y44::y45::y46::y47::y48::y49::y50::y51::y52::y53::y54::y55::y56::y57::y58::y59::y60::y61::y62::y63::y64::y65::y66::y67::y68::y69::y70::y71::y72::y73::y74::y75::y76::y77::y78::y79::y80::y81::y82::y83::y84::x85::x86::[]).toArray,[]⟩ w')→Code.wp Try.prog (inLoop foldLoop) (Exit.then K Q) ⟨(x0::.pointer (some ⟨B0,0,none⟩)::x2::x3::x4::.int .i64 (foldN f M p:Int)::x6::x7::x8::x9::x10::x11::x12::x13::x14::x15::x16::x17::x18::x19::.slice (some ⟨ob,0,none⟩) L L::.int .i64 (L:Int)::.int .i64 (p:Int)::x23::x24::x25::x26::x27::x28::x29::x30::x31::x32::x33::x34::x35::x36::x37::x38::x39::x40::x41::x42::x43::x44::x45::x46::x47::x48::x49::x50::x51::x52::x53::x54::x55::x56::x57::x58::x59::x60::x61::x62::x63::x64::x65::x66::x67::x68::x69::x70::x71::x72::x73::x74::x75::x76::x77::x78::x79::x80::x81::x82::x83::x84::x85::x86::[]).toArray,[]⟩ wr
set_option maxRecDepth 1000000 in
set_option maxHeartbeats 8000000 in
theorem foldRound_stay:FoldR (fun f _ p=>¬ ((insAt f.code p).kind=4∨(insAt f.code p).kind=2∨(insAt f.code p).kind=3)∧(insAt f.code p).kind≠12):=by
  intro f M L Rn ob cb B0 p pb hpl hL hL8 hR4 wr y4 hd hpv hvl hC hok hh
  intros
  rename_i K Q hK
  have hkk:¬ ((insAt f.code p).kind=4∨(insAt f.code p).kind=2∨(insAt f.code p).kind=3)∧(insAt f.code p).kind≠12:=hh
  clear hh
  conv=>arg 2; whnf
  have hlt:p < L:=by omega
  obtain ⟨c0,c1,c2,c3,c4,c5,c6,c7,c8,c9,c10,c11,c12,c13,c14⟩:=PreI.cells hC (foldTo_at hpl)
  have hcl:=Pre.lt hC
  have hyl:=World.block_lt_of_cell? wr ⟨B0,4,none⟩ y4
  have hol:=World.block_lt_of_cell? wr ⟨ob,p,none⟩ hd
  have hfn:=foldN_le f M p
  have HT:=Lib.hid (foldTo_set (M:=M) hpl)
  have HSM:=Lib.hid (foldTo_same (M:=M) hpl)
  have HTL:=Lib.hid (foldTo_len (f:=f) (M:=M) (p:=p) (by omega))
  have HFN:Hid (foldN f M (p + 1)=foldN f M p + (if foldI (insAt f.code p) p (row M p)=insAt f.code p then 0 else 1)):=Lib.hid rfl
  have HC:=Lib.hid hC
  have HV:=Lib.hid hvl
  have HOK:=Lib.hid hok
  have HPV:=Lib.hid hpv
  have HL:=Lib.hid hL
  generalize insAt f.code p=i at *
  generalize row M p=v at *
  have hbi:=heap_alloc_new wr i.obj
  have hBi:=Below.one wr i.obj
  obtain ⟨k,op,dst,a,b,n,text,r0,r1,r2,r3,r4,r5,to_,els⟩:=i
  simp only at c0 c1 c2 c3 c4 c5 c6 c7 c8 c9 c10 c11 c12 c13 c14 hkk
  simp only [Ins.obj] at hbi hBi
  clear hvl hok hC hpl hL
  have hct:=ContainsV_any (pb p) Rn v Rn HV.out hR4 (wr.alloc (.cells #[.int .i64 k,.int .i64 op,.int .i64 dst,.int .i64 a,.int .i64 b,.int .i64 n,.string text,.int .i64 r0,.int .i64 r1,.int .i64 r2,.int .i64 r3,.int .i64 r4,.int .i64 r5,.int .i64 to_,.int .i64 els] 31)) (Pre.later HPV.out hBi)
  have hne:=fun (x:Ins) W=>neq_ins x ⟨k,op,dst,a,b,n,text,r0,r1,r2,r3,r4,r5,to_,els⟩ W
  have HFO:Hid (v.any (fun x=>x.k == 0)=true∨(¬ (k=4∨k=2∨k=3)∧k≠12)→foldI ⟨k,op,dst,a,b,n,text,r0,r1,r2,r3,r4,r5,to_,els⟩ p v=⟨k,op,dst,a,b,n,text,r0,r1,r2,r3,r4,r5,to_,els⟩):=Lib.hid fun h=>by
    unfold foldI
    rcases h with h | ⟨h,h'⟩
    · rw [if_pos h]
    · by_cases hc:v.any (fun x=>x.k == 0)=true
      · rw [if_pos hc]
      · rw [if_neg hc,if_neg h,if_neg h']
  have HSTAY:Hid (foldI ⟨k,op,dst,a,b,n,text,r0,r1,r2,r3,r4,r5,to_,els⟩ p v=⟨k,op,dst,a,b,n,text,r0,r1,r2,r3,r4,r5,to_,els⟩→foldTo f M (p + 1)=foldTo f M p∧foldN f M (p + 1)=foldN f M p):=Lib.hid fun h=>⟨HSM.out h,by rw [HFN.out,if_pos h]; rfl⟩
  have q4:(k == 4)=false:=by simp; omega
  have q2:(k == 2)=false:=by simp; omega
  have q3:(k == 3)=false:=by simp; omega
  have q12:(k == 12)=false:=by simp; omega
  have HS:=Lib.hid (HSTAY.out (HFO.out (Or.inr hkk)))
  have hneq:=hne ⟨k,op,dst,a,b,n,text,r0,r1,r2,r3,r4,r5,to_,els⟩
  simp only [Ins.agg,decide_true,Bool.not_true] at hneq
  rw [HS.out.1,HS.out.2] at hK
  clear hne hkk HFO HSTAY HT HSM HFN
  go_wp2_with (first
    | (go_at_call 34; refine hct.mono ?_; rintro e w1 ⟨⟨bv,rfl,hbv⟩,hb1⟩; have HBV:=Lib.hid hbv; clear hbv; have hib:=(hb1.block _ (by simp)).trans hbi; have hil:=(Array.getElem?_eq_some_iff.1 hib).1; have hBw:Below wr.heap.size wr w1:=hBi.trans (hb1.mono hBi.size); have ⟨d0,d1,d2,d3,d4,d5,d6,d7,d8,d9,d10,d11,d12,d13,d14⟩:=Ins.cells (i:=⟨k,op,dst,a,b,n,text,r0,r1,r2,r3,r4,r5,to_,els⟩) hib; simp only at d0 d1 d2 d3 d4 d5 d6 d7 d8 d9 d10 d11 d12 d13 d14; clear c0 c1 c2 c3 c4 c5 c6 c7 c8 c9 c10 c11 c12 c13 c14; cases bv))
  · exact hK _ ((hBw.alloc hBw.size _).mono (Nat.le_of_lt hcl)) (Pre.later HC.out (hBw.alloc hBw.size _))
  · exact hK _ (hBw.mono (Nat.le_of_lt hcl)) (Pre.later HC.out hBw)
end Go.Proofs.Ythbcdckonaljiaa
namespace Go.Proofs.Ythbcdckonaljiaa
open Go.RowKit Go.BigFrame
set_option maxRecDepth 1000000 in
set_option maxHeartbeats 8000000 in
theorem foldRound_never:FoldR (fun _ M p=>(row M p).any (fun x=>x.k == 0)=true):=by
  intro f M L Rn ob cb B0 p pb hpl hL hL8 hR4 wr y4 hd hpv hvl hC hok hh
  intros
  rename_i K Q hK
  have hnv:(row M p).any (fun x=>x.k == 0)=true:=hh
  clear hh
  conv=>arg 2; whnf
  have hlt:p < L:=by omega
  obtain ⟨c0,c1,c2,c3,c4,c5,c6,c7,c8,c9,c10,c11,c12,c13,c14⟩:=PreI.cells hC (foldTo_at hpl)
  have hcl:=Pre.lt hC
  have hyl:=World.block_lt_of_cell? wr ⟨B0,4,none⟩ y4
  have hol:=World.block_lt_of_cell? wr ⟨ob,p,none⟩ hd
  have hfn:=foldN_le f M p
  have HT:=Lib.hid (foldTo_set (M:=M) hpl)
  have HSM:=Lib.hid (foldTo_same (M:=M) hpl)
  have HTL:=Lib.hid (foldTo_len (f:=f) (M:=M) (p:=p) (by omega))
  have HFN:Hid (foldN f M (p + 1)=foldN f M p + (if foldI (insAt f.code p) p (row M p)=insAt f.code p then 0 else 1)):=Lib.hid rfl
  have HC:=Lib.hid hC
  have HV:=Lib.hid hvl
  have HOK:=Lib.hid hok
  have HPV:=Lib.hid hpv
  have HL:=Lib.hid hL
  generalize insAt f.code p=i at *
  generalize row M p=v at *
  have hbi:=heap_alloc_new wr i.obj
  have hBi:=Below.one wr i.obj
  obtain ⟨k,op,dst,a,b,n,text,r0,r1,r2,r3,r4,r5,to_,els⟩:=i
  simp only at c0 c1 c2 c3 c4 c5 c6 c7 c8 c9 c10 c11 c12 c13 c14
  simp only [Ins.obj] at hbi hBi
  clear hvl hok hC hpl hL
  have hct:=ContainsV_any (pb p) Rn v Rn HV.out hR4 (wr.alloc (.cells #[.int .i64 k,.int .i64 op,.int .i64 dst,.int .i64 a,.int .i64 b,.int .i64 n,.string text,.int .i64 r0,.int .i64 r1,.int .i64 r2,.int .i64 r3,.int .i64 r4,.int .i64 r5,.int .i64 to_,.int .i64 els] 31)) (Pre.later HPV.out hBi)
  have hne:=fun (x:Ins) W=>neq_ins x ⟨k,op,dst,a,b,n,text,r0,r1,r2,r3,r4,r5,to_,els⟩ W
  have HFO:Hid (v.any (fun x=>x.k == 0)=true∨(¬ (k=4∨k=2∨k=3)∧k≠12)→foldI ⟨k,op,dst,a,b,n,text,r0,r1,r2,r3,r4,r5,to_,els⟩ p v=⟨k,op,dst,a,b,n,text,r0,r1,r2,r3,r4,r5,to_,els⟩):=Lib.hid fun h=>by
    unfold foldI
    rcases h with h | ⟨h,h'⟩
    · rw [if_pos h]
    · by_cases hc:v.any (fun x=>x.k == 0)=true
      · rw [if_pos hc]
      · rw [if_neg hc,if_neg h,if_neg h']
  have HSTAY:Hid (foldI ⟨k,op,dst,a,b,n,text,r0,r1,r2,r3,r4,r5,to_,els⟩ p v=⟨k,op,dst,a,b,n,text,r0,r1,r2,r3,r4,r5,to_,els⟩→foldTo f M (p + 1)=foldTo f M p∧foldN f M (p + 1)=foldN f M p):=Lib.hid fun h=>⟨HSM.out h,by rw [HFN.out,if_pos h]; rfl⟩
  have HS:=Lib.hid (HSTAY.out (HFO.out (Or.inl hnv)))
  have HEX:Hid (∃ x ∈ v,x.k=0):=Lib.hid (by simpa using hnv)
  rw [HS.out.1,HS.out.2] at hK
  clear hne hnv HFO HSTAY HT HSM HFN
  go_wp2_with (first
    | (go_at_call 34; refine hct.mono ?_; rintro e w1 ⟨⟨bv,rfl,hbv⟩,hb1⟩; obtain rfl:bv=true:=hbv.2 HEX.out; clear hbv; have hib:=(hb1.block _ (by simp)).trans hbi; have hil:=(Array.getElem?_eq_some_iff.1 hib).1; have hBw:Below wr.heap.size wr w1:=hBi.trans (hb1.mono hBi.size); have ⟨d0,d1,d2,d3,d4,d5,d6,d7,d8,d9,d10,d11,d12,d13,d14⟩:=Ins.cells (i:=⟨k,op,dst,a,b,n,text,r0,r1,r2,r3,r4,r5,to_,els⟩) hib; simp only at d0 d1 d2 d3 d4 d5 d6 d7 d8 d9 d10 d11 d12 d13 d14; clear c0 c1 c2 c3 c4 c5 c6 c7 c8 c9 c10 c11 c12 c13 c14))
  exact hK _ (hBw.mono (Nat.le_of_lt hcl)) (Pre.later HC.out hBw)
end Go.Proofs.Ythbcdckonaljiaa

