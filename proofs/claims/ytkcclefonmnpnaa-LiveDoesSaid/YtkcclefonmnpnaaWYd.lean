import Derived.Deep.CutRange
import Derived.StillTailTactics
import Derived.Test.YtkcclefonmnpnaaWYa
import Derived.Test.YtkcclefonmnpnaaWYf
import Derived.Test.YtkcclefonmnpnaaCw
namespace Go.Proofs.Ytkcclefonmnpnaa
open Go.RowKit Go.BigFrame
theorem dUn:Try.prog.underlying 43=some (.struct (Try.prog.fieldsOf 43)):=by kernel_rfl
theorem dsUn:(Try.prog.info? 43).map (·.size)=some 3:=by kernel_rfl
theorem dsRe:(Try.prog.info? 49).map (·.size)=some 3:=by kernel_rfl
def DoD (W:World)(x y:Res)(s t:Value)(wx:World):Prop:=∃ (b1 b2:Nat) (A1:Option Addr) (c1:Nat) (A2:Option Addr) (c2:Nat),s = .pointer (some ⟨b1,0,none⟩)∧t = .pointer (some ⟨b2,0,none⟩)∧wx.heap[b1]? = some (reObj x A1 c1)∧wx.heap[b2]? = some (reObj y A2 c2)∧RdC wx A1 x.out c1∧RdC wx A2 y.out c2∧Below W.heap.size W wx
theorem doD_of {W wB F:World}{x y:Res}{A1 A2:Option Addr}{c1 c2:Nat}(hb:Below W.heap.size W wB)(hr1:RdC wB A1 x.out c1)(hr2:RdC wB A2 y.out c2)(b1 b2:Nat)(h1:Zn wB b1)(h2:Zn wB b2)(hW1:W.heap.size≤b1)(hW2:W.heap.size≤b2)
    (e1:F.heap[b1]? = some (reObj x A1 c1)) (e2:F.heap[b2]? = some (reObj y A2 c2)) (ho:F.os=wB.os) (ht:F.tape=wB.tape) (hu:F.output=wB.output) (hs:wB.heap.size≤F.heap.size) (hk:∀ q,q < wB.heap.size→q≠b1→q≠b2→F.heap[q]? = wB.heap[q]?) :
    DoD W x y (.pointer (some ⟨b1,0,none⟩)) (.pointer (some ⟨b2,0,none⟩)) F :=
  ⟨b1,b2,A1,c1,A2,c2,rfl,rfl,e1,e2,⟨hr1.1.zn h1 h2 hs hk,hr1.2⟩,⟨hr2.1.zn h1 h2 hs hk,hr2.2⟩,ho.trans hb.os,ht.trans hb.tape,hu.trans hb.output,Nat.le_trans hb.size hs,fun k hk'=>(hk k (Nat.lt_of_lt_of_le hk' hb.size) (by omega) (by omega)).trans (hb.block k hk')⟩
theorem some_of {v:Option Value}(h:v.isSome=true):∃ u,v=some u:=Option.isSome_iff_exists.1 h
section
variable {W:World} {x y:Res} {V0 VI VN V4:Value}
def G1 (W:World)(x y:Res)(V0 VI VN V4:Value):Nat→Value→World→Prop
  | 0,v,_=>v=V0
  | 1,v,_=>v=VI
  | 2,v,_=>v=VN
  | 3,v,w=>∃ A c,v=reAgg x A c∧RdC w A x.out c
  | 4,v,_=>v=V4
  | 5,v,_=>v=VI
  | 6,v,_=>v=VN
  | 7,v,w=>∃ A c,v=reAgg y A c∧RdC w A y.out c
  | 8,v,w=>∃ b,v = .pointer (some ⟨b,0,none⟩)∧W.heap.size≤b∧w.heap[b]? = some zRe
  | 9,v,w=>∃ b,v = .pointer (some ⟨b,0,none⟩)∧W.heap.size≤b∧w.heap[b]? = some zRe
  | _,_,_=>True
theorem G1.grow {w w':World}(hb:Below w.heap.size w w'):∀ {i:Nat} {v:Value},G1 W x y V0 VI VN V4 i v w→G1 W x y V0 VI VN V4 i v w'
  | 0,_,h=>h
  | 1,_,h=>h
  | 2,_,h=>h
  | 3,_,⟨A,c,h1,h2⟩=>⟨A,c,h1,h2.below hb⟩
  | 4,_,h=>h
  | 5,_,h=>h
  | 6,_,h=>h
  | 7,_,⟨A,c,h1,h2⟩=>⟨A,c,h1,h2.below hb⟩
  | 8,_,⟨b,h1,h2,h3⟩=>⟨b,h1,h2,(hb.block b (Array.getElem?_eq_some_iff.1 h3).1).trans h3⟩
  | 9,_,⟨b,h1,h2,h3⟩=>⟨b,h1,h2,(hb.block b (Array.getElem?_eq_some_iff.1 h3).1).trans h3⟩
  | _ + 10,_,_=>trivial
structure I1 (W:World)(x y:Res)(V0 VI VN V4:Value)(s:Nat→Option Value)(w:World):Prop where
  b:Below W.heap.size W w
  g:∀ i v,s i=some v→G1 W x y V0 VI VN V4 i v w
  ne:∀ b b',s 8=some (.pointer (some ⟨b,0,none⟩))→s 9=some (.pointer (some ⟨b',0,none⟩))→b≠b'
theorem I1.step {s:Nat→Option Value} {w w':World} (h:I1 W x y V0 VI VN V4 s w) (hb:Below w.heap.size w w') (i:Nat) (v:Value) (hg:G1 W x y V0 VI VN V4 i v w') (hn:i=8∨i=9→v = .pointer (some ⟨w.heap.size,0,none⟩)):I1 W x y V0 VI VN V4 (updT s i v) w' where
  b:=h.b.trans (hb.mono h.b.size)
  g:=fun j u hj=>by
    by_cases hji:j=i
    · subst hji
      simp only [updT,if_true,Option.some.injEq] at hj
      rw [← hj]; exact hg
    · simp only [updT,hji,if_false] at hj
      exact (h.g j u hj).grow hb
  ne := fun b b' h8 h9=>by
    by_cases h1:i=8
    · subst h1
      have e:=hn (Or.inl rfl)
      simp only [updT,if_true,Option.some.injEq] at h8
      rw [e] at h8
      have hb8:w.heap.size=b:=by cases h8; rfl
      simp only [updT,if_neg (show ¬ (9:Nat)=8 by decide)] at h9
      obtain ⟨c,e1,_,e3⟩:=h.g 9 _ h9
      have hc:b'=c:=by cases e1; rfl
      subst hc
      have:=(Array.getElem?_eq_some_iff.1 e3).1
      omega
    · by_cases h2:i=9
      · subst h2
        have e:=hn (Or.inr rfl)
        simp only [updT,if_true,Option.some.injEq] at h9
        rw [e] at h9
        have hb9:w.heap.size=b':=by cases h9; rfl
        simp only [updT,if_neg (show ¬ (8:Nat)=9 by decide)] at h8
        obtain ⟨c,e1,_,e3⟩:=h.g 8 _ h8
        have hc:b=c:=by cases e1; rfl
        subst hc
        have:=(Array.getElem?_eq_some_iff.1 e3).1
        omega
      · simp only [updT,if_neg (Ne.symm h1),if_neg (Ne.symm h2)] at h8 h9
        exact h.ne b b' h8 h9
end
set_option maxRecDepth 1000000 in
set_option maxHeartbeats 32000000 in
theorem Does_any (x y:Res) (hd:doesB x y) (hx9:x.out.length≤1000000) (hy9:y.out.length≤1000000) (u v:Un7) (F G F' G':Option Addr) (cF cG cF' cG':Nat) (I:Option Addr) (Li icap:Nat) (n:Int) (w:World)
    (hA:∀ W,Below w.heap.size w W→Calls Try.prog 30 #[unAgg u F G cF cG,.slice I Li icap,.int .i64 n] W fun e w'=>ResT x e w'∧Below W.heap.size W w')
    (hB:∀ W,Below w.heap.size w W→Calls Try.prog 30 #[unAgg v F' G' cF' cG',.slice I Li icap,.int .i64 n] W fun e w'=>ResT y e w'∧Below W.heap.size W w') :
    Calls Try.prog 31 #[unAgg u F G cF cG,unAgg v F' G' cF' cG',.slice I Li icap,.int .i64 n] w fun e w'=>e = .returned (.bool true)∧Below w.heap.size w w':=by
  obtain ⟨b0,b1,hBW⟩:=made_two w (unObj u F G cF cG) (unObj v F' G' cF' cG')
  have hR7:=fun (x y:Res) hx hy A B ca cb W h1 h2=>(Result7_any x y A B ca cb hx hy W h1 h2)
  obtain ⟨W,hW⟩:∃ W,(w.alloc (unObj u F G cF cG)).alloc (unObj v F' G' cF' cG')=W:=⟨_,rfl⟩
  rw [hW] at b0 b1 hBW
  simp only [unObj,unAgg] at b0 b1 hW hA hB ⊢
  obtain ⟨N,hN⟩:∃ N,u.funcs.length=N:=⟨_,rfl⟩
  obtain ⟨M,hM⟩:∃ M,u.globs.length=M:=⟨_,rfl⟩
  obtain ⟨N',hN'⟩:∃ N,v.funcs.length=N:=⟨_,rfl⟩
  obtain ⟨M',hM'⟩:∃ M,v.globs.length=M:=⟨_,rfl⟩
  rw [hN,hM] at b0 hW
  rw [hN',hM'] at b1 hW
  simp only [hN,hM] at hA ⊢
  simp only [hN',hM'] at hB ⊢
  have HB0:=Lib.hid b0
  have HB1:=Lib.hid b1
  have HA:=Lib.hid hA
  have HB:=Lib.hid hB
  have HBW:=Lib.hid hBW
  have HR7:=Lib.hid hR7
  have HD:=Lib.hid hd
  have HX9:=Lib.hid hx9
  have HY9:=Lib.hid hy9
  clear hA hB hBW hR7 hd hx9 hy9 hN hM hN' hM' b0 b1
  go_enter Try.func31,Try.ntmps31
  go_upto_region 1 with fail
  clear hW
  go_cut [9,10] from 12 to 19 (fun s t wx=>DoD W x y s t wx)
  case first =>
    refine wp_region_grown 10 (I1 W x y (.agg #[.slice F N cF,.slice G M cG,.int .i64 u.top]) (.slice I Li icap) (.int .i64 n) (.agg #[.slice F' N' cF',.slice G' M' cG',.int .i64 v.top])) (by kernel_rfl) (by kernel_rfl) ?_ ?_ ?_
    · exact ⟨(Below.refl _ _).drew,fun i v h=>(by cases h),fun b b' h=>(by cases h)⟩
    · intro i o s wr hi ho hI hsi hdep
      have hb:=hI.b
      have c0:=(hb.block _ (Array.getElem?_eq_some_iff.1 HB0.out).1).trans HB0.out
      have c1:=(hb.block _ (Array.getElem?_eq_some_iff.1 HB1.out).1).trans HB1.out
      have hr:=Below.refl wr.heap.size wr
      rcases (by omega:i=0∨i=1∨i=2∨i=3∨i=4∨i=5∨i=6∨i=7∨i=8∨i=9) with rfl | rfl | rfl | rfl | rfl | rfl | rfl | rfl | rfl | rfl
      all_goals (simp only [List.getElem?_cons_zero,List.getElem?_cons_succ] at ho; obtain rfl:=Option.some.inj ho)
      · exact Or.inl ⟨_,_,runT_load 43 (.tmp 4) rfl _ rfl _ _ _ _ c0 dUn rfl dsUn,hI.step hr 0 _ rfl (by omega)⟩
      · exact Or.inl ⟨_,_,runT_move (.tmp 2) rfl,hI.step hr 1 _ rfl (by omega)⟩
      · exact Or.inl ⟨_,_,runT_move (.tmp 3) rfl,hI.step hr 2 _ rfl (by omega)⟩
      · obtain ⟨v0,e0⟩:=some_of (hdep ⟨0,.data⟩ (by simp) rfl)
        obtain ⟨v1,e1⟩:=some_of (hdep ⟨1,.data⟩ (by simp) rfl)
        obtain ⟨v2,e2⟩:=some_of (hdep ⟨2,.data⟩ (by simp) rfl)
        obtain rfl:=hI.g 0 _ e0
        obtain rfl:=hI.g 1 _ e1
        obtain rfl:=hI.g 2 _ e2
        refine Or.inr ⟨30,#[.agg #[.slice F N cF,.slice G M cG,.int .i64 u.top],.slice I Li icap,.int .i64 n],runT_call 30 _ _ rfl rfl _ ?_ Try.func30 (by kernel_rfl) rfl,?_⟩
        · simp only [List.map_toArray,List.map_cons,List.map_nil]
          rw [evalT_told 0 (by kernel_rfl) e0,evalT_told 1 (by kernel_rfl) e1,evalT_told 2 (by kernel_rfl) e2]
        · exact (HA.out wr (HBW.out.trans (hb.mono HBW.out.size))).mono fun e w' ⟨⟨A1,c1,he,hr1⟩,hb'⟩=>⟨_,he,hI.step hb' 3 _ ⟨A1,c1,rfl,hr1⟩ (by omega)⟩
      · exact Or.inl ⟨_,_,runT_load 43 (.tmp 5) rfl _ rfl _ _ _ _ c1 dUn rfl dsUn,hI.step hr 4 _ rfl (by omega)⟩
      · exact Or.inl ⟨_,_,runT_move (.tmp 2) rfl,hI.step hr 5 _ rfl (by omega)⟩
      · exact Or.inl ⟨_,_,runT_move (.tmp 3) rfl,hI.step hr 6 _ rfl (by omega)⟩
      · obtain ⟨v0,e0⟩:=some_of (hdep ⟨4,.data⟩ (by simp) rfl)
        obtain ⟨v1,e1⟩:=some_of (hdep ⟨5,.data⟩ (by simp) rfl)
        obtain ⟨v2,e2⟩:=some_of (hdep ⟨6,.data⟩ (by simp) rfl)
        obtain rfl:=hI.g 4 _ e0
        obtain rfl:=hI.g 5 _ e1
        obtain rfl:=hI.g 6 _ e2
        refine Or.inr ⟨30,#[.agg #[.slice F' N' cF',.slice G' M' cG',.int .i64 v.top],.slice I Li icap,.int .i64 n],runT_call 30 _ _ rfl rfl _ ?_ Try.func30 (by kernel_rfl) rfl,?_⟩
        · simp only [List.map_toArray,List.map_cons,List.map_nil]
          rw [evalT_told 4 (by kernel_rfl) e0,evalT_told 5 (by kernel_rfl) e1,evalT_told 6 (by kernel_rfl) e2]
        · exact (HB.out wr (HBW.out.trans (hb.mono HBW.out.size))).mono fun e w' ⟨⟨A1,c1,he,hr1⟩,hb'⟩=>⟨_,he,hI.step hb' 7 _ ⟨A1,c1,rfl,hr1⟩ (by omega)⟩
      · exact Or.inl ⟨_,_,runT_alloc 49 rfl _ alloc_res,hI.step (Below.one wr _) 8 _ ⟨_,rfl,hb.size,heap_alloc_new _ _⟩ (fun _=>rfl)⟩
      · exact Or.inl ⟨_,_,runT_alloc 49 rfl _ alloc_res,hI.step (Below.one wr _) 9 _ ⟨_,rfl,hb.size,heap_alloc_new _ _⟩ (fun _=>rfl)⟩
    · intro s wr hI hsome
      obtain ⟨v0,e0⟩:=some_of (hsome 0 (by omega))
      obtain ⟨v1,e1⟩:=some_of (hsome 1 (by omega))
      obtain ⟨v2,e2⟩:=some_of (hsome 2 (by omega))
      obtain ⟨v3,e3⟩:=some_of (hsome 3 (by omega))
      obtain ⟨v4,e4⟩:=some_of (hsome 4 (by omega))
      obtain ⟨v5,e5⟩:=some_of (hsome 5 (by omega))
      obtain ⟨v6,e6⟩:=some_of (hsome 6 (by omega))
      obtain ⟨v7,e7⟩:=some_of (hsome 7 (by omega))
      obtain ⟨v8,e8⟩:=some_of (hsome 8 (by omega))
      obtain ⟨v9,e9⟩:=some_of (hsome 9 (by omega))
      obtain ⟨A1,c1,rfl,hr1⟩:=hI.g 3 _ e3
      obtain ⟨A2,c2,rfl,hr2⟩:=hI.g 7 _ e7
      obtain ⟨b1,rfl,hW1,z1⟩:=hI.g 8 _ e8
      obtain ⟨b2,rfl,hW2,z2⟩:=hI.g 9 _ e9
      have hne:=hI.ne b1 b2 e8 e9
      simp only [List.take_succ_cons,List.take_zero,List.drop_succ_cons,List.drop_zero,putsT,e0,e1,e2,e3,e4,e5,e6,e7,e8,e9,Option.getD_some]
      go_frame
      refine wpList_store_row rfl 49 (.tmp 9) (.tmp 15) rfl b1 #[.int .i64 x.e,.int .i64 x.c,.slice A1 x.out.length c1] rfl rfl _ _ z1 dsRe rfl (re_one _ _ _ _ _) ?_
      refine wpList_store_row rfl 49 (.tmp 10) (.tmp 19) rfl b2 #[.int .i64 y.e,.int .i64 y.c,.slice A2 y.out.length c2] rfl rfl _ _ ((setRow_other _ _ _ _ (Ne.symm hne)).trans z2) dsRe rfl (re_one _ _ _ _ _) ?_
      go_wp2_with fail
      have hfin:DoD W x y (.pointer (some ⟨b1,0,none⟩)) (.pointer (some ⟨b2,0,none⟩)) ((wr.setRow b1 #[.int .i64 x.e,.int .i64 x.c,.slice A1 x.out.length c1]).setRow b2 #[.int .i64 y.e,.int .i64 y.c,.slice A2 y.out.length c2]) :=
        doD_of hI.b hr1 hr2 b1 b2 (Or.inr z1) (Or.inr z2) hW1 hW2 ((setRow_other _ _ _ _ hne).trans (setRow_heap _ _ _ _ _ _ z1)) (setRow_heap _ _ _ _ _ _ ((setRow_other _ _ _ _ (Ne.symm hne)).trans z2)) rfl rfl rfl (by simp) (fun q _ h1 h2=>(setRow_other _ _ _ _ h2).trans (setRow_other _ _ _ _ h1))
      go_meet
      exact hfin
  case rest =>
    obtain ⟨b1,b2,A1,c1,A2,c2,rfl,rfl,hm1,hm2,⟨hr1,hcp1⟩,⟨hr2,hcp2⟩,hb⟩:=hcut
    have q0:=cell_of_heap hm1 0 (.int .i64 x.e) rfl
    have q1:=cell_of_heap hm1 1 (.int .i64 x.c) rfl
    have q2:=cell_of_heap hm1 2 (.slice A1 x.out.length c1) rfl
    have p0:=cell_of_heap hm2 0 (.int .i64 y.e) rfl
    have p1:=cell_of_heap hm2 1 (.int .i64 y.c) rfl
    have p2:=cell_of_heap hm2 2 (.slice A2 y.out.length c2) rfl
    have HB2:=Lib.hid (HBW.out.trans (hb.mono HBW.out.size))
    clear hm1 hm2 hb HB0 HB1 HBW HA HB
    by_cases hne:x.e≠4∧y.e≠4
    · have hxy:x=y:=by
        have:=HD.out
        unfold doesB at this
        rw [if_pos hne] at this
        exact this
      subst hxy
      have e1:decide (x.e=4)=false:=by simp; exact hne.1
      have e2:¬ x.e=4:=hne.1
      have e3:(x.e == 4)=false:=by simp; exact hne.1
      have HR1:=Lib.hid hr1
      have HR2:=Lib.hid hr2
      clear hne hr1 hr2 HD
      go_wp2_with fail
      refine (HR7.out x x HX9.out HY9.out A1 A2 c1 c2 _ HR1.out HR2.out).mono ?_
      rintro e w3 ⟨rfl,hb3⟩
      go_wp2
      go_returns
      exact ⟨by simp,HB2.out.trans (hb3.mono HB2.out.size)⟩
    · have hd2:¬ (x.e≠4∧x.out.length < y.out.length)∧¬ (y.e≠4∧y.out.length < x.out.length)∧x.out.take (min x.out.length y.out.length)=y.out.take (min x.out.length y.out.length):=by
        have:=HD.out
        unfold doesB at this
        rw [if_neg hne] at this
        exact this
      obtain ⟨d1,d2,d3⟩:=hd2
      obtain ⟨m,hm⟩:∃ m:Nat,min x.out.length y.out.length=m:=⟨_,rfl⟩
      rw [hm] at d3
      have hv:(if y.out.length < x.out.length then (y.out.length:Int) else (x.out.length:Int))=(m:Int):=by
        split <;> omega
      have l1:m≤c1:=by omega
      have l2:m≤c2:=by omega
      have l3:m≤x.out.length:=by omega
      have l4:m≤y.out.length:=by omega
      have hall:(decide (x.e=4)=true∧decide (y.e=4)=true∧x.e=4∧y.e=4)∨(decide (x.e=4)=true∧decide (y.e=4)=false∧x.e=4∧¬ y.e=4∧decide ((x.out.length:Int) > m)=false∧decide ((m:Int) < x.out.length)=false∧x.out.length≤m∧¬ m < x.out.length)∨(decide (x.e=4)=false∧decide (y.e=4)=true∧¬ x.e=4∧y.e=4∧decide ((y.out.length:Int) > m)=false∧decide ((m:Int) < y.out.length)=false∧y.out.length≤m∧¬ m < y.out.length):=by
        by_cases hx4:x.e=4
        · by_cases hy4:y.e=4
          · exact Or.inl ⟨by simp [hx4],by simp [hy4],hx4,hy4⟩
          · have:¬ y.out.length < x.out.length:=fun h=>d2 ⟨hy4,h⟩
            exact Or.inr (Or.inl ⟨by simp [hx4],by simp [hy4],hx4,hy4,by simp; omega,by simp; omega,by omega,by omega⟩)
        · have hy4:y.e=4:=Classical.byContradiction fun h=>hne ⟨hx4,h⟩
          have:¬ x.out.length < y.out.length:=fun h=>d1 ⟨hx4,h⟩
          exact Or.inr (Or.inr ⟨by simp [hx4],by simp [hy4],hx4,hy4,by simp; omega,by simp; omega,by omega,by omega⟩)
      have hr7:=fun W (h1:RdB W A1 (x.out.take m)) (h2:RdB W A2 (y.out.take m))=>HR7.out ⟨0,0,x.out.take m⟩ ⟨0,0,y.out.take m⟩ (by simp; have:=HX9.out; omega) (by simp; have:=HY9.out; omega) A1 A2 c1 c2 W h1 h2 |>.mono fun e w' h=>(⟨by rw [h.1,decide_eq_true (by rw [d3])],h.2⟩:e = .returned (.bool true)∧Below W.heap.size W w')
      have n1:(x.out.take m).length=m:=by simp; omega
      have n2:(y.out.take m).length=m:=by simp; omega
      simp only [reAgg,n1,n2] at hr7
      have H7:=Lib.hid hr7
      have HR1:Hid (RdB wc A1 (x.out.take m)):=Lib.hid fun j a ha=>hr1 j a (by
        rw [List.getElem?_take] at ha
        split at ha
        · exact ha
        · cases ha)
      have HR2:Hid (RdB wc A2 (y.out.take m)):=Lib.hid fun j a ha=>hr2 j a (by
        rw [List.getElem?_take] at ha
        split at ha
        · exact ha
        · cases ha)
      clear hr7 hr1 hr2 HD HR7 d1 d2 d3 hne hm n1 n2
      rcases hall with ⟨e1,e2,e3,e4⟩ | ⟨e1,e2,e3,e4,t1,t2,t3,t4⟩ | ⟨e1,e2,e3,e4,t1,t2,t3,t4⟩
      rotate_left
      · obtain rfl:m=x.out.length:=by omega
        clear l3 l4 t3 t4
        go_upto_region 5 with fail
        (try simp only [hv])
        go_upto_region 7 with fail
        go_still_tail 10,(by kernel_rfl)
        go_wp2_with fail
        have hdw:Below wc.heap.size wc wc.drew:=(Below.refl _ _).drew
        refine (H7.out _ (HR1.out.below hdw) (HR2.out.below hdw)).mono ?_
        rintro e w3 ⟨rfl,hb3⟩
        go_wp2
        go_returns
        exact ⟨rfl,HB2.out.trans ((hdw.trans (hb3.mono hdw.size)).mono HB2.out.size)⟩
      · obtain rfl:m=y.out.length:=by omega
        clear l3 l4 t3 t4
        go_upto_region 5 with fail
        (try simp only [hv])
        go_upto_region 7 with fail
        go_still_tail 10,(by kernel_rfl)
        go_wp2_with fail
        have hdw:Below wc.heap.size wc wc.drew:=(Below.refl _ _).drew
        refine (H7.out _ (HR1.out.below hdw) (HR2.out.below hdw)).mono ?_
        rintro e w3 ⟨rfl,hb3⟩
        go_wp2
        go_returns
        exact ⟨rfl,HB2.out.trans ((hdw.trans (hb3.mono hdw.size)).mono HB2.out.size)⟩
      · clear l3 l4
        go_upto_region 5 with fail
        (try simp only [hv])
        go_upto_region 7 with fail
        go_still_tail 10,(by kernel_rfl)
        go_wp2_with fail
        have hdw:Below wc.heap.size wc wc.drew:=(Below.refl _ _).drew
        refine (H7.out _ (HR1.out.below hdw) (HR2.out.below hdw)).mono ?_
        rintro e w3 ⟨rfl,hb3⟩
        go_wp2
        go_returns
        exact ⟨rfl,HB2.out.trans ((hdw.trans (hb3.mono hdw.size)).mono HB2.out.size)⟩
end Go.Proofs.Ytkcclefonmnpnaa

