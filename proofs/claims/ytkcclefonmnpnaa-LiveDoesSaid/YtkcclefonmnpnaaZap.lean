import Derived.Test.YtkcclefonmnpnaaZa
namespace Go.Proofs.Ytkcclefonmnpnaa
open Go.RowKit Go.BigFrame
end Go.Proofs.Ytkcclefonmnpnaa
namespace Go.Proofs.Ytkcclefonmnpnaa
open Go.RowKit Go.BigFrame
set_option maxRecDepth 1000000 in
set_option maxHeartbeats 4000000 in
theorem refUses_any (i:Ins) (w:World):Calls Try.prog 81 #[i.agg] w fun e w'=>SlN i.uses e w'∧Below w.heap.size w w':=by
  obtain ⟨k,op,dst,a,b,n,text,r0,r1,r2,r3,r4,r5,to_,els⟩:=i
  have hb0:=Below.one w (Ins.obj ⟨k,op,dst,a,b,n,text,r0,r1,r2,r3,r4,r5,to_,els⟩)
  have bx:=heap_alloc_new w (Ins.obj ⟨k,op,dst,a,b,n,text,r0,r1,r2,r3,r4,r5,to_,els⟩)
  simp only [Ins.obj,Ins.agg] at hb0 bx ⊢
  have hfin:∀ (V:Value) (w':World) (l:List Int),OwnN w' V l→(Ins.uses ⟨k,op,dst,a,b,n,text,r0,r1,r2,r3,r4,r5,to_,els⟩=l)→SlN (Ins.uses ⟨k,op,dst,a,b,n,text,r0,r1,r2,r3,r4,r5,to_,els⟩) (.returned V) w':=fun V w' l ho hl=>by
    rw [hl]
    obtain ⟨A,cap,hV,_,hR⟩:=ho.form
    exact ⟨A,cap,by rw [hV],hR⟩
  by_cases h1:kA k=true∧kB k=false
  · have hc:k=2∨k=4∨k=6∨k=10∨k=12∨k=13:=by simp [kA,kB] at h1; omega
    clear h1
    rcases hc with rfl | rfl | rfl | rfl | rfl | rfl
    all_goals
      go_enter Try.func81,Try.ntmps81
      go_wp2_with (first
        | (at_builtin; go_must (refine append_one rfl _ _ rfl (.slice none 0 0) [] rfl (OwnN.nil _) (w.heap.size + 1) a rfl (by simpa using heap_alloc_new (w.alloc _) (.cells #[.int .i64 a] 3)) (by simp) ?_); intro V1 w1 ho1 hg1 hat1; have hx1:=(hg1.block w.heap.size (by simp <;> omega) (by simp [Value.ownBlock])).trans (alloc_keeps bx (.cells #[.int .i64 a] 3)); have c0:=cell_of_heap hx1 0 _ rfl))
      go_returns
      exact ⟨hfin _ _ _ ho1 rfl,(hb0.alloc hb0.size _).grown hg1 (by simp; omega) (fun k hk=>by simp [Value.ownBlock] at hk)⟩
  · by_cases h2 : kB k=true
    · have hc:k=3∨k=7:=by simp [kB] at h2; omega
      clear h1 h2
      rcases hc with rfl | rfl
      all_goals
        go_enter Try.func81,Try.ntmps81
        go_wp2_with (first
          | (at_builtin; refine append_one rfl _ _ rfl V1 [a] rfl (ho1.alloc _) w1.heap.size b rfl (heap_alloc_new w1 (.cells #[.int .i64 b] 3)) (by simp) ?_; intro V2 w2 ho2 hg2 hat2)
          | (at_builtin; go_must (refine append_one rfl _ _ rfl (.slice none 0 0) [] rfl (OwnN.nil _) (w.heap.size + 1) a rfl (by simpa using heap_alloc_new (w.alloc _) (.cells #[.int .i64 a] 3)) (by simp) ?_); intro V1 w1 ho1 hg1 hat1; have hx1:=(hg1.block w.heap.size (by simp <;> omega) (by simp [Value.ownBlock])).trans (alloc_keeps bx (.cells #[.int .i64 a] 3)); have c0:=cell_of_heap hx1 0 _ rfl; have c4:=cell_of_heap hx1 4 _ rfl))
        go_returns
        have hs1:=hg1.size
        have hB1:Below w.heap.size w w1:=(hb0.alloc hb0.size _).grown hg1 (by simp; omega) (fun k hk=>by simp [Value.ownBlock] at hk)
        exact ⟨hfin _ _ _ ho2 rfl,(hB1.alloc hB1.size _).grown hg2 (by have:=hB1.size; simp; omega) (fun k hk=>by
          rcases hat1 with hh | hh
          · rw [hh] at hk; simp [Value.ownBlock] at hk
          · rw [hh] at hk; injection hk with hk; simp at hk; omega)⟩
    · have hkB:kB k=false:=by simpa using h2
      have hkA:kA k=false:=by
        by_cases hh:kA k=true
        · exact absurd ⟨hh,hkB⟩ h1
        · simpa using hh
      clear h1 h2
      have q2:(k == 2)=false:=by simp [kA] at hkA; simp; omega
      have q3:(k == 3)=false:=by simp [kA] at hkA; simp; omega
      have q4:(k == 4)=false:=by simp [kA] at hkA; simp; omega
      have q6:(k == 6)=false:=by simp [kA] at hkA; simp; omega
      have q7:(k == 7)=false:=by simp [kA] at hkA; simp; omega
      have q10:(k == 10)=false:=by simp [kA] at hkA; simp; omega
      have q12:(k == 12)=false:=by simp [kA] at hkA; simp; omega
      have q13:(k == 13)=false:=by simp [kA] at hkA; simp; omega
      by_cases h8:k=8
      · subst h8
        clear q2 q3 q4 q6 q7 q10 q12 q13 hkA hkB
        have hu:∀ m:Nat,(m≤6∧(m=6∨(n≤m))∧((m:Int)≤n∨m=0))→Ins.uses ⟨8,op,dst,a,b,n,text,r0,r1,r2,r3,r4,r5,to_,els⟩=[r0,r1,r2,r3,r4,r5].take m:=fun m ⟨h1,h2,h3⟩=>by
          show [r0,r1,r2,r3,r4,r5].take n.toNat=_
          by_cases h6:m=6
          · subst h6
            rw [List.take_of_length_le (by simp; omega),List.take_of_length_le (by simp)]
          · rw [show n.toNat=m by omega]
        have HU:=Lib.hid hu
        clear hu
        go_enter Try.func81,Try.ntmps81
        go_wp2
        obtain ⟨wB,hwB⟩:∃ wB,wB=w.alloc (.cells #[.int .i64 8,.int .i64 op,.int .i64 dst,.int .i64 a,.int .i64 b,.int .i64 n,.string text,.int .i64 r0,.int .i64 r1,.int .i64 r2,.int .i64 r3,.int .i64 r4,.int .i64 r5,.int .i64 to_,.int .i64 els] 32):=⟨_,rfl⟩
        have hsz:wB.heap.size=w.heap.size + 1:=by rw [hwB]; simp
        rw [← hwB] at hb0 bx ⊢
        clear hwB
        go_loopw [3,5] (fun V i w8=>∃ m:Nat,m≤6∧((m:Int)≤n∨m=0)∧i = .int .i64 m∧Below wB.heap.size wB w8∧∃ U,V=U∧OwnN w8 U ([r0,r1,r2,r3,r4,r5].take m)∧∀ b,U.ownBlock=some b→wB.heap.size≤b) (fun _ i _=>6 - (intOf i).toNat)
        case atStart=>exact ⟨0,by omega,.inr rfl,rfl,Below.refl _ _,_,rfl,OwnN.nil _,fun b hb=>by simp [Value.ownBlock] at hb⟩
        case round =>
          obtain ⟨m,hm,hmn,rfl,hb,V,hVu,hO,hOb⟩:=hrel
          have hVu2:=hVu.symm
          subst hVu2
          have bxr:=(hb.block _ (Array.getElem?_eq_some_iff.1 bx).1).trans bx
          have c5:=cell_of_heap bxr 5 (.int .i64 n) rfl
          by_cases hlt:(m:Int) < n
          · by_cases h6:m < 6
            · have qa:decide ((m:Int) < n)=true:=by simpa using hlt
              have hx:∃ x,[r0,r1,r2,r3,r4,r5][m]? = some x∧wr.cell? ⟨w.heap.size,7 + m,none⟩=some (.int .i64 x):=by
                have hc:m=0∨m=1∨m=2∨m=3∨m=4∨m=5:=by omega
                rcases hc with rfl | rfl | rfl | rfl | rfl | rfl <;> exact ⟨_,rfl,cell_of_heap bxr _ _ rfl⟩
              obtain ⟨x,hx1,hx2⟩:=hx
              have htk:[r0,r1,r2,r3,r4,r5].take (m + 1)=[r0,r1,r2,r3,r4,r5].take m++[x]:=by rw [List.take_add_one,hx1]; rfl
              have HTK:=Lib.hid htk
              clear htk hx1
              have HLE:=Lib.hid (show ([r0,r1,r2,r3,r4,r5].take m).length≤90000 by rw [List.length_take]; omega)
              go_wp2_with (first
                | (at_builtin; go_must (refine append_one rfl _ _ rfl V ([r0,r1,r2,r3,r4,r5].take m) rfl (hO.alloc _) wr.heap.size x rfl (heap_alloc_new wr (.cells #[.int .i64 x] 3)) HLE.out ?_); intro V2 w2 ho2 hg2 hat2))
              refine ⟨⟨m + 1,by omega,.inl (by omega),by simp,(hb.alloc hb.size _).grown hg2 (by have:=hb.size; simp; omega) hOb,_,rfl,by rw [HTK.out]; exact ho2,fun b hb4=>?_⟩,by simp [intOf]; omega⟩
              rcases hat2 with hh | hh
              · exact hOb b (by rw [← hh,hb4])
              · rw [hb4] at hh
                injection hh with hh
                have:=hb.size
                simp at hh
                omega
            · obtain rfl:m=6:=by omega
              have qa:decide ((6:Int) < n)=true:=by simpa using hlt
              go_wp2
              go_returns
              exact ⟨hfin _ _ _ hO (HU.out 6 ⟨hm,.inl rfl,hmn⟩),hb0.trans (hb.mono (by omega))⟩
          · have qa:decide ((m:Int) < n)=false:=by simpa using hlt
            go_wp2
            go_returns
            exact ⟨hfin _ _ _ hO (HU.out m ⟨hm,.inr (by omega),hmn⟩),hb0.trans (hb.mono (by omega))⟩
      · have q8:(k == 8)=false:=by simpa using h8
        have hu:Ins.uses ⟨k,op,dst,a,b,n,text,r0,r1,r2,r3,r4,r5,to_,els⟩=[]:=by simp [Ins.uses,hkA,hkB,h8]
        have HU:=Lib.hid hu
        clear hu hkA hkB h8
        go_enter Try.func81,Try.ntmps81
        go_wp2
        go_returns
        exact ⟨hfin _ _ _ (OwnN.nil _) HU.out,hb0⟩
set_option maxRecDepth 1000000 in
set_option maxHeartbeats 4000000 in
theorem refSets_any (i:Ins)(w:World):Calls Try.prog 22 #[i.agg] w fun e w'=>e = .returned (.int .i64 i.sets)∧Below w.heap.size w w':=by
  obtain ⟨k,op,dst,a,b,n,text,r0,r1,r2,r3,r4,r5,to_,els⟩:=i
  have hb0:=Below.one w (Ins.obj ⟨k,op,dst,a,b,n,text,r0,r1,r2,r3,r4,r5,to_,els⟩)
  simp only [Ins.obj,Ins.agg,Ins.sets] at hb0 ⊢
  have hc:(decide (k ≥ 1)=true∧decide (1≤k)=true∧decide (k≤6)=true∧kS k=true)∨(decide (k ≥ 1)=true∧decide (1≤k)=true∧decide (k≤6)=false∧(k == 8)=true∧kS k=true)∨(decide (k ≥ 1)=true∧decide (1≤k)=true∧decide (k≤6)=false∧(k == 8)=false∧(k == 9)=true∧kS k=true) ∨
      (decide (k ≥ 1)=true∧decide (1≤k)=true∧decide (k≤6)=false∧(k == 8)=false∧(k == 9)=false∧kS k=false)∨(decide (k ≥ 1)=false∧decide (1≤k)=false∧(k == 8)=false∧(k == 9)=false∧kS k=false):=by
    simp [kS]; omega
  rcases hc with ⟨q1,q2,q3,q4⟩ | ⟨q1,q2,q3,q5,q4⟩ | ⟨q1,q2,q3,q5,q6,q4⟩ | ⟨q1,q2,q3,q5,q6,q4⟩ | ⟨q1,q2,q5,q6,q4⟩
  all_goals
    rw [q4]
    clear q4
    go_enter Try.func22,Try.ntmps22
    go_wp2
    go_returns
    exact ⟨rfl,hb0⟩
end Go.Proofs.Ytkcclefonmnpnaa
namespace Go.Proofs.Ytkcclefonmnpnaa
open Go.RowKit Go.BigFrame
theorem eql_ins (x y:Ins)(w:World):(binOp .eql 32 x.agg y.agg).run Try.prog w = .ok (.bool (decide (x=y))) w:=by
  have h:=equalIn_ins x y w
  rw [insEq_dec] at h
  simp only [binOp,Op.equal,Op.maxDepth,Sem.run_bind,h,Result.andThen_ok,Sem.run_pure]
end Go.Proofs.Ytkcclefonmnpnaa
namespace Go.Proofs.Ytkcclefonmnpnaa
open Go.RowKit Go.BigFrame
end Go.Proofs.Ytkcclefonmnpnaa

