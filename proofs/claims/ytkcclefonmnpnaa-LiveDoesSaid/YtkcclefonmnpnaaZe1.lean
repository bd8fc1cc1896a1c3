import Derived.WalkKit
import Derived.ProofKit
import Derived.StillTail
import Derived.Test.YtkcclefonmnpnaaZb
import Derived.Test.YtkcclefonmnpnaaZc
namespace Go.Proofs.Ytkcclefonmnpnaa
open Go.RowKit Go.BigFrame
def RdI (w:World)(A:Option Addr)(l:List Ins):Prop:=∀ (j:Nat) i,l[j]? = some i→∃ b o,A=some ⟨b,o,none⟩∧b < w.heap.size∧∀ k,k < 15→w.cell? ⟨b,o + (j * 15 + k),none⟩=i.l[k]?
theorem RdI.below {w w':World}{A:Option Addr}{l:List Ins}(h:RdI w A l)(hb:Below w.heap.size w w'):RdI w' A l:=fun j i hi=>by
  obtain ⟨b,o,e1,e2,e3⟩:=h j i hi
  exact ⟨b,o,e1,Nat.lt_of_lt_of_le e2 hb.size,fun k hk=>(hb.cell (p:=⟨b,_,none⟩) e2).trans (e3 k hk)⟩
theorem RdI.load {w:World}{b o:Nat}{i:Ins}{j:Nat}(h:∀ k,k < 15→w.cell? ⟨b,o + (j * 15 + k),none⟩=i.l[k]?):w.cell? ⟨b,o + j * 15,none⟩=some (.int .i64 i.kind)∧w.cell? ⟨b,o + j * 15 + 1,none⟩=some (.int .i64 i.op)∧w.cell? ⟨b,o + j * 15 + 2,none⟩=some (.int .i64 i.dst)∧w.cell? ⟨b,o + j * 15 + 3,none⟩=some (.int .i64 i.a)∧w.cell? ⟨b,o + j * 15 + 4,none⟩=some (.int .i64 i.b) ∧
    w.cell? ⟨b,o + j * 15 + 5,none⟩=some (.int .i64 i.n)∧w.cell? ⟨b,o + j * 15 + 6,none⟩=some (.string i.text)∧w.cell? ⟨b,o + j * 15 + 7,none⟩=some (.int .i64 i.r0)∧w.cell? ⟨b,o + j * 15 + 8,none⟩=some (.int .i64 i.r1)∧w.cell? ⟨b,o + j * 15 + 9,none⟩=some (.int .i64 i.r2)∧w.cell? ⟨b,o + j * 15 + 10,none⟩=some (.int .i64 i.r3) ∧
    w.cell? ⟨b,o + j * 15 + 11,none⟩=some (.int .i64 i.r4)∧w.cell? ⟨b,o + j * 15 + 12,none⟩=some (.int .i64 i.r5)∧w.cell? ⟨b,o + j * 15 + 13,none⟩=some (.int .i64 i.to_)∧w.cell? ⟨b,o + j * 15 + 14,none⟩=some (.int .i64 i.els) :=
  ⟨h 0 (by omega),h 1 (by omega),h 2 (by omega),h 3 (by omega),h 4 (by omega),h 5 (by omega),h 6 (by omega),h 7 (by omega),h 8 (by omega),h 9 (by omega),h 10 (by omega),h 11 (by omega),h 12 (by omega),h 13 (by omega),h 14 (by omega)⟩
structure Fn7 where
  nm:ByteArray
  ps:Int
  R:Int
  Fr:Int
  code:List Ins
structure OkF (f:Fn7):Prop where
  nm:f.nm.size≠0
  ps:0≤f.ps∧f.ps≤6
  R:f.ps≤f.R∧f.R≤4096
  Fr:0≤f.Fr∧f.Fr≤4096
  len:1≤f.code.length∧f.code.length≤8192
  ok:∀ i ∈ f.code,Ok i f.R f.Fr f.code.length
  last:∀ i,f.code[f.code.length - 1]? = some i→11≤i.kind
end Go.Proofs.Ytkcclefonmnpnaa
namespace Go.Proofs.Ytkcclefonmnpnaa
open Go.RowKit Go.BigFrame
theorem SlN.of {w:World}{V:Value}{l:List Int}(h:OwnN w V l):SlN l (.returned V) w:=by
  obtain ⟨A,cap,hV,_,hR⟩:=h.form
  exact ⟨A,cap,by rw [hV],hR⟩
set_option maxRecDepth 1000000 in
set_option maxHeartbeats 4000000 in
theorem Uses_call (op dst a b n:Int) (text:ByteArray) (r0 r1 r2 r3 r4 r5 to_ els:Int) (w:World):Calls Try.prog 84 #[Ins.agg ⟨8,op,dst,a,b,n,text,r0,r1,r2,r3,r4,r5,to_,els⟩] w fun e w'=>SlN (Ins.uses ⟨8,op,dst,a,b,n,text,r0,r1,r2,r3,r4,r5,to_,els⟩) e w'∧Below w.heap.size w w':=by
  have hk:=fun w=>uses_any 8 w
  rw [show kA 8=false from rfl,show kB 8=false from rfl] at hk
  have hu:Ins.uses ⟨8,op,dst,a,b,n,text,r0,r1,r2,r3,r4,r5,to_,els⟩=[r0,r1,r2,r3,r4,r5].take n.toNat:=rfl
  rw [hu]
  clear hu
  have hb0:=Below.one w (Ins.obj ⟨8,op,dst,a,b,n,text,r0,r1,r2,r3,r4,r5,to_,els⟩)
  have bx:=heap_alloc_new w (Ins.obj ⟨8,op,dst,a,b,n,text,r0,r1,r2,r3,r4,r5,to_,els⟩)
  have hR:∀ m,m≤6→RdN (w.alloc (Ins.obj ⟨8,op,dst,a,b,n,text,r0,r1,r2,r3,r4,r5,to_,els⟩)) (some ⟨w.heap.size,7,none⟩) ([r0,r1,r2,r3,r4,r5].take m):=fun m hm j x hj=>by
    rw [List.getElem?_take] at hj
    by_cases hjm:j < m
    · rw [if_pos hjm] at hj
      refine ⟨w.heap.size,7,rfl,by simp,?_⟩
      have hc:j=0∨j=1∨j=2∨j=3∨j=4∨j=5:=by omega
      rcases hc with rfl | rfl | rfl | rfl | rfl | rfl <;> (simp at hj; subst hj; exact cell_of_heap bx _ _ rfl)
    · rw [if_neg hjm] at hj
      cases hj
  have hap:∀ m,1≤m→m≤6→∃ V' w',(Builtin.append_ #[33,33] 33 #[.slice none 0 0,.slice (some ⟨w.heap.size,7,none⟩) m 6]).run Try.prog (w.alloc (Ins.obj ⟨8,op,dst,a,b,n,text,r0,r1,r2,r3,r4,r5,to_,els⟩)) = .ok V' w'∧OwnN w' V' ([r0,r1,r2,r3,r4,r5].take m)∧Below w.heap.size w w':=fun m h1 h6=>by
    have hlen:([r0,r1,r2,r3,r4,r5].take m).length=m:=by rw [List.length_take]; simp; omega
    obtain ⟨V',w',hr,ho,hg,_⟩:=run_append_n (w.alloc (Ins.obj ⟨8,op,dst,a,b,n,text,r0,r1,r2,r3,r4,r5,to_,els⟩)) 33 (.slice none 0 0) [] (OwnN.nil _) (some ⟨w.heap.size,7,none⟩) ([r0,r1,r2,r3,r4,r5].take m) 6 (hR m h6) (by omega) (by simp; omega)
    rw [hlen] at hr
    exact ⟨V',w',hr,by simpa using ho,hb0.grown hg hb0.size (fun k hk=>by simp [Value.ownBlock] at hk)⟩
  simp only [Ins.obj] at hb0 hap
  simp only [Ins.agg]
  clear hR bx
  by_cases hn:n≤0
  · have ht:n.toNat=0:=by omega
    rw [ht]
    clear ht hap
    have hc:n < 0∨n=0:=by omega
    clear hn
    rcases hc with hc | rfl
    all_goals
      go_enter Try.func84,Try.ntmps84
      go_wp2_with (first
        | (go_at_call 101; refine (hk _).mono ?_; rintro e w1 ⟨rfl,hw⟩; subst hw))
      go_returns
      exact ⟨SlN.of (OwnN.nil _),hb0⟩
  · have hc:n=1∨n=2∨n=3∨n=4∨n=5∨n=6∨6 < n:=by omega
    clear hn
    rcases hc with rfl | rfl | rfl | rfl | rfl | rfl | h6
    · obtain ⟨V',w',hr,ho,hb⟩:=hap 1 (by omega) (by omega)
      clear hap
      go_enter Try.func84,Try.ntmps84
      go_wp2_with (first
        | (go_at_call 101; refine (hk _).mono ?_; rintro e w1 ⟨rfl,hw⟩; subst hw)
        | (at_builtin; refine append_ran (t:=33) rfl _ _ rfl rfl rfl hr ?_))
      go_returns
      exact ⟨SlN.of ho,hb⟩
    · obtain ⟨V',w',hr,ho,hb⟩:=hap 2 (by omega) (by omega)
      clear hap
      go_enter Try.func84,Try.ntmps84
      go_wp2_with (first
        | (go_at_call 101; refine (hk _).mono ?_; rintro e w1 ⟨rfl,hw⟩; subst hw)
        | (at_builtin; refine append_ran (t:=33) rfl _ _ rfl rfl rfl hr ?_))
      go_returns
      exact ⟨SlN.of ho,hb⟩
    · obtain ⟨V',w',hr,ho,hb⟩:=hap 3 (by omega) (by omega)
      clear hap
      go_enter Try.func84,Try.ntmps84
      go_wp2_with (first
        | (go_at_call 101; refine (hk _).mono ?_; rintro e w1 ⟨rfl,hw⟩; subst hw)
        | (at_builtin; refine append_ran (t:=33) rfl _ _ rfl rfl rfl hr ?_))
      go_returns
      exact ⟨SlN.of ho,hb⟩
    · obtain ⟨V',w',hr,ho,hb⟩:=hap 4 (by omega) (by omega)
      clear hap
      go_enter Try.func84,Try.ntmps84
      go_wp2_with (first
        | (go_at_call 101; refine (hk _).mono ?_; rintro e w1 ⟨rfl,hw⟩; subst hw)
        | (at_builtin; refine append_ran (t:=33) rfl _ _ rfl rfl rfl hr ?_))
      go_returns
      exact ⟨SlN.of ho,hb⟩
    · obtain ⟨V',w',hr,ho,hb⟩:=hap 5 (by omega) (by omega)
      clear hap
      go_enter Try.func84,Try.ntmps84
      go_wp2_with (first
        | (go_at_call 101; refine (hk _).mono ?_; rintro e w1 ⟨rfl,hw⟩; subst hw)
        | (at_builtin; refine append_ran (t:=33) rfl _ _ rfl rfl rfl hr ?_))
      go_returns
      exact ⟨SlN.of ho,hb⟩
    · obtain ⟨V',w',hr,ho,hb⟩:=hap 6 (by omega) (by omega)
      clear hap
      go_enter Try.func84,Try.ntmps84
      go_wp2_with (first
        | (go_at_call 101; refine (hk _).mono ?_; rintro e w1 ⟨rfl,hw⟩; subst hw)
        | (at_builtin; refine append_ran (t:=33) rfl _ _ rfl rfl rfl hr ?_))
      go_returns
      exact ⟨SlN.of ho,hb⟩
    · obtain ⟨V',w',hr,ho,hb⟩:=hap 6 (by omega) (by omega)
      clear hap
      have hto:[r0,r1,r2,r3,r4,r5].take n.toNat=[r0,r1,r2,r3,r4,r5].take 6:=by rw [List.take_of_length_le (by simp; omega),List.take_of_length_le (by simp)]
      rw [hto]
      clear hto
      go_enter Try.func84,Try.ntmps84
      go_wp2_with (first
        | (go_at_call 101; refine (hk _).mono ?_; rintro e w1 ⟨rfl,hw⟩; subst hw)
        | (at_builtin; refine append_ran (t:=33) rfl _ _ rfl rfl rfl hr ?_))
      go_returns
      exact ⟨SlN.of ho,hb⟩
set_option maxRecDepth 1000000 in
set_option maxHeartbeats 4000000 in
theorem Uses_any (i:Ins) (w:World):Calls Try.prog 84 #[i.agg] w fun e w'=>SlN i.uses e w'∧Below w.heap.size w w':=by
  obtain ⟨k,op,dst,a,b,n,text,r0,r1,r2,r3,r4,r5,to_,els⟩:=i
  by_cases h8:k=8
  · subst h8
    exact Uses_call op dst a b n text r0 r1 r2 r3 r4 r5 to_ els w
  have q8:(k == 8)=false:=by simpa using h8
  have hb0:=Below.one w (Ins.obj ⟨k,op,dst,a,b,n,text,r0,r1,r2,r3,r4,r5,to_,els⟩)
  have bx:=heap_alloc_new w (Ins.obj ⟨k,op,dst,a,b,n,text,r0,r1,r2,r3,r4,r5,to_,els⟩)
  have hk:=fun w=>uses_any k w
  simp only [Ins.obj,Ins.agg] at hb0 bx ⊢
  cases hA:kA k
  · have hB:kB k=false:=by simp [kA] at hA; simp [kB]; omega
    have hu:Ins.uses ⟨k,op,dst,a,b,n,text,r0,r1,r2,r3,r4,r5,to_,els⟩=[]:=by simp [Ins.uses,hA,hB,h8]
    rw [hu]
    rw [hA,hB] at hk
    clear hu hA hB h8
    go_enter Try.func84,Try.ntmps84
    go_wp2_with (first
      | (go_at_call 101; refine (hk _).mono ?_; rintro e w1 ⟨rfl,hw⟩; subst hw))
    go_returns
    exact ⟨SlN.of (OwnN.nil _),hb0⟩
  · cases hB:kB k
    · have hu:Ins.uses ⟨k,op,dst,a,b,n,text,r0,r1,r2,r3,r4,r5,to_,els⟩=[a]:=by simp [Ins.uses,hA,hB,h8]
      rw [hu]
      rw [hA,hB] at hk
      clear hu hA hB h8
      go_enter Try.func84,Try.ntmps84
      go_wp2_with (first
        | (go_at_call 101; refine (hk _).mono ?_; rintro e w1 ⟨rfl,hw⟩; subst hw)
        | (at_builtin; go_must (refine append_one rfl _ _ rfl (.slice none 0 0) [] rfl (OwnN.nil _) (w.heap.size + 1) a rfl (by simpa using heap_alloc_new (w.alloc _) (.cells #[.int .i64 a] 3)) (by simp) ?_); intro V1 w2 ho1 hg1 hat1; have hx1:=(hg1.block w.heap.size (by simp <;> omega) (by simp [Value.ownBlock])).trans (alloc_keeps bx (.cells #[.int .i64 a] 3)); have c0:=cell_of_heap hx1 0 _ rfl))
      go_returns
      exact ⟨SlN.of ho1,(hb0.alloc hb0.size _).grown hg1 (by simp; omega) (fun k hk=>by simp [Value.ownBlock] at hk)⟩
    · have hu:Ins.uses ⟨k,op,dst,a,b,n,text,r0,r1,r2,r3,r4,r5,to_,els⟩=[a,b]:=by simp [Ins.uses,hA,hB,h8]
      rw [hu]
      rw [hA,hB] at hk
      clear hu hA hB h8
      go_enter Try.func84,Try.ntmps84
      go_wp2_with (first
        | (go_at_call 101; refine (hk _).mono ?_; rintro e w1 ⟨rfl,hw⟩; subst hw)
        | (at_builtin; refine append_one rfl _ _ rfl V1 [a] rfl (ho1.alloc _) w2.heap.size b rfl (heap_alloc_new w2 (.cells #[.int .i64 b] 3)) (by simp) ?_; intro V2 w3 ho2 hg2 hat2; have hx2:=(hg2.block w.heap.size (by have:=hg1.size; simp at this; simp; omega) (fun e=>by rcases hat1 with hh | hh; (rw [hh] at e; simp [Value.ownBlock] at e); (rw [hh] at e; injection e with e; simp at e; omega))).trans (alloc_keeps hx1 (.cells #[.int .i64 b] 3)); have d0:=cell_of_heap hx2 0 _ rfl)
        | (at_builtin; go_must (refine append_one rfl _ _ rfl (.slice none 0 0) [] rfl (OwnN.nil _) (w.heap.size + 1) a rfl (by simpa using heap_alloc_new (w.alloc _) (.cells #[.int .i64 a] 3)) (by simp) ?_); intro V1 w2 ho1 hg1 hat1; have hx1:=(hg1.block w.heap.size (by simp <;> omega) (by simp [Value.ownBlock])).trans (alloc_keeps bx (.cells #[.int .i64 a] 3)); have c0:=cell_of_heap hx1 0 _ rfl; have c4:=cell_of_heap hx1 4 _ rfl))
      go_returns
      have hs1:=hg1.size
      have hB1:Below w.heap.size w w2:=(hb0.alloc hb0.size _).grown hg1 (by simp; omega) (fun k hk=>by simp [Value.ownBlock] at hk)
      exact ⟨SlN.of ho2,(hB1.alloc hB1.size _).grown hg2 (by have:=hB1.size; simp; omega) (fun k hk=>by
        rcases hat1 with hh | hh
        · rw [hh] at hk; simp [Value.ownBlock] at hk
        · rw [hh] at hk; injection hk with hk; simp at hk; omega)⟩
end Go.Proofs.Ytkcclefonmnpnaa
namespace Go.Proofs.Ytkcclefonmnpnaa
open Go.RowKit
structure Later (W:World) where
  w:World
  h:Below W.heap.size W w
instance (W:World):Nonempty (Later W):=⟨⟨W,Below.refl _ _⟩⟩
theorem Later.cell {W:World}{a:Addr}{v:Value}(h:W.cell? a=some v)(s:Later W):s.w.cell? a=some v :=
  (s.h.cell (World.block_lt_of_cell? W a h)).trans h
theorem wp_region_later {P:Program}{id:Nat}{Q:Exit→Act→World→Prop}{a:Act}{W:World}{l:List Oper}(hm:P.follows .mixedOrders=true)(hB:Region.lexB .any l.toArray=true)
    (h:wpQuiet P l.toArray (fun w'=>∃ s:Later W,w'=s.w) (fun a'=>∀ w',(∃ s:Later W,w'=s.w)→Q .normal a' w') l a):(Code.region id l.toArray true).wp P Q a W :=
  wp_region_quiet (C:=fun w'=>∃ s:Later W,w'=s.w) hm hB ⟨⟨{ W with drawn:=W.drawn + 1 },⟨rfl,rfl,rfl,Nat.le_refl _,fun _ _=>rfl⟩⟩,rfl⟩ (by simpa using h)
theorem Calls.later {P:Program}{f:FuncId}{args:Array Value}{W:World}{s:Later W}{v:Value}
    (h:Calls P f args s.w fun e w'=>e = .returned v∧Below s.w.heap.size s.w w'):Calls P f args s.w fun e w''=>e = .returned v∧∃ t:Later W,w''=t.w :=
  h.mono fun _ w' ⟨he,hb⟩=>⟨he,⟨w',s.h.trans (hb.mono s.h.size)⟩,rfl⟩
end Go.Proofs.Ytkcclefonmnpnaa
namespace Go.Proofs.Ytkcclefonmnpnaa
open Go.RowKit Go.BigFrame
noncomputable def tb (p:Prop):Bool:=@decide p (Classical.propDecidable p)
theorem tb_true {p:Prop}:tb p=true↔p:=@decide_eq_true_iff p (Classical.propDecidable p)
theorem tb_false {p:Prop}:tb p=false↔¬ p:=@decide_eq_false_iff_not p (Classical.propDecidable p)
theorem Tru.val {p:Prop}{e:Ending}(h:Tru p e):e = .returned (.bool (tb p)):=by
  obtain ⟨b,rfl,hb⟩:=h
  have:b=tb p:=by
    cases b
    · rw [eq_comm,tb_false]; intro hp; have:=hb.2 hp; cases this
    · rw [eq_comm,tb_true]; exact hb.1 rfl
  rw [this]
theorem name_some {s:ByteArray}(h:¬ s.size=0):s.toList.isEmpty=false:=by
  rw [Go.ByteArray.toList_eq]
  cases s with
  | mk d =>
    have:d.size≠0:=h
    rw [List.isEmpty_eq_false_iff_exists_mem]
    exact ⟨d[0],by simp⟩
end Go.Proofs.Ytkcclefonmnpnaa
namespace Go.Proofs.Ytkcclefonmnpnaa
open Go
section
variable {P:Program} {ops:Array Oper} {md:Region.Mode} {C:World→Prop}
end
end Go.Proofs.Ytkcclefonmnpnaa

