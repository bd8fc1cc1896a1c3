import Derived.WalkKit
import Derived.ProofKit
import Derived.StillTail
import Derived.Test.YthbcdckonaljiaaZca
import Derived.Test.YthbcdckonaljiaaZcb
import Derived.Test.YthbcdckonaljiaaZcc
import Derived.Test.YthbcdckonaljiaaZcd
import Derived.Test.YthbcdckonaljiaaZc
namespace Go.Proofs.Ythbcdckonaljiaa
open Go.RowKit Go.BigFrame
set_option maxRecDepth 1000000 in
set_option maxHeartbeats 4000000 in
theorem refright_any (i:Ins) (nm:ByteArray) (ps R Fr:Int) (C:Option Addr) (L cap:Nat) (w:World) :
    Calls Try.prog 41 #[i.agg,funcAgg nm ps R Fr C L cap] w fun e w'=>Tru (Ok i R Fr L) e∧Below w.heap.size w w':=by
  obtain ⟨k,op,dst,a,b,n,text,r0,r1,r2,r3,r4,r5,to_,els⟩:=i
  rcases kind_cases k with rfl | rfl | rfl | rfl | rfl | rfl | rfl | rfl | rfl | rfl | rfl | rfl | rfl | hk
  · exact refright_1 op dst a b n text r0 r1 r2 r3 r4 r5 to_ els nm ps R Fr C L cap w
  · exact refright_2 op dst a b n text r0 r1 r2 r3 r4 r5 to_ els nm ps R Fr C L cap w
  · exact refright_3 op dst a b n text r0 r1 r2 r3 r4 r5 to_ els nm ps R Fr C L cap w
  · exact refright_4 op dst a b n text r0 r1 r2 r3 r4 r5 to_ els nm ps R Fr C L cap w
  · exact refright_5 op dst a b n text r0 r1 r2 r3 r4 r5 to_ els nm ps R Fr C L cap w
  · exact refright_6 op dst a b n text r0 r1 r2 r3 r4 r5 to_ els nm ps R Fr C L cap w
  · exact refright_7 op dst a b n text r0 r1 r2 r3 r4 r5 to_ els nm ps R Fr C L cap w
  · by_cases hx:(dst < 0∧dst≠-1)∨R≤dst
    · exact refright_8a op dst a b n text r0 r1 r2 r3 r4 r5 to_ els nm ps R Fr C L cap w hx
    · by_cases eN:0≤n∧n≤6∧text.size≠0
      · by_cases hm1:dst=-1
        · exact refright_8m op dst a b n text r0 r1 r2 r3 r4 r5 to_ els nm ps R Fr C L cap w hx eN hm1
        · exact refright_8p op dst a b n text r0 r1 r2 r3 r4 r5 to_ els nm ps R Fr C L cap w hx eN hm1
      · exact refright_8n op dst a b n text r0 r1 r2 r3 r4 r5 to_ els nm ps R Fr C L cap w hx eN
  · exact refright_9 op dst a b n text r0 r1 r2 r3 r4 r5 to_ els nm ps R Fr C L cap w
  · exact refright_10 op dst a b n text r0 r1 r2 r3 r4 r5 to_ els nm ps R Fr C L cap w
  · exact refright_11 op dst a b n text r0 r1 r2 r3 r4 r5 to_ els nm ps R Fr C L cap w
  · exact refright_12 op dst a b n text r0 r1 r2 r3 r4 r5 to_ els nm ps R Fr C L cap w
  · exact refright_13 op dst a b n text r0 r1 r2 r3 r4 r5 to_ els nm ps R Fr C L cap w
  · have hno:¬ Ok ⟨k,op,dst,a,b,n,text,r0,r1,r2,r3,r4,r5,to_,els⟩ R Fr L:=fun h=>by have:=h.kind; simp only at this; omega
    have hT:=Tru.no hno
    have hB3:=(Below.one w (Ins.obj ⟨k,op,dst,a,b,n,text,r0,r1,r2,r3,r4,r5,to_,els⟩)).alloc (by simp) (funcObj nm ps R Fr C L cap)
    simp only [Ins.obj,funcObj,Ins.agg,funcAgg] at hB3 ⊢
    have HT:=Lib.hid hT
    clear hT hno
    have hc:(decide (k < 1)=true)∨(decide (k < 1)=false∧decide (k > 13)=true∧decide (13 < k)=true):=by simp; omega
    rcases hc with q1 | ⟨q1,q2,q3⟩
    all_goals
      clear hk
      go_enter Try.func41,Try.ntmps41
      go_wp2
      go_returns
      exact ⟨HT.out,hB3⟩
def RdI (w:World)(A:Option Addr)(l:List Ins):Prop:=∀ (j:Nat) i,l[j]? = some i→∃ b o,A=some ⟨b,o,none⟩∧b < w.heap.size∧∀ k,k < 15→w.cell? ⟨b,o + (j * 15 + k),none⟩=i.l[k]?
theorem RdI.below {w w':World}{A:Option Addr}{l:List Ins}(h:RdI w A l)(hb:Below w.heap.size w w'):RdI w' A l:=fun j i hi=>by
  obtain ⟨b,o,e1,e2,e3⟩:=h j i hi
  exact ⟨b,o,e1,Nat.lt_of_lt_of_le e2 hb.size,fun k hk=>(hb.cell (p:=⟨b,_,none⟩) e2).trans (e3 k hk)⟩
theorem RdI.load {w:World}{b o:Nat}{i:Ins}{j:Nat}(h:∀ k,k < 15→w.cell? ⟨b,o + (j * 15 + k),none⟩=i.l[k]?):w.cell? ⟨b,o + j * 15,none⟩=some (.int .i64 i.kind)∧w.cell? ⟨b,o + j * 15 + 1,none⟩=some (.int .i64 i.op)∧w.cell? ⟨b,o + j * 15 + 2,none⟩=some (.int .i64 i.dst)∧w.cell? ⟨b,o + j * 15 + 3,none⟩=some (.int .i64 i.a)∧w.cell? ⟨b,o + j * 15 + 4,none⟩=some (.int .i64 i.b) ∧
    w.cell? ⟨b,o + j * 15 + 5,none⟩=some (.int .i64 i.n)∧w.cell? ⟨b,o + j * 15 + 6,none⟩=some (.string i.text)∧w.cell? ⟨b,o + j * 15 + 7,none⟩=some (.int .i64 i.r0)∧w.cell? ⟨b,o + j * 15 + 8,none⟩=some (.int .i64 i.r1)∧w.cell? ⟨b,o + j * 15 + 9,none⟩=some (.int .i64 i.r2)∧w.cell? ⟨b,o + j * 15 + 10,none⟩=some (.int .i64 i.r3) ∧
    w.cell? ⟨b,o + j * 15 + 11,none⟩=some (.int .i64 i.r4)∧w.cell? ⟨b,o + j * 15 + 12,none⟩=some (.int .i64 i.r5)∧w.cell? ⟨b,o + j * 15 + 13,none⟩=some (.int .i64 i.to_)∧w.cell? ⟨b,o + j * 15 + 14,none⟩=some (.int .i64 i.els) :=
  ⟨h 0 (by omega),h 1 (by omega),h 2 (by omega),h 3 (by omega),h 4 (by omega),h 5 (by omega),h 6 (by omega),h 7 (by omega),h 8 (by omega),h 9 (by omega),h 10 (by omega),h 11 (by omega),h 12 (by omega),h 13 (by omega),h 14 (by omega)⟩
structure Fn7 where
  nm:ByteArray
  ps:Int
  R:Int
  Fr:Int
  code:List Ins
structure OkF (f:Fn7):Prop where
  nm:f.nm.size≠0
  ps:0≤f.ps∧f.ps≤6
  R:f.ps≤f.R∧f.R≤4096
  Fr:0≤f.Fr∧f.Fr≤4096
  len:1≤f.code.length∧f.code.length≤8192
  ok:∀ i ∈ f.code,Ok i f.R f.Fr f.code.length
  last:∀ i,f.code[f.code.length - 1]? = some i→11≤i.kind
end Go.Proofs.Ythbcdckonaljiaa
namespace Go.Proofs.Ythbcdckonaljiaa
open Go.RowKit Go.BigFrame
theorem SlN.of {w:World}{V:Value}{l:List Int}(h:OwnN w V l):SlN l (.returned V) w:=by
  obtain ⟨A,cap,hV,_,hR⟩:=h.form
  exact ⟨A,cap,by rw [hV],hR⟩
set_option maxRecDepth 1000000 in
set_option maxHeartbeats 4000000 in
theorem Uses_call (op dst a b n:Int) (text:ByteArray) (r0 r1 r2 r3 r4 r5 to_ els:Int) (w:World):Calls Try.prog 58 #[Ins.agg ⟨8,op,dst,a,b,n,text,r0,r1,r2,r3,r4,r5,to_,els⟩] w fun e w'=>SlN (Ins.uses ⟨8,op,dst,a,b,n,text,r0,r1,r2,r3,r4,r5,to_,els⟩) e w'∧Below w.heap.size w w':=by
  have hk:=fun w=>uses_any 8 w
  rw [show kA 8=false from rfl,show kB 8=false from rfl] at hk
  have hu:Ins.uses ⟨8,op,dst,a,b,n,text,r0,r1,r2,r3,r4,r5,to_,els⟩=[r0,r1,r2,r3,r4,r5].take n.toNat:=rfl
  rw [hu]
  clear hu
  have hb0:=Below.one w (Ins.obj ⟨8,op,dst,a,b,n,text,r0,r1,r2,r3,r4,r5,to_,els⟩)
  have bx:=heap_alloc_new w (Ins.obj ⟨8,op,dst,a,b,n,text,r0,r1,r2,r3,r4,r5,to_,els⟩)
  have hR:∀ m,m≤6→RdN (w.alloc (Ins.obj ⟨8,op,dst,a,b,n,text,r0,r1,r2,r3,r4,r5,to_,els⟩)) (some ⟨w.heap.size,7,none⟩) ([r0,r1,r2,r3,r4,r5].take m):=fun m hm j x hj=>by
    rw [List.getElem?_take] at hj
    by_cases hjm:j < m
    · rw [if_pos hjm] at hj
      refine ⟨w.heap.size,7,rfl,by simp,?_⟩
      have hc:j=0∨j=1∨j=2∨j=3∨j=4∨j=5:=by omega
      rcases hc with rfl | rfl | rfl | rfl | rfl | rfl <;> (simp at hj; subst hj; exact cell_of_heap bx _ _ rfl)
    · rw [if_neg hjm] at hj
      cases hj
  have hap:∀ m,1≤m→m≤6→∃ V' w',(Builtin.append_ #[45,45] 45 #[.slice none 0 0,.slice (some ⟨w.heap.size,7,none⟩) m 6]).run Try.prog (w.alloc (Ins.obj ⟨8,op,dst,a,b,n,text,r0,r1,r2,r3,r4,r5,to_,els⟩)) = .ok V' w'∧OwnN w' V' ([r0,r1,r2,r3,r4,r5].take m)∧Below w.heap.size w w':=fun m h1 h6=>by
    have hlen:([r0,r1,r2,r3,r4,r5].take m).length=m:=by rw [List.length_take]; simp; omega
    obtain ⟨V',w',hr,ho,hg,_⟩:=run_append_n (w.alloc (Ins.obj ⟨8,op,dst,a,b,n,text,r0,r1,r2,r3,r4,r5,to_,els⟩)) 45 (.slice none 0 0) [] (OwnN.nil _) (some ⟨w.heap.size,7,none⟩) ([r0,r1,r2,r3,r4,r5].take m) 6 (hR m h6) (by omega) (by simp; omega)
    rw [hlen] at hr
    exact ⟨V',w',hr,by simpa using ho,hb0.grown hg hb0.size (fun k hk=>by simp [Value.ownBlock] at hk)⟩
  simp only [Ins.obj] at hb0 hap
  simp only [Ins.agg]
  clear hR bx
  by_cases hn:n≤0
  · have ht:n.toNat=0:=by omega
    rw [ht]
    clear ht hap
    have hc:n < 0∨n=0:=by omega
    clear hn
    rcases hc with hc | rfl
    all_goals
      go_enter Try.func58,Try.ntmps58
      go_wp2_with (first
        | (go_at_call 84; refine (hk _).mono ?_; rintro e w1 ⟨rfl,hw⟩; subst hw))
      go_returns
      exact ⟨SlN.of (OwnN.nil _),hb0⟩
  · have hc:n=1∨n=2∨n=3∨n=4∨n=5∨n=6∨6 < n:=by omega
    clear hn
    rcases hc with rfl | rfl | rfl | rfl | rfl | rfl | h6
    · obtain ⟨V',w',hr,ho,hb⟩:=hap 1 (by omega) (by omega)
      clear hap
      go_enter Try.func58,Try.ntmps58
      go_wp2_with (first
        | (go_at_call 84; refine (hk _).mono ?_; rintro e w1 ⟨rfl,hw⟩; subst hw)
        | (at_builtin; refine append_ran (t:=45) rfl _ _ rfl rfl rfl hr ?_))
      go_returns
      exact ⟨SlN.of ho,hb⟩
    · obtain ⟨V',w',hr,ho,hb⟩:=hap 2 (by omega) (by omega)
      clear hap
      go_enter Try.func58,Try.ntmps58
      go_wp2_with (first
        | (go_at_call 84; refine (hk _).mono ?_; rintro e w1 ⟨rfl,hw⟩; subst hw)
        | (at_builtin; refine append_ran (t:=45) rfl _ _ rfl rfl rfl hr ?_))
      go_returns
      exact ⟨SlN.of ho,hb⟩
    · obtain ⟨V',w',hr,ho,hb⟩:=hap 3 (by omega) (by omega)
      clear hap
      go_enter Try.func58,Try.ntmps58
      go_wp2_with (first
        | (go_at_call 84; refine (hk _).mono ?_; rintro e w1 ⟨rfl,hw⟩; subst hw)
        | (at_builtin; refine append_ran (t:=45) rfl _ _ rfl rfl rfl hr ?_))
      go_returns
      exact ⟨SlN.of ho,hb⟩
    · obtain ⟨V',w',hr,ho,hb⟩:=hap 4 (by omega) (by omega)
      clear hap
      go_enter Try.func58,Try.ntmps58
      go_wp2_with (first
        | (go_at_call 84; refine (hk _).mono ?_; rintro e w1 ⟨rfl,hw⟩; subst hw)
        | (at_builtin; refine append_ran (t:=45) rfl _ _ rfl rfl rfl hr ?_))
      go_returns
      exact ⟨SlN.of ho,hb⟩
    · obtain ⟨V',w',hr,ho,hb⟩:=hap 5 (by omega) (by omega)
      clear hap
      go_enter Try.func58,Try.ntmps58
      go_wp2_with (first
        | (go_at_call 84; refine (hk _).mono ?_; rintro e w1 ⟨rfl,hw⟩; subst hw)
        | (at_builtin; refine append_ran (t:=45) rfl _ _ rfl rfl rfl hr ?_))
      go_returns
      exact ⟨SlN.of ho,hb⟩
    · obtain ⟨V',w',hr,ho,hb⟩:=hap 6 (by omega) (by omega)
      clear hap
      go_enter Try.func58,Try.ntmps58
      go_wp2_with (first
        | (go_at_call 84; refine (hk _).mono ?_; rintro e w1 ⟨rfl,hw⟩; subst hw)
        | (at_builtin; refine append_ran (t:=45) rfl _ _ rfl rfl rfl hr ?_))
      go_returns
      exact ⟨SlN.of ho,hb⟩
    · obtain ⟨V',w',hr,ho,hb⟩:=hap 6 (by omega) (by omega)
      clear hap
      have hto:[r0,r1,r2,r3,r4,r5].take n.toNat=[r0,r1,r2,r3,r4,r5].take 6:=by rw [List.take_of_length_le (by simp; omega),List.take_of_length_le (by simp)]
      rw [hto]
      clear hto
      go_enter Try.func58,Try.ntmps58
      go_wp2_with (first
        | (go_at_call 84; refine (hk _).mono ?_; rintro e w1 ⟨rfl,hw⟩; subst hw)
        | (at_builtin; refine append_ran (t:=45) rfl _ _ rfl rfl rfl hr ?_))
      go_returns
      exact ⟨SlN.of ho,hb⟩
set_option maxRecDepth 1000000 in
set_option maxHeartbeats 4000000 in
theorem Uses_any (i:Ins) (w:World):Calls Try.prog 58 #[i.agg] w fun e w'=>SlN i.uses e w'∧Below w.heap.size w w':=by
  obtain ⟨k,op,dst,a,b,n,text,r0,r1,r2,r3,r4,r5,to_,els⟩:=i
  by_cases h8:k=8
  · subst h8
    exact Uses_call op dst a b n text r0 r1 r2 r3 r4 r5 to_ els w
  have q8:(k == 8)=false:=by simpa using h8
  have hb0:=Below.one w (Ins.obj ⟨k,op,dst,a,b,n,text,r0,r1,r2,r3,r4,r5,to_,els⟩)
  have bx:=heap_alloc_new w (Ins.obj ⟨k,op,dst,a,b,n,text,r0,r1,r2,r3,r4,r5,to_,els⟩)
  have hk:=fun w=>uses_any k w
  simp only [Ins.obj,Ins.agg] at hb0 bx ⊢
  cases hA:kA k
  · have hB:kB k=false:=by simp [kA] at hA; simp [kB]; omega
    have hu:Ins.uses ⟨k,op,dst,a,b,n,text,r0,r1,r2,r3,r4,r5,to_,els⟩=[]:=by simp [Ins.uses,hA,hB,h8]
    rw [hu]
    rw [hA,hB] at hk
    clear hu hA hB h8
    go_enter Try.func58,Try.ntmps58
    go_wp2_with (first
      | (go_at_call 84; refine (hk _).mono ?_; rintro e w1 ⟨rfl,hw⟩; subst hw))
    go_returns
    exact ⟨SlN.of (OwnN.nil _),hb0⟩
  · cases hB:kB k
    · have hu:Ins.uses ⟨k,op,dst,a,b,n,text,r0,r1,r2,r3,r4,r5,to_,els⟩=[a]:=by simp [Ins.uses,hA,hB,h8]
      rw [hu]
      rw [hA,hB] at hk
      clear hu hA hB h8
      go_enter Try.func58,Try.ntmps58
      go_wp2_with (first
        | (go_at_call 84; refine (hk _).mono ?_; rintro e w1 ⟨rfl,hw⟩; subst hw)
        | (at_builtin; go_must (refine append_one rfl _ _ rfl (.slice none 0 0) [] rfl (OwnN.nil _) (w.heap.size + 1) a rfl (by simpa using heap_alloc_new (w.alloc _) (.cells #[.int .i64 a] 3)) (by simp) ?_); intro V1 w2 ho1 hg1 hat1; have hx1:=(hg1.block w.heap.size (by simp <;> omega) (by simp [Value.ownBlock])).trans (alloc_keeps bx (.cells #[.int .i64 a] 3)); have c0:=cell_of_heap hx1 0 _ rfl))
      go_returns
      exact ⟨SlN.of ho1,(hb0.alloc hb0.size _).grown hg1 (by simp; omega) (fun k hk=>by simp [Value.ownBlock] at hk)⟩
    · have hu:Ins.uses ⟨k,op,dst,a,b,n,text,r0,r1,r2,r3,r4,r5,to_,els⟩=[a,b]:=by simp [Ins.uses,hA,hB,h8]
      rw [hu]
      rw [hA,hB] at hk
      clear hu hA hB h8
      go_enter Try.func58,Try.ntmps58
      go_wp2_with (first
        | (go_at_call 84; refine (hk _).mono ?_; rintro e w1 ⟨rfl,hw⟩; subst hw)
        | (at_builtin; refine append_one rfl _ _ rfl V1 [a] rfl (ho1.alloc _) w2.heap.size b rfl (heap_alloc_new w2 (.cells #[.int .i64 b] 3)) (by simp) ?_; intro V2 w3 ho2 hg2 hat2; have hx2:=(hg2.block w.heap.size (by have:=hg1.size; simp at this; simp; omega) (fun e=>by rcases hat1 with hh | hh; (rw [hh] at e; simp [Value.ownBlock] at e); (rw [hh] at e; injection e with e; simp at e; omega))).trans (alloc_keeps hx1 (.cells #[.int .i64 b] 3)); have d0:=cell_of_heap hx2 0 _ rfl)
        | (at_builtin; go_must (refine append_one rfl _ _ rfl (.slice none 0 0) [] rfl (OwnN.nil _) (w.heap.size + 1) a rfl (by simpa using heap_alloc_new (w.alloc _) (.cells #[.int .i64 a] 3)) (by simp) ?_); intro V1 w2 ho1 hg1 hat1; have hx1:=(hg1.block w.heap.size (by simp <;> omega) (by simp [Value.ownBlock])).trans (alloc_keeps bx (.cells #[.int .i64 a] 3)); have c0:=cell_of_heap hx1 0 _ rfl; have c4:=cell_of_heap hx1 4 _ rfl))
      go_returns
      have hs1:=hg1.size
      have hB1:Below w.heap.size w w2:=(hb0.alloc hb0.size _).grown hg1 (by simp; omega) (fun k hk=>by simp [Value.ownBlock] at hk)
      exact ⟨SlN.of ho2,(hB1.alloc hB1.size _).grown hg2 (by have:=hB1.size; simp; omega) (fun k hk=>by
        rcases hat1 with hh | hh
        · rw [hh] at hk; simp [Value.ownBlock] at hk
        · rw [hh] at hk; injection hk with hk; simp at hk; omega)⟩
end Go.Proofs.Ythbcdckonaljiaa
namespace Go.Proofs.Ythbcdckonaljiaa
open Go.RowKit
structure Later (W:World) where
  w:World
  h:Below W.heap.size W w
instance (W:World):Nonempty (Later W):=⟨⟨W,Below.refl _ _⟩⟩
theorem Later.cell {W:World}{a:Addr}{v:Value}(h:W.cell? a=some v)(s:Later W):s.w.cell? a=some v :=
  (s.h.cell (World.block_lt_of_cell? W a h)).trans h
theorem wp_region_later {P:Program}{id:Nat}{Q:Exit→Act→World→Prop}{a:Act}{W:World}{l:List Oper}(hm:P.follows .mixedOrders=true)(hB:Region.lexB .any l.toArray=true)
    (h:wpQuiet P l.toArray (fun w'=>∃ s:Later W,w'=s.w) (fun a'=>∀ w',(∃ s:Later W,w'=s.w)→Q .normal a' w') l a):(Code.region id l.toArray true).wp P Q a W :=
  wp_region_quiet (C:=fun w'=>∃ s:Later W,w'=s.w) hm hB ⟨⟨{ W with drawn:=W.drawn + 1 },⟨rfl,rfl,rfl,Nat.le_refl _,fun _ _=>rfl⟩⟩,rfl⟩ (by simpa using h)
theorem Calls.later {P:Program}{f:FuncId}{args:Array Value}{W:World}{s:Later W}{v:Value}
    (h:Calls P f args s.w fun e w'=>e = .returned v∧Below s.w.heap.size s.w w'):Calls P f args s.w fun e w''=>e = .returned v∧∃ t:Later W,w''=t.w :=
  h.mono fun _ w' ⟨he,hb⟩=>⟨he,⟨w',s.h.trans (hb.mono s.h.size)⟩,rfl⟩
end Go.Proofs.Ythbcdckonaljiaa
namespace Go.Proofs.Ythbcdckonaljiaa
open Go.RowKit Go.BigFrame
noncomputable def tb (p:Prop):Bool:=@decide p (Classical.propDecidable p)
theorem tb_true {p:Prop}:tb p=true↔p:=@decide_eq_true_iff p (Classical.propDecidable p)
theorem tb_false {p:Prop}:tb p=false↔¬ p:=@decide_eq_false_iff_not p (Classical.propDecidable p)
theorem Tru.val {p:Prop}{e:Ending}(h:Tru p e):e = .returned (.bool (tb p)):=by
  obtain ⟨b,rfl,hb⟩:=h
  have:b=tb p:=by
    cases b
    · rw [eq_comm,tb_false]; intro hp; have:=hb.2 hp; cases this
    · rw [eq_comm,tb_true]; exact hb.1 rfl
  rw [this]
theorem name_some {s:ByteArray}(h:¬ s.size=0):s.toList.isEmpty=false:=by
  rw [Go.ByteArray.toList_eq]
  cases s with
  | mk d =>
    have:d.size≠0:=h
    rw [List.isEmpty_eq_false_iff_exists_mem]
    exact ⟨d[0],by simp⟩
set_option maxRecDepth 1000000 in
set_option maxHeartbeats 8000000 in
theorem refRightFunc_any (f:Fn7) (C:Option Addr) (cap:Nat) (w:World) (hC:RdI w C f.code):Calls Try.prog 14 #[funcAgg f.nm f.ps f.R f.Fr C f.code.length cap] w fun e w'=>Tru (OkF f) e∧Below w.heap.size w w':=by
  obtain ⟨nm,ps,R,Fr,l⟩:=f
  obtain ⟨L,hL⟩:∃ L,l.length=L:=⟨_,rfl⟩
  simp only at hC ⊢
  rw [hL]
  have HL:=Lib.hid hL
  clear hL
  have hB:=Below.one w (funcObj nm ps R Fr C L cap)
  have bx:=heap_alloc_new w (funcObj nm ps R Fr C L cap)
  simp only [funcObj,funcAgg] at hB bx ⊢
  by_cases hn:nm.size=0
  · have HT:=Lib.hid (Tru.no (fun h:OkF ⟨nm,ps,R,Fr,l⟩=>h.nm hn))
    have n0:((nm.size:Int) == 0)=true:=by rw [hn]; rfl
    have n1:(nm.size == 0)=true:=by rw [hn]; rfl
    clear hn
    go_enter Try.func14,Try.ntmps14
    go_wp2
    go_returns
    exact ⟨HT.out,hB⟩
  have HN:=Lib.hid hn
  have n0:((nm.size:Int) == 0)=false:=by rw [beq_eq_false_iff_ne]; omega
  have n1:(nm.size == 0)=false:=by rw [beq_eq_false_iff_ne]; omega
  clear hn
  by_cases hc:0≤ps∧ps≤6∧ps≤R∧R≤4096∧0≤Fr∧Fr≤4096∧1≤L∧L≤8192
  case neg =>
    have HT:=Lib.hid (Tru.no (fun h:OkF ⟨nm,ps,R,Fr,l⟩=>by
      have h1:=h.ps; have h2:=h.R; have h3:=h.Fr; have h4:=h.len
      simp only at h1 h2 h3 h4
      rw [HL.out] at h4
      omega))
    have hd:(decide (ps < 0)=true)∨(decide (ps < 0)=false∧decide (ps > 6)=true∧decide (6 < ps)=true)∨(decide (ps < 0)=false∧decide (ps > 6)=false∧decide (6 < ps)=false∧decide (R < ps)=true)∨(decide (ps < 0)=false∧decide (ps > 6)=false∧decide (6 < ps)=false∧decide (R < ps)=false∧decide (R > 4096)=true∧decide (4096 < R)=true)∨(decide (ps < 0)=false∧decide (ps > 6)=false∧decide (6 < ps)=false∧decide (R < ps)=false∧decide (R > 4096)=false∧decide (4096 < R)=false∧decide (Fr < 0)=true)∨(decide (ps < 0)=false∧decide (ps > 6)=false∧decide (6 < ps)=false∧decide (R < ps)=false∧decide (R > 4096)=false∧decide (4096 < R)=false∧decide (Fr < 0)=false∧decide (Fr > 4096)=true∧decide (4096 < Fr)=true)∨(decide (ps < 0)=false∧decide (ps > 6)=false∧decide (6 < ps)=false∧decide (R < ps)=false∧decide (R > 4096)=false∧decide (4096 < R)=false∧decide (Fr < 0)=false∧decide (Fr > 4096)=false∧decide (4096 < Fr)=false∧((L:Int) == 0)=true∧(L == 0)=true)∨(decide (ps < 0)=false∧decide (ps > 6)=false∧decide (6 < ps)=false∧decide (R < ps)=false∧decide (R > 4096)=false∧decide (4096 < R)=false∧decide (Fr < 0)=false∧decide (Fr > 4096)=false∧decide (4096 < Fr)=false∧((L:Int) == 0)=false∧(L == 0)=false∧decide ((L:Int) > 8192)=true∧decide (8192 < L)=true∧decide (L > 8192)=true):=by simp; omega
    clear hc
    rcases hd with c0 | ⟨c0,c1,c2⟩ | ⟨c0,c1,c2,c3⟩ | ⟨c0,c1,c2,c3,c4,c5⟩ | ⟨c0,c1,c2,c3,c4,c5,c6⟩ | ⟨c0,c1,c2,c3,c4,c5,c6,c7,c8⟩ | ⟨c0,c1,c2,c3,c4,c5,c6,c7,c8,c9,c10⟩ | ⟨c0,c1,c2,c3,c4,c5,c6,c7,c8,c9,c10,c11,c12,c13⟩
    all_goals
      go_enter Try.func14,Try.ntmps14
      go_wp2
      go_returns
      exact ⟨HT.out,hB⟩
  have k0:decide (ps < 0)=false:=by simp; omega
  have k1:decide (ps > 6)=false:=by simp; omega
  have k2:decide (6 < ps)=false:=by simp; omega
  have k3:decide (R < ps)=false:=by simp; omega
  have k4:decide (R > 4096)=false:=by simp; omega
  have k5:decide (4096 < R)=false:=by simp; omega
  have k6:decide (Fr < 0)=false:=by simp; omega
  have k7:decide (Fr > 4096)=false:=by simp; omega
  have k8:decide (4096 < Fr)=false:=by simp; omega
  have k9:((L:Int) == 0)=false:=by simp; omega
  have k10:(L == 0)=false:=by simp; omega
  have k11:decide ((L:Int) > 8192)=false:=by simp; omega
  have k12:decide (8192 < L)=false:=by simp; omega
  have k13:decide (L > 8192)=false:=by simp; omega
  have hR0:0≤R:=by omega
  have hL8:L≤8192:=by omega
  obtain ⟨M,hM⟩:∃ M,L=M + 1:=⟨L - 1,by omega⟩
  have HM:=Lib.hid hM
  clear hM
  have HC:=Lib.hid hc
  clear hc
  obtain ⟨W,hW⟩:∃ W,w.alloc (.cells #[.string nm,.int .i64 ps,.int .i64 R,.int .i64 Fr,.slice C L cap] 26)=W:=⟨_,rfl⟩
  have g0:=cell_of_heap bx 0 (.string nm) rfl
  have g1:=cell_of_heap bx 1 (.int .i64 ps) rfl
  have g2:=cell_of_heap bx 2 (.int .i64 R) rfl
  have g3:=cell_of_heap bx 3 (.int .i64 Fr) rfl
  have g4:=cell_of_heap bx 4 (.slice C L cap) rfl
  rw [hW] at bx hB g0 g1 g2 g3 g4
  go_enter Try.func14,Try.ntmps14
  go_wp2
  clear hW
  go_loopw [3] (fun ix w8=>∃ m:Nat,m≤L∧ix = .int .i64 m∧Below W.heap.size W w8∧∀ (j:Nat) i,j < m→l[j]? = some i→Ok i R Fr L) (fun ix _=>L - (intOf ix).toNat)
  case atStart=>exact ⟨0,by omega,rfl,Below.refl _ _,fun j i hj=>by omega⟩
  case round =>
    obtain ⟨m,hm,rfl,hb,hno⟩:=hrel
    have hBw:=hB.trans (hb.mono hB.size)
    have bxr:=(hb.block _ (Array.getElem?_eq_some_iff.1 bx).1).trans bx
    have y0:=cell_of_heap bxr 0 (.string nm) rfl
    have y1:=cell_of_heap bxr 1 (.int .i64 ps) rfl
    have y2:=cell_of_heap bxr 2 (.int .i64 R) rfl
    have y3:=cell_of_heap bxr 3 (.int .i64 Fr) rfl
    have y4:=cell_of_heap bxr 4 (.slice C L cap) rfl
    by_cases hlt:m < L
    · have hi:l[m]? = some (l[m]'(by rw [HL.out]; exact hlt)):=by simp
      generalize l[m]'(by rw [HL.out]; exact hlt)=i at hi
      obtain ⟨b,o,rfl,_,hcs⟩:=(hC.below hBw) m i hi
      obtain ⟨x0,x1,x2,x3,x4,x5,x6,x7,x8,x9,x10,x11,x12,x13,x14⟩:=RdI.load hcs
      have hr:=fun (s:World)=>refright_any i nm ps R Fr (some ⟨b,o,none⟩) L cap s
      obtain ⟨k,op,dst,a,b',n,text,r0,r1,r2,r3,r4,r5,to_,els⟩:=i
      simp only at x0 x1 x2 x3 x4 x5 x6 x7 x8 x9 x10 x11 x12 x13 x14
      simp only [Ins.agg,funcAgg] at hr
      clear hcs
      have hv:∀ s:World,Calls Try.prog 41 #[.agg #[.int .i64 k,.int .i64 op,.int .i64 dst,.int .i64 a,.int .i64 b',.int .i64 n,.string text,.int .i64 r0,.int .i64 r1,.int .i64 r2,.int .i64 r3,.int .i64 r4,.int .i64 r5,.int .i64 to_,.int .i64 els],.agg #[.string nm,.int .i64 ps,.int .i64 R,.int .i64 Fr,.slice (some ⟨b,o,none⟩) L cap]] s fun e w'=>e = .returned (.bool (tb (Ok ⟨k,op,dst,a,b',n,text,r0,r1,r2,r3,r4,r5,to_,els⟩ R Fr L)))∧Below s.heap.size s w':=fun s=>(hr s).mono fun e w' h=>⟨h.1.val,h.2⟩
      have HO:=Lib.hid (⟨(tb_true (p:=Ok ⟨k,op,dst,a,b',n,text,r0,r1,r2,r3,r4,r5,to_,els⟩ R Fr L)).1,(tb_false (p:=Ok ⟨k,op,dst,a,b',n,text,r0,r1,r2,r3,r4,r5,to_,els⟩ R Fr L)).1⟩:(tb (Ok ⟨k,op,dst,a,b',n,text,r0,r1,r2,r3,r4,r5,to_,els⟩ R Fr L)=true→Ok ⟨k,op,dst,a,b',n,text,r0,r1,r2,r3,r4,r5,to_,els⟩ R Fr L)∧(tb (Ok ⟨k,op,dst,a,b',n,text,r0,r1,r2,r3,r4,r5,to_,els⟩ R Fr L)=false→¬ Ok ⟨k,op,dst,a,b',n,text,r0,r1,r2,r3,r4,r5,to_,els⟩ R Fr L))
      generalize tb (Ok ⟨k,op,dst,a,b',n,text,r0,r1,r2,r3,r4,r5,to_,els⟩ R Fr L)=bb at *
      have l0:=fun s:Later wr=>Later.cell x0 s
      have l1:=fun s:Later wr=>Later.cell x1 s
      have l2:=fun s:Later wr=>Later.cell x2 s
      have l3:=fun s:Later wr=>Later.cell x3 s
      have l4:=fun s:Later wr=>Later.cell x4 s
      have l5:=fun s:Later wr=>Later.cell x5 s
      have l6:=fun s:Later wr=>Later.cell x6 s
      have l7:=fun s:Later wr=>Later.cell x7 s
      have l8:=fun s:Later wr=>Later.cell x8 s
      have l9:=fun s:Later wr=>Later.cell x9 s
      have l10:=fun s:Later wr=>Later.cell x10 s
      have l11:=fun s:Later wr=>Later.cell x11 s
      have l12:=fun s:Later wr=>Later.cell x12 s
      have l13:=fun s:Later wr=>Later.cell x13 s
      have l14:=fun s:Later wr=>Later.cell x14 s
      have k0:=fun s:Later wr=>Later.cell y0 s
      have k1:=fun s:Later wr=>Later.cell y1 s
      have k2:=fun s:Later wr=>Later.cell y2 s
      have k3:=fun s:Later wr=>Later.cell y3 s
      have k4:=fun s:Later wr=>Later.cell y4 s
      have lc:=fun s:Later wr=>hv s.w
      cases bb
      all_goals
        go_wp2
        refine wp_region_later (by kernel_rfl) (by kernel_rfl) ?_
        repeat (go_big_quiet_step ((go_at_call 41; exact Calls.later (lc _))))
        refine wpQuiet_nil ?_
        rintro w3 ⟨s',rfl⟩
        have hb3:=hb.trans (s'.h.mono hb.size)
        generalize s'.w=w3 at *
        go_wp2
      · go_returns
        exact ⟨Tru.no (fun h:OkF ⟨nm,ps,R,Fr,l⟩=>HO.out.2 (by simp) (by have:=h.ok _ (List.mem_of_getElem? hi); simp only at this; rw [HL.out] at this; exact this)),hB.trans (hb3.mono hB.size)⟩
      · exact ⟨⟨m + 1,by omega,by simp,hb3,fun j i' hj hi'=>by
          by_cases hjm:j=m
          · subst hjm
            rw [hi] at hi'
            injection hi' with hi'
            subst hi'
            exact HO.out.1 (by simp)
          · exact hno j i' (by omega) hi'⟩,by simp [intOf]; omega⟩
    · have hall:∀ i ∈ l,Ok i R Fr L:=fun i hi=>by
        obtain ⟨j,hj⟩:=List.mem_iff_getElem?.1 hi
        exact hno j i (by have h1:=(List.getElem?_eq_some_iff.1 hj).1; rw [HL.out] at h1; omega) hj
      have HA:=Lib.hid hall
      have hmL:m=L:=by omega
      subst hmL
      have hM:=HM.out
      have hla:l[M]? = some (l[M]'(by rw [HL.out]; omega)):=by simp
      generalize l[M]'(by rw [HL.out]; omega)=i at hla
      obtain ⟨b,o,rfl,_,hcs⟩:=(hC.below hBw) M i hla
      have xk:=(RdI.load hcs).1
      rw [show M=m - 1 by omega] at xk
      have qM:M < m:=by omega
      have HLA:=Lib.hid hla
      clear hcs hla hno hall hlt
      have hfin:∀ bb:Bool,bb=decide (11≤i.kind)→Tru (OkF ⟨nm,ps,R,Fr,l⟩) (.returned (.bool bb)):=fun bb hbb=>⟨bb,rfl,by
        rw [hbb,decide_eq_true_eq]
        have hc:=HC.out
        have hl:=HL.out
        constructor
        · intro h11
          exact ⟨HN.out,⟨hc.1,hc.2.1⟩,⟨hc.2.2.1,hc.2.2.2.1⟩,⟨hc.2.2.2.2.1,hc.2.2.2.2.2.1⟩,by simp only; omega,fun i hi=>by simp only at hi ⊢; rw [hl]; exact HA.out i hi,fun i' hi'=>by
            simp only at hi'
            rw [hl,show m - 1=M by omega,HLA.out] at hi'
            injection hi' with hi'
            rw [← hi']
            exact h11⟩
        · intro h
          refine h.last i ?_
          simp only
          rw [hl,show m - 1=M by omega]
          exact HLA.out⟩
      generalize i.kind=kk at *
      cases h11:decide (11≤kk)
      · have q11:decide (kk ≥ 11)=false:=h11
        have HF:=Lib.hid (hfin false h11.symm)
        clear hfin hM
        go_wp2
        go_returns
        exact ⟨HF.out,hBw⟩
      · have q11:decide (kk ≥ 11)=true:=h11
        have HF:=Lib.hid (hfin true h11.symm)
        clear hfin hM
        go_wp2
        go_returns
        exact ⟨HF.out,hBw⟩
end Go.Proofs.Ythbcdckonaljiaa
namespace Go.Proofs.Ythbcdckonaljiaa
open Go
section
variable {P:Program} {ops:Array Oper} {md:Region.Mode} {C:World→Prop}
def wpAnyQL (P:Program) (md:Region.Mode) (ops:Array Oper) (C:World→Prop) (n:Nat) (L:Array Bool→Act→Prop):Nat→Array Bool→Act→Prop
  | 0,listed,a=>L listed a
  | f + 1,listed,a =>
    Region.ready md ops listed≠[]∧∀ i ∈ Region.ready md ops listed,i < n∧qOp P ops C i (wpAnyQL P md ops C n L f (listed.setIfInBounds i true)) a
theorem wpAny_of_headQ {n g:Nat}{L:Array Bool→Act→Prop}{Q':Exit→Act→World→Prop}(hL:∀ listed a w,C w→L listed a→wpAny P md ops Q' g listed a w) :
    ∀ (f:Nat) (listed:Array Bool) (a:Act) (w:World),C w→wpAnyQL P md ops C n L f listed a→wpAny P md ops Q' (f + g) listed a w
  | 0,listed,a,w,hC,h=>by rw [Nat.zero_add]; exact hL _ _ _ hC h
  | f + 1,listed,a,w,hC,h=>by
    rw [show f + 1 + g=(f + g) + 1 by omega]
    exact ⟨fun h0=>absurd h0 h.1,fun i hi=>wpOp_of_qOp hC (fun a' w' hC' h'=>wpAny_of_headQ hL f _ a' w' hC' h') (h.2 i hi).2⟩
theorem wpAnyQL_first {n i:Nat} {oi:Oper} {v:Value} {L:Array Bool→Act→Prop} (hi:ops[i]? = some oi) (hsel:∀ (j:Nat) (o:Oper) cs b,ops[j]? = some o→o.op≠.select cs b)
    (hs:Region.sinkB md ops n=true) (hc:Region.chainB md ops n=true) (hn:n < ops.size) (hin:i < n)
    (hdone:∀ listed a,L listed a→∀ j ∈ Region.ready md ops listed,n≤j) :
    ∀ (f:Nat) (listed:Array Bool) (a:Act),HeadInv md ops n listed →
      (∀ j oj,ops[j]? = some oj→j≠i→listed.getD j true=false→(∀ e ∈ oj.after,Region.binds md e=true→e.on≠i)→oi.apart ops oj=true) →
      i ∈ Region.ready md ops listed→YieldsIn P ops C oi v a →
      wpAnyQL P md ops C n L f (listed.setIfInBounds i true) (a.put oi.dst v)→wpAnyQL P md ops C n L (f + 1) listed a:=by
  intro f
  induction f with
  | zero =>
    intro listed a inv _ hr hy H
    have hun:=(mem_ready.1 hr).1
    refine ⟨fun h=>(by rw [h] at hr; cases hr),fun j hj=>?_⟩
    have hjn:j < n:=by
      rcases Nat.lt_or_ge j n with h | h
      · exact h
      · exact absurd hj (tail_waits hs hc hn inv _ i rfl hin hun j h)
    refine ⟨hjn,?_⟩
    by_cases hji:j=i
    · subst hji; exact hy.qOp hi H
    · have:=hdone _ _ H j (ready_mono hj hji)
      omega
  | succ f ih =>
    intro listed a inv hfree hr hy H
    have hun:=(mem_ready.1 hr).1
    refine ⟨fun h=>(by rw [h] at hr; cases hr),fun j hj=>?_⟩
    have hjn:j < n:=by
      rcases Nat.lt_or_ge j n with h | h
      · exact h
      · exact absurd hj (tail_waits hs hc hn inv _ i rfl hin hun j h)
    refine ⟨hjn,?_⟩
    by_cases hji:j=i
    · subst hji; exact hy.qOp hi H
    · have h1:=(H.2 j (ready_mono hj hji)).2
      obtain ⟨hjun,oj,hoj,hall⟩:=mem_ready.1 hj
      have hnot:∀ e ∈ oj.after,Region.binds md e=true→e.on≠i:=fun e he hb heq=>by
        have h1:=hall e he hb
        rw [heq,getD_both hun] at h1
        cases h1
      have h2:=qOp_put hoj (hfree j oj hoj hji hjun hnot) (fun cs b=>hsel i oi cs b hi) (fun cs b=>hsel j oj cs b hoj) hy h1
      have hfree':∀ k ok,ops[k]? = some ok→k≠i→(listed.setIfInBounds j true).getD k true=false →
          (∀ e ∈ ok.after,Region.binds md e=true→e.on≠i)→oi.apart ops ok=true:=fun k ok hk hki hun hno=>by
        refine hfree k ok hk hki ?_ hno
        by_cases hjk:j=k
        · subst hjk; exact hjun
        · rw [getD_set_ne true hjk] at hun; exact hun
      refine qOp_mono (fun a' h3=>ih (listed.setIfInBounds j true) a' (inv.set hj hjn) hfree' (ready_mono hr (Ne.symm hji)) h3.1 ?_) h2
      rw [Array.setIfInBounds_comm _ _ hji]
      exact h3.2
theorem wpAnyQL_lex {n g:Nat}{Lq:Act→Prop}(hsel:Region.noSelect ops=true)(hs:Region.sinkB md ops n=true)(hc:Region.chainB md ops n=true)(hn:n < ops.size) :
    ∀ (l:List Oper) (k:Nat) (listed:Array Bool) (a:Act),(∀ j,j < l.length→l[j]? = ops[k + j]?)→k + l.length=n→HeadInv md ops n listed →
    Region.lexHead md ops g l.length k listed=true→wpQuiet P ops C Lq l a →
    wpAnyQL P md ops C n (fun listed' a'=>Region.seqB md ops g n listed'=true∧Lq a') l.length listed a
  | [],k,listed,a,_,hk,_,hB,h=>by
    have:k=n:=by simpa using hk
    subst this
    exact ⟨by simpa [Region.lexHead] using hB,h⟩
  | o::l,k,listed,a,hl,hk,inv,hB,h=>by
    have h0:ops[k]? = some o:=by simpa using (hl 0 (by simp)).symm
    simp only [List.length_cons,Region.lexHead,Bool.and_eq_true] at hB
    obtain ⟨⟨hr,hf⟩,hB'⟩:=hB
    have hkn:k < n:=by simp only [List.length_cons] at hk; omega
    have hr':k ∈ Region.ready md ops listed:=by simpa using hr
    have hst:qOp P ops C k (wpQuiet P ops C Lq l) a:=by unfold qOp; simp only [h0]; exact h
    obtain ⟨v,hy,hK⟩:=yieldsIn_of_qOp h0 hst
    exact wpAnyQL_first h0 (Region.noSelect_spec hsel) hs hc hn hkn (fun listed' a' hL=>seqB_ready hL.1) l.length listed a inv (Region.free_spec h0 hf) hr' hy
      (wpAnyQL_lex hsel hs hc hn l (k + 1) _ _ (fun j hj=>by have:=hl (j + 1) (by simp; omega); simpa [Nat.add_assoc,Nat.add_comm 1 j] using this) (by simp only [List.length_cons] at hk; omega) (inv.set hr' hkn) hB' hK)
theorem wp_region_quiet_tail {id:Nat}{Q:Exit→Act→World→Prop}{a:Act}{w:World}{l:List Oper}(n:Nat)(hm:P.follows .mixedOrders=true)(hB:Region.lexTailB .any l.toArray n=true)(hC0:C { w with drawn:=w.drawn + 1 })
    (h:wpQuiet P l.toArray C (fun a'=>∀ w',C w'→wpList P l.toArray Q (l.drop n) a' w') (l.take n) a):(Code.region id l.toArray true).wp P Q a w:=by
  simp only [Region.lexTailB,Bool.and_eq_true,decide_eq_true_eq] at hB
  obtain ⟨⟨⟨⟨hsel,hn⟩,hs⟩,hc⟩,hlex⟩:=hB
  have hn':n < l.length:=by simpa using hn
  have htl:(l.take n).length=n:=by simp; omega
  have hdl:(l.drop n).length=l.toArray.size - n:=by simp
  have inv0:HeadInv .any l.toArray n (Array.replicate l.toArray.size false) :=
    ⟨by simp,fun j oj _ hl=>(by rw [getD_replicate_false] at hl; cases hl),fun t _ ht=>getD_in (by simpa using ht) (getD_replicate_false _ _)⟩
  have H:=wpAnyQL_lex (C:=C) (md:=.any) (g:=l.toArray.size - n) hsel hs hc hn (l.take n) 0 _ a (fun j hj=>by
    have hj':j < n:=by rw [htl] at hj; exact hj
    simp [hj']) (by simpa using htl) inv0 (by rw [htl]; exact hlex) h
  refine wp_region_any hm ?_
  have:=wpAny_of_headQ (C:=C) (md:=.any) (Q':=Q) (g:=l.toArray.size - n) (fun listed a' w' hC' hL=>by
    have:=wpAny_of_seq (md:=.any) (Q':=Q) (l.drop n) n listed a' w' (fun j=>by simp [List.getElem?_drop]) (by rw [hdl]; exact hL.1) (hL.2 w' hC')
    rwa [hdl] at this) _ _ _ _ hC0 H
  rw [htl,show n + (l.toArray.size - n)=l.toArray.size by omega] at this
  exact this
end
theorem wp_region_later_tail {P:Program}{id:Nat}{Q:Exit→Act→World→Prop}{a:Act}{W:World}{l:List Oper}(n:Nat)(hm:P.follows .mixedOrders=true)(hB:Region.lexTailB .any l.toArray n=true)
    (h:wpQuiet P l.toArray (fun w'=>∃ s:Later W,w'=s.w) (fun a'=>∀ w',(∃ s:Later W,w'=s.w)→wpList P l.toArray Q (l.drop n) a' w') (l.take n) a):(Code.region id l.toArray true).wp P Q a W :=
  wp_region_quiet_tail (C:=fun w'=>∃ s:Later W,w'=s.w) n hm hB ⟨⟨{ W with drawn:=W.drawn + 1 },⟨rfl,rfl,rfl,Nat.le_refl _,fun _ _=>rfl⟩⟩,rfl⟩ h
end Go.Proofs.Ythbcdckonaljiaa

