import Derived.Test.YthbcdckonaljiaaChecked
import Derived.WalkLawsBesides
import Derived.WalkSpells
import Derived.Outline
import Derived.Laws.Rows
import Derived.Laws.EntriesVeiled
import Derived.Lib.Hide
import Derived.Handy
import Derived.OwnWalk
import Derived.Maps.AppendAt
import Derived.Deep.QuietTactic
import Derived.BigQuiet
import Derived.Laws.AppendOwnNone
namespace Go.Proofs.Ythbcdckonaljiaa
open Go.RowKit Go.BigFrame
structure Ins where
  kind:Int
  op:Int
  dst:Int
  a:Int
  b:Int
  n:Int
  text:ByteArray
  r0:Int
  r1:Int
  r2:Int
  r3:Int
  r4:Int
  r5:Int
  to_:Int
  els:Int
abbrev Ins.l (i:Ins):List Value:=[.int .i64 i.kind,.int .i64 i.op,.int .i64 i.dst,.int .i64 i.a,.int .i64 i.b,.int .i64 i.n,.string i.text,.int .i64 i.r0,.int .i64 i.r1,.int .i64 i.r2,.int .i64 i.r3,.int .i64 i.r4,.int .i64 i.r5,.int .i64 i.to_,.int .i64 i.els]
abbrev Ins.agg (i:Ins):Value:=.agg #[.int .i64 i.kind,.int .i64 i.op,.int .i64 i.dst,.int .i64 i.a,.int .i64 i.b,.int .i64 i.n,.string i.text,.int .i64 i.r0,.int .i64 i.r1,.int .i64 i.r2,.int .i64 i.r3,.int .i64 i.r4,.int .i64 i.r5,.int .i64 i.to_,.int .i64 i.els]
def Ins.args (i:Ins):List Int:=[i.r0,i.r1,i.r2,i.r3,i.r4,i.r5]
instance:DecidableEq Ins:=fun x y=>decidable_of_iff (x.kind=y.kind∧x.op=y.op∧x.dst=y.dst∧x.a=y.a∧x.b=y.b∧x.n=y.n∧x.text=y.text∧x.r0=y.r0∧x.r1=y.r1∧x.r2=y.r2∧x.r3=y.r3∧x.r4=y.r4∧x.r5=y.r5∧x.to_=y.to_∧x.els=y.els)
  ⟨fun h=>by cases x; cases y; simp_all,fun h=>by subst h; simp⟩
def kA (k:Int):Bool:=decide (k=2) || decide (k=3) || decide (k=4) || decide (k=6) || decide (k=7) || decide (k=10) || decide (k=12) || decide (k=13)
def kB (k:Int):Bool:=decide (k=3) || decide (k=7)
def kS (k:Int):Bool:=(decide (1≤k) && decide (k≤6)) || decide (k=8) || decide (k=9)
def Ins.uses (i:Ins):List Int:=(if kA i.kind then [i.a] else [])++((if kB i.kind then [i.b] else [])++(if i.kind=8 then i.args.take i.n.toNat else []))
def Ins.sets (i:Ins):Int:=if kS i.kind then i.dst else -1
def Ins.next (i:Ins)(p:Int):List Int:=if i.kind=11 then [i.to_] else if i.kind=12 then [i.to_,i.els] else if i.kind=13 then [] else [p + 1]
def Ins.mask (i:Ins):Ins :=
  { kind:=i.kind,op:=if i.kind=2∨i.kind=3 then i.op else 0,dst:=if kS i.kind then i.dst else -1,a:=if kA i.kind then i.a else 0,b:=if kB i.kind then i.b else 0,
    n:=if i.kind=1∨i.kind=5∨i.kind=8 then i.n else 0,text:=if i.kind=8 then i.text else ⟨#[]⟩,
    r0:=if i.kind=8∧0 < i.n then i.r0 else 0,r1:=if i.kind=8∧1 < i.n then i.r1 else 0,r2:=if i.kind=8∧2 < i.n then i.r2 else 0,
    r3:=if i.kind=8∧3 < i.n then i.r3 else 0,r4:=if i.kind=8∧4 < i.n then i.r4 else 0,r5:=if i.kind=8∧5 < i.n then i.r5 else 0,
    to_:=if i.kind=11∨i.kind=12 then i.to_ else 0,els:=if i.kind=12 then i.els else -1 }
structure Ok (i:Ins)(R Fr:Int)(L:Nat):Prop where
  kind:1≤i.kind∧i.kind≤13
  uses:∀ r ∈ i.uses,0≤r∧r < R
  dst:kS i.kind=true→(0≤i.dst∧i.dst < R)∨(i.kind=8∧i.dst=-1∧i.dst < R)
  word:i.kind=1→-2147483648≤i.n∧i.n≤2147483647
  fr:i.kind=5→0≤i.n∧i.n≤Fr
  call:i.kind=8→0≤i.n∧i.n≤6∧i.text≠⟨#[]⟩
  one:i.kind=2→20≤i.op∧i.op≤23
  two:i.kind=3→1≤i.op∧i.op≤19
  to_:i.kind=11∨i.kind=12→0≤i.to_∧i.to_ < L
  els:i.kind=12→0≤i.els∧i.els < L
  mask:i=i.mask
theorem cell_of_heap {w:World}{p:Nat}{cs:Array Value}{t:TypeId}{fz:Nat × Nat}(h:w.heap[p]? = some (.cells cs t fz))(j:Nat)(v:Value)(hj:cs[j]? = some v):w.cell? ⟨p,j,none⟩=some v:=by
  simp [World.cell?,h,hj]
theorem alloc_keeps {w:World}{p:Nat}{o:Obj}(h:w.heap[p]? = some o)(o':Obj):(w.alloc o').heap[p]? = some o:=by
  rw [Below.heap_alloc _ _ _ (Array.getElem?_eq_some_iff.1 h).1]
  exact h
theorem bytes_same {a b:ByteArray}(h:(a.toList == b.toList)=true):a=b:=by
  rw [Go.ByteArray.toList_eq,Go.ByteArray.toList_eq] at h
  have h1:=eq_of_beq h
  cases a
  cases b
  simp at h1
  rw [h1]
theorem bytes_beq (a b:ByteArray):(a.toList == b.toList)=decide (a=b):=by
  by_cases h:a=b
  · subst h; simp
  · cases hh:(a.toList == b.toList)
    · simp [h]
    · exact absurd (bytes_same hh) h
theorem heap_setCell {w:World}{p j:Nat}{cs:Array Value}{t:TypeId}{fz:Nat × Nat}(h:w.heap[p]? = some (.cells cs t fz))(v:Value):(w.setCell ⟨p,j,none⟩ v).heap[p]? = some (.cells (cs.setIfInBounds j v) t fz):=by
  simp [World.setCell,Array.getElem?_modify,h]
theorem free_of_heap {w:World}{p:Nat}{cs:Array Value}{t:TypeId}(h:w.heap[p]? = some (.cells cs t (0,0)))(j:Nat):w.frozen? ⟨p,j,none⟩=false:=by simp [World.frozen?,h]
theorem size_zero {s:ByteArray}(h:s.size=0):s=⟨#[]⟩:=by
  cases s with
  | mk d =>
    have:d.size=0:=h
    rw [Array.eq_empty_of_size_eq_zero this]
theorem Below.one (w:World)(o:Obj):Below w.heap.size w (w.alloc o):=(Below.refl _ _).alloc (Nat.le_refl _) _
def OwnN (w:World)(V:Value)(l:List Int):Prop:=w.ownsRow 0 3 1 V l.length (l.map (.int .i64))
theorem OwnN.nil (w:World):OwnN w (.slice none 0 0) []:=World.ownsRow_nil w 0 3 1
theorem OwnN.alloc {w:World}{V:Value}{l:List Int}(h:OwnN w V l)(o:Obj):OwnN (w.alloc o) V l:=World.ownsRow.alloc h o
def RdN (w:World)(A:Option Addr)(l:List Int):Prop:=∀ (j:Nat) n,l[j]? = some n→∃ b o,A=some ⟨b,o,none⟩∧b < w.heap.size∧w.cell? ⟨b,o + j,none⟩=some (.int .i64 n)
theorem RdN.below {w w':World}{A:Option Addr}{l:List Int}(h:RdN w A l)(hb:Below w.heap.size w w'):RdN w' A l:=fun j n hn=>by
  obtain ⟨b,o,e1,e2,e3⟩:=h j n hn
  exact ⟨b,o,e1,Nat.lt_of_lt_of_le e2 hb.size,(hb.cell (p:=⟨b,_,none⟩) e2).trans e3⟩
def SlN (l:List Int)(e:Ending)(w:World):Prop:=∃ A cap,e = .returned (.slice A l.length cap)∧RdN w A l
theorem OwnN.form {w:World}{V:Value}{l:List Int}(h:OwnN w V l):∃ A cap,V = .slice A l.length cap∧(∀ b,V.ownBlock=some b→b < w.heap.size)∧RdN w A l:=by
  have h0:=h
  obtain ⟨h1,h2⟩:=h
  rcases h2 with ⟨rfl,hn⟩ | ⟨g,cap,cur,rfl,hB,hg,hnc,_,hsz,htake⟩
  · refine ⟨none,0,by rw [hn],fun b hb=>by simp [Value.ownBlock] at hb,fun j n hj=>?_⟩
    have:=(List.getElem?_eq_some_iff.1 hj).1
    omega
  · have hlt:=(Array.getElem?_eq_some_iff.1 hg).1
    refine ⟨_,_,rfl,fun b hb=>by simp [Value.ownBlock] at hb; omega,fun j n hj=>⟨g,0,rfl,hlt,?_⟩⟩
    have hjl:=(List.getElem?_eq_some_iff.1 hj).1
    have:=World.ownsRow.cellAt h0 j (by omega)
    rw [Nat.zero_add,this,List.getElem?_map,hj]
    rfl
theorem info_n:(Try.prog.info? 3).map (fun i=>(i.zero,i.size,i.bytes))=some (some (.int .i64 0),1,8):=by kernel_rfl
set_option maxRecDepth 1000000 in
theorem run_append_n (w:World) (ty:TypeId) (V:Value) (k:List Int) (hown:OwnN w V k) (A:Option Addr) (l:List Int) (cap:Nat) (hR:RdN w A l) (hl:0 < l.length) (hn:k.length + l.length≤100000) :
    ∃ V' w',(Builtin.append_ #[45,45] ty #[V,.slice A l.length cap]).run Try.prog w = .ok V' w'∧OwnN w' V' (k++l)∧w.grownBy w' V.ownBlock∧(V'.ownBlock=V.ownBlock∨V'.ownBlock=some w.heap.size):=by
  obtain ⟨i0,hi,hz0,hz1,hz2⟩:=info_parts info_n
  obtain ⟨b,o,rfl,hlt,_⟩:=hR 0 (l[0]'hl) (by simp)
  obtain ⟨V',w',hr,h1,h2,_,h4⟩:=run_append_own_at (P:=Try.prog) w 0 45 ty 3 i0 (.int .i64 0) 1 8 (by kernel_rfl) hi hz0 hz1 hz2 rfl (by decide) V k.length (k.map (.int .i64)) hown ⟨b,o,none⟩ l.length cap (l.map (.int .i64)) (by simp)
    (fun j u hu=>by
      rw [List.getElem?_map] at hu
      cases hj:l[j]? with
      | none=>rw [hj] at hu; cases hu
      | some n =>
        rw [hj] at hu
        injection hu with hu
        subst hu
        have hadd:(⟨b,o,none⟩:Addr).add j=⟨b,o + j,none⟩:=by
          unfold Addr.add; split
          · rename_i h0; rw [h0,Nat.add_zero]
          · rfl
        rw [hadd]
        obtain ⟨b',o',e1,_,c0⟩:=hR j n hj
        injection e1 with e1
        injection e1 with e1 e2
        subst e1 e2
        exact c0) (fun u hu=>by
          obtain ⟨n,_,rfl⟩:=List.mem_map.1 hu
          rfl) (by simp only [maxLen]; omega) (by omega) (Nat.zero_le _)
  exact ⟨V',w',hr,by unfold OwnN; rw [List.length_append,List.map_append]; exact h1,h2,h4⟩
theorem append_ran {P:Program}{ops:Array Oper}{rest:List Oper}{o:Oper}{a:Act}{w w':World}{Q:Exit→Act→World→Prop}{t:TypeId}{vs vx V:Value}(hgd:o.guard=none)(s x:Operand)
    (ho:o.op = .call { callee:=.builtin .append,args:=#[s,x],argTypes:=#[t,t] }) (hs:a.eval s=vs) (hx:a.eval x=vx) (hr:(Builtin.append_ #[t,t] o.type #[vs,vx]).run P w = .ok V w')
    (h:wpList P ops Q rest (a.put o.dst V) w'):wpList P ops Q (o::rest) a w:=by
  refine wpList_plain hgd fun K' hK'=>?_
  unfold Oper.wp execOp
  simp only [ho,resolve,invoke,builtin,Sem.run_bind,Sem.run_pure,Result.andThen_ok,List.map_toArray,List.map_cons,List.map_nil,hs,hx,hr]
  exact hK' _ _ h
theorem append_one {ops:Array Oper}{rest:List Oper}{o:Oper}{a:Act}{w:World}{Q:Exit→Act→World→Prop}(hgd:o.guard=none)(s x:Operand)
    (ho:o.op = .call { callee:=.builtin .append,args:=#[s,x],argTypes:=#[45,45] }) (V:Value) (k:List Int) (hs:a.eval s=V) (hown:OwnN w V k)
    (g:Nat) (y:Int) (hx:a.eval x = .slice (some ⟨g,0,none⟩) 1 1) (hg:w.heap[g]? = some (.cells #[.int .i64 y] 3 (0,0))) (hn:k.length≤90000)
    (h:∀ V' w',OwnN w' V' (k++[y])→w.grownBy w' V.ownBlock→(V'.ownBlock=V.ownBlock∨V'.ownBlock=some w.heap.size)→wpList Try.prog ops Q rest (a.put o.dst V') w') :
    wpList Try.prog ops Q (o::rest) a w:=by
  obtain ⟨V',w',hr,h1,h2,h3⟩:=run_append_n w o.type V k hown (some ⟨g,0,none⟩) [y] 1 (fun j n hj=>by
    cases j with
    | succ j=>simp at hj
    | zero =>
      simp at hj
      subst hj
      exact ⟨g,0,rfl,(Array.getElem?_eq_some_iff.1 hg).1,cell_of_heap hg 0 _ rfl⟩) (by simp) (by simp; omega)
  exact append_ran hgd s x ho hs hx hr (h V' w' h1 h2 h3)
end Go.Proofs.Ythbcdckonaljiaa
namespace Go.Proofs.Ythbcdckonaljiaa
open Go.RowKit Go.BigFrame
abbrev Ins.obj (i:Ins):Obj:=.cells #[.int .i64 i.kind,.int .i64 i.op,.int .i64 i.dst,.int .i64 i.a,.int .i64 i.b,.int .i64 i.n,.string i.text,.int .i64 i.r0,.int .i64 i.r1,.int .i64 i.r2,.int .i64 i.r3,.int .i64 i.r4,.int .i64 i.r5,.int .i64 i.to_,.int .i64 i.els] 31
theorem Ins.cells {w:World}{b:Nat}{i:Ins}(h:w.heap[b]? = some i.obj):w.cell? ⟨b,0,none⟩=some (.int .i64 i.kind)∧w.cell? ⟨b,1,none⟩=some (.int .i64 i.op)∧w.cell? ⟨b,2,none⟩=some (.int .i64 i.dst)∧w.cell? ⟨b,3,none⟩=some (.int .i64 i.a)∧w.cell? ⟨b,4,none⟩=some (.int .i64 i.b) ∧
    w.cell? ⟨b,5,none⟩=some (.int .i64 i.n)∧w.cell? ⟨b,6,none⟩=some (.string i.text)∧w.cell? ⟨b,7,none⟩=some (.int .i64 i.r0)∧w.cell? ⟨b,8,none⟩=some (.int .i64 i.r1)∧w.cell? ⟨b,9,none⟩=some (.int .i64 i.r2)∧w.cell? ⟨b,10,none⟩=some (.int .i64 i.r3) ∧
    w.cell? ⟨b,11,none⟩=some (.int .i64 i.r4)∧w.cell? ⟨b,12,none⟩=some (.int .i64 i.r5)∧w.cell? ⟨b,13,none⟩=some (.int .i64 i.to_)∧w.cell? ⟨b,14,none⟩=some (.int .i64 i.els) :=
  ⟨cell_of_heap h 0 _ rfl,cell_of_heap h 1 _ rfl,cell_of_heap h 2 _ rfl,cell_of_heap h 3 _ rfl,cell_of_heap h 4 _ rfl,cell_of_heap h 5 _ rfl,cell_of_heap h 6 _ rfl,cell_of_heap h 7 _ rfl,cell_of_heap h 8 _ rfl,cell_of_heap h 9 _ rfl,cell_of_heap h 10 _ rfl,cell_of_heap h 11 _ rfl,cell_of_heap h 12 _ rfl,cell_of_heap h 13 _ rfl,cell_of_heap h 14 _ rfl⟩
theorem kind_cases (k:Int):k=1∨k=2∨k=3∨k=4∨k=5∨k=6∨k=7∨k=8∨k=9∨k=10∨k=11∨k=12∨k=13∨(k < 1∨13 < k):=by omega
set_option maxRecDepth 1000000 in
set_option maxHeartbeats 4000000 in
theorem refUses_any (i:Ins) (w:World):Calls Try.prog 60 #[i.agg] w fun e w'=>SlN i.uses e w'∧Below w.heap.size w w':=by
  obtain ⟨k,op,dst,a,b,n,text,r0,r1,r2,r3,r4,r5,to_,els⟩:=i
  have hb0:=Below.one w (Ins.obj ⟨k,op,dst,a,b,n,text,r0,r1,r2,r3,r4,r5,to_,els⟩)
  have bx:=heap_alloc_new w (Ins.obj ⟨k,op,dst,a,b,n,text,r0,r1,r2,r3,r4,r5,to_,els⟩)
  simp only [Ins.obj,Ins.agg] at hb0 bx ⊢
  have hfin:∀ (V:Value) (w':World) (l:List Int),OwnN w' V l→(Ins.uses ⟨k,op,dst,a,b,n,text,r0,r1,r2,r3,r4,r5,to_,els⟩=l)→SlN (Ins.uses ⟨k,op,dst,a,b,n,text,r0,r1,r2,r3,r4,r5,to_,els⟩) (.returned V) w':=fun V w' l ho hl=>by
    rw [hl]
    obtain ⟨A,cap,hV,_,hR⟩:=ho.form
    exact ⟨A,cap,by rw [hV],hR⟩
  by_cases h1:kA k=true∧kB k=false
  · have hc:k=2∨k=4∨k=6∨k=10∨k=12∨k=13:=by simp [kA,kB] at h1; omega
    clear h1
    rcases hc with rfl | rfl | rfl | rfl | rfl | rfl
    all_goals
      go_enter Try.func60,Try.ntmps60
      go_wp2_with (first
        | (at_builtin; go_must (refine append_one rfl _ _ rfl (.slice none 0 0) [] rfl (OwnN.nil _) (w.heap.size + 1) a rfl (by simpa using heap_alloc_new (w.alloc _) (.cells #[.int .i64 a] 3)) (by simp) ?_); intro V1 w1 ho1 hg1 hat1; have hx1:=(hg1.block w.heap.size (by simp <;> omega) (by simp [Value.ownBlock])).trans (alloc_keeps bx (.cells #[.int .i64 a] 3)); have c0:=cell_of_heap hx1 0 _ rfl))
      go_returns
      exact ⟨hfin _ _ _ ho1 rfl,(hb0.alloc hb0.size _).grown hg1 (by simp; omega) (fun k hk=>by simp [Value.ownBlock] at hk)⟩
  · by_cases h2 : kB k=true
    · have hc:k=3∨k=7:=by simp [kB] at h2; omega
      clear h1 h2
      rcases hc with rfl | rfl
      all_goals
        go_enter Try.func60,Try.ntmps60
        go_wp2_with (first
          | (at_builtin; refine append_one rfl _ _ rfl V1 [a] rfl (ho1.alloc _) w1.heap.size b rfl (heap_alloc_new w1 (.cells #[.int .i64 b] 3)) (by simp) ?_; intro V2 w2 ho2 hg2 hat2)
          | (at_builtin; go_must (refine append_one rfl _ _ rfl (.slice none 0 0) [] rfl (OwnN.nil _) (w.heap.size + 1) a rfl (by simpa using heap_alloc_new (w.alloc _) (.cells #[.int .i64 a] 3)) (by simp) ?_); intro V1 w1 ho1 hg1 hat1; have hx1:=(hg1.block w.heap.size (by simp <;> omega) (by simp [Value.ownBlock])).trans (alloc_keeps bx (.cells #[.int .i64 a] 3)); have c0:=cell_of_heap hx1 0 _ rfl; have c4:=cell_of_heap hx1 4 _ rfl))
        go_returns
        have hs1:=hg1.size
        have hB1:Below w.heap.size w w1:=(hb0.alloc hb0.size _).grown hg1 (by simp; omega) (fun k hk=>by simp [Value.ownBlock] at hk)
        exact ⟨hfin _ _ _ ho2 rfl,(hB1.alloc hB1.size _).grown hg2 (by have:=hB1.size; simp; omega) (fun k hk=>by
          rcases hat1 with hh | hh
          · rw [hh] at hk; simp [Value.ownBlock] at hk
          · rw [hh] at hk; injection hk with hk; simp at hk; omega)⟩
    · have hkB:kB k=false:=by simpa using h2
      have hkA:kA k=false:=by
        by_cases hh:kA k=true
        · exact absurd ⟨hh,hkB⟩ h1
        · simpa using hh
      clear h1 h2
      have q2:(k == 2)=false:=by simp [kA] at hkA; simp; omega
      have q3:(k == 3)=false:=by simp [kA] at hkA; simp; omega
      have q4:(k == 4)=false:=by simp [kA] at hkA; simp; omega
      have q6:(k == 6)=false:=by simp [kA] at hkA; simp; omega
      have q7:(k == 7)=false:=by simp [kA] at hkA; simp; omega
      have q10:(k == 10)=false:=by simp [kA] at hkA; simp; omega
      have q12:(k == 12)=false:=by simp [kA] at hkA; simp; omega
      have q13:(k == 13)=false:=by simp [kA] at hkA; simp; omega
      by_cases h8:k=8
      · subst h8
        clear q2 q3 q4 q6 q7 q10 q12 q13 hkA hkB
        have hu:∀ m:Nat,(m≤6∧(m=6∨(n≤m))∧((m:Int)≤n∨m=0))→Ins.uses ⟨8,op,dst,a,b,n,text,r0,r1,r2,r3,r4,r5,to_,els⟩=[r0,r1,r2,r3,r4,r5].take m:=fun m ⟨h1,h2,h3⟩=>by
          show [r0,r1,r2,r3,r4,r5].take n.toNat=_
          by_cases h6:m=6
          · subst h6
            rw [List.take_of_length_le (by simp; omega),List.take_of_length_le (by simp)]
          · rw [show n.toNat=m by omega]
        have HU:=Lib.hid hu
        clear hu
        go_enter Try.func60,Try.ntmps60
        go_wp2
        obtain ⟨wB,hwB⟩:∃ wB,wB=w.alloc (.cells #[.int .i64 8,.int .i64 op,.int .i64 dst,.int .i64 a,.int .i64 b,.int .i64 n,.string text,.int .i64 r0,.int .i64 r1,.int .i64 r2,.int .i64 r3,.int .i64 r4,.int .i64 r5,.int .i64 to_,.int .i64 els] 31):=⟨_,rfl⟩
        have hsz:wB.heap.size=w.heap.size + 1:=by rw [hwB]; simp
        rw [← hwB] at hb0 bx ⊢
        clear hwB
        go_loopw [3,5] (fun V i w8=>∃ m:Nat,m≤6∧((m:Int)≤n∨m=0)∧i = .int .i64 m∧Below wB.heap.size wB w8∧∃ U,V=U∧OwnN w8 U ([r0,r1,r2,r3,r4,r5].take m)∧∀ b,U.ownBlock=some b→wB.heap.size≤b) (fun _ i _=>6 - (intOf i).toNat)
        case atStart=>exact ⟨0,by omega,.inr rfl,rfl,Below.refl _ _,_,rfl,OwnN.nil _,fun b hb=>by simp [Value.ownBlock] at hb⟩
        case round =>
          obtain ⟨m,hm,hmn,rfl,hb,V,hVu,hO,hOb⟩:=hrel
          have hVu2:=hVu.symm
          subst hVu2
          have bxr:=(hb.block _ (Array.getElem?_eq_some_iff.1 bx).1).trans bx
          have c5:=cell_of_heap bxr 5 (.int .i64 n) rfl
          by_cases hlt:(m:Int) < n
          · by_cases h6:m < 6
            · have qa:decide ((m:Int) < n)=true:=by simpa using hlt
              have hx:∃ x,[r0,r1,r2,r3,r4,r5][m]? = some x∧wr.cell? ⟨w.heap.size,7 + m,none⟩=some (.int .i64 x):=by
                have hc:m=0∨m=1∨m=2∨m=3∨m=4∨m=5:=by omega
                rcases hc with rfl | rfl | rfl | rfl | rfl | rfl <;> exact ⟨_,rfl,cell_of_heap bxr _ _ rfl⟩
              obtain ⟨x,hx1,hx2⟩:=hx
              have htk:[r0,r1,r2,r3,r4,r5].take (m + 1)=[r0,r1,r2,r3,r4,r5].take m++[x]:=by rw [List.take_add_one,hx1]; rfl
              have HTK:=Lib.hid htk
              clear htk hx1
              have HLE:=Lib.hid (show ([r0,r1,r2,r3,r4,r5].take m).length≤90000 by rw [List.length_take]; omega)
              go_wp2_with (first
                | (at_builtin; go_must (refine append_one rfl _ _ rfl V ([r0,r1,r2,r3,r4,r5].take m) rfl (hO.alloc _) wr.heap.size x rfl (heap_alloc_new wr (.cells #[.int .i64 x] 3)) HLE.out ?_); intro V2 w2 ho2 hg2 hat2))
              refine ⟨⟨m + 1,by omega,.inl (by omega),by simp,(hb.alloc hb.size _).grown hg2 (by have:=hb.size; simp; omega) hOb,_,rfl,by rw [HTK.out]; exact ho2,fun b hb4=>?_⟩,by simp [intOf]; omega⟩
              rcases hat2 with hh | hh
              · exact hOb b (by rw [← hh,hb4])
              · rw [hb4] at hh
                injection hh with hh
                have:=hb.size
                simp at hh
                omega
            · obtain rfl:m=6:=by omega
              have qa:decide ((6:Int) < n)=true:=by simpa using hlt
              go_wp2
              go_returns
              exact ⟨hfin _ _ _ hO (HU.out 6 ⟨hm,.inl rfl,hmn⟩),hb0.trans (hb.mono (by omega))⟩
          · have qa:decide ((m:Int) < n)=false:=by simpa using hlt
            go_wp2
            go_returns
            exact ⟨hfin _ _ _ hO (HU.out m ⟨hm,.inr (by omega),hmn⟩),hb0.trans (hb.mono (by omega))⟩
      · have q8:(k == 8)=false:=by simpa using h8
        have hu:Ins.uses ⟨k,op,dst,a,b,n,text,r0,r1,r2,r3,r4,r5,to_,els⟩=[]:=by simp [Ins.uses,hkA,hkB,h8]
        have HU:=Lib.hid hu
        clear hu hkA hkB h8
        go_enter Try.func60,Try.ntmps60
        go_wp2
        go_returns
        exact ⟨hfin _ _ _ (OwnN.nil _) HU.out,hb0⟩
set_option maxRecDepth 1000000 in
set_option maxHeartbeats 4000000 in
theorem refSets_any (i:Ins)(w:World):Calls Try.prog 44 #[i.agg] w fun e w'=>e = .returned (.int .i64 i.sets)∧Below w.heap.size w w':=by
  obtain ⟨k,op,dst,a,b,n,text,r0,r1,r2,r3,r4,r5,to_,els⟩:=i
  have hb0:=Below.one w (Ins.obj ⟨k,op,dst,a,b,n,text,r0,r1,r2,r3,r4,r5,to_,els⟩)
  simp only [Ins.obj,Ins.agg,Ins.sets] at hb0 ⊢
  have hc:(decide (k ≥ 1)=true∧decide (1≤k)=true∧decide (k≤6)=true∧kS k=true)∨(decide (k ≥ 1)=true∧decide (1≤k)=true∧decide (k≤6)=false∧(k == 8)=true∧kS k=true)∨(decide (k ≥ 1)=true∧decide (1≤k)=true∧decide (k≤6)=false∧(k == 8)=false∧(k == 9)=true∧kS k=true) ∨
      (decide (k ≥ 1)=true∧decide (1≤k)=true∧decide (k≤6)=false∧(k == 8)=false∧(k == 9)=false∧kS k=false)∨(decide (k ≥ 1)=false∧decide (1≤k)=false∧(k == 8)=false∧(k == 9)=false∧kS k=false):=by
    simp [kS]; omega
  rcases hc with ⟨q1,q2,q3,q4⟩ | ⟨q1,q2,q3,q5,q4⟩ | ⟨q1,q2,q3,q5,q6,q4⟩ | ⟨q1,q2,q3,q5,q6,q4⟩ | ⟨q1,q2,q5,q6,q4⟩
  all_goals
    rw [q4]
    clear q4
    go_enter Try.func44,Try.ntmps44
    go_wp2
    go_returns
    exact ⟨rfl,hb0⟩
set_option maxRecDepth 1000000 in
set_option maxHeartbeats 4000000 in
theorem refNext_any (i:Ins) (p:Int) (hp:0≤p∧p≤100000) (w:World):Calls Try.prog 62 #[i.agg,.int .i64 p] w fun e w'=>SlN (i.next p) e w'∧Below w.heap.size w w':=by
  obtain ⟨k,op,dst,a,b,n,text,r0,r1,r2,r3,r4,r5,to_,els⟩:=i
  have hb0:=Below.one w (Ins.obj ⟨k,op,dst,a,b,n,text,r0,r1,r2,r3,r4,r5,to_,els⟩)
  have bx:=heap_alloc_new w (Ins.obj ⟨k,op,dst,a,b,n,text,r0,r1,r2,r3,r4,r5,to_,els⟩)
  simp only [Ins.obj,Ins.agg,Ins.next] at hb0 bx ⊢
  have hwr:wrap64 (p + 1)=p + 1:=by unfold wrap64; omega
  have hone:∀ (W:World) (x:Int),RdN (W.alloc (.cells #[.int .i64 x] 3)) (some ⟨W.heap.size,0,none⟩) [x]:=fun W x j y hj=>by
    cases j with
    | succ j=>simp at hj
    | zero =>
      simp at hj
      subst hj
      exact ⟨W.heap.size,0,rfl,by simp,cell_of_heap (heap_alloc_new W (.cells #[.int .i64 x] 3)) 0 _ rfl⟩
  have htwo:∀ (W:World) (x y:Int),RdN (W.alloc (.cells #[.int .i64 x,.int .i64 y] 3)) (some ⟨W.heap.size,0,none⟩) [x,y]:=fun W x y j z hj=>by
    have hn:=heap_alloc_new W (.cells #[.int .i64 x,.int .i64 y] 3)
    match j with
    | 0=>simp at hj; subst hj; exact ⟨W.heap.size,0,rfl,by simp,cell_of_heap hn 0 _ rfl⟩
    | 1=>simp at hj; subst hj; exact ⟨W.heap.size,0,rfl,by simp,cell_of_heap hn 1 _ rfl⟩
    | j + 2=>simp at hj
  have h1:=hone (w.alloc (Ins.obj ⟨k,op,dst,a,b,n,text,r0,r1,r2,r3,r4,r5,to_,els⟩))
  have h2:=htwo (w.alloc (Ins.obj ⟨k,op,dst,a,b,n,text,r0,r1,r2,r3,r4,r5,to_,els⟩))
  simp only [Ins.obj] at h1 h2
  rw [show (w.alloc (Ins.obj ⟨k,op,dst,a,b,n,text,r0,r1,r2,r3,r4,r5,to_,els⟩)).heap.size=w.heap.size + 1 by simp] at h1 h2
  by_cases e11:k=11
  · subst e11
    go_enter Try.func62,Try.ntmps62
    go_wp2
    go_returns
    exact ⟨⟨_,1,rfl,h1 _⟩,hb0.alloc hb0.size _⟩
  · rw [if_neg e11]
    have q1:(k == 11)=false:=by simpa using e11
    by_cases e12:k=12
    · subst e12
      go_enter Try.func62,Try.ntmps62
      go_wp2
      go_returns
      exact ⟨⟨_,2,rfl,h2 _ _⟩,hb0.alloc hb0.size _⟩
    · rw [if_neg e12]
      have q2:(k == 12)=false:=by simpa using e12
      by_cases e13:k=13
      · subst e13
        go_enter Try.func62,Try.ntmps62
        go_wp2
        go_returns
        exact ⟨⟨none,0,rfl,fun j y hj=>by simp at hj⟩,hb0⟩
      · rw [if_neg e13]
        have q3:(k == 13)=false:=by simpa using e13
        clear e11 e12 e13
        go_enter Try.func62,Try.ntmps62
        go_wp2
        go_returns
        exact ⟨⟨_,1,rfl,h1 _⟩,hb0.alloc hb0.size _⟩
end Go.Proofs.Ythbcdckonaljiaa
namespace Go.Proofs.Ythbcdckonaljiaa
open Go.RowKit Go.BigFrame
structure FEq where
  t:Nat
  o:Nat
  x:Value
  y:Value
  r:Bool
theorem run_eqFields {P:Program}(d:Nat)(xs ys:Array Value)(w:World):∀ (rs:List FEq) (fs:List Field),fs.map (fun f=>(f.name != "_", f.type,f.offset))=rs.map (fun r=>(true,r.t,r.o)) →
    (∀ r ∈ rs,(part r.t xs r.o).run P w = .ok r.x w∧(part r.t ys r.o).run P w = .ok r.y w∧(Op.equalIn d r.t r.x r.y).run P w = .ok r.r w)→(Op.eqFields d xs ys fs).run P w = .ok (rs.all (·.r)) w
  | [],[],_,_=>by simp [Op.eqFields]
  | [],_::_,h,_=>by simp at h
  | _::_,[],h,_=>by simp at h
  | r::rs,f::fs,h,hr=>by
    simp only [List.map_cons,List.cons.injEq,Prod.mk.injEq,bne_iff_ne] at h
    obtain ⟨⟨n1,h2,h3⟩,h4⟩:=h
    obtain ⟨e1,e2,e3⟩:=hr r (by simp)
    have ih:=run_eqFields (P:=P) d xs ys w rs fs h4 (fun s hs=>hr s (by simp [hs]))
    cases hb:r.r
    · rw [hb] at e3; simp [Op.eqFields,n1,h2,h3,e1,e2,e3,hb]
    · rw [hb] at e3; simp [Op.eqFields,n1,h2,h3,e1,e2,e3,hb,ih]
theorem run_forIn_all {P:Program}(w:World)(f:Nat→Sem Bool)(b:Nat→Bool):∀ (l:List Nat),(∀ i ∈ l,(f i).run P w = .ok (b i) w) →
    (Sem.run P (forIn l ((none,()):Option Bool × Unit) fun i __s=>do
      let r ← f i
      if (!r)=true then pure (ForInStep.done (some false,())) else pure (ForInStep.yield (none,()))) w) = .ok (if l.all b then (none,()) else (some false,())) w
  | [],_=>by simp
  | i::l,h=>by
    have h1:=h i (by simp)
    have ih:=run_forIn_all w f b l (fun j hj=>h j (by simp [hj]))
    simp only [List.forIn_cons,Sem.run_bind,h1,Result.andThen_ok]
    cases hb:b i
    · simp [hb]
    · simpa [hb] using ih
theorem run_equal_arr {P:Program}(w:World)(d:Nat)(t elem:TypeId)(len n:Nat)(xs ys:Array Value)(ht:P.underlying t=some (.array len elem))
    (hn:(sizeOf elem).run P w = .ok n w) (b:Nat→Bool) (h:∀ i,i < len→((do Op.equalIn d elem (← part elem xs (i * n)) (← part elem ys (i * n)):Sem Bool)).run P w = .ok (b i) w) :
    (Op.equalIn (d + 1) t (.agg xs) (.agg ys)).run P w = .ok ((List.range len).all b) w:=by
  simp only [Op.equalIn,Sem.run_bind,run_underlying ht,Result.andThen_ok,hn]
  rw [Std.Legacy.Range.forIn_eq_forIn_range']
  have:=run_forIn_all (P:=P) w (fun i=>(do Op.equalIn d elem (← part elem xs (i * n)) (← part elem ys (i * n)):Sem Bool)) b (List.range len) (fun i hi=>h i (List.mem_range.1 hi))
  simp only [bind_assoc] at this
  simp only [Std.Legacy.Range.size,Nat.sub_zero,Nat.add_sub_cancel,Nat.div_one]
  rw [← List.range_eq_range',this]
  cases (List.range len).all b <;> simp
abbrev arr6 (i:Ins):Value:=.agg #[.int .i64 i.r0,.int .i64 i.r1,.int .i64 i.r2,.int .i64 i.r3,.int .i64 i.r4,.int .i64 i.r5]
def arg6 (i:Ins)(k:Nat):Int:=match k with | 0=>i.r0 | 1=>i.r1 | 2=>i.r2 | 3=>i.r3 | 4=>i.r4 | _=>i.r5
theorem part_arr6 (i:Ins)(k:Nat)(h:k < 6)(w:World):(part 3 #[.int .i64 i.r0,.int .i64 i.r1,.int .i64 i.r2,.int .i64 i.r3,.int .i64 i.r4,.int .i64 i.r5] (k * 1)).run Try.prog w = .ok (.int .i64 (arg6 i k)) w :=
  match k,h with
  | 0,_=>by kernel_rfl
  | 1,_=>by kernel_rfl
  | 2,_=>by kernel_rfl
  | 3,_=>by kernel_rfl
  | 4,_=>by kernel_rfl
  | 5,_=>by kernel_rfl
def arrEq (x y:Ins):Bool:=(List.range 6).all fun k=>arg6 x k == arg6 y k
theorem equalIn_arr6 (x y:Ins)(d:Nat)(w:World):(Op.equalIn (d + 2) 29 (arr6 x) (arr6 y)).run Try.prog w = .ok (arrEq x y) w:=by
  refine run_equal_arr w (d + 1) 29 3 6 1 _ _ (by kernel_rfl) (by kernel_rfl) _ (fun i hi=>?_)
  simp only [Sem.run_bind,part_arr6 x i hi,part_arr6 y i hi,Result.andThen_ok]
  exact run_equalIn_int w d 3 .i64 .i64 (arg6 x i) (arg6 y i) (by kernel_rfl)
theorem fields_ins:(Try.prog.fieldsOf 31).toList.map (fun f=>(f.name != "_", f.type,f.offset))=[(true,3,0),(true,28,1),(true,3,2),(true,3,3),(true,3,4),(true,3,5),(true,9,6),(true,29,7),(true,3,13),(true,3,14)]:=by kernel_rfl
def insEq (x y:Ins):Bool:=[x.kind == y.kind,x.op == y.op,x.dst == y.dst,x.a == y.a,x.b == y.b,x.n == y.n,x.text.toList == y.text.toList,arrEq x y,x.to_ == y.to_,x.els == y.els].all id
theorem insEq_dec (x y:Ins):insEq x y=decide (x=y):=by
  unfold insEq arrEq
  rw [bytes_beq]
  cases x; cases y
  simp only [Ins.mk.injEq,List.all_cons,List.all_nil,id,show List.range 6=[0,1,2,3,4,5] from rfl,arg6]
  rw [Bool.eq_iff_iff]
  simp only [Bool.and_eq_true,beq_iff_eq,decide_eq_true_eq,and_true]
  constructor
  · rintro ⟨h1,h2,h3,h4,h5,h6,h7,⟨h8,h9,h10,h11,h12,h13⟩,h14,h15⟩
    exact ⟨h1,h2,h3,h4,h5,h6,h7,h8,h9,h10,h11,h12,h13,h14,h15⟩
  · rintro ⟨h1,h2,h3,h4,h5,h6,h7,h8,h9,h10,h11,h12,h13,h14,h15⟩
    exact ⟨h1,h2,h3,h4,h5,h6,h7,⟨h8,h9,h10,h11,h12,h13⟩,h14,h15⟩
theorem equalIn_ins (x y:Ins)(w:World):(Op.equalIn 10000 31 x.agg y.agg).run Try.prog w = .ok (insEq x y) w:=by
  rw [run_equalIn_struct w 9999 31 _ _ (by kernel_rfl) (by kernel_rfl)]
  have h:=run_eqFields (P:=Try.prog) 9999 #[.int .i64 x.kind,.int .i64 x.op,.int .i64 x.dst,.int .i64 x.a,.int .i64 x.b,.int .i64 x.n,.string x.text,.int .i64 x.r0,.int .i64 x.r1,.int .i64 x.r2,.int .i64 x.r3,.int .i64 x.r4,.int .i64 x.r5,.int .i64 x.to_,.int .i64 x.els]
    #[.int .i64 y.kind,.int .i64 y.op,.int .i64 y.dst,.int .i64 y.a,.int .i64 y.b,.int .i64 y.n,.string y.text,.int .i64 y.r0,.int .i64 y.r1,.int .i64 y.r2,.int .i64 y.r3,.int .i64 y.r4,.int .i64 y.r5,.int .i64 y.to_,.int .i64 y.els] w
    [⟨3,0,.int .i64 x.kind,.int .i64 y.kind,x.kind == y.kind⟩,⟨28,1,.int .i64 x.op,.int .i64 y.op,x.op == y.op⟩,⟨3,2,.int .i64 x.dst,.int .i64 y.dst,x.dst == y.dst⟩,⟨3,3,.int .i64 x.a,.int .i64 y.a,x.a == y.a⟩,⟨3,4,.int .i64 x.b,.int .i64 y.b,x.b == y.b⟩,
     ⟨3,5,.int .i64 x.n,.int .i64 y.n,x.n == y.n⟩,⟨9,6,.string x.text,.string y.text,x.text.toList == y.text.toList⟩,⟨29,7,arr6 x,arr6 y,arrEq x y⟩,⟨3,13,.int .i64 x.to_,.int .i64 y.to_,x.to_ == y.to_⟩,⟨3,14,.int .i64 x.els,.int .i64 y.els,x.els == y.els⟩]
    _ fields_ins (fun r hr=>by
      simp only [List.mem_cons,List.not_mem_nil,or_false] at hr
      rcases hr with rfl | rfl | rfl | rfl | rfl | rfl | rfl | rfl | rfl | rfl
      · exact ⟨by kernel_rfl,by kernel_rfl,run_equalIn_int w 9998 3 .i64 .i64 _ _ (by kernel_rfl)⟩
      · exact ⟨by kernel_rfl,by kernel_rfl,run_equalIn_int w 9998 28 .i64 .i64 _ _ (by kernel_rfl)⟩
      · exact ⟨by kernel_rfl,by kernel_rfl,run_equalIn_int w 9998 3 .i64 .i64 _ _ (by kernel_rfl)⟩
      · exact ⟨by kernel_rfl,by kernel_rfl,run_equalIn_int w 9998 3 .i64 .i64 _ _ (by kernel_rfl)⟩
      · exact ⟨by kernel_rfl,by kernel_rfl,run_equalIn_int w 9998 3 .i64 .i64 _ _ (by kernel_rfl)⟩
      · exact ⟨by kernel_rfl,by kernel_rfl,run_equalIn_int w 9998 3 .i64 .i64 _ _ (by kernel_rfl)⟩
      · exact ⟨by kernel_rfl,by kernel_rfl,run_equalIn_string w 9998 9 _ _ (by kernel_rfl)⟩
      · exact ⟨by kernel_rfl,by kernel_rfl,equalIn_arr6 x y 9997 w⟩
      · exact ⟨by kernel_rfl,by kernel_rfl,run_equalIn_int w 9998 3 .i64 .i64 _ _ (by kernel_rfl)⟩
      · exact ⟨by kernel_rfl,by kernel_rfl,run_equalIn_int w 9998 3 .i64 .i64 _ _ (by kernel_rfl)⟩)
  rw [h]
  simp [insEq]
theorem eql_ins (x y:Ins)(w:World):(binOp .eql 31 x.agg y.agg).run Try.prog w = .ok (.bool (decide (x=y))) w:=by
  have h:=equalIn_ins x y w
  rw [insEq_dec] at h
  simp only [binOp,Op.equal,Op.maxDepth,Sem.run_bind,h,Result.andThen_ok,Sem.run_pure]
theorem neq_ins (x y:Ins)(w:World):(binOp .neq 31 x.agg y.agg).run Try.prog w = .ok (.bool (!decide (x=y))) w:=by
  have h:=equalIn_ins x y w
  rw [insEq_dec] at h
  simp only [binOp,Op.equal,Op.maxDepth,Sem.run_bind,h,Result.andThen_ok,Sem.run_pure]
end Go.Proofs.Ythbcdckonaljiaa
namespace Go.Proofs.Ythbcdckonaljiaa
open Go.RowKit Go.BigFrame
def loopsOf:Code→List Code
  | .loop c=>[.loop c]
  | .seq a b=>loopsOf a++loopsOf b
  | .block _ c=>loopsOf c
  | .scope c=>loopsOf c
  | .cond _ a b=>loopsOf a++loopsOf b
  | _=>[]
def inLoop:Code→Code
  | .loop c=>c
  | c=>c
end Go.Proofs.Ythbcdckonaljiaa

