import Derived.Deep.CutRange
import Derived.StillTailTactics
import Derived.RegionTactic
import Derived.BigRegion
import Derived.ChangeAlike
import Derived.Test.YtkcclefonmnpnaaZg2
namespace Go.Proofs.Ytkcclefonmnpnaa
open Go.RowKit Go.BigFrame
def part (old u:List Vl)(r:Nat):List Vl:=(jrow old u).take r++old.drop r
structure But (q:Nat)(W W':World):Prop where
  below:Below q W W'
  same:∀ b,b < W.heap.size→b≠q→W'.heap[b]? = W.heap[b]?
theorem But.refl (q:Nat)(W:World):But q W W:=⟨Below.refl _ _,fun _ _ _=>rfl⟩
theorem But.later {q:Nat}{W W1 W2:World}(h:But q W W1)(hq:q≤W1.heap.size)(hb:Below W1.heap.size W1 W2):But q W W2 :=
  ⟨h.below.trans (hb.mono hq),fun b h1 h2=>(hb.block b (Nat.lt_of_lt_of_le h1 h.below.size)).trans (h.same b h1 h2)⟩
theorem But.set {q:Nat}{W W1:World}(h:But q W W1)(j:Nat)(v:Value):But q W (W1.setCell ⟨q,j,none⟩ v) :=
  ⟨h.below.setCell (p:=⟨q,j,none⟩) (Nat.le_refl _) _,fun b h1 h2=>(heap_setCell_other _ _ _ _ h2).trans (h.same b h1 h2)⟩
theorem But.cell {q:Nat}{W W1:World}(h:But q W W1){a:Addr}{v:Value}(hv:W.cell? a=some v)(hne:a.block≠q):W1.cell? a=some v :=
  (World.cell?_of_block (h.same _ (World.block_lt_of_cell? W a hv) hne)).trans hv
end Go.Proofs.Ytkcclefonmnpnaa
namespace Go.Proofs.Ytkcclefonmnpnaa
open Go.RowKit Go.BigFrame
theorem RdN.keep {W W':World}{A:Option Addr}{l:List Int}(h:RdN W A l)(hs:∀ b o,A=some ⟨b,o,none⟩→b < W.heap.size→W'.heap[b]? = W.heap[b]?):RdN W' A l:=fun j n hj=>by
  obtain ⟨b,o,e1,e2,e3⟩:=h j n hj
  have hb:=hs b o e1 e2
  exact ⟨b,o,e1,by
    have:W'.heap[b]?.isSome=true:=by rw [hb]; simp [e2]
    by_cases hlt:b < W'.heap.size
    · exact hlt
    · simp [hlt] at this,(World.cell?_of_block hb).trans e3⟩
theorem Que.apart {W:World}{base nb:Nat}{V:Value}{T:List Nat}{v:List Vl}(h:Que W base V T)(hp:PreV W nb v):V.ownBlock≠some nb:=by
  obtain ⟨b,o,cap,cs,rfl,e2,e3,e4,e5,e6,e7⟩:=h
  intro e
  simp only [Value.ownBlock,Option.some.injEq] at e
  subst e
  obtain ⟨cs',h3,_⟩:=hp
  rw [e5] at h3
  injection h3 with h3
  injection h3 with _ h4
  exact absurd h4 (by decide)
end Go.Proofs.Ytkcclefonmnpnaa
namespace Go.Proofs.Ytkcclefonmnpnaa
open Go.RowKit Go.BigFrame
theorem Que.lt {W:World}{base:Nat}{V:Value}{T:List Nat}(h:Que W base V T){b:Nat}(hb:V.ownBlock=some b):b < W.heap.size:=by
  obtain ⟨b',o,cap,cs,rfl,e2,e3,e4,e5,e6,e7⟩:=h
  simp only [Value.ownBlock,Option.some.injEq] at hb
  subst hb
  exact (Array.getElem?_eq_some_iff.1 e5).1
end Go.Proofs.Ytkcclefonmnpnaa
namespace Go.Proofs.Ytkcclefonmnpnaa
open Go.RowKit Go.BigFrame
theorem copy_ran {P:Program}{ops:Array Oper}{rest:List Oper}{o:Oper}{a:Act}{w w':World}{Q:Exit→Act→World→Prop}{t u:TypeId}{vs vx V:Value}(hgd:o.guard=none)(s x:Operand)
    (ho:o.op = .call { callee:=.builtin .copy,args:=#[s,x],argTypes:=#[t,u] }) (hs:a.eval s=vs) (hx:a.eval x=vx) (hr:(Builtin.copy_ #[t,u] o.type #[vs,vx]).run P w = .ok V w')
    (h:wpList P ops Q rest (a.put o.dst V) w'):wpList P ops Q (o::rest) a w:=by
  refine wpList_plain hgd fun K' hK'=>?_
  unfold Oper.wp execOp
  simp only [ho,resolve,invoke,builtin,Sem.run_bind,Sem.run_pure,Result.andThen_ok,List.map_toArray,List.map_cons,List.map_nil,hs,hx,hr]
  exact hK' _ _ h
end Go.Proofs.Ytkcclefonmnpnaa
namespace Go.Proofs.Ytkcclefonmnpnaa
open Go.RowKit Go.BigFrame
theorem PreI.setRow {W:World}{b:Nat}{l:List Ins}{cs:Array Value}(h1:W.heap[b]? = some (.cells cs 32 (0,0)))(h2:∀ j x,l[j]? = some x→∀ k,k < 15→cs[j * 15 + k]? = (Ins.l x)[k]?){p:Nat}(hp:p < l.length)(y:Ins) :
    p * 15 + 15≤cs.size∧PreI (W.setRow b (cs.toList.take (p * 15)++Ins.l y++cs.toList.drop (p * 15 + 15)).toArray) b (l.set p y):=by
  have hx:=List.getElem?_eq_getElem hp
  have h14:=h2 p _ hx 14 (by omega)
  have hsz:p * 15 + 15≤cs.size:=by
    have:(Ins.l l[p])[14]? = some (.int .i64 (l[p]).els):=rfl
    rw [this] at h14
    have:=(Array.getElem?_eq_some_iff.1 h14).1
    omega
  refine ⟨hsz,⟨_,setRow_heap W b cs _ _ _ h1,fun j x hj k hk=>?_⟩⟩
  have hlt:(cs.toList.take (p * 15)).length=p * 15:=by simp; omega
  rw [List.getElem?_toArray]
  by_cases hjp:p=j
  · subst hjp
    rw [List.getElem?_set_self hp] at hj
    injection hj with hj
    subst hj
    rw [List.append_assoc,List.getElem?_append_right (by rw [hlt]; omega),hlt,List.getElem?_append_left (by rw [ins_len]; omega)]
    congr 1
    omega
  · rw [List.getElem?_set_ne hjp] at hj
    have h3:=h2 j x hj k hk
    by_cases hlt2:j < p
    · have:(j + 1) * 15≤p * 15:=Nat.mul_le_mul_right 15 hlt2
      rw [List.append_assoc,List.getElem?_append_left (by rw [hlt]; omega),List.getElem?_take,if_pos (by omega),← h3]
      simp
    · have:(p + 1) * 15≤j * 15:=Nat.mul_le_mul_right 15 (by omega)
      rw [List.getElem?_append_right (by rw [List.length_append,hlt,ins_len]; omega),List.length_append,hlt,ins_len,List.getElem?_drop,← h3]
      simp only [Array.getElem?_toList]
      congr 1
      omega
end Go.Proofs.Ytkcclefonmnpnaa
namespace Go.Proofs.Ytkcclefonmnpnaa
open Go.RowKit Go.BigFrame
theorem PreI.cells {W:World}{b:Nat}{l:List Ins}(h:PreI W b l){p:Nat}{i:Ins}(hp:l[p]? = some i):W.cell? ⟨b,p * 15,none⟩=some (.int .i64 i.kind)∧W.cell? ⟨b,p * 15 + 1,none⟩=some (.int .i64 i.op)∧W.cell? ⟨b,p * 15 + 2,none⟩=some (.int .i64 i.dst)∧W.cell? ⟨b,p * 15 + 3,none⟩=some (.int .i64 i.a)∧W.cell? ⟨b,p * 15 + 4,none⟩=some (.int .i64 i.b)∧W.cell? ⟨b,p * 15 + 5,none⟩=some (.int .i64 i.n)∧W.cell? ⟨b,p * 15 + 6,none⟩=some (.string i.text)∧W.cell? ⟨b,p * 15 + 7,none⟩=some (.int .i64 i.r0)∧W.cell? ⟨b,p * 15 + 8,none⟩=some (.int .i64 i.r1)∧W.cell? ⟨b,p * 15 + 9,none⟩=some (.int .i64 i.r2)∧W.cell? ⟨b,p * 15 + 10,none⟩=some (.int .i64 i.r3)∧W.cell? ⟨b,p * 15 + 11,none⟩=some (.int .i64 i.r4)∧W.cell? ⟨b,p * 15 + 12,none⟩=some (.int .i64 i.r5)∧W.cell? ⟨b,p * 15 + 13,none⟩=some (.int .i64 i.to_)∧W.cell? ⟨b,p * 15 + 14,none⟩=some (.int .i64 i.els) :=
  ⟨Pre.cell h hp (k:=0) (by omega) rfl,Pre.cell h hp (k:=1) (by omega) rfl,Pre.cell h hp (k:=2) (by omega) rfl,Pre.cell h hp (k:=3) (by omega) rfl,Pre.cell h hp (k:=4) (by omega) rfl,Pre.cell h hp (k:=5) (by omega) rfl,Pre.cell h hp (k:=6) (by omega) rfl,Pre.cell h hp (k:=7) (by omega) rfl,Pre.cell h hp (k:=8) (by omega) rfl,Pre.cell h hp (k:=9) (by omega) rfl,Pre.cell h hp (k:=10) (by omega) rfl,Pre.cell h hp (k:=11) (by omega) rfl,Pre.cell h hp (k:=12) (by omega) rfl,Pre.cell h hp (k:=13) (by omega) rfl,Pre.cell h hp (k:=14) (by omega) rfl⟩
end Go.Proofs.Ytkcclefonmnpnaa
/- flow.Fold: rounds of its loop. -/
