import Derived.Test.YtkcclefonmnpnaaVZkb
import Derived.Test.YtkcclefonmnpnaaVZh
set_option maxRecDepth 1000000
set_option maxHeartbeats 16000000
namespace Go.Proofs.Ytkcclefonmnpnaa
open Go.MapKept Go.RowKit
structure nP (P:Program)(k:TypeId){κ:Type}(kv:κ→Value):Prop where
 inj:∀ x y,kv x=kv y→x=y
 check:∀ (w:World) (em:Bool) (x:κ),(Instr.checkKey em 10000 k (kv x)).run P w = .ok () w
 find:∀ (w:World) (x:κ) (es:List MapEntry),(∀ e ∈ es,∃ y,e.key=kv y) →
  ((Instr.findKey k (kv x) es).run P w = .ok none w∧∀ e ∈ es,e.key≠kv x)∨∃ j e,(Instr.findKey k (kv x) es).run P w = .ok (some (j,e.val)) w∧es[j]? = some e∧e.key=kv x
 stays:∀ (w:World) (x:κ),(Instr.keyThatStays (kv x) (kv x)).run P w = .ok (kv x) w
section
variable {P:Program} {k:TypeId} {κ:Type} {kv:κ→Value}
structure EntK (kv:κ→Value)(es:Array MapEntry)(clock:Nat)(g:κ→Option Value):Prop where
 form:∀ (i:Nat) e,es[i]? = some e→∃ x,e.key=kv x∧g x=some e.val∧e.born<clock
 dist:∀ (i j:Nat) ei ej,es[i]? = some ei→es[j]? = some ej→ei.key=ej.key→i=j
 born:∀ (i j:Nat) ei ej,es[i]? = some ei→es[j]? = some ej→ei.born=ej.born→i=j
 has:∀ x v,g x=some v→∃ (i:Nat) (e:MapEntry),es[i]? = some e∧e.key=kv x
def MapK (kv:κ→Value)(w:World)(b:Nat)(g:κ→Option Value):Prop:=∃ es clock,w.heap[b]? = some (.map es clock)∧EntK kv es clock g
theorem MapK.made (w:World):MapK kv (w.alloc (.map #[] 0)) w.heap.size (fun _=>none) :=
 ⟨#[],0,(MapKept.heap_alloc w _).1,by simp,by simp,by simp,by simp⟩
theorem MapK.lt {w:World}{b:Nat}{g}(h:MapK kv w b g):b<w.heap.size:=by
 obtain⟨es,clock,hb,_⟩:=h
 exact (Az hb).1
theorem MapK.of_block {w w':World}{b:Nat}{g}(h:MapK kv w b g)(hb:w'.heap[b]? = w.heap[b]?):MapK kv w' b g:=by
 obtain⟨es,clock,h1,h2⟩:=h
 exact⟨es,clock,hb.trans h1,h2⟩
theorem MapK.below {w w':World}{b B:Nat}{g}(h:MapK kv w b g)(hb:Below B w w')(hB:b<B):MapK kv w' b g:=h.of_block (hb.block b hB)
theorem MapK.kept {w w':World}{b:Nat}{g}{aY:Option Nat}(h:MapK kv w b g)(hg:w.grownBy w' aY)(hne:some b≠aY):MapK kv w' b g:=h.of_block (hg.block b h.lt hne)
theorem EntK.find (K:nP P k kv){es:Array MapEntry}{clock:Nat}{g}(h:EntK kv es clock g)(w:World)(x:κ) :
  ((Instr.findKey k (kv x) es.toList).run P w = .ok none w∧g x=none∧∀ (i:Nat) e,es[i]? = some e→e.key≠kv x) ∨
  ∃ (j:Nat) (e:MapEntry),(Instr.findKey k (kv x) es.toList).run P w = .ok (some (j,e.val)) w∧es[j]? = some e∧e.key=kv x∧g x=some e.val:=by
 rcases K.find w x es.toList (fun e he=>by
  obtain⟨i,hi⟩:=List.mem_iff_getElem?.1 he
  obtain⟨y,h1,_⟩:=h.form i e (by simpa using hi)
  exact⟨y,h1⟩) with ⟨h1,h2⟩ | ⟨j,e,h1,h2,h3⟩
 ·have hno:∀ (i:Nat) e,es[i]? = some e→e.key≠kv x:=fun i e hi=>h2 e (List.mem_iff_getElem?.2 ⟨i,by simpa using hi⟩)
  refine Or.inl ⟨h1,?_,hno⟩
  cases hg:g x with
  | none=>rfl
  | some v =>
   obtain⟨i,e,hi,hk⟩:=h.has x v hg
   exact absurd hk (hno i e hi)
 ·have h2':es[j]? = some e:=by simpa using h2
  refine Or.inr ⟨j,e,h1,h2',h3,?_⟩
  obtain⟨y,h4,h5,_⟩:=h.form j e h2'
  rw[K.inj x y (by rw[←h3,h4])]
  exact h5
theorem MapK.lookup (K:nP P k kv){w:World}{b:Nat}{g}(h:MapK kv w b g){t e:TypeId}(ht:P.underlying t=some (.map k e)){z:Value}(hz:(zeroValue e).run P w = .ok z w)(x:κ)(c:Bool) :
  (Instr.lookup t (.map (some b)) (kv x) c).run P w = .ok (if c then .tuple #[(g x).getD z,.bool (g x).isSome] else (g x).getD z) w:=by
 obtain⟨es,clock,hb,hE⟩:=h
 have hck:=K.check w es.isEmpty x
 rcases hE.find K w x with ⟨ha,hg,_⟩|⟨j,e0,ha,_,_,hg⟩
 ·simp[Instr.lookup,run_underlying ht,MapKept.run_getObj_map hb,hck,ha,hz,Result.andThen,hg]
 ·simp[Instr.lookup,run_underlying ht,MapKept.run_getObj_map hb,hck,ha,Result.andThen,hg]
def eI [DecidableEq κ](g:κ→Option Value)(x:κ)(v:Option Value):κ→Option Value:=fun y=>if y=x then v else g y
theorem EntK.push [DecidableEq κ]{es:Array MapEntry}{clock:Nat}{g}(h:EntK kv es clock g)(x:κ)(v:Value)(hno:∀ (i:Nat) e,es[i]? = some e→e.key≠kv x) :
  EntK kv (es.push { key:=kv x,val:=v,born:=clock }) (clock+1) (eI g x (some v)):=by
 refine⟨fun i e hi=>?_,fun i j ei ej hi hj he=>?_,fun i j ei ej hi hj he=>?_,fun y u hy=>?_⟩
 ·rw[Array.getElem?_push] at hi
  split at hi
  ·injection hi with hi;subst hi
   exact⟨x,rfl,by simp[eI],by simp⟩
  ·obtain⟨y,h1,h2,h3⟩:=h.form i e hi
   refine⟨y,h1,?_,by omega⟩
   have:y≠x:=fun e'=>hno i e hi (by rw[h1,e'])
   simp[eI,this,h2]
 ·rw[Array.getElem?_push] at hi hj
  split at hi <;> split at hj
  ·omega
  ·injection hi with hi;subst hi;exact absurd he.symm (hno j ej hj)
  ·injection hj with hj;subst hj;exact absurd he (hno i ei hi)
  ·exact h.dist i j ei ej hi hj he
 ·rw[Array.getElem?_push] at hi hj
  split at hi <;> split at hj
  ·omega
  ·injection hi with hi;subst hi
   obtain⟨_,_,_,h3⟩:=h.form j ej hj
   simp at he;omega
  ·injection hj with hj;subst hj
   obtain⟨_,_,_,h3⟩:=h.form i ei hi
   simp at he;omega
  ·exact h.born i j ei ej hi hj he
 ·unfold eI at hy
  split at hy
  ·rename_i e;subst e
   exact⟨es.size,_,by rw[Array.getElem?_push,if_pos rfl],rfl⟩
  ·obtain⟨i,e,h1,h2⟩:=h.has y u hy
   have:=(Az h1).1
   exact⟨i,e,by rw[Array.getElem?_push,if_neg (by omega)];exact h1,h2⟩
theorem EntK.modify [DecidableEq κ](K:nP P k kv){es:Array MapEntry}{clock:Nat}{g}(h:EntK kv es clock g)(x:κ)(v:Value)(j:Nat)(e0:MapEntry)(hj:es[j]? = some e0)(hk:e0.key=kv x) :
  EntK kv (es.modify j fun e=>{ e with key:=kv x,val:=v }) clock (eI g x (some v)):=by
 have hget:∀ (i:Nat) (e:MapEntry),(es.modify j fun e=>{ e with key:=kv x,val:=v })[i]? = some e→∃ e':MapEntry,es[i]? = some e'∧e.born=e'.born∧e.key=e'.key∧(i=j→e.val=v)∧(i≠j→e=e'):=fun i e hi=>by
  rw[Array.getElem?_modify] at hi
  split at hi
  ·rename_i e1;subst e1
   rw[hj] at hi
   injection hi with hi
   subst hi
   exact⟨e0,hj,rfl,hk.symm,fun _=>rfl,fun h=>absurd rfl h⟩
  ·rename_i hne
   exact⟨e,hi,rfl,rfl,fun h=>absurd h.symm hne,fun _=>rfl⟩
 refine⟨fun i e hi=>?_,fun i i' ei ej hi hj' he=>?_,fun i i' ei ej hi hj' he=>?_,fun y u hy=>?_⟩
 ·obtain⟨e',h1,h2,h3,h4,h5⟩:=hget i e hi
  obtain⟨y,a1,a2,a3⟩:=h.form i e' h1
  refine⟨y,by rw[h3,a1],?_,by rw[h2];exact a3⟩
  by_cases hij:i=j
  ·have:y=x:=K.inj y x (by rw[←a1,←hk];subst hij;rw[hj] at h1;injection h1 with h1;rw[h1])
   rw[h4 hij,this];simp[eI]
  ·have:y≠x:=fun e1=>hij (h.dist i j e' e0 h1 hj (by rw[a1,hk,e1]))
   rw[h5 hij];simp[eI,this,a2]
 ·obtain⟨e1,b1,_,b3,_⟩:=hget i ei hi
  obtain⟨e2,c1,_,c3,_⟩:=hget i' ej hj'
  exact h.dist i i' e1 e2 b1 c1 (by rw[←b3,←c3];exact he)
 ·obtain⟨e1,b1,b2,_⟩:=hget i ei hi
  obtain⟨e2,c1,c2,_⟩:=hget i' ej hj'
  exact h.born i i' e1 e2 b1 c1 (by rw[←b2,←c2];exact he)
 ·have key:∀ (i:Nat) (e:MapEntry),es[i]? = some e→∃ e':MapEntry,(es.modify j fun e=>{ e with key:=kv x,val:=v })[i]? = some e'∧e'.key=e.key:=fun i e hi=>by
   rw[Array.getElem?_modify]
   split
   ·rename_i e1;subst e1
    rw[hj] at hi ⊢
    injection hi with hi
    subst hi
    exact⟨_,rfl,hk.symm⟩
   ·exact⟨e,hi,rfl⟩
  unfold eI at hy
  split at hy
  ·rename_i e;subst e
   obtain⟨e',h1,h2⟩:=key j e0 hj
   exact⟨j,e',h1,by rw[h2,hk]⟩
  ·obtain⟨i,e,h1,h2⟩:=h.has y u hy
   obtain⟨e',h3,h4⟩:=key i e h1
   exact⟨i,e',h3,by rw[h4,h2]⟩
theorem cR {w:World}{b:Nat}(hb:b<w.heap.size)(o:Obj):w.grownBy { w with heap:=w.heap.setIfInBounds b o } (some b)∧({ w with heap:=w.heap.setIfInBounds b o }:World).heap[b]? = some o :=
 ⟨⟨rfl,rfl,rfl,by simp,fun i _ hi=>by
  have:b≠i:=fun e=>hi (by rw[e])
  simp[this]⟩,by simp[hb]⟩
theorem MapK.update [DecidableEq κ](K:nP P k kv){w:World}{b:Nat}{g}(h:MapK kv w b g){t e:TypeId}(ht:P.underlying t=some (.map k e))(x:κ)(v:Value) :
  ∃ w',(Instr.mapUpdate t (.map (some b)) (kv x) v).run P w = .ok () w'∧MapK kv w' b (eI g x (some v))∧w.grownBy w' (some b)∧w'.heap.size=w.heap.size:=by
 obtain⟨es,clock,hb,hE⟩:=h
 have hck:=K.check w false x
 have hlt:b<w.heap.size:=(Az hb).1
 rcases hE.find K w x with ⟨ha,hg,hno⟩|⟨j,e0,ha,hj,hkey,hg⟩
 ·refine⟨{ w with heap:=w.heap.setIfInBounds b (.map (es.push { key:=kv x,val:=v,born:=clock }) (clock+1)) },?_,⟨_,_,(cR hlt _).2,hE.push x v hno⟩,(cR hlt _).1,by simp⟩
  simp[Instr.mapUpdate,run_underlying ht,MapKept.run_getObj_map hb,hck,ha,Result.andThen,MapKept.run_setObj_map _ hb]
 ·refine⟨{ w with heap:=w.heap.setIfInBounds b (.map (es.modify j fun e=>{ e with key:=kv x,val:=v }) clock) },?_,⟨_,_,(cR hlt _).2,hE.modify K x v j e0 hj hkey⟩,(cR hlt _).1,by simp⟩
  have hst:=K.stays w x
  have hkk:(Option.map MapEntry.key es[j]?).getD (kv x)=kv x:=by rw[hj];exact hkey
  simp[Instr.mapUpdate,run_underlying ht,MapKept.run_getObj_map hb,hck,ha,Result.andThen,MapKept.run_setObj_map _ hb,hkk,hst]
theorem EntK.erase [DecidableEq κ](K:nP P k kv){es:Array MapEntry}{clock:Nat}{g}(h:EntK kv es clock g)(x:κ)(j:Nat)(e0:MapEntry)(hj:es[j]? = some e0)(hk:e0.key=kv x) :
  EntK kv (es.eraseIdxIfInBounds j) clock (eI g x none):=by
 have hlt:=(Az hj).1
 have hget:∀ i:Nat,(es.eraseIdxIfInBounds j)[i]? = if i<j then es[i]? else es[i+1]?:=fun i=>by
  rw[Array.eraseIdxIfInBounds_eq,dif_pos hlt,Array.getElem?_eraseIdx]
 have back:∀ (i:Nat) e,(es.eraseIdxIfInBounds j)[i]? = some e→∃ i',es[i']? = some e∧i'≠j∧(i'=if i<j then i else i+1):=fun i e hi=>by
  rw[hget] at hi
  split at hi
  ·rename_i hij;exact⟨i,hi,by omega,by rw[if_pos hij]⟩
  ·rename_i hij;exact⟨i+1,hi,by omega,by rw[if_neg hij]⟩
 have there:∀ (i:Nat) e,es[i]? = some e→i≠j→∃ i',(es.eraseIdxIfInBounds j)[i']? = some e:=fun i e hi hne=>by
  by_cases hij:i<j
  ·exact⟨i,by rw[hget,if_pos hij];exact hi⟩
  ·exact⟨i-1,by rw[hget,if_neg (by omega),show i-1+1=i by omega];exact hi⟩
 refine⟨fun i e hi=>?_,fun i i' ei ej hi hj' he=>?_,fun i i' ei ej hi hj' he=>?_,fun y u hy=>?_⟩
 ·obtain⟨i',h1,h2,_⟩:=back i e hi
  obtain⟨y,a1,a2,a3⟩:=h.form i' e h1
  refine⟨y,a1,?_,a3⟩
  have:y≠x:=fun e1=>h2 (h.dist i' j e e0 h1 hj (by rw[a1,hk,e1]))
  simp[eI,this,a2]
 ·obtain⟨p,b1,_,b3⟩:=back i ei hi
  obtain⟨q,c1,_,c3⟩:=back i' ej hj'
  have:=h.dist p q ei ej b1 c1 he
  subst this
  split at b3 <;> split at c3 <;> omega
 ·obtain⟨p,b1,_,b3⟩:=back i ei hi
  obtain⟨q,c1,_,c3⟩:=back i' ej hj'
  have:=h.born p q ei ej b1 c1 he
  subst this
  split at b3 <;> split at c3 <;> omega
 ·unfold eI at hy
  split at hy
  ·cases hy
  ·rename_i hne
   obtain⟨i,e,h1,h2⟩:=h.has y u hy
   have hij:i≠j:=fun e1=>by
    subst e1
    rw[hj] at h1
    injection h1 with h1
    rw[←h1,hk] at h2
    exact hne (K.inj _ _ h2.symm)
   obtain⟨i',h3⟩:=there i e h1 hij
   exact⟨i',e,h3,h2⟩
theorem qY [DecidableEq κ]{g:κ→Option Value}{x:κ}(h:g x=none):eI g x none=g:=by
 funext y
 unfold eI
 split
 ·rename_i e;rw[e,h]
 ·rfl
theorem MapK.delete [DecidableEq κ](K:nP P k kv){w:World}{b:Nat}{g}(h:MapK kv w b g){t e:TypeId}(ht:P.underlying t=some (.map k e))(ty kt:TypeId)(x:κ) :
  ∃ w',(Builtin.delete_ #[t,kt] ty #[.map (some b),kv x]).run P w = .ok (.tuple #[]) w'∧MapK kv w' b (eI g x none)∧w.grownBy w' (some b)∧w'.heap.size=w.heap.size:=by
 obtain⟨es,clock,hb,hE⟩:=h
 have hck:=K.check w es.isEmpty x
 have hlt:b<w.heap.size:=(Az hb).1
 rcases hE.find K w x with ⟨ha,hg,hno⟩|⟨j,e0,ha,hj,hkey,hg⟩
 ·refine⟨{ w with heap:=w.heap.setIfInBounds b (.map es clock) },?_,⟨_,_,(cR hlt _).2,by rw[qY hg];exact hE⟩,(cR hlt _).1,by simp⟩
  simp[Builtin.delete_,run_underlying ht,MapKept.run_getObj_map hb,hck,ha,Result.andThen,MapKept.run_setObj_map _ hb]
 ·refine⟨{ w with heap:=w.heap.setIfInBounds b (.map (es.eraseIdxIfInBounds j) clock) },?_,⟨_,_,(cR hlt _).2,hE.erase K x j e0 hj hkey⟩,(cR hlt _).1,by simp⟩
  simp[Builtin.delete_,run_underlying ht,MapKept.run_getObj_map hb,hck,ha,Result.andThen,MapKept.run_setObj_map _ hb]
def RgK (kv:κ→Value)(w:World)(r b:Nat)(g:κ→Option Value)(l:List κ):Prop:=∃ (es:Array MapEntry) (clock c0:Nat) (seen:Array Nat),EntK kv es clock g∧w.heap[b]? = some (.map es clock)∧clock≤c0∧w.heap[r]? = some (.mapIter (some b) clock seen c0) ∧
 l.Nodup∧∀ x,x ∈ l↔∃ (i:Nat) (e:MapEntry),es[i]? = some e∧e.key=kv x∧seen.contains e.born=false
theorem RgK.of_blocks {w w':World}{r b:Nat}{g}{l:List κ}(h:RgK kv w r b g l)(h1:w'.heap[b]? = w.heap[b]?)(h2:w'.heap[r]? = w.heap[r]?):RgK kv w' r b g l:=by
 obtain⟨es,clock,c0,seen,a,b,c,d,e⟩:=h
 exact⟨es,clock,c0,seen,a,h1.trans b,c,h2.trans d,e⟩
theorem RgK.lt {w:World}{r b:Nat}{g}{l:List κ}(h:RgK kv w r b g l):b<w.heap.size∧r<w.heap.size:=by
 obtain⟨es,clock,c0,seen,a,b,c,d,e⟩:=h
 exact⟨(Az b).1,(Az d).1⟩
theorem RgK.below {w w':World}{r b:Nat}{g}{l:List κ}(h:RgK kv w r b g l)(hb:Below w.heap.size w w'):RgK kv w' r b g l:=h.of_blocks (hb.block _ h.lt.1) (hb.block _ h.lt.2)
theorem RgK.map {w:World}{r b:Nat}{g}{l:List κ}(h:RgK kv w r b g l):MapK kv w b g:=by
 obtain⟨es,clock,c0,seen,a,b,c,d,e⟩:=h
 exact⟨es,clock,b,a⟩
theorem qZ:∀ (L:List MapEntry),(∀ e ∈ L,∃ x,e.key=kv x)→∃ l:List κ,l.map kv=L.map (·.key)
 | [],_=>⟨[],rfl⟩
 | e::L,h=>by
  obtain⟨x,hx⟩:=h e (by simp)
  obtain⟨l,hl⟩:=qZ L fun e he=>h e (by simp[he])
  exact⟨x::l,by simp[hx,hl]⟩
theorem MapK.range (K:nP P k kv){w:World}{b:Nat}{g}(h:MapK kv w b g){t e:TypeId}(ht:P.underlying t=some (.map k e)) :
  ∃ (l:List κ) (o:Obj),(Instr.range t (.map (some b))).run P w = .ok (.pointer (some ⟨w.heap.size,0,none⟩)) (w.alloc o)∧RgK kv (w.alloc o) w.heap.size b g l∧∀ x,x ∈ l↔(g x).isSome=true:=by
 obtain⟨es,clock,hb,hE⟩:=h
 obtain⟨l,hl⟩:=qZ (kv:=kv) es.toList (fun e he=>by
  obtain⟨i,hi⟩:=List.mem_iff_getElem?.1 he
  obtain⟨x,h1,_⟩:=hE.form i e (by simpa using hi)
  exact⟨x,h1⟩)
 have hlen:l.length=es.size:=by have:=congrArg List.length hl;simpa using this
 have hat:∀ (i:Nat) x,l[i]? = some x↔∃ e,es[i]? = some e∧e.key=kv x:=fun i x=>by
  have h1:=congrArg (fun m:List Value=>m[i]?) hl
  simp only[List.getElem?_map,Array.getElem?_toList] at h1
  constructor
  ·intro hx
   rw[hx] at h1
   cases he:es[i]? with
   | none=>rw[he] at h1;cases h1
   | some e=>rw[he] at h1;exact⟨e,rfl,by simpa using h1.symm⟩
  ·rintro ⟨e,he,hk⟩
   rw[he] at h1
   cases hx:l[i]? with
   | none=>rw[hx] at h1;cases h1
   | some y=>rw[hx] at h1;rw[K.inj y x (by rw[←hk];simpa using h1)]
 have hmem:∀ x,x ∈ l↔∃ (i:Nat) (e:MapEntry),es[i]? = some e∧e.key=kv x:=fun x=>by
  rw[List.mem_iff_getElem?]
  exact⟨fun ⟨i,hi⟩=>by obtain⟨e,h1,h2⟩:=(hat i x).1 hi;exact⟨i,e,h1,h2⟩,fun ⟨i,e,h1,h2⟩=>⟨i,(hat i x).2 ⟨e,h1,h2⟩⟩⟩
 refine⟨l,_,run_range_map w t k e b es clock ht hb,⟨es,clock,clock,#[],hE,by rw[heap_alloc_old w _ (Az hb).1];exact hb,Nat.le_refl _,heap_alloc_new w _,?_,fun x=>by rw[hmem];simp⟩,fun x=>?_⟩
 ·rw[List.nodup_iff_pairwise_ne,List.pairwise_iff_getElem]
  intro i j hi hj hij he
  obtain⟨e1,a1,a2⟩:=(hat i l[i]).1 (List.getElem?_eq_getElem hi)
  obtain⟨e2,b1,b2⟩:=(hat j l[j]).1 (List.getElem?_eq_getElem hj)
  have:=hE.dist i j e1 e2 a1 b1 (by rw[a2,b2,he])
  omega
 ·rw[hmem]
  constructor
  ·rintro ⟨i,e,h1,h2⟩
   obtain⟨y,h3,h4,_⟩:=hE.form i e h1
   rw[K.inj x y (by rw[←h2,h3]),h4]
   rfl
  ·intro hx
   obtain⟨v,hv⟩:=Option.isSome_iff_exists.1 hx
   exact hE.has x v hv
theorem RgK.next [DecidableEq κ](K:nP P k kv){w:World}{r b:Nat}{g}{l:List κ}(h:RgK kv w r b g l)(ty:TypeId) :
  (l=[]∧(Instr.next (.pointer (some ⟨r,0,none⟩)) false ty).run P w = .ok (.tuple #[.bool false]) w) ∨
  ∃ (x:κ) (v:Value) (w':World),x ∈ l∧g x=some v∧RgK kv w' r b g (l.filter fun y=>decide (y≠x))∧w.grownBy w' (some r)∧w'.heap.size=w.heap.size ∧
   (Instr.next (.pointer (some ⟨r,0,none⟩)) false ty).run P w = .ok (.tuple #[.bool true,kv x,v]) w'∧(Instr.entry (.pointer (some ⟨r,0,none⟩))).run P w' = .ok (.tuple #[kv x,v]) w':=by
 obtain⟨es,clock,c0,seen,hE,hb,hc,hr,hnd,hl⟩:=h
 have hlo:∀ sn:Array Nat,(leftOf es sn).toList=es.toList.filter fun e=>!sn.contains e.born:=fun sn=>by simp[leftOf]
 rcases run_next_at w ty r b clock c0 seen es clock hr hb (fun x hx=>by
  obtain⟨i,hi⟩:=List.mem_iff_getElem?.1 hx
  obtain⟨_,_,_,h3⟩:=hE.form i x (by simpa using hi)
  exact h3) hc with ⟨h0,hrun⟩ | ⟨e,he,w1,hw1,hrun⟩
 ·refine Or.inl ⟨?_,hrun⟩
  have h1:(leftOf es seen).toList=[]:=by rw[Array.eq_empty_of_size_eq_zero h0]
  rw[hlo] at h1
  apply List.eq_nil_iff_forall_not_mem.2
  intro x hx
  obtain⟨i,e,h2,h3,h4⟩:=(hl x).1 hx
  have:e ∈ es.toList.filter fun e=>!seen.contains e.born:=List.mem_filter.2 ⟨List.mem_iff_getElem?.2 ⟨i,by simpa using h2⟩,by rw[h4];rfl⟩
  rw[h1] at this
  cases this
 ·rw[hlo] at he
  have hem:e ∈ es.toList:=(List.mem_filter.1 he).1
  have hes:seen.contains e.born=false:=by simpa using (List.mem_filter.1 he).2
  obtain⟨i,hi⟩:=List.mem_iff_getElem?.1 hem
  have hi':es[i]? = some e:=by simpa using hi
  obtain⟨x,h1,h2,h3⟩:=hE.form i e hi'
  have hblk:w1.heap=w.heap:=by rcases hw1 with rfl | rfl <;> rfl
  have hlr:r<w.heap.size:=(Az hr).1
  have hbr:b≠r:=fun e=>by subst e;rw[hb] at hr;cases hr
  have hg:w.grownBy (ChangeMaps.setBlock w1 r (.mapIter (some b) clock (seen.push e.born) clock)) (some r):=by
   rcases hw1 with rfl|rfl
   ·exact⟨rfl,rfl,rfl,by simp[ChangeMaps.setBlock],fun i _ hne=>by
     have:r≠i:=fun e=>hne (by rw[e])
     simp[ChangeMaps.setBlock,this]⟩
   ·exact⟨rfl,rfl,rfl,by simp[ChangeMaps.setBlock],fun i _ hne=>by
     have:r≠i:=fun e=>hne (by rw[e])
     simp[ChangeMaps.setBlock,this]
     rfl⟩
  have hr':(ChangeMaps.setBlock w1 r (.mapIter (some b) clock (seen.push e.born) clock)).heap[r]? = some (.mapIter (some b) clock (seen.push e.born) clock):=by
   simp[ChangeMaps.setBlock,hblk,hlr]
  have hb':(ChangeMaps.setBlock w1 r (.mapIter (some b) clock (seen.push e.born) clock)).heap[b]? = some (.map es clock):=by
   simp[ChangeMaps.setBlock,hblk,Ne.symm hbr,hb]
  refine Or.inr ⟨x,e.val,_,(hl x).2 ⟨i,e,hi',h1,hes⟩,h2,⟨es,clock,clock,seen.push e.born,hE,hb',Nat.le_refl _,hr',hnd.filter _,fun y=>?_⟩,hg,by simp[ChangeMaps.setBlock,hblk],by rw[h1] at hrun;exact hrun,?_⟩
  ·rw[List.mem_filter,hl y]
   simp only[decide_eq_true_eq]
   constructor
   ·rintro ⟨⟨i',e',a1,a2,a3⟩,hne⟩
    refine⟨i',e',a1,a2,?_⟩
    have:e'.born≠e.born:=fun hb=>by
     have:=hE.born i' i e' e a1 hi' hb
     subst this
     rw[hi'] at a1
     injection a1 with a1
     exact hne (K.inj _ _ (by rw[←a2,←a1,h1]))
    simp at a3 ⊢
    exact⟨a3,this⟩
   ·rintro ⟨i',e',a1,a2,a3⟩
    simp at a3
    refine⟨⟨i',e',a1,a2,by simpa using a3.1⟩,fun hyx=>a3.2 ?_⟩
    have:=hE.dist i' i e' e a1 hi' (by rw[a2,h1,hyx])
    subst this
    rw[hi'] at a1
    injection a1 with a1
    rw[a1]
  ·have:=run_entry_at (P:=P) _ r b clock seen es clock e hr' hb' hem (by
    rw[List.nodup_iff_pairwise_ne,List.pairwise_iff_getElem]
    intro i j hi hj hij
    simp only[List.length_map,Array.length_toList] at hi hj
    simp only[List.getElem_map,Array.getElem_toList]
    intro he
    have:=hE.born i j _ _ (Array.getElem?_eq_getElem hi) (Array.getElem?_eq_getElem hj) he
    omega)
   rw[h1] at this
   exact this
theorem RgK.delete [DecidableEq κ](K:nP P k kv){w:World}{r b:Nat}{g}{l:List κ}(h:RgK kv w r b g l){t e:TypeId}(ht:P.underlying t=some (.map k e))(ty kt:TypeId)(x:κ)(hx:x ∉ l) :
  ∃ w',(Builtin.delete_ #[t,kt] ty #[.map (some b),kv x]).run P w = .ok (.tuple #[]) w'∧RgK kv w' r b (eI g x none) l∧w.grownBy w' (some b)∧w'.heap.size=w.heap.size:=by
 obtain⟨es,clock,c0,seen,hE,hb,hc,hr,hnd,hl⟩:=h
 have hck:=K.check w es.isEmpty x
 have hlt:b<w.heap.size:=(Az hb).1
 have hbr:b≠r:=fun e=>by subst e;rw[hb] at hr;cases hr
 rcases hE.find K w x with ⟨ha,hg,hno⟩|⟨j,e0,ha,hj,hkey,hg⟩
 ·refine⟨{ w with heap:=w.heap.setIfInBounds b (.map es clock) },?_,⟨es,clock,c0,seen,by rw[qY hg];exact hE,(cR hlt _).2,hc,?_,hnd,hl⟩,(cR hlt _).1,by simp⟩
  ·simp[Builtin.delete_,run_underlying ht,MapKept.run_getObj_map hb,hck,ha,Result.andThen,MapKept.run_setObj_map _ hb]
  ·simp[hbr,hr]
 ·refine⟨{ w with heap:=w.heap.setIfInBounds b (.map (es.eraseIdxIfInBounds j) clock) },?_,⟨_,clock,c0,seen,hE.erase K x j e0 hj hkey,(cR hlt _).2,hc,?_,hnd,fun y=>?_⟩,(cR hlt _).1,by simp⟩
  ·simp[Builtin.delete_,run_underlying ht,MapKept.run_getObj_map hb,hck,ha,Result.andThen,MapKept.run_setObj_map _ hb]
  ·simp[hbr,hr]
  ·have hjl:=(Az hj).1
   have hget:∀ i:Nat,(es.eraseIdxIfInBounds j)[i]? = if i<j then es[i]? else es[i+1]?:=fun i=>by
    rw[Array.eraseIdxIfInBounds_eq,dif_pos hjl,Array.getElem?_eraseIdx]
   rw[hl y]
   constructor
   ·rintro ⟨i,e,a1,a2,a3⟩
    have hij:i≠j:=fun e1=>by
     subst e1
     rw[hj] at a1
     injection a1 with a1
     have:y=x:=K.inj _ _ (by rw[←a2,←a1,hkey])
     subst this
     exact hx ((hl y).2 ⟨i,e0,hj,hkey,by rw[a1];exact a3⟩)
    by_cases hlt2:i<j
    ·exact⟨i,e,by rw[hget,if_pos hlt2];exact a1,a2,a3⟩
    ·exact⟨i-1,e,by rw[hget,if_neg (by omega),show i-1+1=i by omega];exact a1,a2,a3⟩
   ·rintro ⟨i,e,a1,a2,a3⟩
    rw[hget] at a1
    split at a1
    ·exact⟨i,e,a1,a2,a3⟩
    ·exact⟨i+1,e,a1,a2,a3⟩
end
section
variable {P:Program} {k:TypeId} {κ:Type} [DecidableEq κ] {kv:κ→Value} (K:nP P k kv) (w:World) {ops:Array Oper} {rest:List Oper} {o:Oper} {a:Act} {Q:Exit→Act→World→Prop}
include K
theorem gE (hg:o.guard=none)(m x v:Operand)(t:TypeId)(hop:o.op=Op.mapUpdate t m x v){e:TypeId}(ht:P.underlying t=some (.map k e))(b:Nat)(g:κ→Option Value)(hm:a.eval m = .map (some b))(h:MapK kv w b g)(s:κ)(u:Value)(hx:a.eval x=kv s)(hv:a.eval v=u)
  (hK:∀ w',MapK kv w' b (eI g s (some u))→w.grownBy w' (some b)→w'.heap.size=w.heap.size→wpList P ops Q rest (a.put o.dst undef) w'):wpList P ops Q (o::rest) a w:=by
 refine wpList_plain hg fun K' hK'=>?_
 obtain⟨w',hrun,r1,r2,r3⟩:=h.update K ht s u
 unfold Oper.wp
 simp[execOp,hop,hm,hx,hv,hrun,Result.andThen]
 exact hK' _ _ (hK w' r1 r2 r3)
omit [DecidableEq κ] in
theorem dK (hg:o.guard=none)(m x:Operand)(t:TypeId)(c:Bool)(hop:o.op=Op.lookup t m x c){e:TypeId}(ht:P.underlying t=some (.map k e)){z:Value}(hz:(zeroValue e).run P w = .ok z w)(b:Nat)(g:κ→Option Value)(hm:a.eval m = .map (some b))(h:MapK kv w b g)(s:κ)(hx:a.eval x=kv s)
  (hK:wpList P ops Q rest (a.put o.dst (if c then .tuple #[(g s).getD z,.bool (g s).isSome] else (g s).getD z)) w):wpList P ops Q (o::rest) a w:=by
 refine wpList_plain hg fun K' hK'=>?_
 have hrun:=h.lookup K ht hz s c
 unfold Oper.wp
 simp only[execOp,hop,hm,hx,Sem.run_bind,Sem.run_pure,hrun,Result.andThen_ok]
 exact hK' _ _ hK
omit [DecidableEq κ] in
theorem gS (hg:o.guard=none)(m:Operand)(t:TypeId)(hop:o.op=Op.range t m){e:TypeId}(ht:P.underlying t=some (.map k e))(b:Nat)(g:κ→Option Value)(hm:a.eval m = .map (some b))(h:MapK kv w b g)
  (hK:∀ (l:List κ) (o':Obj),RgK kv (w.alloc o') w.heap.size b g l→(∀ x,x ∈ l↔(g x).isSome=true)→wpList P ops Q rest (a.put o.dst (.pointer (some ⟨w.heap.size,0,none⟩))) (w.alloc o')):wpList P ops Q (o::rest) a w:=by
 refine wpList_plain hg fun K' hK'=>?_
 obtain⟨l,o',hrun,r1,r2⟩:=h.range K ht
 unfold Oper.wp
 simp[execOp,hop,hm,hrun,Result.andThen]
 exact hK' _ _ (hK l o' r1 r2)
theorem iM (hg:o.guard=none)(it:Operand)(hop:o.op=Op.next it false)(r b:Nat)(g:κ→Option Value)(l:List κ)(hit:a.eval it = .pointer (some ⟨r,0,none⟩))(h:RgK kv w r b g l)
  (hDone:l=[]→wpList P ops Q rest (a.put o.dst (.tuple #[.bool false])) w)
  (hMore:∀ (x:κ) (v:Value) (w':World),x ∈ l→g x=some v→RgK kv w' r b g (l.filter fun y=>decide (y≠x))→w.grownBy w' (some r)→w'.heap.size=w.heap.size →
   (Instr.entry (.pointer (some ⟨r,0,none⟩))).run P w' = .ok (.tuple #[kv x,v]) w'→wpList P ops Q rest (a.put o.dst (.tuple #[.bool true,kv x,v])) w'):wpList P ops Q (o::rest) a w:=by
 refine wpList_plain hg fun K' hK'=>?_
 unfold Oper.wp
 rcases h.next K o.type with ⟨h0,hrun⟩|⟨x,v,w',h1,h2,h3,h4,h5,hrun,hen⟩
 ·simp[execOp,hop,hit,hrun,Result.andThen]
  exact hK' _ _ (hDone h0)
 ·simp[execOp,hop,hit,hrun,Result.andThen]
  exact hK' _ _ (hMore x v w' h1 h2 h3 h4 h5 hen)
theorem fG (hg:o.guard=none)(m x:Operand)(t kt:TypeId)(hop:o.op = .call { callee:=.builtin .delete,args:=#[m,x],argTypes:=#[t,kt] }){e:TypeId}(ht:P.underlying t=some (.map k e))(r b:Nat)(g:κ→Option Value)(l:List κ)(hm:a.eval m = .map (some b))(h:RgK kv w r b g l)(s:κ)(hs:s ∉ l)(hx:a.eval x=kv s)
  (hK:∀ w',RgK kv w' r b (eI g s none) l→w.grownBy w' (some b)→w'.heap.size=w.heap.size→wpList P ops Q rest (a.put o.dst (.tuple #[])) w'):wpList P ops Q (o::rest) a w:=by
 obtain⟨w',hrun,r1,r2,r3⟩:=h.delete K ht o.type kt s hs
 refine wpList_plain hg fun K' hK'=>?_
 unfold Oper.wp execOp
 simp only[hop,resolve,invoke,builtin,Sem.run_bind,Sem.run_pure,Result.andThen_ok,List.map_toArray,List.map_cons,List.map_nil,hm,hx,hrun]
 exact hK' _ _ (hK w' r1 r2 r3)
theorem lL (hg:o.guard=none)(m x:Operand)(t kt:TypeId)(hop:o.op = .call { callee:=.builtin .delete,args:=#[m,x],argTypes:=#[t,kt] }){e:TypeId}(ht:P.underlying t=some (.map k e))(b:Nat)(g:κ→Option Value)(hm:a.eval m = .map (some b))(h:MapK kv w b g)(s:κ)(hx:a.eval x=kv s)
  (hK:∀ w',MapK kv w' b (eI g s none)→w.grownBy w' (some b)→w'.heap.size=w.heap.size→wpList P ops Q rest (a.put o.dst (.tuple #[])) w'):wpList P ops Q (o::rest) a w:=by
 obtain⟨w',hrun,r1,r2,r3⟩:=h.delete K ht o.type kt s
 refine wpList_plain hg fun K' hK'=>?_
 unfold Oper.wp execOp
 simp only[hop,resolve,invoke,builtin,Sem.run_bind,Sem.run_pure,Result.andThen_ok,List.map_toArray,List.map_cons,List.map_nil,hm,hx,hrun]
 exact hK' _ _ (hK w' r1 r2 r3)
end
theorem mN:Try.prog.underlying 3=some (.int .i64):=by kernel_rfl
theorem pE:nP Try.prog 3 (fun n:Int=>.int .i64 n) where
 inj:=fun x y h=>by injection h
 check:=fun w em x=>run_checkKey (w:=w) mN (d:=.int .i64) (k:=.int .i64 x) rfl em 9999
 find:=fun w x es hes=>by
  have hks:∀ y ∈ es,IsKey (.int .i64) y.key:=fun y hy=>by
   obtain⟨s,e⟩:=hes y hy
   rw[e];rfl
  rcases findNow_spec (d:=.int .i64) (k:=.int .i64 x) rfl es 0 hks with ⟨ha,hn⟩|⟨j,e0,ha,hj,hk⟩
  ·exact Or.inl ⟨run_findKey (w:=w) mN ha,hn⟩
  ·exact Or.inr ⟨j,e0,by have:=run_findKey (w:=w) mN ha;simpa using this,hj,hk⟩
 stays:=fun w x=>run_keyThatStays (d:=.int .i64) rfl
theorem xJ {x y:Ins}(h:x.agg=y.agg):x=y:=by
 obtain⟨k,op,dst,a,b,n,text,r0,r1,r2,r3,r4,r5,to_,els⟩:=x
 obtain⟨k',op',dst',a',b',n',text',r0',r1',r2',r3',r4',r5',to',els'⟩:=y
 simp only[Ins.agg,Value.agg.injEq,Array.mk.injEq,List.cons.injEq,Value.int.injEq,Value.string.injEq,true_and,and_true] at h
 simp only[Ins.mk.injEq]
 exact h
theorem tX (w:World)(x:Ins):∀ (es:List MapEntry) (i:Nat),(∀ e ∈ es,∃ y:Ins,e.key=y.agg) →
  ((Instr.findAsking 32 x.agg es i).run Try.prog w = .ok none w∧∀ e ∈ es,e.key≠x.agg)∨∃ j e,(Instr.findAsking 32 x.agg es i).run Try.prog w = .ok (some (i+j,e.val)) w∧es[j]? = some e∧e.key=x.agg
 | [],i,_=>Or.inl ⟨rfl,by simp⟩
 | e::es,i,h=>by
  obtain⟨y,hy⟩:=h e (by simp)
  have he:=iQ x y w
  rw[lT] at he
  have hrun:(Instr.findAsking 32 x.agg (e::es) i).run Try.prog w=if x=y then .ok (some (i,e.val)) w else (Instr.findAsking 32 x.agg es (i+1)).run Try.prog w:=by
   rw[show Instr.findAsking 32 x.agg (e::es) i=(do if ←Op.equal 32 x.agg e.key then pure (some (i,e.val)) else Instr.findAsking 32 x.agg es (i+1)) from rfl]
   simp only[hy,Op.equal,Op.maxDepth,Sem.run_bind,he,Result.andThen_ok]
   by_cases hxy:x=y
   ·simp only[hxy,decide_true,if_true];rfl
   ·simp only[hxy,decide_false,Bool.false_eq_true,if_false]
  rw[hrun]
  by_cases hxy:x=y
  ·rw[if_pos hxy]
   exact Or.inr ⟨0,e,rfl,rfl,by rw[hy,hxy]⟩
  ·rw[if_neg hxy]
   rcases tX w x es (i+1) (fun e he=>h e (by simp[he])) with ⟨h1,h2⟩ | ⟨j,e',h1,h2,h3⟩
   ·refine Or.inl ⟨h1,fun e' he'=>?_⟩
    rcases List.mem_cons.1 he' with rfl|h4
    ·rw[hy];exact fun hh=>hxy (xJ hh).symm
    ·exact h2 e' h4
   ·exact Or.inr ⟨j+1,e',by rw[h1,show i+1+j=i+(j+1) by omega],h2,h3⟩
theorem sC (x:Ins):Instr.sameBits 10000 x.agg x.agg=true:=by
 simp[Instr.sameBits]
 exact (MapKept.bytes_beq _ _).2 rfl
theorem zA:∃ fs,Try.prog.underlying 32=some (.struct fs):=by
 have h:(match Try.prog.underlying 32 with | some (.struct _)=>true | _=>false)=true:=by kernel_rfl
 split at h
 ·rename_i fs hfs;exact⟨fs,hfs⟩
 ·cases h
theorem zB (w:World)(em:Bool)(x:Ins):(Instr.checkKey em 10000 32 x.agg).run Try.prog w = .ok () w:=by
 kernel_rfl
theorem rA:nP Try.prog 32 Ins.agg where
 inj:=fun x y h=>xJ h
 check:=zB
 find:=fun w x es hes=>by
  obtain⟨fs,hfs⟩:=zA
  cases es with
  | nil =>
   refine Or.inl ⟨?_,by simp⟩
   unfold Instr.findKey
   simp[run_underlying hfs,Instr.findNow,Result.andThen]
  | cons e es =>
   have hn:Instr.findNow (.struct fs) x.agg (e::es) 0=none:=rfl
   have hrun:(Instr.findKey 32 x.agg (e::es)).run Try.prog w=(Instr.findAsking 32 x.agg (e::es) 0).run Try.prog w:=by
    unfold Instr.findKey
    simp only[Sem.run_bind,run_underlying hfs,Result.andThen_ok,hn]
   rw[hrun]
   rcases tX w x (e::es) 0 hes with h|⟨j,e',h1,h2,h3⟩
   ·exact Or.inl h
   ·exact Or.inr ⟨j,e',by rw[h1,Nat.zero_add],h2,h3⟩
 stays:=fun w x=>by
  unfold Instr.keyThatStays
  rw[sC]
  rfl
open Go.BigFrame
abbrev mO (g:Int→Option Int):Int→Option Value:=fun r=>(g r).map (.int .i64)
abbrev pS (g:Ins→Option Int):Ins→Option Value:=fun r=>(g r).map (.int .i64)
abbrev kI:Int→Value:=fun n=>.int .i64 n
theorem lM (w:World):(zeroValue 3).run Try.prog w = .ok (.int .i64 0) w:=by kernel_rfl
theorem fO:Try.prog.underlying 70=some (.map 3 3):=by kernel_rfl
theorem gT:Try.prog.underlying 71=some (.map 32 3):=by kernel_rfl
theorem gF (g:Int→Option Int)(ma:Nat)(mh:Value)(r:Int)(w:World)(hm:MapK kI w ma (mO g)) :
  Calls Try.prog 55 #[.agg #[.map (some ma),mh],.int .i64 r] w fun e w'=>e = .returned (.int .i64 ((g r).getD r))∧Below w.heap.size w w':=by
 have hB:=Below.one w (.cells #[.map (some ma),mh] 73)
 have bx:=heap_alloc_new w (.cells #[.map (some ma),mh] 73)
 have hm1:=hm.below hB hm.lt
 have g0:=aA bx 0 _ rfl
 have g1:=aA bx 1 _ rfl
 have HM:=Hz hm1
 clear hm hm1
 go_enter Try.func55,Try.ntmps55
 have HB:=Hz hB
 clear hB bx
 cases hg:g r with
 | none =>
  have e1:(mO g r).getD (.int .i64 0) = .int .i64 0:=by simp[mO,hg]
  have e2:(mO g r).isSome=false:=by simp[mO,hg]
  go_wp2_with (first
   |(refine dK pE _ rfl (.tmp 9) (.tmp 10) 70 true rfl fO (lM _) ma _ rfl HM.out r rfl ?_;simp only[if_true];rw[e1,e2]))
  go_returns
  exact⟨rfl,HB.out⟩
 | some a =>
  have e1:(mO g r).getD (.int .i64 0) = .int .i64 a:=by simp[mO,hg]
  have e2:(mO g r).isSome=true:=by simp[mO,hg]
  go_wp2_with (first
   |(refine dK pE _ rfl (.tmp 9) (.tmp 10) 70 true rfl fO (lM _) ma _ rfl HM.out r rfl ?_;simp only[if_true];rw[e1,e2]))
  go_returns
  exact⟨rfl,HB.out⟩
def eF (g:Int→Option Int)(r:Int):Int:=(g r).getD r
def gU (g:Int→Option Int)(i:Ins):Ins :=
 { i with
  a:=if kA i.kind=true then eF g i.a else i.a,b:=if kB i.kind=true then eF g i.b else i.b,
  r0:=if i.kind=8∧0<i.n then eF g i.r0 else i.r0,r1:=if i.kind=8∧1<i.n then eF g i.r1 else i.r1,r2:=if i.kind=8∧2<i.n then eF g i.r2 else i.r2,
  r3:=if i.kind=8∧3<i.n then eF g i.r3 else i.r3,r4:=if i.kind=8∧4<i.n then eF g i.r4 else i.r4,r5:=if i.kind=8∧5<i.n then eF g i.r5 else i.r5 }
theorem gG (w:World)(a b c:Obj):(((w.alloc a).alloc b).alloc c).heap[w.heap.size]? = some a∧(((w.alloc a).alloc b).alloc c).heap[w.heap.size+1]? = some b∧(((w.alloc a).alloc b).alloc c).heap[w.heap.size+2]? = some c∧Below w.heap.size w (((w.alloc a).alloc b).alloc c):=by
 have h0:=heap_alloc_new w a
 have h1:=heap_alloc_new (w.alloc a) b
 rw[show (w.alloc a).heap.size=w.heap.size+1 by simp] at h1
 have h2:=heap_alloc_new ((w.alloc a).alloc b) c
 rw[show ((w.alloc a).alloc b).heap.size=w.heap.size+2 by simp] at h2
 exact⟨aC (aC h0 b) c,aC h1 c,h2,((Below.one w a).alloc (by simp) b).alloc (by simp;omega) c⟩
theorem lN (i:Ins):(i.l.toArray.all (·.oneCell'))=true:=by simp[Value.oneCell']
theorem zC (ma:Nat)(mh:Value)(i:Ins)(hk:kA i.kind=false∧i.kind≠8)(w:World) :
  Calls Try.prog 51 #[.agg #[.map (some ma),mh],i.agg] w fun e w'=>e = .returned i.agg∧Below w.heap.size w w':=by
 obtain⟨b0,b1,b2,hB⟩:=gG w (.cells #[.map (some ma),mh] 73) i.obj aW
 obtain⟨W,hW⟩:∃ W,((w.alloc (.cells #[.map (some ma),mh] 73)).alloc i.obj).alloc aW=W:=⟨_,rfl⟩
 rw[hW] at b0 b1 b2 hB
 have hone:=lN i
 obtain⟨k,op,dst,a,b,n,text,r0,r1,r2,r3,r4,r5,to_,els⟩:=i
 have ⟨d0,d1,d2,d3,d4,d5,d6,d7,d8,d9,d10,d11,d12,d13,d14⟩:=Ins.cells (i:=⟨k,op,dst,a,b,n,text,r0,r1,r2,r3,r4,r5,to_,els⟩) b1
 simp only[Ins.agg,Ins.obj] at d0 d1 d2 d3 d4 d5 d6 d7 d8 d9 d10 d11 d12 d13 d14 hW ⊢
 obtain⟨hA,h8⟩:=hk
 unfold kA at hA
 simp only[Bool.or_eq_false_iff,decide_eq_false_iff_not] at hA
 obtain⟨⟨⟨⟨⟨⟨⟨k2,k3⟩,k4⟩,k6⟩,k7⟩,k10⟩,k12⟩,k13⟩:=hA
 have q2:(k==2)=false:=by simpa using k2
 have q3:(k==3)=false:=by simpa using k3
 have q4:(k==4)=false:=by simpa using k4
 have q6:(k==6)=false:=by simpa using k6
 have q7:(k==7)=false:=by simpa using k7
 have q8:(k==8)=false:=by simpa using h8
 have q10:(k==10)=false:=by simpa using k10
 have q12:(k==12)=false:=by simpa using k12
 have q13:(k==13)=false:=by simpa using k13
 have HB:=Hz hB
 have H1:=Hz b1
 have H2:=Hz b2
 clear hB b0 b1 b2 h8 k2 k3 k4 k6 k7 k10 k12 k13
 go_enter Try.func51,Try.ntmps51
 go_wp2_with (first
  |(show wpList Try.prog _ _ (⟨some 50,_,_,_,_,_⟩::_) _ _;refine wpList_load_row rfl 32 (.tmp 3) rfl (w.heap.size+1) rfl 32 _ (0,0) _ H1.out aZ rfl aS ?_)
  |(show wpList Try.prog _ _ (⟨none,.store _ (.tmp 4) _,_,_,_,_⟩::_) _ _;refine wpList_store_row rfl 32 (.tmp 4) (.tmp 50) rfl (w.heap.size+2) _ rfl rfl 32 _ H2.out aS rfl hone ?_))
 (try simp only[Exit.inBlock,Exit.then])
 have h3:=setRow_heap _ _ _ (Ins.l ⟨k,op,dst,a,b,n,text,r0,r1,r2,r3,r4,r5,to_,els⟩).toArray _ _ H2.out
 have ⟨e0,e1,e2,e3,e4,e5,e6,e7,e8,e9,e10,e11,e12,e13,e14⟩:=Ins.cells (i:=⟨k,op,dst,a,b,n,text,r0,r1,r2,r3,r4,r5,to_,els⟩) h3
 simp only at e0 e1 e2 e3 e4 e5 e6 e7 e8 e9 e10 e11 e12 e13 e14
 refine bodyPost_ret (by simp[results,Try.results51,go_sem,e0,e1,e2,e3,e4,e5,e6,e7,e8,e9,e10,e11,e12,e13,e14];try rfl) rfl ?_
 exact⟨rfl,below_setRow HB.out (by omega) _⟩
theorem wH {w:World}{p:Nat}{cs cs0:Array Value}{t:TypeId}{fz:Nat × Nat}(_h:(cs.all (·.oneCell'))=true)(c:w.heap[p]? = some (.cells cs0 t fz)):(w.setRow p cs).heap[p]? = some (.cells cs t fz):=setRow_heap _ _ _ cs _ _ c
theorem BP (g:Int→Option Int)(ma:Nat)(mh:Value)(i:Ins)(hk:i.kind=2∨i.kind=4∨i.kind=6∨i.kind=10∨i.kind=12∨i.kind=13)(w:World)(hm:MapK kI w ma (mO g)) :
  Calls Try.prog 51 #[.agg #[.map (some ma),mh],i.agg] w fun e w'=>e = .returned (gU g i).agg∧Below w.heap.size w w':=by
 obtain⟨b0,b1,b2,hB⟩:=gG w (.cells #[.map (some ma),mh] 73) i.obj aW
 have hm1:=hm.below hB hm.lt
 obtain⟨W,hW⟩:∃ W,((w.alloc (.cells #[.map (some ma),mh] 73)).alloc i.obj).alloc aW=W:=⟨_,rfl⟩
 rw[hW] at b0 b1 b2 hB hm1
 have hres:gU g i={ i with a:=eF g i.a }:=by
  unfold gU
  rcases hk with e|e|e|e|e|e <;> simp[e,kA,kB]
 rw[hres]
 have hone:=lN { i with a:=eF g i.a }
 have hth:=fun W h=>gF g ma mh i.a W h
 obtain⟨v,hv⟩:∃ v,eF g i.a=v:=⟨_,rfl⟩
 rw[hv] at hone ⊢
 rw[show (g i.a).getD i.a=v from hv] at hth
 have hl1:=(Az b1).1
 have hl2:=(Az b2).1
 obtain⟨k,op,dst,a,b,n,text,r0,r1,r2,r3,r4,r5,to_,els⟩:=i
 have ⟨d0,d1,d2,d3,d4,d5,d6,d7,d8,d9,d10,d11,d12,d13,d14⟩:=Ins.cells (i:=⟨k,op,dst,a,b,n,text,r0,r1,r2,r3,r4,r5,to_,els⟩) b1
 have x0:=aA b0 0 _ rfl
 have x1:=aA b0 1 _ rfl
 simp only[Ins.agg,Ins.obj] at d0 d1 d2 d3 d4 d5 d6 d7 d8 d9 d10 d11 d12 d13 d14 hW hth hone hk ⊢
 have HB:=Hz hB
 have H1:=Hz b1
 have H2:=Hz b2
 have HM:=Hz hm1
 have HT:=Hz (hth W hm1)
 clear hB b0 b1 b2 hm hm1 hth hres hv
 rcases hk with e|e|e|e|e|e
 all_goals
  subst e
  go_enter Try.func51,Try.ntmps51
  go_wp2_with fail
  refine HT.out.mono ?_
  rintro e w5 ⟨rfl,hb5⟩
  have c1:=(hb5.block _ hl1).trans H1.out
  have c2:=(hb5.block _ hl2).trans H2.out
  have ⟨y0,y1,y2,y3,y4,y5,y6,y7,y8,y9,y10,y11,y12,y13,y14⟩:=Ins.cells c1
  simp only at y0 y1 y2 y3 y4 y5 y6 y7 y8 y9 y10 y11 y12 y13 y14
  have yf:=aK c1 3
  have hl15:=(Az c1).1
  have c3:=heap_setCell (j:=3) c1 (.int .i64 v)
  have c4:=(heap_setCell_other w5 ⟨w.heap.size+1,3,none⟩ (w.heap.size+2) (.int .i64 v) (by simp only;omega)).trans c2
  have HB5:=Hz ((HB.out.trans (hb5.mono HB.out.size)).setCell (p:=⟨w.heap.size+1,3,none⟩) (by simp only;omega) (.int .i64 v))
  have h3:=wH hone c4
  clear hb5 c1 c2 hW d0 d1 d2 d3 d4 d5 d6 d7 d8 d9 d10 d11 d12 d13 d14
  go_wp2_with (first
   |(show wpList Try.prog _ _ (⟨some 50,_,_,_,_,_⟩::_) _ _;refine wpList_load_row rfl 32 (.tmp 3) rfl (w.heap.size+1) rfl 32 _ (0,0) _ c3 aZ rfl aS ?_)
   |(show wpList Try.prog _ _ (⟨none,.store _ (.tmp 4) _,_,_,_,_⟩::_) _ _;refine wpList_store_row rfl 32 (.tmp 4) (.tmp 50) rfl (w.heap.size+2) _ rfl rfl 32 _ c4 aS rfl hone ?_))
  (try simp only[Exit.inBlock,Exit.then])
  have ⟨e0,e1,e2,e3,e4,e5,e6,e7,e8,e9,e10,e11,e12,e13,e14⟩:=Ins.cells h3
  simp only at e0 e1 e2 e3 e4 e5 e6 e7 e8 e9 e10 e11 e12 e13 e14
  refine bodyPost_ret (by simp[results,Try.results51,go_sem,e0,e1,e2,e3,e4,e5,e6,e7,e8,e9,e10,e11,e12,e13,e14];try rfl) rfl ?_
  exact⟨rfl,below_setRow HB5.out (by omega) _⟩
theorem BQ (g:Int→Option Int)(ma:Nat)(mh:Value)(i:Ins)(hk:i.kind=3∨i.kind=7)(w:World)(hm:MapK kI w ma (mO g)) :
  Calls Try.prog 51 #[.agg #[.map (some ma),mh],i.agg] w fun e w'=>e = .returned (gU g i).agg∧Below w.heap.size w w':=by
 obtain⟨b0,b1,b2,hB⟩:=gG w (.cells #[.map (some ma),mh] 73) i.obj aW
 have hm1:=hm.below hB hm.lt
 obtain⟨W,hW⟩:∃ W,((w.alloc (.cells #[.map (some ma),mh] 73)).alloc i.obj).alloc aW=W:=⟨_,rfl⟩
 rw[hW] at b0 b1 b2 hB hm1
 have hres:gU g i={ i with a:=eF g i.a,b:=eF g i.b }:=by
  unfold gU
  rcases hk with e|e <;> simp[e,kA,kB]
 rw[hres]
 have hone:=lN { i with a:=eF g i.a,b:=eF g i.b }
 have hth:=fun r (s:Later W)=>gF g ma mh r s.w (hm1.below s.h hm1.lt)
 obtain⟨v,hv⟩:∃ v,eF g i.a=v:=⟨_,rfl⟩
 obtain⟨u,hu⟩:∃ v,eF g i.b=v:=⟨_,rfl⟩
 have hth1:=hth i.a
 have hth2:=hth i.b
 rw[hv,hu] at hone ⊢
 rw[show (g i.a).getD i.a=v from hv] at hth1
 rw[show (g i.b).getD i.b=u from hu] at hth2
 have hl1:=(Az b1).1
 have hl2:=(Az b2).1
 obtain⟨k,op,dst,a,b,n,text,r0,r1,r2,r3,r4,r5,to_,els⟩:=i
 have ⟨d0,d1,d2,d3,d4,d5,d6,d7,d8,d9,d10,d11,d12,d13,d14⟩:=Ins.cells (i:=⟨k,op,dst,a,b,n,text,r0,r1,r2,r3,r4,r5,to_,els⟩) b1
 have x0:=aA b0 0 (.map (some ma)) rfl
 have x1:=aA b0 1 mh rfl
 simp only[Ins.agg,Ins.obj] at d0 d1 d2 d3 d4 d5 d6 d7 d8 d9 d10 d11 d12 d13 d14 hW hth1 hth2 hone hk ⊢
 have HB:=Hz hB
 have H1:=Hz b1
 have H2:=Hz b2
 have HT1:=Hz hth1
 have HT2:=Hz hth2
 clear hB b0 b1 b2 hm hm1 hth hth1 hth2 hres hv hu
 rcases hk with e|e
 all_goals
  subst e
  go_enter Try.func51,Try.ntmps51
  go_wp2
  have l0:=fun s:Later W=>Later.cell x0 s
  have l1:=fun s:Later W=>Later.cell x1 s
  have l3:=fun s:Later W=>Later.cell d3 s
  have l4:=fun s:Later W=>Later.cell d4 s
  refine bK 9 (by kernel_rfl) (by kernel_rfl) ?_
  dsimp only[List.take,List.drop]
  repeat (go_big_quiet_step (first | (go_at_call_of 55 (#[Value.agg #[.map (some ma),mh],.int .i64 a]);exact Calls.later (HT1.out _)) | (go_at_call_of 55 (#[Value.agg #[.map (some ma),mh],.int .i64 b]);exact Calls.later (HT2.out _))))
  refine wpQuiet_nil ?_
  rintro w5 ⟨s',rfl⟩
  have hb5:=s'.h
  generalize s'.w=w5 at *
  have c1:=(hb5.block _ hl1).trans H1.out
  have c2:=(hb5.block _ hl2).trans H2.out
  have yf:=aK c1
  have ⟨y0,y1,y2,y3,y4,y5,y6,y7,y8,y9,y10,y11,y12,y13,y14⟩:=Ins.cells c1
  simp only at y0 y1 y2 y3 y4 y5 y6 y7 y8 y9 y10 y11 y12 y13 y14
  have hl15:=(Az c1).1
  have c3:=heap_setCell (j:=4) (heap_setCell (j:=3) c1 (.int .i64 v)) (.int .i64 u)
  have c4:=(heap_setCell_other (w5.setCell ⟨w.heap.size+1,3,none⟩ (.int .i64 v)) ⟨w.heap.size+1,4,none⟩ (w.heap.size+2) (.int .i64 u) (by simp only;omega)).trans ((heap_setCell_other w5 ⟨w.heap.size+1,3,none⟩ (w.heap.size+2) (.int .i64 v) (by simp only;omega)).trans c2)
  have HB5:=Hz (((HB.out.trans (hb5.mono HB.out.size)).setCell (p:=⟨w.heap.size+1,3,none⟩) (by simp only;omega) (.int .i64 v)).setCell (p:=⟨w.heap.size+1,4,none⟩) (by simp only;omega) (.int .i64 u))
  have h3:=wH hone c4
  clear hb5 c1 c2 hW d0 d1 d2 d3 d4 d5 d6 d7 d8 d9 d10 d11 d12 d13 d14 l0 l1 l3 l4
  go_wp2_with (first
   |(show wpList Try.prog _ _ (⟨some 50,_,_,_,_,_⟩::_) _ _;refine wpList_load_row rfl 32 (.tmp 3) rfl (w.heap.size+1) rfl 32 _ (0,0) _ c3 aZ rfl aS ?_)
   |(show wpList Try.prog _ _ (⟨none,.store _ (.tmp 4) _,_,_,_,_⟩::_) _ _;refine wpList_store_row rfl 32 (.tmp 4) (.tmp 50) rfl (w.heap.size+2) _ rfl rfl 32 _ c4 aS rfl hone ?_))
  (try simp only[Exit.inBlock,Exit.then])
  have ⟨e0,e1,e2,e3,e4,e5,e6,e7,e8,e9,e10,e11,e12,e13,e14⟩:=Ins.cells h3
  simp only at e0 e1 e2 e3 e4 e5 e6 e7 e8 e9 e10 e11 e12 e13 e14
  refine bodyPost_ret (by simp[results,Try.results51,go_sem,e0,e1,e2,e3,e4,e5,e6,e7,e8,e9,e10,e11,e12,e13,e14];try rfl) rfl ?_
  exact⟨rfl,below_setRow HB5.out (by omega) _⟩
def rC (g:Int→Option Int)(i:Ins)(m:Nat):Ins :=
 { i with
  r0:=if 0<m then eF g i.r0 else i.r0,r1:=if 1<m then eF g i.r1 else i.r1,r2:=if 2<m then eF g i.r2 else i.r2,
  r3:=if 3<m then eF g i.r3 else i.r3,r4:=if 4<m then eF g i.r4 else i.r4,r5:=if 5<m then eF g i.r5 else i.r5 }
theorem EB (g:Int→Option Int)(i:Ins)(hk:i.kind=8)(h0:0≤i.n):gU g i=rC g i i.n.toNat:=by
 have hA:kA i.kind=false:=by rw[hk];decide
 have hB:kB i.kind=false:=by rw[hk];decide
 have e0:(i.kind=8∧0<i.n)=(0<i.n.toNat):=propext ⟨fun h=>by omega,fun h=>⟨hk,by omega⟩⟩
 have e1:(i.kind=8∧1<i.n)=(1<i.n.toNat):=propext ⟨fun h=>by omega,fun h=>⟨hk,by omega⟩⟩
 have e2:(i.kind=8∧2<i.n)=(2<i.n.toNat):=propext ⟨fun h=>by omega,fun h=>⟨hk,by omega⟩⟩
 have e3:(i.kind=8∧3<i.n)=(3<i.n.toNat):=propext ⟨fun h=>by omega,fun h=>⟨hk,by omega⟩⟩
 have e4:(i.kind=8∧4<i.n)=(4<i.n.toNat):=propext ⟨fun h=>by omega,fun h=>⟨hk,by omega⟩⟩
 have e5:(i.kind=8∧5<i.n)=(5<i.n.toNat):=propext ⟨fun h=>by omega,fun h=>⟨hk,by omega⟩⟩
 unfold gU rC
 simp only[hA,hB,e0,e1,e2,e3,e4,e5,Bool.false_eq_true,if_false]
structure RdC (w wr:World)(ma:Nat)(mh:Value)(g:Int→Option Int)(j:Ins):Prop where
 b0:wr.heap[w.heap.size]? = some (.cells #[.map (some ma),mh] 73)
 b1:wr.heap[w.heap.size+1]? = some j.obj
 b2:wr.heap[w.heap.size+2]? = some aW
 m:MapK kI wr ma (mO g)
 lt:ma<w.heap.size
 b:Below w.heap.size w wr
theorem RdC.next {w wr w5:World}{ma:Nat}{mh:Value}{g:Int→Option Int}{j j':Ins}(h:RdC w wr ma mh g j)(hb:Below wr.heap.size wr w5)(c:Nat)(v:Value)(hj:j'.obj = .cells (j.l.toArray.setIfInBounds c v) 32):RdC w (w5.setCell ⟨w.heap.size+1,c,none⟩ v) ma mh g j':=by
 have hs:=h.b.size
 have hl2:=(Az h.b2).1
 refine⟨(heap_setCell_other w5 ⟨w.heap.size+1,c,none⟩ w.heap.size v (by simp only;omega)).trans ((hb.block _ (by omega)).trans h.b0),?_,(heap_setCell_other w5 ⟨w.heap.size+1,c,none⟩ (w.heap.size+2) v (by simp only;omega)).trans ((hb.block _ (by omega)).trans h.b2),
  ((h.m.below hb h.m.lt).of_block (heap_setCell_other w5 ⟨w.heap.size+1,c,none⟩ ma v (by have:=h.lt;simp only;omega))),h.lt,(h.b.trans (hb.mono hs)).setCell (p:=⟨w.heap.size+1,c,none⟩) (by simp only;omega) v⟩
 have:=heap_setCell (j:=c) ((hb.block _ (by omega)).trans h.b1) v
 rw[hj]
 exact this
theorem zD (g:Int→Option Int)(ma:Nat)(mh:Value)(i:Ins)(hk:i.kind=8)(hn:0≤i.n∧i.n≤6)(w:World)(hm:MapK kI w ma (mO g)) :
  Calls Try.prog 51 #[.agg #[.map (some ma),mh],i.agg] w fun e w'=>e = .returned (gU g i).agg∧Below w.heap.size w w':=by
 obtain⟨b0,b1,b2,hB⟩:=gG w (.cells #[.map (some ma),mh] 73) i.obj aW
 have hm1:=hm.below hB hm.lt
 have hml:=hm.lt
 obtain⟨W,hW⟩:∃ W,((w.alloc (.cells #[.map (some ma),mh] 73)).alloc i.obj).alloc aW=W:=⟨_,rfl⟩
 rw[hW] at b0 b1 b2 hB hm1
 rw[EB g i hk hn.1]
 obtain⟨N,hN⟩:∃ N:Nat,i.n=(N:Int):=⟨i.n.toNat,by omega⟩
 rw[hN,Int.toNat_natCast]
 have hN6:N≤6:=by omega
 have HR0:Hid (RdC w W ma mh g (rC g i 0)):=Hz ⟨b0,by have:rC g i 0=i:=(by unfold rC;simp);rw[this];exact b1,b2,hm1,hml,hB⟩
 obtain⟨k,op,dst,a,b,n,text,r0,r1,r2,r3,r4,r5,to_,els⟩:=i
 simp only at hk hN hn
 subst hk hN
 have ⟨d0,d1,d2,d3,d4,d5,d6,d7,d8,d9,d10,d11,d12,d13,d14⟩:=Ins.cells b1
 simp only[Ins.agg,Ins.obj] at d0 d1 d2 d3 d4 d5 d6 d7 d8 d9 d10 d11 d12 d13 d14 hW ⊢
 clear hB b0 b1 b2 hm hm1 hn
 go_enter Try.func51,Try.ntmps51
 go_wp2_with fail
 clear hW d0 d1 d2 d3 d4 d5 d6 d7 d8 d9 d10 d11 d12 d13 d14
 go_loopw [37] (fun ix wr=>∃ m:Nat,m≤N∧ix = .int .i64 m∧RdC w wr ma mh g (rC g ⟨8,op,dst,a,b,(N:Int),text,r0,r1,r2,r3,r4,r5,to_,els⟩ m)) (fun ix _=>N-(intOf ix).toNat)
 case atStart=>exact⟨0,by omega,rfl,HR0.out⟩
 case round =>
  obtain⟨m,hm,rfl,hr⟩:=hrel
  clear HR0
  by_cases hlt:m<N
  ·have hth:=fun r (s:Later wr)=>gF g ma mh r s.w (hr.m.below s.h hr.m.lt)
   have HR:=Hz hr
   have HTH:=Hz hth
   have hms:m=0∨m=1∨m=2∨m=3∨m=4∨m=5:=by omega
   clear hr hth
   rcases hms with e|e|e|e|e|e
   ·subst e
    have c1:=HR.out.b1
    have c0:=HR.out.b0
    have x0:=aA c0 0 (.map (some ma)) rfl
    have x1:=aA c0 1 mh rfl
    have hlb:=(Az c1).1
    have ⟨d0,d1,d2,d3,d4,d5,d6,d7,d8,d9,d10,d11,d12,d13,d14⟩:=Ins.cells c1
    simp[rC] at d0 d1 d2 d3 d4 d5 d6 d7 d8 d9 d10 d11 d12 d13 d14
    have l0:=fun s:Later wr=>Later.cell x0 s
    have l1:=fun s:Later wr=>Later.cell x1 s
    have l7:=fun s:Later wr=>Later.cell d7 s
    clear d0 d1 d2 d3 d4 d5 d6 d8 d9 d10 d11 d12 d13 d14
    go_wp2
    refine bK 9 (by kernel_rfl) (by kernel_rfl) ?_
    dsimp only[List.take,List.drop]
    repeat (go_big_quiet_step ((go_at_call_of 55 (#[Value.agg #[.map (some ma),mh],.int .i64 r0]);exact Calls.later (HTH.out r0 _))))
    refine wpQuiet_nil ?_
    rintro w5 ⟨s',rfl⟩
    have hb5:=s'.h
    have y7:=l7 s'
    generalize s'.w=w5 at *
    have yf:=aK ((hb5.block _ hlb).trans c1) 7
    clear l0 l1 l7 c0 c1 x0 x1
    go_wp2
    exact⟨⟨1,by omega,by first | rfl | simp,RdC.next HR.out hb5 7 _ (by simp[rC,Ins.obj,eF])⟩,by simp[intOf];omega⟩
   ·subst e
    have c1:=HR.out.b1
    have c0:=HR.out.b0
    have x0:=aA c0 0 (.map (some ma)) rfl
    have x1:=aA c0 1 mh rfl
    have hlb:=(Az c1).1
    have ⟨d0,d1,d2,d3,d4,d5,d6,d7,d8,d9,d10,d11,d12,d13,d14⟩:=Ins.cells c1
    simp[rC] at d0 d1 d2 d3 d4 d5 d6 d7 d8 d9 d10 d11 d12 d13 d14
    have l0:=fun s:Later wr=>Later.cell x0 s
    have l1:=fun s:Later wr=>Later.cell x1 s
    have l7:=fun s:Later wr=>Later.cell d8 s
    go_wp2
    refine bK 9 (by kernel_rfl) (by kernel_rfl) ?_
    dsimp only[List.take,List.drop]
    repeat (go_big_quiet_step ((go_at_call_of 55 (#[Value.agg #[.map (some ma),mh],.int .i64 r1]);exact Calls.later (HTH.out r1 _))))
    refine wpQuiet_nil ?_
    rintro w5 ⟨s',rfl⟩
    have hb5:=s'.h
    have y7:=l7 s'
    generalize s'.w=w5 at *
    have yf:=aK ((hb5.block _ hlb).trans c1) 8
    clear l0 l1 l7 c0 c1 x0 x1
    go_wp2
    exact⟨⟨2,by omega,by first | rfl | simp,RdC.next HR.out hb5 8 _ (by simp[rC,Ins.obj,eF])⟩,by simp[intOf];omega⟩
   ·subst e
    have c1:=HR.out.b1
    have c0:=HR.out.b0
    have x0:=aA c0 0 (.map (some ma)) rfl
    have x1:=aA c0 1 mh rfl
    have hlb:=(Az c1).1
    have ⟨d0,d1,d2,d3,d4,d5,d6,d7,d8,d9,d10,d11,d12,d13,d14⟩:=Ins.cells c1
    simp[rC] at d0 d1 d2 d3 d4 d5 d6 d7 d8 d9 d10 d11 d12 d13 d14
    have l0:=fun s:Later wr=>Later.cell x0 s
    have l1:=fun s:Later wr=>Later.cell x1 s
    have l7:=fun s:Later wr=>Later.cell d9 s
    go_wp2
    refine bK 9 (by kernel_rfl) (by kernel_rfl) ?_
    dsimp only[List.take,List.drop]
    repeat (go_big_quiet_step ((go_at_call_of 55 (#[Value.agg #[.map (some ma),mh],.int .i64 r2]);exact Calls.later (HTH.out r2 _))))
    refine wpQuiet_nil ?_
    rintro w5 ⟨s',rfl⟩
    have hb5:=s'.h
    have y7:=l7 s'
    generalize s'.w=w5 at *
    have yf:=aK ((hb5.block _ hlb).trans c1) 9
    clear l0 l1 l7 c0 c1 x0 x1
    go_wp2
    exact⟨⟨3,by omega,by first | rfl | simp,RdC.next HR.out hb5 9 _ (by simp[rC,Ins.obj,eF])⟩,by simp[intOf];omega⟩
   ·subst e
    have c1:=HR.out.b1
    have c0:=HR.out.b0
    have x0:=aA c0 0 (.map (some ma)) rfl
    have x1:=aA c0 1 mh rfl
    have hlb:=(Az c1).1
    have ⟨d0,d1,d2,d3,d4,d5,d6,d7,d8,d9,d10,d11,d12,d13,d14⟩:=Ins.cells c1
    simp[rC] at d0 d1 d2 d3 d4 d5 d6 d7 d8 d9 d10 d11 d12 d13 d14
    have l0:=fun s:Later wr=>Later.cell x0 s
    have l1:=fun s:Later wr=>Later.cell x1 s
    have l7:=fun s:Later wr=>Later.cell d10 s
    go_wp2
    refine bK 9 (by kernel_rfl) (by kernel_rfl) ?_
    dsimp only[List.take,List.drop]
    repeat (go_big_quiet_step ((go_at_call_of 55 (#[Value.agg #[.map (some ma),mh],.int .i64 r3]);exact Calls.later (HTH.out r3 _))))
    refine wpQuiet_nil ?_
    rintro w5 ⟨s',rfl⟩
    have hb5:=s'.h
    have y7:=l7 s'
    generalize s'.w=w5 at *
    have yf:=aK ((hb5.block _ hlb).trans c1) 10
    clear l0 l1 l7 c0 c1 x0 x1
    go_wp2
    exact⟨⟨4,by omega,by first | rfl | simp,RdC.next HR.out hb5 10 _ (by simp[rC,Ins.obj,eF])⟩,by simp[intOf];omega⟩
   ·subst e
    have c1:=HR.out.b1
    have c0:=HR.out.b0
    have x0:=aA c0 0 (.map (some ma)) rfl
    have x1:=aA c0 1 mh rfl
    have hlb:=(Az c1).1
    have ⟨d0,d1,d2,d3,d4,d5,d6,d7,d8,d9,d10,d11,d12,d13,d14⟩:=Ins.cells c1
    simp[rC] at d0 d1 d2 d3 d4 d5 d6 d7 d8 d9 d10 d11 d12 d13 d14
    have l0:=fun s:Later wr=>Later.cell x0 s
    have l1:=fun s:Later wr=>Later.cell x1 s
    have l7:=fun s:Later wr=>Later.cell d11 s
    go_wp2
    refine bK 9 (by kernel_rfl) (by kernel_rfl) ?_
    dsimp only[List.take,List.drop]
    repeat (go_big_quiet_step ((go_at_call_of 55 (#[Value.agg #[.map (some ma),mh],.int .i64 r4]);exact Calls.later (HTH.out r4 _))))
    refine wpQuiet_nil ?_
    rintro w5 ⟨s',rfl⟩
    have hb5:=s'.h
    have y7:=l7 s'
    generalize s'.w=w5 at *
    have yf:=aK ((hb5.block _ hlb).trans c1) 11
    clear l0 l1 l7 c0 c1 x0 x1
    go_wp2
    exact⟨⟨5,by omega,by first | rfl | simp,RdC.next HR.out hb5 11 _ (by simp[rC,Ins.obj,eF])⟩,by simp[intOf];omega⟩
   ·subst e
    have c1:=HR.out.b1
    have c0:=HR.out.b0
    have x0:=aA c0 0 (.map (some ma)) rfl
    have x1:=aA c0 1 mh rfl
    have hlb:=(Az c1).1
    have ⟨d0,d1,d2,d3,d4,d5,d6,d7,d8,d9,d10,d11,d12,d13,d14⟩:=Ins.cells c1
    simp[rC] at d0 d1 d2 d3 d4 d5 d6 d7 d8 d9 d10 d11 d12 d13 d14
    have l0:=fun s:Later wr=>Later.cell x0 s
    have l1:=fun s:Later wr=>Later.cell x1 s
    have l7:=fun s:Later wr=>Later.cell d12 s
    go_wp2
    refine bK 9 (by kernel_rfl) (by kernel_rfl) ?_
    dsimp only[List.take,List.drop]
    repeat (go_big_quiet_step ((go_at_call_of 55 (#[Value.agg #[.map (some ma),mh],.int .i64 r5]);exact Calls.later (HTH.out r5 _))))
    refine wpQuiet_nil ?_
    rintro w5 ⟨s',rfl⟩
    have hb5:=s'.h
    have y7:=l7 s'
    generalize s'.w=w5 at *
    have yf:=aK ((hb5.block _ hlb).trans c1) 12
    clear l0 l1 l7 c0 c1 x0 x1
    go_wp2
    exact⟨⟨6,by omega,by first | rfl | simp,RdC.next HR.out hb5 12 _ (by simp[rC,Ins.obj,eF])⟩,by simp[intOf];omega⟩
  ·obtain rfl:m=N:=by omega
   have c1:=hr.b1
   have c2:=hr.b2
   have hone:=lN (rC g ⟨8,op,dst,a,b,(m:Int),text,r0,r1,r2,r3,r4,r5,to_,els⟩ m)
   have HBB:=Hz hr.b
   clear hr
   obtain⟨jj,hjj⟩:∃ jj,rC g ⟨8,op,dst,a,b,(m:Int),text,r0,r1,r2,r3,r4,r5,to_,els⟩ m=jj:=⟨_,rfl⟩
   rw[hjj] at c1 hone
   have h3:=wH hone c2
   have hl1:=(Az c1).1
   have hl2:=(Az c2).1
   go_wp2_with (first
    |(show wpList Try.prog _ _ (⟨some 50,_,_,_,_,_⟩::_) _ _;refine wpList_load_row rfl 32 (.tmp 3) rfl (w.heap.size+1) rfl 32 _ (0,0) _ c1 aZ rfl aS ?_)
    |(show wpList Try.prog _ _ (⟨none,.store _ (.tmp 4) _,_,_,_,_⟩::_) _ _;refine wpList_store_row rfl 32 (.tmp 4) (.tmp 50) rfl (w.heap.size+2) _ rfl rfl 32 _ c2 aS rfl hone ?_))
   (try simp only[Exit.inBlock,Exit.then])
   have ⟨e0,e1,e2,e3,e4,e5,e6,e7,e8,e9,e10,e11,e12,e13,e14⟩:=Ins.cells h3
   try simp only at e0 e1 e2 e3 e4 e5 e6 e7 e8 e9 e10 e11 e12 e13 e14
   refine bodyPost_ret (by simp[results,Try.results51,go_sem,e0,e1,e2,e3,e4,e5,e6,e7,e8,e9,e10,e11,e12,e13,e14];try rfl) rfl ?_
   subst hjj
   exact⟨rfl,below_setRow HBB.out (by omega) _⟩
theorem BR (g:Int→Option Int)(ma:Nat)(mh:Value)(i:Ins)(hn:i.kind=8→0≤i.n∧i.n≤6)(w:World)(hm:MapK kI w ma (mO g)) :
  Calls Try.prog 51 #[.agg #[.map (some ma),mh],i.agg] w fun e w'=>e = .returned (gU g i).agg∧Below w.heap.size w w':=by
 by_cases h8:i.kind=8
 ·exact zD g ma mh i h8 (hn h8) w hm
 by_cases hA:kA i.kind=true
 ·have h:=hA
  unfold kA at h
  simp only[Bool.or_eq_true,decide_eq_true_eq] at h
  by_cases h2:i.kind=3∨i.kind=7
  ·exact BQ g ma mh i h2 w hm
  ·exact BP g ma mh i (by omega) w hm
 ·have e:gU g i=i:=by
   have hB:kB i.kind=false:=by
    cases hb:kB i.kind with
    | false=>rfl
    | true =>
     exfalso
     apply hA
     unfold kB at hb
     unfold kA
     simp only[Bool.or_eq_true,decide_eq_true_eq] at hb ⊢
     omega
   unfold gU
   simp[hA,hB,h8]
  rw[e]
  exact zC ma mh i ⟨by simpa using hA,h8⟩ w
structure Two (p q:Nat)(W W':World):Prop where
 os:W'.os=W.os
 tape:W'.tape=W.tape
 output:W'.output=W.output
 size:W.heap.size≤W'.heap.size
 same:∀ b,b<W.heap.size→b≠p→b≠q→W'.heap[b]? = W.heap[b]?
theorem Two.refl (p q:Nat)(W:World):Two p q W W:=⟨rfl,rfl,rfl,Nat.le_refl _,fun _ _ _ _=>rfl⟩
theorem Two.trans {p q:Nat}{a b c:World}(h:Two p q a b)(k:Two p q b c):Two p q a c :=
 ⟨k.os.trans h.os,k.tape.trans h.tape,k.output.trans h.output,Nat.le_trans h.size k.size,fun i hi h1 h2=>(k.same i (Nat.lt_of_lt_of_le hi h.size) h1 h2).trans (h.same i hi h1 h2)⟩
theorem Two.later {p q:Nat}{a b c:World}(h:Two p q a b)(k:Below b.heap.size b c):Two p q a c :=
 ⟨k.os.trans h.os,k.tape.trans h.tape,k.output.trans h.output,Nat.le_trans h.size k.size,fun i hi h1 h2=>(k.block i (Nat.lt_of_lt_of_le hi h.size)).trans (h.same i hi h1 h2)⟩
theorem Two.grown {p q r:Nat}{a b c:World}(h:Two p q a b)(k:b.grownBy c (some r))(hr:r=p∨r=q∨a.heap.size≤r):Two p q a c :=
 ⟨k.os.trans h.os,k.tape.trans h.tape,k.output.trans h.output,Nat.le_trans h.size k.size,fun i hi h1 h2=>(k.block i (Nat.lt_of_lt_of_le hi h.size) (fun e=>by injection e with e;omega)).trans (h.same i hi h1 h2)⟩
theorem Two.below {p q B:Nat}{a b:World}(h:Two p q a b)(hp:B≤p)(hq:B≤q)(hB:B≤a.heap.size):Below B a b:=⟨h.os,h.tape,h.output,h.size,fun i hi=>h.same i (by omega) (by omega) (by omega)⟩
def LG (am:Int→Option Int)(r:Int):Int→Option Int:=fun k=>if k=r∨am k=some r then none else am k
def MG (ha:Ins→Option Int)(r:Int):Ins→Option Int:=fun i=>if ha i=some r∨r ∈ i.uses then none else ha i
theorem xK (g:Int→Option Int)(x:Int):eI (mO g) x none=mO (fun y=>if y=x then none else g y):=by
 funext y
 by_cases h:y=x <;> simp[eI,mO,h]
theorem EC (g:Ins→Option Int)(x:Ins):eI (pS g) x none=pS (fun y=>if y=x then none else g y):=by
 funext y
 by_cases h:y=x <;> simp[eI,pS,h]
structure MZ (w wr:World)(ma mh rb:Nat)(am:Int→Option Int)(ha:Ins→Option Int)(r:Int)(l:List Int):Prop where
 x:wr.heap[w.heap.size]? = some (.cells #[.map (some ma),.map (some mh)] 73)
 it:∃ g,RgK kI wr rb ma (mO g) l∧∀ k,g k=if k=r∨(k ∉ l∧am k=some r) then none else am k
 has:MapK Ins.agg wr mh (pS ha)
 two:Two ma mh w wr
 rb:w.heap.size≤rb
structure NB (w wr:World)(ma mh rb:Nat)(am:Int→Option Int)(ha:Ins→Option Int)(r:Int)(l:List Ins):Prop where
 x:wr.heap[w.heap.size]? = some (.cells #[.map (some ma),.map (some mh)] 73)
 it:∃ g,RgK Ins.agg wr rb mh (pS g) l∧∀ k,g k=if (k ∉ l∧(ha k=some r∨r ∈ k.uses)) then none else ha k
 am:MapK kI wr ma (mO (LG am r))
 two:Two ma mh w wr
 rb:w.heap.size<rb
theorem wI (am:Int→Option Int)(ha:Ins→Option Int)(ma mh:Nat)(hne:ma≠mh)(r:Int)(w:World)(hm:MapK kI w ma (mO am))(hh:MapK Ins.agg w mh (pS ha)) :
  Calls Try.prog 54 #[.agg #[.map (some ma),.map (some mh)],.int .i64 r] w fun e w'=>e = .returned (.tuple #[])∧MapK kI w' ma (mO (LG am r))∧MapK Ins.agg w' mh (pS (MG ha r))∧Two ma mh w w':=by
 have hB:=Below.one w (.cells #[.map (some ma),.map (some mh)] 73)
 have bx:=heap_alloc_new w (.cells #[.map (some ma),.map (some mh)] 73)
 have hl1:=hm.lt
 have hl2:=hh.lt
 have hm1:=hm.below hB hl1
 have hh1:=hh.below hB hl2
 have ht1:=(Two.refl ma mh w).later hB
 obtain⟨W,hW⟩:∃ W,w.alloc (.cells #[.map (some ma),.map (some mh)] 73)=W:=⟨_,rfl⟩
 have hsW:W.heap.size=w.heap.size+1:=by rw[←hW];simp
 rw[hW] at bx hm1 hh1 ht1
 have g0:=aA bx 0 (.map (some ma)) rfl
 have g1:=aA bx 1 (.map (some mh)) rfl
 have HM:=Hz hm1
 have HH:=Hz hh1
 have HT:=Hz ht1
 have HX:=Hz bx
 clear hB bx hm hh hm1 hh1 ht1
 go_enter Try.func54,Try.ntmps54
 go_wp2_with (first
  |(show wpList Try.prog _ _ (⟨none,.call _,_,_,_,_⟩::_) _ _;refine lL pE _ rfl (.tmp 12) (.tmp 13) 70 3 rfl fO ma _ rfl HM.out r rfl ?_;intro w1 hm2 hg2 hz2;have c2:=(hg2.block w.heap.size (by omega) (fun e=>by injection e with e;omega)).trans HX.out;have k0:=aA c2 0 (.map (some ma)) rfl;have k1:=aA c2 1 (.map (some mh)) rfl)
  |(at_range;refine gS pE _ rfl (.tmp 15) 70 rfl fO ma _ rfl hm2 ?_;intro lst o' hrg hall))
 go_frame
 have hlen0:w.heap.size<w1.heap.size:=by omega
 rw[xK] at hrg
 have H0:Hid (MZ w (w1.alloc o') ma mh w1.heap.size am ha r lst):=Hz
  ⟨((Below.one w1 o').block _ (by omega)).trans c2,⟨_,hrg,fun k=>by
   by_cases hk:k=r
   ·rw[if_pos hk,if_pos (Or.inl hk)]
   ·rw[if_neg hk]
    by_cases hc:k ∉ lst∧am k=some r
    ·exfalso
     apply hc.1
     rw[hall k]
     simp[eI,hk,mO,hc.2]
    ·rw[if_neg (fun h=>h.elim hk hc)]⟩,(HH.out.kept hg2 (fun e=>by injection e with e;omega)).below (Below.one _ _) (by have:=HH.out.lt;omega),(HT.out.grown hg2 (Or.inl rfl)).later (Below.one _ _),by omega⟩
 clear hrg hall hm2 hg2 c2 k0 k1 g0 g1 hW hz2 hsW
 go_loopg [17] lst.length (fun g V wr=>∃ l,g=l.length∧MZ w wr ma mh w1.heap.size am ha r l)
 case atStart=>exact⟨lst,rfl,H0.out⟩
 case round =>
  obtain⟨l,hg,hF⟩:=hrel
  obtain⟨g',hrg,hgk⟩:=hF.it
  have HF:=Hz hF
  have HG:=Hz hg
  have HRG:=Hz hrg
  have HGK:=Hz hgk
  clear hg hF hrg hgk H0
  go_wp2_with (first
   |(at_next;refine iM pE _ rfl (.tmp 16) rfl w1.heap.size ma _ l rfl HRG.out ?_ ?_))
  ·intro hl
   obtain⟨w8,rfl⟩:∃ w8:World,w8=wr:=⟨_,rfl⟩
   have hgf:g'=LG am r:=by
    funext k
    rw[HGK.out k,hl]
    unfold LG
    simp
   subst hl
   have hbx8:=HF.out.x
   have hs8:=(Az hbx8).1
   have k1:=aA hbx8 1 (.map (some mh)) rfl
   have HA8:=Hz (RgK.map HRG.out)
   rw[hgf] at HA8
   have HH8:=Hz HF.out.has
   have HT8:=Hz HF.out.two
   have HX8:=Hz hbx8
   clear hgf hbx8 HRG HGK HG HF
   go_wp2_with (first
    |(at_range;refine gS rA _ rfl (.tmp 29) 71 rfl gT mh _ rfl HH8.out ?_;intro lst2 o2 hrg2 hall2))
   go_frame
   have H2:Hid (NB w (w8.alloc o2) ma mh w8.heap.size am ha r lst2):=Hz
    ⟨((Below.one w8 o2).block _ hs8).trans HX8.out,⟨ha,hrg2,fun k=>by
     by_cases hc:k ∉ lst2∧(ha k=some r∨r ∈ k.uses)
     ·rw[if_pos hc]
      cases hk:ha k with
      | none=>rfl
      | some v =>
       exfalso
       apply hc.1
       rw[hall2 k]
       simp[pS,hk]
     ·rw[if_neg hc]⟩,HA8.out.below (Below.one _ _) HA8.out.lt,HT8.out.later (Below.one _ _),hs8⟩
   clear hrg2 hall2 k1
   go_loopg [31] lst2.length (fun g V wr=>∃ l,g=l.length∧NB w wr ma mh w8.heap.size am ha r l)
   case atStart=>exact⟨lst2,rfl,H2.out⟩
   case round =>
    obtain⟨w9,rfl⟩:∃ w9:World,w9=wr:=⟨_,rfl⟩
    obtain⟨l,hg,hF⟩:=hrel
    obtain⟨g',hrg,hgk⟩:=hF.it
    have HF:=Hz hF
    have HG:=Hz hg
    have HRG:=Hz hrg
    have HGK:=Hz hgk
    clear hg hF hrg hgk H2
    go_wp2_with (first
     |(at_next;refine iM rA _ rfl (.tmp 30) rfl w8.heap.size mh _ l rfl HRG.out ?_ ?_))
    ·intro hl
     have hgf:g'=MG ha r:=by
      funext k
      rw[HGK.out k,hl]
      unfold MG
      simp
     have HM9:=Hz (RgK.map HRG.out)
     rw[hgf] at HM9
     go_wp2
     go_returns
     exact⟨rfl,HF.out.am,HM9.out,HF.out.two⟩
    ·intro x v w2 hx a hga hva hrg2 hg2 hz2 hen
     subst hva
     have hax:ha x=some a:=by
      have:=HGK.out x
      rw[hga] at this
      split at this
      ·cases this
      ·exact this.symm
     have hs9:=(Az HF.out.x).1
     have hbx2:=(hg2.block w.heap.size hs9 (fun e=>by injection e with e;omega)).trans HF.out.x
     obtain⟨L,hL⟩:∃ L,l.filter (fun y=>!decide (y=x))=L:=⟨_,rfl⟩
     have hmem:∀ y,y ∈ L↔y ∈ l∧y≠x:=fun y=>by rw[←hL,List.mem_filter];simp
     have hll:L.length<l.length:=by rw[←hL];exact List.length_filter_lt_length_iff_exists.2 ⟨x,hx,by simp⟩
     rw[hL] at hrg2
     have HRG2:=Hz hrg2
     have HL:=Hz hll
     have HME:=Hz hmem
     have HA2:=Hz (HF.out.am.kept hg2 (fun e=>by injection e with e;omega))
     have HT2:=Hz (HF.out.two.grown hg2 (Or.inr (Or.inr (by omega))))
     have HBX2:=Hz hbx2
     have hs2:w.heap.size<w2.heap.size:=by omega
     have HUS:=Hz (gM x)
     have hkx:=heap_alloc_new w2 x.obj
     have HKX:=Hz hkx
     have ⟨d0,d1,d2,d3,d4,d5,d6,d7,d8,d9,d10,d11,d12,d13,d14⟩:=Ins.cells hkx
     simp only[Ins.obj] at d0 d1 d2 d3 d4 d5 d6 d7 d8 d9 d10 d11 d12 d13 d14
     clear hrg2 hL hmem hll hbx2 hkx
     go_wp2_with fail
     refine (HUS.out _).mono ?_
     rintro e w4 ⟨⟨A,cap,rfl,hrd⟩,hb4⟩
     have hk4:=(hb4.block _ (Az HKX.out).1).trans HKX.out
     have hb24:=(Below.one w2 x.obj).trans (hb4.mono (by simp))
     have HK4:=Hz hk4
     have hbx4:=(hb24.block _ hs2).trans HBX2.out
     have HX4:=Hz hbx4
     have hs4:=(Az hbx4).1
     have HRG4:=Hz (HRG2.out.below hb24)
     have HA4:=Hz (HA2.out.below hb24 HA2.out.lt)
     have HT4:=Hz (HT2.out.later hb24)
     have HU:=Hz (Ins.uses_len x)
     obtain⟨U,hU⟩:∃ U,x.uses=U:=⟨_,rfl⟩
     obtain⟨n,hn⟩:∃ n,U.length=n:=⟨_,rfl⟩
     rw[hU] at hrd HU ⊢
     rw[hn] at HU ⊢
     have HRD:=Hz hrd
     have HN:=Hz hn
     have HUU:=Hz hU
     have hnl:=HU.out
     clear hrd hb4 hb24 hk4 hbx4 d0 d1 d2 d3 d4 d5 d6 d7 d8 d9 d10 d11 d12 d13 d14 hen hn hU
     go_wp2_with fail
     go_loopw [8,42] (fun hv ix wq=>∃ m:Nat,m≤n∧ix = .int .i64 m∧hv = .bool ((a==r) || (U.take m).any fun u=>u==r)∧wq=w4) (fun _ ix _=>n-(intOf ix).toNat)
     case atStart=>exact⟨0,by omega,rfl,by simp,rfl⟩
     case round =>
      obtain⟨m,hm,rfl,rfl,hwq⟩:=hrel
      subst hwq
      by_cases hlt:m<n
      ·obtain⟨u,hu⟩:∃ u,U[m]? = some u:=⟨_,List.getElem?_eq_getElem (by rw[HN.out];exact hlt)⟩
       obtain⟨b,o,rfl,hbl,hcu⟩:=HRD.out m u hu
       have htk:(U.take (m+1)).any (fun u=>u==r)=((U.take m).any (fun u=>u==r) || (u==r)):=by
        rw[List.take_add_one,hu,Option.toList_some,List.any_append];simp
       have HTK:=Hz htk
       obtain⟨z,hz⟩:∃ z,((a==r) || (U.take m).any fun u=>u==r)=z:=⟨_,rfl⟩
       have HZ:=Hz hz
       rw[hz]
       clear htk hz
       cases z
       ·go_wp2
        exact⟨⟨m+1,by omega,by go_num,by rw[HTK.out,←Bool.or_assoc,HZ.out];simp,by first | rfl | trivial⟩,by simp[intOf];omega⟩
       ·go_wp2
        exact⟨⟨m+1,by omega,by go_num,by rw[HTK.out,←Bool.or_assoc,HZ.out];simp,by first | rfl | trivial⟩,by simp[intOf];omega⟩
      ·obtain rfl:m=n:=by omega
       have htk:U.take m=U:=List.take_of_length_le (by rw[HN.out];omega)
       rw[htk]
       obtain⟨z,hz⟩:∃ z,((a==r) || U.any fun u=>u==r)=z:=⟨_,rfl⟩
       have hzi:z=true↔(ha x=some r∨r ∈ x.uses):=by
        rw[←hz,HUU.out,hax,Bool.or_eq_true,beq_iff_eq,List.any_eq_true]
        constructor
        ·rintro (h|⟨u,hu,h⟩)
         ·exact Or.inl (by rw[h])
         ·exact Or.inr (by rw[←(beq_iff_eq.1 h)];exact hu)
        ·rintro (h|h)
         ·exact Or.inl (by injection h)
         ·exact Or.inr ⟨r,h,by simp⟩
       have HZI:=Hz hzi
       rw[hz]
       have k1:=aA HX4.out 1 (.map (some mh)) rfl
       have hk4:=HK4.out
       rw[hz2] at hk4
       have ⟨d0,d1,d2,d3,d4,d5,d6,d7,d8,d9,d10,d11,d12,d13,d14⟩:=Ins.cells hk4
       try simp only at d0 d1 d2 d3 d4 d5 d6 d7 d8 d9 d10 d11 d12 d13 d14
       clear htk hz hzi hk4
       cases z with
       | true =>
        go_wp2_with (first
         |(show wpList Try.prog _ _ (⟨none,.call _,_,_,_,_⟩::_) _ _;refine fG rA _ rfl (.tmp 55) (.tmp 56) 71 32 rfl gT w8.heap.size mh _ L rfl HRG4.out x (fun h=>((HME.out x).1 h).2 rfl) rfl ?_;intro w5 hrg5 hg5 hz5))
        rw[EC] at hrg5
        go_roundg L.length
        case measure=>rw[HG.out];exact HL.out
        case rel =>
         refine⟨L,rfl,⟨(hg5.block _ hs4 (fun e=>by injection e with e;omega)).trans HX4.out,⟨_,hrg5,fun k=>?_⟩,HA4.out.kept hg5 (fun e=>by injection e with e;omega),HT4.out.grown hg5 (Or.inr (Or.inl rfl)),by omega⟩⟩
         by_cases hkx:k=x
         ·subst hkx
          rw[if_pos rfl,if_pos ⟨fun h=>((HME.out k).1 h).2 rfl,HZI.out.1 (by trivial)⟩]
         ·rw[if_neg hkx,HGK.out k]
          have:(k ∉ l∧(ha k=some r∨r ∈ k.uses))↔(k ∉ L∧(ha k=some r∨r ∈ k.uses)):=by rw[HME.out k];simp[hkx]
          simp only[this]
       | false =>
        go_wp2
        go_roundg L.length
        case measure=>rw[HG.out];exact HL.out
        case rel =>
         refine⟨L,rfl,⟨HX4.out,⟨_,HRG4.out,fun k=>?_⟩,HA4.out,HT4.out,by omega⟩⟩
         rw[HGK.out k]
         by_cases hkx:k=x
         ·subst hkx
          have e1:¬ (k ∉ l∧(ha k=some r∨r ∈ k.uses)):=fun h=>h.1 hx
          have e2:¬ (k ∉ L∧(ha k=some r∨r ∈ k.uses)):=fun h=>by have:=HZI.out.2 h.2;cases this
          rw[if_neg e1,if_neg e2]
         ·have:(k ∉ l∧(ha k=some r∨r ∈ k.uses))↔(k ∉ L∧(ha k=some r∨r ∈ k.uses)):=by rw[HME.out k];simp[hkx]
          simp only[this]
  ·intro x v w2 hx a hga hva hrg2 hg2 hz2 hen
   subst hva
   have hxr:x≠r:=fun e=>by
    have:=HGK.out x
    rw[if_pos (Or.inl e),hga] at this
    cases this
   have hax:am x=some a:=by
    have:=HGK.out x
    rw[hga] at this
    split at this
    ·cases this
    ·exact this.symm
   have hbx2:=(hg2.block w.heap.size (Az HF.out.x).1 (fun e=>by injection e with e;omega)).trans HF.out.x
   have k0:=aA hbx2 0 (.map (some ma)) rfl
   obtain⟨L,hL⟩:∃ L,l.filter (fun y=>!decide (y=x))=L:=⟨_,rfl⟩
   have hmem:∀ y,y ∈ L↔y ∈ l∧y≠x:=fun y=>by rw[←hL,List.mem_filter];simp
   have hll:L.length<l.length:=by rw[←hL];exact List.length_filter_lt_length_iff_exists.2 ⟨x,hx,by simp⟩
   rw[hL] at hrg2
   have HRG2:=Hz hrg2
   have HL:=Hz hll
   have HME:=Hz hmem
   have HH2:=Hz (HF.out.has.kept hg2 (fun e=>by injection e with e;omega))
   have HT2:=Hz (HF.out.two.grown hg2 (Or.inr (Or.inr (by omega))))
   have HBX2:=Hz hbx2
   have hs2:w.heap.size<w2.heap.size:=by have:=(Az HF.out.x).1;omega
   clear hrg2 hL hmem hll hbx2
   by_cases har:a=r
   ·subst har
    go_wp2_with (first
     |(show wpList Try.prog _ _ (⟨none,.call _,_,_,_,_⟩::_) _ _;refine fG pE _ rfl (.tmp 26) (.tmp 27) 70 3 rfl fO w1.heap.size ma _ L rfl HRG2.out x (fun h=>((HME.out x).1 h).2 rfl) rfl ?_;intro w3 hrg3 hg3 hz3))
    rw[xK] at hrg3
    go_roundg L.length
    case measure=>rw[HG.out];exact HL.out
    case rel =>
     refine⟨L,rfl,⟨(hg3.block _ (by omega) (fun e=>by injection e with e;omega)).trans HBX2.out,⟨_,hrg3,fun k=>?_⟩,HH2.out.kept hg3 (fun e=>by injection e with e;omega),HT2.out.grown hg3 (Or.inl rfl),by omega⟩⟩
     by_cases hkx:k=x
     ·subst hkx
      rw[if_pos rfl,if_pos (Or.inr ⟨fun h=>((HME.out k).1 h).2 rfl,hax⟩)]
     ·rw[if_neg hkx,HGK.out k]
      have:(k ∉ l∧am k=some a)↔(k ∉ L∧am k=some a):=by rw[HME.out k];simp[hkx]
      simp only[this]
   ·have hq:(a==r)=false:=by simpa using har
    go_wp2
    go_roundg L.length
    case measure=>rw[HG.out];exact HL.out
    case rel =>
     refine⟨L,rfl,⟨HBX2.out,⟨_,HRG2.out,fun k=>?_⟩,HH2.out,HT2.out,by omega⟩⟩
     rw[HGK.out k]
     by_cases hkx:k=x
     ·subst hkx
      have e1:¬ (k=r∨(k ∉ l∧am k=some r)):=fun h=>h.elim hxr (fun h=>h.1 hx)
      have e2:¬ (k=r∨(k ∉ L∧am k=some r)):=fun h=>h.elim hxr (fun h=>har (by rw[hax] at h;injection h.2))
      rw[if_neg e1,if_neg e2]
     ·have:(k ∉ l∧am k=some r)↔(k ∉ L∧am k=some r):=by rw[HME.out k];simp[hkx]
      simp only[this]
theorem zE (x:Ins)(r:Int)(w:World):Calls Try.prog 56 #[x.agg,.int .i64 r] w fun e w'=>e = .returned (.bool (decide (r ∈ x.uses)))∧Below w.heap.size w w':=by
 have hB:=Below.one w x.obj
 have bx:=heap_alloc_new w x.obj
 have HUS:=Hz (gM x)
 have HUL:=Hz (Ins.uses_len x)
 have ⟨d0,d1,d2,d3,d4,d5,d6,d7,d8,d9,d10,d11,d12,d13,d14⟩:=Ins.cells bx
 have HB:=Hz hB
 obtain⟨U,hU⟩:∃ U,x.uses=U:=⟨_,rfl⟩
 obtain⟨n,hn⟩:∃ n,U.length=n:=⟨_,rfl⟩
 rw[hU] at HUS HUL ⊢
 rw[hn] at HUL
 have HN:=Hz hn
 have hnl:=HUL.out
 clear hB bx hU hn
 go_enter Try.func56,Try.ntmps56
 go_wp2_with fail
 refine (HUS.out _).mono ?_
 rintro e w4 ⟨⟨A,cap,rfl,hrd⟩,hb4⟩
 have HB4:=Hz (HB.out.trans (hb4.mono HB.out.size))
 rw[HN.out]
 have HRD:=Hz hrd
 clear hrd hb4 d0 d1 d2 d3 d4 d5 d6 d7 d8 d9 d10 d11 d12 d13 d14
 go_wp2_with fail
 go_loopw [10] (fun ix wq=>∃ m:Nat,m≤n∧ix = .int .i64 m∧wq=w4∧∀ (j:Nat) u,j<m→U[j]? = some u→u≠r) (fun ix _=>n-(intOf ix).toNat)
 case atStart=>exact⟨0,by omega,rfl,rfl,fun j u hj=>by omega⟩
 case round =>
  obtain⟨m,hm,rfl,hwq,hno⟩:=hrel
  subst hwq
  have HNO:=Hz hno
  clear hno
  by_cases hlt:m<n
  ·obtain⟨u,hu⟩:∃ u,U[m]? = some u:=⟨_,List.getElem?_eq_getElem (by rw[HN.out];exact hlt)⟩
   obtain⟨b,o,rfl,hbl,hcu⟩:=HRD.out m u hu
   by_cases hur:u=r
   ·subst hur
    have hmem:decide (u ∈ U)=true:=by simpa using Mz hu
    have HME:=Hz hmem
    clear hmem
    go_wp2
    go_returns
    exact⟨by have h:=HME.out;simpa using h,HB4.out⟩
   ·have hq:(u==r)=false:=by simpa using hur
    have HU:=Hz hu
    clear hu
    go_wp2
    exact⟨⟨m+1,by omega,by go_num,by first | rfl | trivial,fun j v hj hv=>by
     by_cases hjm:j=m
     ·subst hjm
      rw[HU.out] at hv
      injection hv with hv
      rw[←hv];exact hur
     ·exact HNO.out j v (by omega) hv⟩,by simp[intOf];omega⟩
  ·obtain rfl:m=n:=by omega
   have hmem:decide (r ∈ U)=false:=by
    rw[decide_eq_false_iff_not]
    intro h
    obtain⟨j,hj⟩:=List.mem_iff_getElem?.1 h
    exact HNO.out j r (by have:=(Lz hj).1;rw[HN.out] at this;exact this) hj rfl
   have HME:=Hz hmem
   clear hmem
   go_wp2
   go_returns
   exact⟨by have h:=HME.out;simpa using h,HB4.out⟩
def fK (l:List Ins)(k:Nat):Nat→Bool:=fun p=>decide (p=0) || (List.range k).any fun q=>decide (11≤(bA l q).kind) && (decide (q+1=p) || decide ((p:Int) ∈ (bA l q).next q))
theorem IA (l:List Ins):fK l l.length=first l:=rfl
theorem ED (l:List Ins):fK l 0=eS (fun _=>false) 0:=by
 funext p
 simp[fK,eS]
theorem xL (l:List Ins)(k p:Nat):fK l (k+1) p=(fK l k p || (decide (11≤(bA l k).kind) && (decide (k+1=p) || decide ((p:Int) ∈ (bA l k).next k)))):=by
 unfold fK
 rw[List.range_succ,List.any_append]
 simp[Bool.or_assoc]
def fM (l:List Ins)(k m:Nat):Nat→Bool:=fun p=>fK l k p || ((((bA l k).next k).take m).any fun n=>decide (n=(p:Int)))
theorem EE (l:List Ins)(k:Nat):fM l k 0=fK l k:=by
 funext p
 simp[fM]
theorem EF (l:List Ins)(k m:Nat)(n:Nat)(h:((bA l k).next k)[m]? = some (n:Int)):fM l k (m+1)=eS (fM l k m) n:=by
 funext p
 unfold fM eS
 rw[List.take_add_one,h,Option.toList_some,List.any_append]
 by_cases hp:p=n
 ·subst hp;simp
 ·have:¬ ((n:Int)=(p:Int)):=by omega
  simp[hp,this]
theorem IB (l:List Ins)(k:Nat)(h:11≤(bA l k).kind):eS (fM l k ((bA l k).next k).length) (k+1)=fK l (k+1):=by
 funext p
 rw[xL]
 unfold eS fM
 rw[List.take_length]
 simp only[h,decide_true,Bool.true_and]
 have e1:decide (p=k+1)=decide (k+1=p):=by simp[eq_comm]
 have e2:(((bA l k).next k).any fun n=>decide (n=(p:Int)))=decide ((p:Int) ∈ (bA l k).next k):=by
  rw[Bool.eq_iff_iff]
  simp
 rw[e1,e2]
 cases fK l k p <;> cases decide (k+1=p) <;> simp
theorem IC (l:List Ins)(k:Nat)(h:¬ 11≤(bA l k).kind):fK l (k+1)=fK l k:=by
 funext p
 rw[xL]
 simp[h]
theorem ID {N:Nat}{m:Nat→Bool}{p:Nat}(h:N≤p):bl N (eS m p)=bl N m:=by
 unfold bl
 apply List.map_congr_left
 intro q hq
 have:=List.mem_range.1 hq
 have:q≠p:=by omega
 simp[eS,this]
def IE (f:aR)(N base:Nat)(e:Ending)(w:World):Prop:=∃ ob,e = .returned (.slice (some ⟨ob,0,none⟩) N N)∧base≤ob∧Pre gB 1 4 w ob (bl N (first f.code))
theorem wJ (f:aR)(hf:OkF f)(C:Option Addr)(cap:Nat)(w:World)(hC:RdI w C f.code) :
  Calls Try.prog 17 #[aH f.nm f.ps f.R f.Fr C f.code.length cap] w fun e w'=>IE f f.code.length w.heap.size e w'∧Below w.heap.size w w':=by
 obtain⟨N,hN⟩:∃ N,f.code.length=N:=⟨_,rfl⟩
 have hN2:N≤8192:=by rw[←hN];exact hf.len.2
 have hN1:1≤N:=by rw[←hN];exact hf.len.1
 have hB:=Below.one w (aD f.nm f.ps f.R f.Fr C f.code.length cap)
 have bx:=heap_alloc_new w (aD f.nm f.ps f.R f.Fr C f.code.length cap)
 have hC1:=hC.below hB
 have hR:=gK f hf C cap _ hC1
 rw[hN] at hB bx hC1 hR ⊢
 simp only[aD,aH] at hB bx hC1 hR ⊢
 have HF:=Hz hf
 have HN:=Hz hN
 have HC1:=Hz hC1
 have HB:=Hz hB
 have HR:=Hz hR
 obtain⟨W,hW⟩:∃ W,w.alloc (.cells #[.string f.nm,.int .i64 f.ps,.int .i64 f.R,.int .i64 f.Fr,.slice C N cap] 24)=W:=⟨_,rfl⟩
 rw[hW] at bx HC1 HB HR
 have HBX:=Hz bx
 have hBl:=(Az bx).1
 have g0:=aA bx 0 (.string f.nm) rfl
 have g1:=aA bx 1 (.int .i64 f.ps) rfl
 have g2:=aA bx 2 (.int .i64 f.R) rfl
 have g3:=aA bx 3 (.int .i64 f.Fr) rfl
 have g4:=aA bx 4 (.slice C N cap) rfl
 clear hf hN hC hB hC1 bx hR
 go_enter Try.func17,Try.ntmps17
 go_wp2_with fail
 refine HR.out.mono ?_
 rintro e w1 ⟨rfl,hb1⟩
 have c1:=(hb1.block _ hBl).trans HBX.out
 have h4:=aA c1 4 (.slice C N cap) rfl
 have HB1:=Hz (HB.out.trans (hb1.mono HB.out.size))
 have HC2:=Hz (HC1.out.below hb1)
 have HX1:=Hz c1
 have hl1:=(Az c1).1
 have hmk:=fun W=>kH N (by omega) W
 have hpm:=dX (g:=gB) (d:=1) (t:=4) w1 #[.bool false] N false rfl (fun k hk=>by
  obtain rfl:k=0:=by omega
  rfl)
 rw[Nat.mul_one,show List.replicate N false=bl N (fun _=>false) by
  apply List.ext_getElem?
  intro j
  by_cases hj:j<N
  ·rw[fW hj];simp[hj]
  ·rw[List.getElem?_eq_none (by simp;omega),List.getElem?_eq_none (by simp[bl];omega)]] at hpm
 have hP2:=PreB.set hpm (j:=0) (by simp[bl];omega) true
 rw[rX,←ED f.code] at hP2
 have HP2:=Hz hP2
 have hbm:=(Below.one w1 (.cells (madeCells #[.bool false] N) 4)).setCell (p:=⟨w1.heap.size,0,none⟩) (Nat.le_refl _) (.bool true)
 have HBM:=Hz hbm
 have hmf:=Pre.free hpm 0
 have hm0:=PreB.cell hpm (fW (m:=fun _=>false) (show 0<N by omega))
 have hml:=Pre.lt hpm
 have hk4:=aA (((hbm.block _ hl1)).trans c1) 4 (.slice C N cap) rfl
 clear hb1 c1 hpm hP2 hW hbm g0 g1 g2 g3 g4
 go_wp2_with fail
 have HP3:Hid (Pre gB 1 4 (w1.alloc (.cells ((madeCells #[.bool false] N).setIfInBounds 0 (.bool true)) 4)) w1.heap.size (bl N (fK f.code 0))):=Hz (by have h:=HP2.out;rw[World.setCell_alloc_at _ _ _ _ _ rfl] at h;exact h)
 have HB3:Hid (Below w1.heap.size w1 (w1.alloc (.cells ((madeCells #[.bool false] N).setIfInBounds 0 (.bool true)) 4))):=Hz (Below.one _ _)
 clear hmk hmf hm0 hml hk4 h4
 go_loopw [20] (fun ix wr=>∃ k:Nat,k≤N∧ix = .int .i64 k∧Pre gB 1 4 wr w1.heap.size (bl N (fK f.code k))∧Below w1.heap.size w1 wr) (fun ix _=>N-(intOf ix).toNat)
 case atStart=>exact⟨0,by omega,rfl,HP3.out,HB3.out⟩
 case round =>
  obtain⟨k,hk,rfl,hpre,hb⟩:=hrel
  have HP:=Hz hpre
  have HBR:=Hz hb
  have hsr:=hb.size
  have hol:=Pre.lt hpre
  clear HP3 HB3 hpre
  by_cases hlt:k<N
  ·have hi:=cH (show k<f.code.length by rw[HN.out];exact hlt)
   have hrI:=HC2.out.below hb
   obtain⟨bb,oo,rfl,hbl2,hcs⟩:=hrI k _ hi
   obtain⟨x0,x1,x2,x3,x4,x5,x6,x7,x8,x9,x10,x11,x12,x13,x14⟩:=RdI.load hcs
   have kx:=heap_alloc_new wr (bA f.code k).obj
   have hnx:=fun W=>xA (bA f.code k) k (by omega) W
   have hnl:=Ins.next_len (bA f.code k) k
   have hin:=fun (n:Int) hn=>HF.out.next hi n hn
   have hlow:=IC f.code k
   have hall:=IB f.code k
   have hsc:=EF f.code k
   have hze:=EE f.code k
   have HKX:=Hz kx
   rw[HN.out] at hin
   obtain⟨nx,hnxe⟩:∃ nx,(bA f.code k).next k=nx:=⟨_,rfl⟩
   rw[hnxe] at hnx hnl hin hall hsc
   have ⟨d0,d1,d2,d3,d4,d5,d6,d7,d8,d9,d10,d11,d12,d13,d14⟩:=Ins.cells kx
   simp only[Ins.obj,Ins.agg] at x0 x1 x2 x3 x4 x5 x6 x7 x8 x9 x10 x11 x12 x13 x14 d0 d1 d2 d3 d4 d5 d6 d7 d8 d9 d10 d11 d12 d13 d14 hnx
   have HNX:=Hz hnx
   have HIN:=Hz hin
   have HLOW:=Hz hlow
   have HALL:=Hz hall
   have HSC:=Hz hsc
   have HZE:=Hz hze
   have HBK:=Hz ((Below.one wr (bA f.code k).obj))
   clear hnx hin hlow hall hsc hze hi hcs hrI hb kx hnxe
   by_cases h11:(bA f.code k).kind<11
   ·have hq:decide ((bA f.code k).kind<11)=true:=by simpa using h11
    go_wp2
    exact⟨⟨k+1,by omega,by go_num,by rw[HLOW.out (by omega)];exact Pre.later HP.out HBK.out,HBR.out.trans (HBK.out.mono hsr)⟩,by simp[intOf];omega⟩
   ·have hq:decide ((bA f.code k).kind<11)=false:=by simpa using h11
    have hPk:=Pre.later HP.out HBK.out
    go_wp2_with fail
    refine (HNX.out _).mono ?_
    rintro e w5 ⟨⟨A,cp,rfl,hrd,hfr⟩,hb5⟩
    obtain⟨n,hn⟩:∃ n,nx.length=n:=⟨_,rfl⟩
    rw[hn]
    have hs1:wr.heap.size<(wr.alloc (bA f.code k).obj).heap.size:=by simp
    have HP5:=Hz (Pre.later hPk hb5)
    have HB5:=Hz (HBR.out.trans ((HBK.out.trans (hb5.mono HBK.out.size)).mono hsr))
    have HRD5:=Hz hrd
    have HFR:Hid (∀ b o,A=some ⟨b,o,none⟩→w1.heap.size≠b):=Hz (fun b o hA=>by have h1:=hfr b o hA;simp at h1;omega)
    have HNN:=Hz hn
    have hn2:n≤2:=by rw[←hn];exact hnl
    clear hrd hfr hb5 hPk hn d0 d1 d2 d3 d4 d5 d6 d7 d8 d9 d10 d11 d12 d13 d14 x0 x1 x2 x3 x4 x5 x6 x7 x8 x9 x10 x11 x12 x13 x14
    go_wp2_with fail
    go_loopw [32] (fun ix wq=>∃ m:Nat,m≤n∧ix = .int .i64 m∧Pre gB 1 4 wq w1.heap.size (bl N (fM f.code k m))∧Below w1.heap.size w1 wq∧RdN wq A nx) (fun ix _=>n-(intOf ix).toNat)
    case atStart=>exact⟨0,by omega,rfl,by rw[HZE.out];exact HP5.out,HB5.out,HRD5.out⟩
    case round =>
     obtain⟨m,hm,rfl,hpr,hbb,hrd⟩:=hrel
     have hmf:=Pre.free hpr
     have hml:=Pre.lt hpr
     have HPR:=Hz hpr
     have HBB:=Hz hbb
     have HRD:=Hz hrd
     clear hpr hbb hrd HP5 HB5 HRD5
     by_cases hltm:m<n
     ·obtain⟨v,hv⟩:∃ v,nx[m]? = some v:=⟨_,List.getElem?_eq_getElem (by rw[HNN.out];exact hltm)⟩
      have hvr:=HIN.out v (Mz hv)
      obtain⟨vn,rfl⟩:∃ vn:Nat,v=(vn:Int):=⟨v.toNat,by omega⟩
      have hvn:vn<N:=by have:=hvr.2;simpa using this
      obtain⟨b,o,rfl,hbl,hcu⟩:=HRD.out m _ hv
      have hmc:=PreB.cell HPR.out (fW (m:=fM f.code k m) hvn)
      have hmf:=hmf vn
      have hset:=PreB.set HPR.out (j:=vn) (by simp[bl];exact hvn) true
      rw[rX,←HSC.out m vn hv] at hset
      have HSET:=Hz hset
      have hne:=HFR.out b o rfl
      have HRD2:Hid (RdN (wr.setCell ⟨w1.heap.size,vn,none⟩ (.bool true)) (some ⟨b,o,none⟩) nx):=Hz (HRD.out.keepS (by simp) (fun b' o' hA hl'=>heap_setCell_other wr ⟨w1.heap.size,vn,none⟩ b' _ (fun e=>HFR.out b' o' hA e.symm)))
      clear hv hset hvr
      go_wp2
      exact⟨⟨m+1,by omega,by go_num,HSET.out,HBB.out.setCell (p:=⟨w1.heap.size,vn,none⟩) (Nat.le_refl _) _,HRD2.out⟩,by simp[intOf];omega⟩
     ·obtain rfl:m=n:=by omega
      have hfin:=HALL.out (by omega)
      rw[HNN.out] at hfin
      by_cases hkn:k+1<N
      ·have hmc:=PreB.cell HPR.out (fW (m:=fM f.code k m) hkn)
       have hmf:=hmf (k+1)
       have hset:=PreB.set HPR.out (j:=k+1) (by simp[bl];exact hkn) true
       rw[rX,hfin] at hset
       have HSET:=Hz hset
       have hq2:decide ((k:Int)+1<N)=true:=by rw[decide_eq_true_eq];omega
       clear hset hfin
       go_wp2
       exact⟨⟨k+1,by omega,by go_num,HSET.out,HBB.out.setCell (p:=⟨w1.heap.size,k+1,none⟩) (Nat.le_refl _) _⟩,by simp[intOf];omega⟩
      ·have hset:=HPR.out
       rw[←ID (m:=fM f.code k m) (p:=k+1) (show N≤k+1 by omega),hfin] at hset
       have HSET:=Hz hset
       have hq2:decide ((k:Int)+1<N)=false:=by rw[decide_eq_false_iff_not];omega
       clear hset hfin
       go_wp2
       exact⟨⟨k+1,by omega,by go_num,HSET.out,HBB.out⟩,by simp[intOf];omega⟩
  ·obtain rfl:k=N:=by omega
   go_wp2
   go_returns
   exact⟨⟨w1.heap.size,rfl,HB1.out.size,by have h:=HP.out;rw[←IA,HN.out];exact h⟩,HB1.out.trans (HBR.out.mono HB1.out.size)⟩
theorem BS (x:ShS)(i:Ins):gU x.am i=x.read i:=rfl
def fZ (l:List Ins)(k:Nat):List Ins:=(pZ l).take k++l.drop k
structure OfS (w wr:World)(f:aR)(N cb ob xb:Nat)(code:List Ins)(Vm Vh:Value):Prop where
 fb:wr.heap[w.heap.size]? = some (.cells #[.string f.nm,.int .i64 f.ps,.int .i64 f.R,.int .i64 f.Fr,.slice (some ⟨cb,0,none⟩) N N] 24)
 rb:wr.heap[w.heap.size+1]? = some (.cells #[.string ⟨#[]⟩,.int .i64 0,.int .i64 0,.int .i64 0,.slice none 0 0] 24)
 co:PreI wr cb code
 fi:Pre gB 1 4 wr ob (bl N (first f.code))
 hx:wr.heap[xb]? = some (.cells #[Vm,Vh] 73)
 b:Below w.heap.size w wr
 ne:cb≠ob∧cb≠xb∧ob≠xb∧w.heap.size+2≤cb∧w.heap.size+2≤ob∧w.heap.size+2≤xb
structure RunM (w wr:World)(cb ob xb ma mh:Nat)(X:ShS):Prop where
 am:MapK kI wr ma (mO X.am)
 has:MapK Ins.agg wr mh (pS X.has)
 ne:ma≠mh
 far:w.heap.size+2≤ma∧w.heap.size+2≤mh∧ma≠cb∧ma≠ob∧ma≠xb∧mh≠cb∧mh≠ob∧mh≠xb
theorem OfS.later {w wr w':World}{f:aR}{N cb ob xb:Nat}{code:List Ins}{Vm Vh:Value}(h:OfS w wr f N cb ob xb code Vm Vh)(hb:Below wr.heap.size wr w'):OfS w w' f N cb ob xb code Vm Vh :=
 ⟨(hb.block _ (Az h.fb).1).trans h.fb,(hb.block _ (Az h.rb).1).trans h.rb,Pre.later h.co hb,Pre.later h.fi hb,(hb.block _ (Az h.hx).1).trans h.hx,h.b.trans (hb.mono h.b.size),h.ne⟩
theorem OfS.two {w wr w':World}{f:aR}{N cb ob xb ma mh:Nat}{code:List Ins}{Vm Vh:Value}{X:ShS}(h:OfS w wr f N cb ob xb code Vm Vh)(hr:RunM w wr cb ob xb ma mh X)(hb:Two ma mh wr w'):OfS w w' f N cb ob xb code Vm Vh:=by
 have hs:=h.b.size
 obtain⟨f1,f2,f3,f4,f5,f6,f7,f8⟩:=hr.far
 exact⟨(hb.same _ (Az h.fb).1 (by omega) (by omega)).trans h.fb,(hb.same _ (Az h.rb).1 (by omega) (by omega)).trans h.rb,
  Pre.of_heap h.co (hb.same _ (Pre.lt h.co) (Ne.symm f3) (Ne.symm f6)),Pre.of_heap h.fi (hb.same _ (Pre.lt h.fi) (Ne.symm f4) (Ne.symm f7)),(hb.same _ (Az h.hx).1 (Ne.symm f5) (Ne.symm f8)).trans h.hx,
  h.b.trans (hb.below (by omega) (by omega) (by omega)),h.ne⟩
theorem RunM.later {w wr w':World}{cb ob xb ma mh:Nat}{X:ShS}(h:RunM w wr cb ob xb ma mh X)(hb:Below wr.heap.size wr w'):RunM w w' cb ob xb ma mh X :=
 ⟨h.am.below hb h.am.lt,h.has.below hb h.has.lt,h.ne,h.far⟩
theorem tY (w:World)(a b:Obj):((w.alloc a).alloc b).heap[w.heap.size]? = some a∧((w.alloc a).alloc b).heap[w.heap.size+1]? = some b∧Below w.heap.size w ((w.alloc a).alloc b):=by
 have h1:=heap_alloc_new (w.alloc a) b
 rw[show (w.alloc a).heap.size=w.heap.size+1 by simp] at h1
 exact⟨aC (heap_alloc_new w a) b,h1,(Below.one w a).alloc (by simp) b⟩
theorem qA (ob n c:Nat)(W:World):(binOp .eql 27 (.slice (some ⟨ob,0,none⟩) n c) (.slice none 0 0)).run Try.prog W = .ok (.bool false) W:=by
 rw[show false=(some (⟨ob,0,none⟩:Addr)).isNone from rfl]
 exact Lib.run_eql_slice_nil W 27 4 _ n c 0 0 (by kernel_rfl)
def NC (base:Nat)(f:aR)(e:Ending)(w:World):Prop:=∃ cb,e = .returned (.tuple #[aH f.nm f.ps f.R f.Fr (some ⟨cb,0,none⟩) f.code.length f.code.length,.int .i64 (kP f.code f.code.length:Int)])∧base≤cb∧PreI w cb (pZ f.code)
theorem zF (l:List Ins):fZ l 0=l:=by simp[fZ]
theorem BT (l:List Ins):fZ l l.length=pZ l:=by
 unfold fZ
 rw[List.take_of_length_le (by rw[fJ];omega),List.drop_eq_nil_of_le (Nat.le_refl _),List.append_nil]
theorem pF {l:List Ins}{k:Nat}(h:k≤l.length):(fZ l k).length=l.length:=by
 unfold fZ
 rw[List.length_append,List.length_take,List.length_drop,fJ]
 omega
theorem pG {l:List Ins}{k j:Nat}(h:k≤l.length):(fZ l k)[j]? = if j<k then (pZ l)[j]? else l[j]?:=by
 unfold fZ
 by_cases hj:j<k
 ·rw[if_pos hj,List.getElem?_append_left (by rw[List.length_take,fJ];omega),List.getElem?_take,if_pos hj]
 ·rw[if_neg hj,List.getElem?_append_right (by rw[List.length_take,fJ];omega),List.getElem?_drop]
  congr 1
  rw[List.length_take,fJ]
  omega
theorem xM {l:List Ins}{k:Nat}(h:k<l.length):(fZ l k)[k]? = some (bA l k):=by
 rw[pG (by omega),if_neg (Nat.lt_irrefl k),cH h]
theorem BU {l:List Ins}{k:Nat}(h:k<l.length):(fZ l k).set k ((fI l k).new (bA l k))=fZ l (k+1):=by
 apply List.ext_getElem?
 intro j
 rw[List.getElem?_set,pG (by omega),pG (by omega),pF (by omega)]
 by_cases hj:k=j
 ·subst hj
  rw[if_pos rfl,if_pos h,if_pos (Nat.lt_succ_self k),iD (cH h)]
 ·rw[if_neg hj]
  by_cases h1:j<k
  ·rw[if_pos h1,if_pos (by omega)]
  ·rw[if_neg h1,if_neg (by omega)]
end Go.Proofs.Ytkcclefonmnpnaa
