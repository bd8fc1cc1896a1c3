import Derived.StringKeys
import Derived.Maps.Own
import Derived.Maps.OwnOps
import Derived.Maps.RangeRun
import Derived.Maps.RangeWalk
import Derived.Deep.CutRange
import Derived.Carry
import Derived.Test.YthbcdckonaljiaaShelf
import Derived.Test.YthbcdckonaljiaaZg
namespace Go.Proofs.Ythbcdckonaljiaa
open Go.MapKept Go.RowKit
def MapI (w:World)(b n:Nat)(g:Int→Option Value):Prop:=∃ (es:Array MapEntry) (clock:Nat),w.heap[b]? = some (.map es clock)∧es.size≤n ∧
  (∀ (i j:Nat) ei ej,es[i]? = some ei→es[j]? = some ej→ei.key=ej.key→i=j)∧(∀ (i:Nat) e,es[i]? = some e→∃ s,e.key = .int .i64 s) ∧
  (∀ (i:Nat) e s,es[i]? = some e→e.key = .int .i64 s→g s=some e.val)∧(∀ s v,g s=some v→∃ (i:Nat) (e:MapEntry),es[i]? = some e∧e.key = .int .i64 s)
def updM (g:Int→Option Value)(s:Int)(v:Value):Int→Option Value:=fun s'=>if s'=s then some v else g s'
theorem MapI.made (w:World):MapI (w.alloc (.map #[] 0)) w.heap.size 0 (fun _=>none) :=
  ⟨#[],0,(MapKept.heap_alloc w _).1,by simp,by simp,by simp,by simp,by simp⟩
theorem MapI.lt {w:World}{b n:Nat}{g}(h:MapI w b n g):b < w.heap.size:=by
  obtain ⟨es,clock,hb,_⟩:=h
  exact (Array.getElem?_eq_some_iff.1 hb).1
theorem MapI.of_block {w w':World}{b n:Nat}{g}(h:MapI w b n g)(hb:w'.heap[b]? = w.heap[b]?):MapI w' b n g:=by
  obtain ⟨es,clock,h1,h2⟩:=h
  exact ⟨es,clock,hb.trans h1,h2⟩
theorem MapI.kept {w w':World}{b n:Nat}{g}{row:Option Nat}(h:MapI w b n g)(hg:w.grownBy w' row)(hne:some b≠row):MapI w' b n g:=h.of_block (hg.block b h.lt hne)
theorem MapI.below {w w':World}{b n B:Nat}{g}(h:MapI w b n g)(hb:Below B w w')(hB:b < B):MapI w' b n g:=h.of_block (hb.block b hB)
theorem MapI.find {w:World}{b n:Nat}{g}(h:MapI w b n g)(s:Int):∃ (es:Array MapEntry) (clock:Nat),w.heap[b]? = some (.map es clock) ∧
    ((Instr.findNow (.int .i64) (.int .i64 s) es.toList 0=some none∧g s=none∧∀ (i:Nat) e,es[i]? = some e→e.key≠.int .i64 s)∨∃ (j:Nat) (e:MapEntry),Instr.findNow (.int .i64) (.int .i64 s) es.toList 0=some (some (j,e.val))∧es[j]? = some e∧e.key = .int .i64 s∧g s=some e.val):=by
  obtain ⟨es,clock,hb,_,h1,h2,h3,h4⟩:=h
  refine ⟨es,clock,hb,?_⟩
  have hks:∀ x ∈ es.toList,IsKey (.int .i64) x.key:=fun x hx=>by
    obtain ⟨i,hi⟩:=List.mem_iff_getElem?.1 hx
    obtain ⟨s',e⟩:=h2 i x (by simpa using hi)
    rw [e]; rfl
  rcases findNow_spec (d:=.int .i64) (k:=.int .i64 s) rfl es.toList 0 hks with ⟨ha,hn⟩ | ⟨j,e0,ha,hj,hk⟩
  · refine Or.inl ⟨ha,?_,fun i e hi=>hn e (List.mem_iff_getElem?.2 ⟨i,by simpa using hi⟩)⟩
    cases hg:g s with
    | none=>rfl
    | some v =>
      obtain ⟨i,e,hi,hk⟩:=h4 s v hg
      exact absurd hk (hn e (List.mem_iff_getElem?.2 ⟨i,by simpa using hi⟩))
  · have hj':es[j]? = some e0:=by simpa using hj
    exact Or.inr ⟨j,e0,by simpa using ha,hj',hk,h3 j e0 s hj' hk⟩
theorem MapI.lookup {P:Program}{w:World}{b n:Nat}{g}(h:MapI w b n g){t k e:TypeId}(ht:P.underlying t=some (.map k e))(hk:P.underlying k=some (.int .i64)){z:Value}(hz:(zeroValue e).run P w = .ok z w)(s:Int)(c:Bool) :
    (Instr.lookup t (.map (some b)) (.int .i64 s) c).run P w = .ok (if c then .tuple #[(g s).getD z,.bool (g s).isSome] else (g s).getD z) w:=by
  obtain ⟨es,clock,hb,hf⟩:=h.find s
  have hck:=run_checkKey (w:=w) hk (d:=.int .i64) (k:=.int .i64 s) rfl es.isEmpty 9999
  rcases hf with ⟨ha,hg,_⟩ | ⟨j,e0,ha,_,_,hg⟩
  · simp [Instr.lookup,run_underlying ht,MapKept.run_getObj_map hb,hck,run_findKey (w:=w) hk ha,hz,Result.andThen,hg]
  · simp [Instr.lookup,run_underlying ht,MapKept.run_getObj_map hb,hck,run_findKey (w:=w) hk ha,Result.andThen,hg]
theorem MapI.update {P:Program} {w:World} {b n:Nat} {g} (h:MapI w b n g) {t k e:TypeId} (ht:P.underlying t=some (.map k e)) (hk:P.underlying k=some (.int .i64)) (s:Int) (v:Value) :
    ∃ w',(Instr.mapUpdate t (.map (some b)) (.int .i64 s) v).run P w = .ok () w'∧MapI w' b (n + 1) (updM g s v)∧w.grownBy w' (some b):=by
  have h0:=h
  obtain ⟨es,clock,hb,hf⟩:=h.find s
  obtain ⟨es',clock',hb',hn,h1,h2,h3,h4⟩:=h0
  rw [hb] at hb'
  obtain ⟨rfl,rfl⟩:es=es'∧clock=clock':=by simpa using hb'
  have hck:=run_checkKey (w:=w) hk (d:=.int .i64) (k:=.int .i64 s) rfl false 9999
  have hgrow:∀ o:Obj,w.grownBy { w with heap:=w.heap.setIfInBounds b o } (some b):=fun o=>⟨rfl,rfl,rfl,by simp,fun i _ hi=>by
    have:b≠i:=fun e=>hi (by rw [e])
    simp [this]⟩
  have hlt:b < w.heap.size:=(Array.getElem?_eq_some_iff.1 hb).1
  rcases hf with ⟨ha,hg,hno⟩ | ⟨j,e0,ha,hj,hkey,hg⟩
  · refine ⟨{ w with heap:=w.heap.setIfInBounds b (.map (es.push { key:=.int .i64 s,val:=v,born:=clock }) (clock + 1)) },?_,⟨es.push { key:=.int .i64 s,val:=v,born:=clock },clock + 1,by simp [hlt],by simp; omega,?_,?_,?_,?_⟩,hgrow _⟩
    · simp [Instr.mapUpdate,run_underlying ht,MapKept.run_getObj_map hb,hck,run_findKey (w:=w) hk ha,Result.andThen,MapKept.run_setObj_map _ hb]
    · intro i j ei ej hi hj he
      rw [Array.getElem?_push] at hi hj
      split at hi <;> split at hj
      · omega
      · injection hi with hi; subst hi; exact absurd he.symm (hno j ej hj)
      · injection hj with hj; subst hj; exact absurd he (hno i ei hi)
      · exact h1 i j ei ej hi hj he
    · intro i e hi
      rw [Array.getElem?_push] at hi
      split at hi
      · injection hi with hi; subst hi; exact ⟨s,rfl⟩
      · exact h2 i e hi
    · intro i e s' hi he
      rw [Array.getElem?_push] at hi
      split at hi
      · injection hi with hi; subst hi
        injection he with _ he; subst he
        simp [updM]
      · have hne:s'≠s:=fun e1=>hno i e hi (by rw [he,e1])
        simp only [updM,if_neg hne]
        exact h3 i e s' hi he
    · intro s' v' hv
      by_cases he:s'=s
      · subst he
        exact ⟨es.size,_,by rw [Array.getElem?_push,if_pos rfl],rfl⟩
      · simp only [updM,if_neg he] at hv
        obtain ⟨i,e,hi,hk'⟩:=h4 s' v' hv
        have hil:i < es.size:=(Array.getElem?_eq_some_iff.1 hi).1
        exact ⟨i,e,by rw [Array.getElem?_push,if_neg (by omega)]; exact hi,hk'⟩
  · refine ⟨{ w with heap:=w.heap.setIfInBounds b (.map (es.modify j fun e=>{ e with key:=.int .i64 s,val:=v }) clock) },?_,⟨es.modify j fun e=>{ e with key:=.int .i64 s,val:=v },clock,by simp [hlt],by simp; omega,?_,?_,?_,?_⟩,hgrow _⟩
    · have hst:=run_keyThatStays (P:=P) (w:=w) (k:=.int .i64 s) (d:=.int .i64) rfl
      simp [Instr.mapUpdate,run_underlying ht,MapKept.run_getObj_map hb,hck,run_findKey (w:=w) hk ha,Result.andThen,hj,hkey,hst,MapKept.run_setObj_map _ hb]
    all_goals
      have hm:∀ (i:Nat) e,(es.modify j fun e=>{ e with key:=.int .i64 s,val:=v })[i]? = some e→∃ e',es[i]? = some e'∧e.key=e'.key∧(i=j→e.val=v)∧(i≠j→e=e'):=fun i e hi=>by
        rw [Array.getElem?_modify] at hi
        split at hi
        · rename_i hij
          subst hij
          rw [hj] at hi
          simp at hi
          subst hi
          exact ⟨e0,hj,hkey.symm,fun _=>rfl,fun hh=>absurd rfl hh⟩
        · rename_i hij
          exact ⟨e,hi,rfl,fun hh=>absurd hh.symm hij,fun _=>rfl⟩
    · intro i j' ei ej hi hj' he
      obtain ⟨a,ha1,ha2,_⟩:=hm i ei hi
      obtain ⟨c,hc1,hc2,_⟩:=hm j' ej hj'
      exact h1 i j' a c ha1 hc1 (ha2.symm.trans (he.trans hc2))
    · intro i e hi
      obtain ⟨a,ha1,ha2,_⟩:=hm i e hi
      rw [ha2]
      exact h2 i a ha1
    · intro i e s' hi he
      obtain ⟨a,ha1,ha2,ha3,ha4⟩:=hm i e hi
      by_cases hij:i=j
      · subst hij
        rw [hj] at ha1
        injection ha1 with ha1
        subst ha1
        rw [ha2,hkey] at he
        injection he with _ he
        subst he
        simp [updM,ha3 rfl]
      · have e1:=ha4 hij
        subst e1
        have hne:s'≠s:=fun e1=>hij (h1 i j _ _ ha1 hj (by rw [he,hkey,e1]))
        simp only [updM,if_neg hne]
        exact h3 i _ s' ha1 he
    · intro s' v' hv
      by_cases he:s'=s
      · subst he
        exact ⟨j,_,by rw [Array.getElem?_modify,if_pos rfl,hj]; rfl,rfl⟩
      · simp only [updM,if_neg he] at hv
        obtain ⟨i,e,hi,hk'⟩:=h4 s' v' hv
        have hij:j≠i:=fun e1=>by
          subst e1
          rw [hj] at hi
          injection hi with hi
          subst hi
          rw [hkey] at hk'
          injection hk' with _ hk'
          exact he hk'.symm
        exact ⟨i,e,by rw [Array.getElem?_modify,if_neg hij]; exact hi,hk'⟩
end Go.Proofs.Ythbcdckonaljiaa
namespace Go.Proofs.Ythbcdckonaljiaa
open Go.MapKept Go.RowKit
structure Ents (es:Array MapEntry)(clock:Nat)(S:Int→Bool):Prop where
  dist:∀ (i j:Nat) ei ej,es[i]? = some ei→es[j]? = some ej→ei.key=ej.key→i=j
  form:∀ (i:Nat) e,es[i]? = some e→∃ s,e.key = .int .i64 s∧S s=true∧e.val = .bool true
  has:∀ s,S s=true→∃ (i:Nat) (e:MapEntry),es[i]? = some e∧e.key = .int .i64 s
  born:∀ (i j:Nat) ei ej,es[i]? = some ei→es[j]? = some ej→ei.born=ej.born→i=j
  old:∀ (i:Nat) e,es[i]? = some e→e.born < clock
def SetI (w:World)(b:Nat)(S:Int→Bool):Prop:=∃ es clock,w.heap[b]? = some (.map es clock)∧Ents es clock S
def insS_ (S:Int→Bool)(s:Int):Int→Bool:=fun x=>decide (x=s) || S x
theorem SetI.made (w:World):SetI (w.alloc (.map #[] 0)) w.heap.size (fun _=>false) :=
  ⟨#[],0,(MapKept.heap_alloc w _).1,by simp,by simp,by simp,by simp,by simp⟩
theorem SetI.lt {w:World}{b:Nat}{S}(h:SetI w b S):b < w.heap.size:=by
  obtain ⟨es,clock,hb,_⟩:=h
  exact (Array.getElem?_eq_some_iff.1 hb).1
theorem SetI.of_block {w w':World}{b:Nat}{S}(h:SetI w b S)(hb:w'.heap[b]? = w.heap[b]?):SetI w' b S:=by
  obtain ⟨es,clock,h1,h2⟩:=h
  exact ⟨es,clock,hb.trans h1,h2⟩
theorem SetI.below {w w':World}{b B:Nat}{S}(h:SetI w b S)(hb:Below B w w')(hB:b < B):SetI w' b S:=h.of_block (hb.block b hB)
theorem SetI.kept {w w':World}{b:Nat}{S}{row:Option Nat}(h:SetI w b S)(hg:w.grownBy w' row)(hne:some b≠row):SetI w' b S:=h.of_block (hg.block b h.lt hne)
theorem SetI.find {w:World}{b:Nat}{S}(h:SetI w b S)(s:Int):∃ (es:Array MapEntry) (clock:Nat),w.heap[b]? = some (.map es clock)∧Ents es clock S ∧
    ((Instr.findNow (.int .i64) (.int .i64 s) es.toList 0=some none∧S s=false∧∀ (i:Nat) e,es[i]? = some e→e.key≠.int .i64 s)∨∃ (j:Nat) (e:MapEntry),Instr.findNow (.int .i64) (.int .i64 s) es.toList 0=some (some (j,.bool true))∧es[j]? = some e∧e.key = .int .i64 s∧S s=true∧e.val = .bool true):=by
  obtain ⟨es,clock,hb,hE⟩:=h
  refine ⟨es,clock,hb,hE,?_⟩
  have hks:∀ x ∈ es.toList,IsKey (.int .i64) x.key:=fun x hx=>by
    obtain ⟨i,hi⟩:=List.mem_iff_getElem?.1 hx
    obtain ⟨s',e,_⟩:=hE.form i x (by simpa using hi)
    rw [e]; rfl
  rcases findNow_spec (d:=.int .i64) (k:=.int .i64 s) rfl es.toList 0 hks with ⟨ha,hn⟩ | ⟨j,e0,ha,hj,hk⟩
  · have hno:∀ (i:Nat) e,es[i]? = some e→e.key≠.int .i64 s:=fun i e hi=>hn e (List.mem_iff_getElem?.2 ⟨i,by simpa using hi⟩)
    refine Or.inl ⟨ha,?_,hno⟩
    cases hg:S s with
    | false=>rfl
    | true =>
      obtain ⟨i,e,hi,hk⟩:=hE.has s hg
      exact absurd hk (hno i e hi)
  · have hj':es[j]? = some e0:=by simpa using hj
    obtain ⟨s',h1,h2,h3⟩:=hE.form j e0 hj'
    have hs:s'=s:=by rw [h1] at hk; injection hk
    subst hs
    exact Or.inr ⟨j,e0,by rw [← h3]; simpa using ha,hj',hk,h2,h3⟩
section
variable {P:Program}
theorem SetI.lookup {w:World}{b:Nat}{S}(h:SetI w b S){t k e:TypeId}(ht:P.underlying t=some (.map k e))(hk:P.underlying k=some (.int .i64))(hz:(zeroValue e).run P w = .ok (.bool false) w)(s:Int) :
    (Instr.lookup t (.map (some b)) (.int .i64 s) false).run P w = .ok (.bool (S s)) w:=by
  obtain ⟨es,clock,hb,_,hf⟩:=h.find s
  have hck:=run_checkKey (w:=w) hk (d:=.int .i64) (k:=.int .i64 s) rfl es.isEmpty 9999
  rcases hf with ⟨ha,hg,_⟩ | ⟨j,e0,ha,_,_,hg,_⟩
  · simp [Instr.lookup,run_underlying ht,MapKept.run_getObj_map hb,hck,run_findKey (w:=w) hk ha,hz,Result.andThen,hg]
  · simp [Instr.lookup,run_underlying ht,MapKept.run_getObj_map hb,hck,run_findKey (w:=w) hk ha,Result.andThen,hg]
theorem Ents.push {es:Array MapEntry}{clock:Nat}{S:Int→Bool}(h:Ents es clock S)(s:Int)(hno:∀ (i:Nat) e,es[i]? = some e→e.key≠.int .i64 s) :
    Ents (es.push { key:=.int .i64 s,val:=.bool true,born:=clock }) (clock + 1) (insS_ S s):=by
  refine ⟨fun i j ei ej hi hj he=>?_,fun i e hi=>?_,fun s' hs'=>?_,fun i j ei ej hi hj he=>?_,fun i e hi=>?_⟩
  · rw [Array.getElem?_push] at hi hj
    split at hi <;> split at hj
    · omega
    · injection hi with hi; subst hi; exact absurd he.symm (hno j ej hj)
    · injection hj with hj; subst hj; exact absurd he (hno i ei hi)
    · exact h.dist i j ei ej hi hj he
  · rw [Array.getElem?_push] at hi
    split at hi
    · injection hi with hi; subst hi; exact ⟨s,rfl,by simp [insS_],rfl⟩
    · obtain ⟨s',h1,h2,h3⟩:=h.form i e hi
      exact ⟨s',h1,by simp [insS_,h2],h3⟩
  · by_cases he:s'=s
    · subst he
      exact ⟨es.size,_,by rw [Array.getElem?_push,if_pos rfl],rfl⟩
    · obtain ⟨i,e,hi,hk'⟩:=h.has s' (by simpa [insS_,he] using hs')
      have hil:i < es.size:=(Array.getElem?_eq_some_iff.1 hi).1
      exact ⟨i,e,by rw [Array.getElem?_push,if_neg (by omega)]; exact hi,hk'⟩
  · rw [Array.getElem?_push] at hi hj
    split at hi <;> split at hj
    · omega
    · injection hi with hi; subst hi; have:=h.old j ej hj; simp only at he; omega
    · injection hj with hj; subst hj; have:=h.old i ei hi; simp only at he; omega
    · exact h.born i j ei ej hi hj he
  · rw [Array.getElem?_push] at hi
    split at hi
    · injection hi with hi; subst hi; simp
    · have:=h.old i e hi; omega
theorem insS_same {S:Int→Bool}{s:Int}(h:S s=true):insS_ S s=S:=by
  funext x
  by_cases hx:x=s
  · subst hx; simp [insS_,h]
  · simp [insS_,hx]
theorem SetI.update {w:World} {b:Nat} {S} (h:SetI w b S) {t k e:TypeId} (ht:P.underlying t=some (.map k e)) (hk:P.underlying k=some (.int .i64)) (s:Int) :
    ∃ w',(Instr.mapUpdate t (.map (some b)) (.int .i64 s) (.bool true)).run P w = .ok () w'∧SetI w' b (insS_ S s)∧w.grownBy w' (some b)∧w'.heap.size=w.heap.size:=by
  obtain ⟨es,clock,hb,hE,hf⟩:=h.find s
  have hck:=run_checkKey (w:=w) hk (d:=.int .i64) (k:=.int .i64 s) rfl false 9999
  have hgrow:∀ o:Obj,w.grownBy { w with heap:=w.heap.setIfInBounds b o } (some b):=fun o=>⟨rfl,rfl,rfl,by simp,fun i _ hi=>by
    have:b≠i:=fun e=>hi (by rw [e])
    simp [this]⟩
  have hlt:b < w.heap.size:=(Array.getElem?_eq_some_iff.1 hb).1
  rcases hf with ⟨ha,hg,hno⟩ | ⟨j,e0,ha,hj,hkey,hg,hv⟩
  · refine ⟨{ w with heap:=w.heap.setIfInBounds b (.map (es.push { key:=.int .i64 s,val:=.bool true,born:=clock }) (clock + 1)) },?_,⟨_,_,by simp [hlt],hE.push s hno⟩,hgrow _,by simp⟩
    simp [Instr.mapUpdate,run_underlying ht,MapKept.run_getObj_map hb,hck,run_findKey (w:=w) hk ha,Result.andThen,MapKept.run_setObj_map _ hb]
  · have hsame:(es.modify j fun e=>{ e with key:=.int .i64 s,val:=.bool true })=es:=by
      apply Array.ext
      · simp
      · intro i h1 h2
        rw [Array.getElem_modify]
        split
        · rename_i hji
          subst hji
          have:es[j]=e0:=by rw [Array.getElem?_eq_getElem h2] at hj; injection hj
          rw [this]
          cases e0
          simp only at hkey hv
          rw [hkey,hv]
        · rfl
    refine ⟨{ w with heap:=w.heap.setIfInBounds b (.map es clock) },?_,⟨es,clock,by simp [hlt],by rw [insS_same hg]; exact hE⟩,hgrow _,by simp⟩
    have hst:=run_keyThatStays (P:=P) (w:=w) (k:=.int .i64 s) (d:=.int .i64) rfl
    simp [Instr.mapUpdate,run_underlying ht,MapKept.run_getObj_map hb,hck,run_findKey (w:=w) hk ha,Result.andThen,hj,hkey,hst,MapKept.run_setObj_map _ hb,hsame]
def HalfI (w:World)(b:Nat)(S:Int→Bool)(s:Int)(clock:Nat):Prop:=∃ es,w.heap[b]? = some (.map (es.push { key:=.int .i64 s,val:=.bool false,born:=clock }) (clock + 1))∧Ents es clock S∧∀ (i:Nat) e,es[i]? = some e→e.key≠.int .i64 s
theorem SetI.entry {w:World}{b:Nat}{S}(h:SetI w b S){t k e:TypeId}(ht:P.underlying t=some (.map k e))(hk:P.underlying k=some (.int .i64))(hz:(zeroValue e).run P w = .ok (.bool false) w)(s:Int)(hs:S s=false) :
    ∃ (w':World) (clock:Nat),(Instr.mapEntry t (.map (some b)) (.int .i64 s)).run P w = .ok (.tuple #[.bool false,.int .i64 clock]) w'∧HalfI w' b S s clock∧w.grownBy w' (some b)∧w'.heap.size=w.heap.size:=by
  obtain ⟨es,clock,hb,hE,hf⟩:=h.find s
  have hck:=run_checkKey (w:=w) hk (d:=.int .i64) (k:=.int .i64 s) rfl false 9999
  have hlt:b < w.heap.size:=(Array.getElem?_eq_some_iff.1 hb).1
  rcases hf with ⟨ha,hg,hno⟩ | ⟨j,e0,ha,hj,hkey,hg,hv⟩
  · refine ⟨{ w with heap:=w.heap.setIfInBounds b (.map (es.push { key:=.int .i64 s,val:=.bool false,born:=clock }) (clock + 1)) },clock,?_,⟨es,by simp [hlt],hE,hno⟩,⟨rfl,rfl,rfl,by simp,fun i _ hi=>by
      have:b≠i:=fun e=>hi (by rw [e])
      simp [this]⟩,by simp⟩
    simp [Instr.mapEntry,run_underlying ht,MapKept.run_getObj_map hb,hck,run_findKey (w:=w) hk ha,hz,Result.andThen,MapKept.run_setObj_map _ hb,goInt]
  · rw [hs] at hg; cases hg
theorem HalfI.store {w:World} {b:Nat} {S} {s:Int} {clock:Nat} (h:HalfI w b S s clock) (t:TypeId) :
    ∃ w',(Instr.entryStore t (.map (some b)) (.int .i64 clock) (.bool true)).run P w = .ok () w'∧SetI w' b (insS_ S s)∧w.grownBy w' (some b)∧w'.heap.size=w.heap.size:=by
  obtain ⟨es,hb,hE,hno⟩:=h
  have hlt:b < w.heap.size:=(Array.getElem?_eq_some_iff.1 hb).1
  have hfi:(es.push { key:=.int .i64 s,val:=.bool false,born:=clock }).findIdx? (fun e=>(e.born:Int) == (clock:Int))=some es.size:=by
    rw [Array.findIdx?_eq_some_iff_getElem]
    refine ⟨by simp,by simp,fun j hj=>?_⟩
    have hjl:j < es.size:=hj
    rw [Array.getElem_push_lt hjl]
    have:=hE.old j es[j] (Array.getElem?_eq_getElem hjl)
    simp
    omega
  have hmod:((es.push { key:=.int .i64 s,val:=.bool false,born:=clock }).modify es.size fun e=>{ e with val:=.bool true })=es.push { key:=.int .i64 s,val:=.bool true,born:=clock }:=by
    apply Array.ext
    · simp
    · intro i h1 h2
      rw [Array.getElem_modify]
      split
      · rename_i hi; subst hi; simp
      · rename_i hi
        have:i < es.size:=by simp at h2; omega
        rw [Array.getElem_push_lt this,Array.getElem_push_lt this]
  refine ⟨{ w with heap:=w.heap.setIfInBounds b (.map (es.push { key:=.int .i64 s,val:=.bool true,born:=clock }) (clock + 1)) },?_,⟨_,_,by simp [hlt],hE.push s hno⟩,⟨rfl,rfl,rfl,by simp,fun i _ hi=>by
    have:b≠i:=fun e=>hi (by rw [e])
    simp [this]⟩,by simp⟩
  simp [Instr.entryStore,MapKept.run_getObj_map hb,Result.andThen,asInt,asIntOf,hfi,hmod,MapKept.run_setObj_map _ hb]
def RgD (w:World)(r b:Nat)(S:Int→Bool)(l:List Int):Prop:=∃ (es:Array MapEntry) (clock c0:Nat) (seen:Array Nat),Ents es clock S∧w.heap[b]? = some (.map es clock)∧clock≤c0∧w.heap[r]? = some (.mapIter (some b) clock seen c0) ∧
  l=(es.toList.filter fun e=>!seen.contains e.born).map fun e=>match e.key with | .int _ n=>n | _=>0
theorem RgD.of_blocks {w w':World}{r b:Nat}{S}{l:List Int}(h:RgD w r b S l)(h1:w'.heap[b]? = w.heap[b]?)(h2:w'.heap[r]? = w.heap[r]?):RgD w' r b S l:=by
  obtain ⟨es,clock,c0,seen,a,b,c,d,e⟩:=h
  exact ⟨es,clock,c0,seen,a,h1.trans b,c,h2.trans d,e⟩
theorem RgD.lt {w:World}{r b:Nat}{S}{l:List Int}(h:RgD w r b S l):b < w.heap.size∧r < w.heap.size:=by
  obtain ⟨es,clock,c0,seen,a,b,c,d,e⟩:=h
  exact ⟨(Array.getElem?_eq_some_iff.1 b).1,(Array.getElem?_eq_some_iff.1 d).1⟩
theorem RgD.below {w w':World}{r b:Nat}{S}{l:List Int}(h:RgD w r b S l)(hb:Below w.heap.size w w'):RgD w' r b S l:=h.of_blocks (hb.block _ h.lt.1) (hb.block _ h.lt.2)
theorem RgD.set {w:World}{r b:Nat}{S}{l:List Int}(h:RgD w r b S l):SetI w b S:=by
  obtain ⟨es,clock,c0,seen,a,b,c,d,e⟩:=h
  exact ⟨es,clock,b,a⟩
theorem SetI.range {w:World}{b:Nat}{S}(h:SetI w b S){t k e:TypeId}(ht:P.underlying t=some (.map k e)) :
    ∃ (l:List Int) (o:Obj),(Instr.range t (.map (some b))).run P w = .ok (.pointer (some ⟨w.heap.size,0,none⟩)) (w.alloc o)∧RgD (w.alloc o) w.heap.size b S l∧l.Nodup∧∀ x,x ∈ l↔S x=true:=by
  obtain ⟨es,clock,hb,hE⟩:=h
  have hall:(es.toList.filter fun e=>!(#[]:Array Nat).contains e.born)=es.toList:=by simp
  refine ⟨_,_,run_range_map w t k e b es clock ht hb,⟨es,clock,clock,#[],hE,by rw [heap_alloc_old w _ (Array.getElem?_eq_some_iff.1 hb).1]; exact hb,Nat.le_refl _,heap_alloc_new w _,rfl⟩,?_,fun x=>?_⟩
  · rw [hall,List.nodup_iff_pairwise_ne,List.pairwise_iff_getElem]
    intro i j hi hj hij
    simp only [List.length_map,Array.length_toList] at hi hj
    simp only [List.getElem_map,Array.getElem_toList]
    obtain ⟨s1,a1,_⟩:=hE.form i es[i] (Array.getElem?_eq_getElem hi)
    obtain ⟨s2,a2,_⟩:=hE.form j es[j] (Array.getElem?_eq_getElem hj)
    rw [a1,a2]
    intro he
    simp only at he
    have:=hE.dist i j _ _ (Array.getElem?_eq_getElem hi) (Array.getElem?_eq_getElem hj) (by rw [a1,a2,he])
    omega
  · rw [hall,List.mem_map]
    constructor
    · rintro ⟨e,he,rfl⟩
      obtain ⟨i,hi⟩:=List.mem_iff_getElem?.1 he
      obtain ⟨s,h1,h2,_⟩:=hE.form i e (by simpa using hi)
      rw [h1]
      exact h2
    · intro hx
      obtain ⟨i,e,hi,hk⟩:=hE.has x hx
      exact ⟨e,List.mem_iff_getElem?.2 ⟨i,by simpa using hi⟩,by rw [hk]⟩
theorem RgD.next {w:World} {r b:Nat} {S} {l:List Int} (h:RgD w r b S l) (ty:TypeId) :
    (l=[]∧(Instr.next (.pointer (some ⟨r,0,none⟩)) false ty).run P w = .ok (.tuple #[.bool false]) w) ∨
    ∃ (s:Int) (l':List Int) (w':World),s ∈ l∧S s=true∧(∀ x,x ∈ l'↔x ∈ l∧x≠s)∧l'.length < l.length∧RgD w' r b S l'∧w.grownBy w' (some r)∧w'.heap.size=w.heap.size ∧
      (Instr.next (.pointer (some ⟨r,0,none⟩)) false ty).run P w = .ok (.tuple #[.bool true,.int .i64 s,.bool true]) w'∧(Instr.entry (.pointer (some ⟨r,0,none⟩))).run P w' = .ok (.tuple #[.int .i64 s,.bool true]) w':=by
  obtain ⟨es,clock,c0,seen,hE,hb,hc,hr,rfl⟩:=h
  have hlo:∀ sn:Array Nat,(leftOf es sn).toList=es.toList.filter fun e=>!sn.contains e.born:=fun sn=>by simp [leftOf]
  rcases run_next_at w ty r b clock c0 seen es clock hr hb (fun x hx=>by
    obtain ⟨i,hi⟩:=List.mem_iff_getElem?.1 hx
    exact hE.old i x (by simpa using hi)) hc with ⟨h0,hrun⟩ | ⟨e,he,w1,hw1,hrun⟩
  · refine Or.inl ⟨?_,hrun⟩
    have:(leftOf es seen).toList=[]:=by rw [Array.eq_empty_of_size_eq_zero h0]
    rw [← hlo,this]; rfl
  · rw [hlo] at he
    have hem:e ∈ es.toList:=(List.mem_filter.1 he).1
    obtain ⟨i,hi⟩:=List.mem_iff_getElem?.1 hem
    have hi':es[i]? = some e:=by simpa using hi
    obtain ⟨s,h1,h2,h3⟩:=hE.form i e hi'
    have hfilt:(es.toList.filter fun x=>!(seen.push e.born).contains x.born)=(es.toList.filter fun x=>!seen.contains x.born).filter fun x=>x.born != e.born:=by
      rw [List.filter_filter]
      apply List.filter_congr
      intro x _
      rw [Bool.eq_iff_iff]
      simp
      constructor
      · rintro ⟨a,b⟩; exact ⟨b,a⟩
      · rintro ⟨a,b⟩; exact ⟨b,a⟩
    have hblk:w1.heap=w.heap:=by rcases hw1 with rfl | rfl <;> rfl
    have hlr:r < w.heap.size:=(Array.getElem?_eq_some_iff.1 hr).1
    have hbr:b≠r:=fun e=>by subst e; rw [hb] at hr; cases hr
    have hg:w.grownBy (ChangeMaps.setBlock w1 r (.mapIter (some b) clock (seen.push e.born) clock)) (some r):=by
      rcases hw1 with rfl | rfl
      · exact ⟨rfl,rfl,rfl,by simp [ChangeMaps.setBlock],fun i _ hne=>by
          have:r≠i:=fun e=>hne (by rw [e])
          simp [ChangeMaps.setBlock,this]⟩
      · exact ⟨rfl,rfl,rfl,by simp [ChangeMaps.setBlock],fun i _ hne=>by
          have:r≠i:=fun e=>hne (by rw [e])
          simp [ChangeMaps.setBlock,this]
          rfl⟩
    have hr':(ChangeMaps.setBlock w1 r (.mapIter (some b) clock (seen.push e.born) clock)).heap[r]? = some (.mapIter (some b) clock (seen.push e.born) clock):=by
      simp [ChangeMaps.setBlock,hblk,hlr]
    have hb':(ChangeMaps.setBlock w1 r (.mapIter (some b) clock (seen.push e.born) clock)).heap[b]? = some (.map es clock):=by
      simp [ChangeMaps.setBlock,hblk,Ne.symm hbr,hb]
    refine Or.inr ⟨s,_,_,?_,h2,?_,?_,⟨es,clock,clock,seen.push e.born,hE,hb',Nat.le_refl _,hr',rfl⟩,hg,by simp [ChangeMaps.setBlock,hblk],by rw [h1,h3] at hrun; exact hrun,?_⟩
    · exact List.mem_map.2 ⟨e,he,by rw [h1]⟩
    · intro x
      rw [hfilt,List.mem_map,List.mem_map]
      constructor
      · rintro ⟨e',he',rfl⟩
        obtain ⟨h4,h5⟩:=List.mem_filter.1 he'
        refine ⟨⟨e',h4,rfl⟩,fun h6=>?_⟩
        obtain ⟨i',hi2⟩:=List.mem_iff_getElem?.1 (List.mem_filter.1 h4).1
        have hi2':es[i']? = some e':=by simpa using hi2
        obtain ⟨s',h7,_⟩:=hE.form i' e' hi2'
        rw [h7] at h6
        simp only at h6
        subst h6
        have:=hE.dist i' i e' e hi2' hi' (by rw [h7,h1])
        subst this
        rw [hi'] at hi2'
        injection hi2' with h8
        subst h8
        simp at h5
      · rintro ⟨⟨e',he',rfl⟩,hne⟩
        refine ⟨e',List.mem_filter.2 ⟨he',?_⟩,rfl⟩
        simp only [bne_iff_ne,ne_eq]
        intro h6
        obtain ⟨i',hi2⟩:=List.mem_iff_getElem?.1 (List.mem_filter.1 he').1
        have hi2':es[i']? = some e':=by simpa using hi2
        have:=hE.born i' i e' e hi2' hi' h6
        subst this
        rw [hi'] at hi2'
        injection hi2' with h8
        subst h8
        rw [h1] at hne
        exact hne rfl
    · rw [hfilt,List.length_map,List.length_map]
      exact List.length_filter_lt_length_iff_exists.2 ⟨e,he,by simp⟩
    · have:=run_entry_at (P:=P) _ r b clock seen es clock e hr' hb' hem (by
        rw [List.nodup_iff_pairwise_ne,List.pairwise_iff_getElem]
        intro i j hi hj hij
        simp only [List.length_map,Array.length_toList] at hi hj
        simp only [List.getElem_map,Array.getElem_toList]
        intro he
        have:=hE.born i j _ _ (Array.getElem?_eq_getElem hi) (Array.getElem?_eq_getElem hj) he
        omega)
      rw [h1,h3] at this
      exact this
theorem nodup_le:∀ (R:Nat) (l:List Int),l.Nodup→(∀ x ∈ l,0≤x∧x < (R:Int))→l.length≤R
  | 0,[],_,_=>Nat.le_refl _
  | 0,x::l,_,h=>by have:=h x (by simp); omega
  | R + 1,l,hn,h=>by
    by_cases hm:(R:Int) ∈ l
    · have h1:=nodup_le R (l.erase R) (hn.erase _) (fun x hx=>by
        have h2:=(List.Nodup.mem_erase_iff hn).1 hx
        have:=h x h2.2
        have:=h2.1
        omega)
      rw [List.length_erase_of_mem hm] at h1
      omega
    · have h1:=nodup_le R l hn (fun x hx=>by
        have:=h x hx
        have:x≠R:=fun e=>hm (e ▸ hx)
        omega)
      omega
section
variable (w:World) {ops:Array Oper} {rest:List Oper} {o:Oper} {a:Act} {Q:Exit→Act→World→Prop}
theorem wpList_update_set (hg:o.guard=none)(m x v:Operand)(t:TypeId)(hop:o.op=Op.mapUpdate t m x v){k e:TypeId}(ht:P.underlying t=some (.map k e))(hk:P.underlying k=some (.int .i64))
    (b:Nat) (S:Int→Bool) (hm:a.eval m = .map (some b)) (h:SetI w b S) (s:Int) (hx:a.eval x = .int .i64 s) (hv:a.eval v = .bool true)
    (hK:∀ w',SetI w' b (insS_ S s)→w.grownBy w' (some b)→w'.heap.size=w.heap.size→wpList P ops Q rest (a.put o.dst undef) w'):wpList P ops Q (o::rest) a w:=by
  refine wpList_plain hg fun K' hK'=>?_
  obtain ⟨w',hrun,r1,r2,r3⟩:=h.update ht hk s
  unfold Oper.wp
  simp [execOp,hop,hm,hx,hv,hrun,Result.andThen]
  exact hK' _ _ (hK w' r1 r2 r3)
theorem wpList_mapEntry_set (hg:o.guard=none)(m x:Operand)(t:TypeId)(hop:o.op=Op.mapEntry t m x){k e:TypeId}(ht:P.underlying t=some (.map k e))(hk:P.underlying k=some (.int .i64))(hz:(zeroValue e).run P w = .ok (.bool false) w)
    (b:Nat) (S:Int→Bool) (hm:a.eval m = .map (some b)) (h:SetI w b S) (s:Int) (hs:S s=false) (hx:a.eval x = .int .i64 s)
    (hK:∀ (w':World) (clock:Nat),HalfI w' b S s clock→w.grownBy w' (some b)→w'.heap.size=w.heap.size→wpList P ops Q rest (a.put o.dst (.tuple #[.bool false,.int .i64 clock])) w'):wpList P ops Q (o::rest) a w:=by
  refine wpList_plain hg fun K' hK'=>?_
  obtain ⟨w',clock,hrun,r1,r2,r3⟩:=h.entry ht hk hz s hs
  unfold Oper.wp
  simp [execOp,hop,hm,hx,hrun,Result.andThen]
  exact hK' _ _ (hK w' clock r1 r2 r3)
theorem wpList_entryStore_set (hg:o.guard=none)(m x v:Operand)(t:TypeId)(hop:o.op=Op.entryStore t m x v)(b:Nat)(S:Int→Bool)(s:Int)(clock:Nat)(hm:a.eval m = .map (some b))(h:HalfI w b S s clock)(hx:a.eval x = .int .i64 clock)(hv:a.eval v = .bool true)
    (hK:∀ w',SetI w' b (insS_ S s)→w.grownBy w' (some b)→w'.heap.size=w.heap.size→wpList P ops Q rest (a.put o.dst undef) w'):wpList P ops Q (o::rest) a w:=by
  refine wpList_plain hg fun K' hK'=>?_
  obtain ⟨w',hrun,r1,r2,r3⟩:=h.store (P:=P) t
  unfold Oper.wp
  simp [execOp,hop,hm,hx,hv,hrun,Result.andThen]
  exact hK' _ _ (hK w' r1 r2 r3)
theorem wpList_range_set (hg:o.guard=none)(m:Operand)(t:TypeId)(hop:o.op=Op.range t m){k e:TypeId}(ht:P.underlying t=some (.map k e))(b:Nat)(S:Int→Bool)(hm:a.eval m = .map (some b))(h:SetI w b S)
    (hK:∀ (l:List Int) (o':Obj),RgD (w.alloc o') w.heap.size b S l→l.Nodup→(∀ x,x ∈ l↔S x=true)→wpList P ops Q rest (a.put o.dst (.pointer (some ⟨w.heap.size,0,none⟩))) (w.alloc o')):wpList P ops Q (o::rest) a w:=by
  refine wpList_plain hg fun K' hK'=>?_
  obtain ⟨l,o',hrun,r1,r2,r3⟩:=h.range (P:=P) ht
  unfold Oper.wp
  simp [execOp,hop,hm,hrun,Result.andThen]
  exact hK' _ _ (hK l o' r1 r2 r3)
theorem wpList_next_set (hg:o.guard=none)(it:Operand)(hop:o.op=Op.next it false)(r b:Nat)(S:Int→Bool)(l:List Int)(hit:a.eval it = .pointer (some ⟨r,0,none⟩))(h:RgD w r b S l)
    (hDone:l=[]→wpList P ops Q rest (a.put o.dst (.tuple #[.bool false])) w)
    (hMore:∀ (s:Int) (l':List Int) (w':World),s ∈ l→S s=true→(∀ x,x ∈ l'↔x ∈ l∧x≠s)→l'.length < l.length→RgD w' r b S l'→w.grownBy w' (some r)→w'.heap.size=w.heap.size →
      (Instr.entry (.pointer (some ⟨r,0,none⟩))).run P w' = .ok (.tuple #[.int .i64 s,.bool true]) w'→wpList P ops Q rest (a.put o.dst (.tuple #[.bool true,.int .i64 s,.bool true])) w'):wpList P ops Q (o::rest) a w:=by
  refine wpList_plain hg fun K' hK'=>?_
  unfold Oper.wp
  rcases h.next (P:=P) o.type with ⟨h0,hrun⟩ | ⟨s,l',w',h1,h2,h3,h4,h5,h6,h7,hrun,hen⟩
  · simp [execOp,hop,hit,hrun,Result.andThen]
    exact hK' _ _ (hDone h0)
  · simp [execOp,hop,hit,hrun,Result.andThen]
    exact hK' _ _ (hMore s l' w' h1 h2 h3 h4 h5 h6 h7 hen)
end
end
end Go.Proofs.Ythbcdckonaljiaa
namespace Go.Proofs.Ythbcdckonaljiaa
theorem OkF.next {f:Fn7} (hf:OkF f) {p:Nat} {i:Ins} (h:f.code[p]? = some i):∀ n ∈ i.next p,0≤n∧n.toNat < f.code.length:=by
  intro n hn
  have hi:=hf.ok i (List.mem_of_getElem? h)
  have hp:=(List.getElem?_eq_some_iff.1 h).1
  unfold Ins.next at hn
  split at hn
  · rename_i h1
    have:=hi.to_ (Or.inl h1)
    simp only [List.mem_singleton] at hn
    subst hn
    omega
  · split at hn
    · rename_i h1
      have a:=hi.to_ (Or.inr h1)
      have b:=hi.els h1
      simp only [List.mem_cons,List.not_mem_nil,or_false] at hn
      rcases hn with rfl | rfl <;> omega
    · split at hn
      · cases hn
      · simp only [List.mem_singleton] at hn
        subst hn
        by_cases hl:p=f.code.length - 1
        · subst hl
          have h1:=hf.last i h
          have h2:=hi.kind
          omega
        · omega
theorem OkF.uses {f:Fn7}(hf:OkF f){p:Nat}{i:Ins}(h:f.code[p]? = some i):∀ r ∈ i.uses,0≤r∧r < f.R:=(hf.ok i (List.mem_of_getElem? h)).uses
inductive Lv (l:List Ins):Nat→Int→Prop
  | use {p:Nat} {i:Ins} {r:Int} (h:l[p]? = some i) (hu:r ∈ i.uses):Lv l p r
  | step {p:Nat} {i:Ins} {n r:Int} (h:l[p]? = some i) (hn:n ∈ i.next p) (hs:i.sets≠r) (hl:Lv l n.toNat r):Lv l p r
theorem Lv.bound {f:Fn7}(hf:OkF f){p:Nat}{r:Int}(h:Lv f.code p r):(0≤r∧r < f.R)∧p < f.code.length:=by
  induction h with
  | use h hu=>exact ⟨hf.uses h _ hu,(List.getElem?_eq_some_iff.1 h).1⟩
  | step h hn hs hl ih=>exact ⟨ih.1,(List.getElem?_eq_some_iff.1 h).1⟩
abbrev Sets:=Nat→Int→Bool
def upd2 (S:Sets)(p:Nat)(r:Int):Sets:=fun q x=>if q=p then decide (x=r) || S q x else S q x
theorem upd2_other {S:Sets}{p q:Nat}{r:Int}(h:q≠p):upd2 S p r q=S q:=by
  funext x
  unfold upd2
  rw [if_neg h]
theorem countP_lt {α:Type}{p q:α→Bool}:∀ {l:List α},(∀ x ∈ l,p x=true→q x=true)→(∃ x ∈ l,q x=true∧p x=false)→l.countP p < l.countP q
  | [],_,h=>by obtain ⟨x,hx,_⟩:=h; cases hx
  | y::l,h1,h2=>by
    rw [List.countP_cons,List.countP_cons]
    have hle:l.countP p≤l.countP q:=List.countP_mono_left fun x hx=>h1 x (by simp [hx])
    obtain ⟨x,hx,hq,hp⟩:=h2
    rcases List.mem_cons.1 hx with rfl | hx
    · simp [hq,hp]; omega
    · have ih:=countP_lt (fun x hx=>h1 x (by simp [hx])) ⟨x,hx,hq,hp⟩
      have:=h1 y (by simp)
      by_cases hy:p y=true
      · simp [hy,this hy]; omega
      · simp [hy]; omega
def pot2 (N R:Nat)(S:Sets):Nat:=((List.range N).flatMap fun p=>(List.range R).map fun r=>(p,r)).countP fun x=>!S x.1 (x.2:Int)
theorem pot2_lt {N R:Nat}{S:Sets}{p:Nat}{r:Int}(hp:p < N)(hr:0≤r∧r < (R:Int))(h:S p r=false):pot2 N R (upd2 S p r) < pot2 N R S:=by
  refine countP_lt (fun x _ hx=>?_) ⟨(p,r.toNat),?_,?_,?_⟩
  · simp only [Bool.not_eq_true'] at hx ⊢
    unfold upd2 at hx
    split at hx
    · simp at hx; exact hx.2
    · exact hx
  · rw [List.mem_flatMap]
    exact ⟨p,List.mem_range.2 hp,List.mem_map.2 ⟨r.toNat,List.mem_range.2 (by omega),rfl⟩⟩
  · simp only
    rw [Int.toNat_of_nonneg hr.1,h]; rfl
  · simp only [upd2]
    rw [Int.toNat_of_nonneg hr.1]
    simp
def Cl (l:List Ins)(S:Sets)(p:Nat):Prop:=∀ i,l[p]? = some i→(∀ r ∈ i.uses,S p r=true)∧∀ n ∈ i.next p,∀ r,S n.toNat r=true→i.sets≠r→S p r=true
theorem Cl.all {l:List Ins}{S:Sets}(h:∀ p,p < l.length→Cl l S p){p:Nat}{r:Int}(hl:Lv l p r):S p r=true:=by
  induction hl with
  | use h' hu=>exact (h _ (List.getElem?_eq_some_iff.1 h').1 _ h').1 _ hu
  | step h' hn hs hl ih=>exact (h _ (List.getElem?_eq_some_iff.1 h').1 _ h').2 _ hn _ ih hs
structure Ps (l:List Ins)(N R:Nat)(Sp S:Sets)(ch:Bool):Prop where
  lo:∀ p r,S p r=true→Lv l p r
  st:ch=false→S=Sp
  mv:ch=true→pot2 N R S < pot2 N R Sp
theorem Ps.start {l:List Ins}{N R:Nat}{S:Sets}(h:∀ p r,S p r=true→Lv l p r):Ps l N R S S false:=⟨h,fun _=>rfl,fun e=>by cases e⟩
theorem Ps.add {l:List Ins}{N R:Nat}{Sp S:Sets}{ch:Bool}(h:Ps l N R Sp S ch){p:Nat}{r:Int}(hp:p < N)(hr:0≤r∧r < (R:Int))(hl:Lv l p r)(hs:S p r=false):Ps l N R Sp (upd2 S p r) true:=by
  refine ⟨fun q x hq=>?_,(fun e=>by cases e),fun _=>?_⟩
  · unfold upd2 at hq
    split at hq
    · rename_i e; subst e
      simp only [Bool.or_eq_true,decide_eq_true_eq] at hq
      rcases hq with rfl | hq
      · exact hl
      · exact h.lo _ _ hq
    · exact h.lo _ _ hq
  · have h1:=pot2_lt (R:=R) hp hr hs
    cases ch with
    | false=>rw [h.st rfl] at h1 ⊢; exact h1
    | true=>exact Nat.lt_trans h1 (h.mv rfl)
end Go.Proofs.Ythbcdckonaljiaa
namespace Go.Proofs.Ythbcdckonaljiaa
open Go.RowKit Go.BigFrame
theorem umap:Try.prog.underlying 73=some (.map 3 4):=by kernel_rfl
theorem uint:Try.prog.underlying 3=some (.int .i64):=by kernel_rfl
theorem zbool (w:World):(zeroValue 4).run Try.prog w = .ok (.bool false) w:=by kernel_rfl
structure Fl (W1 w:World)(sb N:Nat)(S:Sets)(cb:Nat)(ch:Bool):Prop where
  h:Pre g1 1 73 w sb ((List.range N).map fun p=>.map (some (sb + 2 + p)))
  bx:w.heap[sb + 1]? = some (.cells #[.slice (some ⟨sb,0,none⟩) N N] 77 (0,0))
  r:∀ p,p < N→SetI w (sb + 2 + p) (S p)
  c:w.heap[cb]? = some (.cells #[.bool ch] 4 (0,0))
  cn:sb + 2 + N≤cb
  b:Below sb W1 w
theorem Fl.cell {W1 w:World}{sb N:Nat}{S:Sets}{cb:Nat}{ch:Bool}(h:Fl W1 w sb N S cb ch){p:Nat}(hp:p < N):w.cell? ⟨sb,p,none⟩=some (.map (some (sb + 2 + p))) :=
  Pre1.cell h.h (by simp [hp])
theorem Fl.lt {W1 w:World}{sb N:Nat}{S:Sets}{cb:Nat}{ch:Bool}(h:Fl W1 w sb N S cb ch):cb < w.heap.size:=(Array.getElem?_eq_some_iff.1 h.c).1
theorem Fl.later {W1 w w':World}{sb N:Nat}{S:Sets}{cb:Nat}{ch:Bool}(h:Fl W1 w sb N S cb ch)(hb:Below w.heap.size w w'):Fl W1 w' sb N S cb ch:=by
  have hl:=h.lt
  have hn:=h.cn
  exact ⟨Pre.later h.h hb,(hb.block _ (by omega)).trans h.bx,fun p hp=>(h.r p hp).below hb (h.r p hp).lt,(hb.block _ hl).trans h.c,hn,h.b.trans (hb.mono (by omega))⟩
structure Kp (w w':World)(mb cb:Nat):Prop where
  s:w.heap.size≤w'.heap.size
  k:∀ b,b < w.heap.size→b≠mb→b≠cb→w'.heap[b]? = w.heap[b]?
theorem Kp.refl (w:World)(mb cb:Nat):Kp w w mb cb:=⟨Nat.le_refl _,fun _ _ _ _=>rfl⟩
theorem Kp.trans {a b c:World}{mb cb:Nat}(h1:Kp a b mb cb)(h2:Kp b c mb cb):Kp a c mb cb :=
  ⟨Nat.le_trans h1.s h2.s,fun x hx h3 h4=>(h2.k x (Nat.lt_of_lt_of_le hx h1.s) h3 h4).trans (h1.k x hx h3 h4)⟩
theorem Kp.below {w w':World}{mb cb:Nat}(h:Below w.heap.size w w'):Kp w w' mb cb:=⟨h.size,fun b hb _ _=>h.block b hb⟩
theorem Fl.set {W1 w w':World}{sb N:Nat}{S:Sets}{cb:Nat}{ch:Bool}(h:Fl W1 w sb N S cb ch){p:Nat}(hp:p < N){r:Int}(hs:SetI w' (sb + 2 + p) (insS_ (S p) r))(hg:w.grownBy w' (some (sb + 2 + p)))(hz:w'.heap.size=w.heap.size) :
    Fl W1 w' sb N (upd2 S p r) cb ch∧Kp w w' (sb + 2 + p) cb:=by
  have hl:=h.lt
  have hn:=h.cn
  have hk:∀ b,b < w.heap.size→b≠sb + 2 + p→w'.heap[b]? = w.heap[b]?:=fun b hb hne=>hg.block b hb (fun e=>hne (by injection e))
  refine ⟨⟨Pre.of_heap h.h (hk _ (by omega) (by omega)),(hk _ (by omega) (by omega)).trans h.bx,fun q hq=>?_,(hk _ hl (by omega)).trans h.c,hn,Below.grown h.b hg (by omega) (fun k hk=>by injection hk; omega)⟩,by omega,fun b hb h1 _=>hk b hb h1⟩
  by_cases hqp:q=p
  · subst hqp
    have e:upd2 S q r q=insS_ (S q) r:=by funext x; simp [upd2,insS_]
    rw [e]; exact hs
  · rw [upd2_other hqp]
    exact (h.r q hq).of_block (hk _ (h.r q hq).lt (by omega))
theorem Fl.mark {W1 w:World}{sb N:Nat}{S:Sets}{cb:Nat}{ch:Bool}(h:Fl W1 w sb N S cb ch)(v:Bool):Fl W1 (w.setCell ⟨cb,0,none⟩ (.bool v)) sb N S cb v∧∀ mb,Kp w (w.setCell ⟨cb,0,none⟩ (.bool v)) mb cb:=by
  have hl:=h.lt
  have hn:=h.cn
  have ho:∀ b,b≠cb→(w.setCell ⟨cb,0,none⟩ (.bool v)).heap[b]? = w.heap[b]?:=fun b hb=>heap_setCell_other w ⟨cb,0,none⟩ b _ hb
  exact ⟨⟨Pre.other h.h (by simp only; omega) _,(ho _ (by omega)).trans h.bx,fun p hp=>(h.r p hp).of_block (ho _ (by omega)),by rw [heap_setCell h.c]; rfl,hn,h.b.setCell (by simp only; omega) _⟩,fun mb=>⟨by simp,fun b _ _ hne=>ho b hne⟩⟩
set_option maxRecDepth 1000000 in
set_option maxHeartbeats 4000000 in
theorem add_yes {W1 w:World}{sb N:Nat}{S:Sets}{cb:Nat}{ch:Bool}(h:Fl W1 w sb N S cb ch){ab p:Nat}(ha:w.heap[ab]? = some (.cells #[.int .i64 (p:Int)] 3 (0,0)))(hp:p < N){r:Int}(hr:S p r=true) :
    Calls Try.prog 87 #[.int .i64 r,.pointer (some ⟨sb + 1,0,none⟩),.pointer (some ⟨ab,0,none⟩),.pointer (some ⟨cb,0,none⟩)] w fun e w'=>e = .returned (.tuple #[])∧w=w':=by
  have c0:=cell_of_heap h.bx 0 _ rfl
  have c1:=cell_of_heap ha 0 _ rfl
  have c2:=h.cell hp
  have hlk:=(h.r p hp).lookup umap uint (zbool w) r
  rw [hr] at hlk
  clear h ha hr
  go_enter Try.func87,Try.ntmps87
  go_wp2
  go_returns
  exact ⟨rfl,rfl⟩
set_option maxRecDepth 1000000 in
set_option maxHeartbeats 4000000 in
theorem add_no {W1 w:World}{sb N:Nat}{S:Sets}{cb:Nat}{ch:Bool}(h:Fl W1 w sb N S cb ch){ab p:Nat}(ha:w.heap[ab]? = some (.cells #[.int .i64 (p:Int)] 3 (0,0)))(hp:p < N){r:Int}(hr:S p r=false) :
    Calls Try.prog 87 #[.int .i64 r,.pointer (some ⟨sb + 1,0,none⟩),.pointer (some ⟨ab,0,none⟩),.pointer (some ⟨cb,0,none⟩)] w fun e w'=>e = .returned (.tuple #[])∧Fl W1 w' sb N (upd2 S p r) cb true∧Kp w w' (sb + 2 + p) cb:=by
  have c0:=cell_of_heap h.bx 0 _ rfl
  have c1:=cell_of_heap ha 0 _ rfl
  have c2:=h.cell hp
  have hs:=h.r p hp
  have hlk:=hs.lookup umap uint (zbool w) r
  rw [hr] at hlk
  have HF:=Lib.hid h
  have HR:=Lib.hid hr
  have HS:=Lib.hid hs
  clear h ha hr hs
  go_enter Try.func87,Try.ntmps87
  go_wp2_with (first
    | (refine wpList_mapEntry_set _ rfl _ _ 73 rfl umap uint (zbool w) (sb + 2 + p) (S p) rfl HS.out r HR.out rfl ?_; intro w1 clock hh1 hg1 hz1)
    | (refine wpList_entryStore_set _ rfl _ _ _ 73 rfl (sb + 2 + p) (S p) r clock rfl hh1 rfl rfl ?_; intro w2 hs2 hg2 hz2; have ⟨hf2,hk2⟩:=HF.out.set hp hs2 ((hg1.trans hg2)) (hz2.trans hz1); have ff:=free_of_heap hf2.c 0; have fl:=hf2.lt; have fc:=cell_of_heap hf2.c 0 _ rfl; have HF2:=Lib.hid hf2; have HK2:=Lib.hid hk2; clear hf2 hk2))
  go_returns
  have h3:=HF2.out.mark true
  exact ⟨rfl,h3.1,HK2.out.trans (h3.2 _)⟩
end Go.Proofs.Ythbcdckonaljiaa
namespace Go.Proofs.Ythbcdckonaljiaa
open Go.RowKit Go.BigFrame
noncomputable def lf2:Code:=((((Try.f64.body).map loopsOf).getD [])[1]?).getD .skip
noncomputable def lf3:Code:=((loopsOf (inLoop lf2))[0]?).getD .skip
noncomputable def lf4:Code:=((loopsOf (inLoop lf3))[0]?).getD .skip
noncomputable def lf5:Code:=((loopsOf (inLoop lf3))[1]?).getD .skip
noncomputable def lf6:Code:=((loopsOf (inLoop lf5))[0]?).getD .skip
theorem ne_of_obj {w:World}{a b:Nat}{x y:Obj}(h1:w.heap[a]? = some x)(h2:w.heap[b]? = some y)(h:x≠y):a≠b:=by
  rintro rfl
  rw [h1] at h2
  injection h2 with h2
  exact h h2
theorem SetI.ne {w:World}{a b:Nat}{S:Int→Bool}{cs:Array Value}{t:TypeId}{z:Nat × Nat}(h:SetI w b S)(h1:w.heap[a]? = some (.cells cs t z)):a≠b:=by
  obtain ⟨es,clock,h2,_⟩:=h
  exact ne_of_obj h1 h2 (by simp)
theorem RdN.kp {w w':World}{mb cb:Nat}{S:Int→Bool}{c:Bool}{A:Option Addr}{l:List Int}(h:RdN w A l)(hm:SetI w mb S)(hc:w.heap[cb]? = some (.cells #[.bool c] 4 (0,0)))(hk:Kp w w' mb cb):RdN w' A l:=fun j n hn=>by
  obtain ⟨b,o,e1,e2,e3⟩:=h j n hn
  have hb:w'.heap[b]? = w.heap[b]?:=hk.k b e2 (fun e=>by
    subst e
    obtain ⟨es,clock,h2,_⟩:=hm
    simp [World.cell?,h2] at e3) (fun e=>by
    subst e
    simp only [World.cell?,hc] at e3
    cases hx:o + j with
    | zero=>rw [hx] at e3; simp at e3
    | succ k=>rw [hx] at e3; simp at e3)
  exact ⟨b,o,e1,Nat.lt_of_lt_of_le e2 hk.s,by rw [← e3]; simp only [World.cell?,hb]⟩
theorem Fl.other {W1 w w':World}{sb N:Nat}{S:Sets}{cb:Nat}{ch:Bool}(h:Fl W1 w sb N S cb ch){r:Nat}(hg:w.grownBy w' (some r))(hr:cb < r):Fl W1 w' sb N S cb ch:=by
  have hl:=h.lt
  have hn:=h.cn
  have hk:∀ b,b < w.heap.size→b≠r→w'.heap[b]? = w.heap[b]?:=fun b hb hne=>hg.block b hb (fun e=>hne (by injection e))
  exact ⟨Pre.of_heap h.h (hk _ (by omega) (by omega)),(hk _ (by omega) (by omega)).trans h.bx,fun q hq=>(h.r q hq).of_block (hk _ (h.r q hq).lt (by omega)),(hk _ hl (by omega)).trans h.c,hn,Below.grown h.b hg (by omega) (fun k hk=>by injection hk; omega)⟩
set_option maxRecDepth 1000000 in
set_option maxHeartbeats 8000000 in
theorem lf4_any (l:List Ins) (Rn:Nat) (W1 w:World) (sb N p cb ab:Nat) (Sp S0:Sets) (ch0:Bool) (us:List Int) (A:Option Addr) (cap Lu:Nat) (hLu:us.length=Lu) (hLu6:Lu≤100)
    (hF:Fl W1 w sb N S0 cb ch0) (hP:Ps l N Rn Sp S0 ch0) (hp:p < N) (ha:w.heap[ab]? = some (.cells #[.int .i64 (p:Int)] 3 (0,0))) (hR:RdN w A us) (hus:∀ r ∈ us,Lv l p r∧0≤r∧r < (Rn:Int))
    {x0 x1 x2 x3 x4 x5 x6 x7 x9 x10 x11 x12 x13 x14 x15 x16 x17 x18 x19 x20 x21 x22 x23 x24 x25 x26 x27 x28 x29 x30 x31 x32 x33 x34 x35 x36 x37 x38 x39 x40 x41 x42 x43 x47 x48 x49 x50 x51 x52 x53 x54 x55 x56 x57 x58 x59 x60 x61 x62 x63 x64 x65 x66 x67 x68 x69 x70 x71 x72 x73 x74 x75 x76 x77 x78 x79 x80 x81:Value} (Q:Exit→Act→World→Prop)
    (hexit:∀ (y10 y47 y48 y49 y50 y51 y52 y53:Value) (w':World) (S:Sets) (ch:Bool),Fl W1 w' sb N S cb ch→Ps l N Rn Sp S ch→Kp w w' (sb + 2 + p) cb→(ch=false→ch0=false)→(ch=false→∀ r ∈ us,Sp p r=true)→Q (.exit 6) ⟨(x0::x1::x2::x3::x4::x5::x6::x7::.func (.func 87) #[] #[.pointer (some ⟨sb + 1,0,none⟩),.pointer (some ⟨ab,0,none⟩),.pointer (some ⟨cb,0,none⟩)]::x9::y10::x11::x12::x13::x14::x15::x16::x17::x18::x19::x20::x21::x22::x23::x24::x25::x26::x27::x28::x29::x30::x31::x32::x33::x34::x35::x36::x37::x38::x39::x40::x41::x42::x43::.slice A Lu cap::.int .i64 (Lu:Int)::.int .i64 (Lu:Int)::y47::y48::y49::y50::y51::y52::y53::x54::x55::x56::x57::x58::x59::x60::x61::x62::x63::x64::x65::x66::x67::x68::x69::x70::x71::x72::x73::x74::x75::x76::x77::x78::x79::x80::x81::[]).toArray,[]⟩ w') :
    Code.wp Try.prog lf4 Q ⟨(x0::x1::x2::x3::x4::x5::x6::x7::.func (.func 87) #[] #[.pointer (some ⟨sb + 1,0,none⟩),.pointer (some ⟨ab,0,none⟩),.pointer (some ⟨cb,0,none⟩)]::x9::x10::x11::x12::x13::x14::x15::x16::x17::x18::x19::x20::x21::x22::x23::x24::x25::x26::x27::x28::x29::x30::x31::x32::x33::x34::x35::x36::x37::x38::x39::x40::x41::x42::x43::.slice A Lu cap::.int .i64 (Lu:Int)::.int .i64 0::x47::x48::x49::x50::x51::x52::x53::x54::x55::x56::x57::x58::x59::x60::x61::x62::x63::x64::x65::x66::x67::x68::x69::x70::x71::x72::x73::x74::x75::x76::x77::x78::x79::x80::x81::[]).toArray,[]⟩ w:=by
  conv=>arg 2; whnf
  have hab:ab≠sb + 2 + p:=(hF.r p hp).ne ha
  have habc:ab≠cb:=ne_of_obj ha hF.c (by simp)
  have HE:=Lib.hid hexit
  have HLU:=Lib.hid hLu
  have HR:=Lib.hid hR
  have HUS:=Lib.hid hus
  have HF0:=Lib.hid hF
  have HA:=Lib.hid ha
  clear hexit hLu hus ha
  go_loopw [46] (fun ix wr=>∃ (k:Nat) (S:Sets) (ch:Bool),k≤Lu∧ix = .int .i64 k∧Fl W1 wr sb N S cb ch∧Ps l N Rn Sp S ch∧Kp w wr (sb + 2 + p) cb∧(ch=false→ch0=false)∧(ch=false→∀ (j:Nat) r,j < k→us[j]? = some r→Sp p r=true)) (fun ix _=>Lu - (intOf ix).toNat)
  case atStart=>exact ⟨0,S0,ch0,by omega,rfl,hF,hP,Kp.refl _ _ _,(fun h=>h),fun _ j r hj=>by omega⟩
  case round =>
    obtain ⟨k,S,ch,hk,rfl,hf,hps,hkp,hc0,hdone⟩:=hrel
    clear hF hP
    have HDN:=Lib.hid hdone
    clear hdone
    by_cases hlt:k < Lu
    · obtain ⟨r,hr⟩:∃ r,us[k]? = some r:=⟨_,List.getElem?_eq_getElem (by rw [HLU.out]; exact hlt)⟩
      have hin:=HUS.out r (List.mem_of_getElem? hr)
      obtain ⟨b,o,rfl,hbl,hc⟩:=(HR.out.kp (HF0.out.r p hp) HF0.out.c hkp) k r hr
      have ha2:wr.heap[ab]? = some (.cells #[.int .i64 (p:Int)] 3 (0,0)):=(hkp.k ab (Array.getElem?_eq_some_iff.1 HA.out).1 hab habc).trans HA.out
      cases hS:S p r with
      | true =>
        have HC:=Lib.hid (add_yes hf ha2 hp hS)
        have HN:Hid (∃ (k':Nat) (S':Sets) (ch':Bool),k'≤Lu∧Value.int IntKind.i64 ((k:Int) + 1) = .int .i64 k'∧Fl W1 wr sb N S' cb ch'∧Ps l N Rn Sp S' ch'∧Kp w wr (sb + 2 + p) cb∧(ch'=false→ch0=false)∧(ch'=false→∀ (j:Nat) x,j < k'→us[j]? = some x→Sp p x=true)):=Lib.hid ⟨k + 1,S,ch,by omega,by go_num,hf,hps,hkp,hc0,fun hch j x hj hx=>by
          by_cases hjk:j=k
          · subst hjk
            rw [hr] at hx
            injection hx with hx
            subst hx
            rw [← hps.st hch]
            exact hS
          · exact HDN.out hch j x (by omega) hx⟩
        clear hr hin hf hps hkp ha2 hS hc0
        go_wp2_with (first
          | (refine HC.out.mono ?_; rintro e w2 ⟨rfl,rfl⟩))
        exact ⟨HN.out,by simp [intOf]; omega⟩
      | false =>
        have HC:=Lib.hid (add_no hf ha2 hp hS)
        have hps2:=hps.add hp hin.2 hin.1 hS
        have HN:Hid (∀ w2,Fl W1 w2 sb N (upd2 S p r) cb true→Kp wr w2 (sb + 2 + p) cb→∃ (k':Nat) (S':Sets) (ch':Bool),k'≤Lu∧Value.int IntKind.i64 ((k:Int) + 1) = .int .i64 k'∧Fl W1 w2 sb N S' cb ch'∧Ps l N Rn Sp S' ch'∧Kp w w2 (sb + 2 + p) cb∧(ch'=false→ch0=false)∧(ch'=false→∀ (j:Nat) x,j < k'→us[j]? = some x→Sp p x=true)):=Lib.hid fun w2 h1 h2=>⟨k + 1,_,true,by omega,by go_num,h1,hps2,hkp.trans h2,(fun hch=>by cases hch),fun hch=>by cases hch⟩
        clear hr hin hf hps hkp ha2 hS hc0 hps2
        go_wp2_with (first
          | (refine HC.out.mono ?_; rintro e w2 ⟨rfl,h1,h2⟩; have HN2:=Lib.hid (HN.out w2 h1 h2); clear h1 h2))
        exact ⟨HN2.out,by simp [intOf]; omega⟩
    · obtain rfl:k=Lu:=by omega
      have HX:=fun y10 y47 y48 y49 y50 y51 y52 y53=>Lib.hid (HE.out y10 y47 y48 y49 y50 y51 y52 y53 wr S ch hf hps hkp hc0 (fun hch r hr=>by
        obtain ⟨j,hj⟩:=List.mem_iff_getElem?.1 hr
        exact HDN.out hch j r (by have:=(List.getElem?_eq_some_iff.1 hj).1; rw [HLU.out] at this; exact this) hj))
      clear hf hps hkp HE hc0
      go_wp2
      exact (HX _ _ _ _ _ _ _ _).out
set_option maxRecDepth 1000000 in
set_option maxHeartbeats 8000000 in
theorem lf6_any (l:List Ins) (Rn:Nat) (W1 w0 w:World) (sb N p n cb ab wi rb:Nat) (Sp S0:Sets) (ch0:Bool) (i:Ins) (lst:List Int)
    (hF:Fl W1 w0 sb N S0 cb ch0) (hb:Below w0.heap.size w0 w) (hP:Ps l N Rn Sp S0 ch0) (hp:p < N) (hn:n < N) (ha:w0.heap[ab]? = some (.cells #[.int .i64 (p:Int)] 3 (0,0))) (hi:w0.heap[wi]? = some i.obj)
    (hrb:w0.heap.size≤rb) (hR:RgD w rb (sb + 2 + n) (S0 n) lst) (hall:∀ x,x ∈ lst↔S0 n x=true) (hln:∀ r,S0 n r=true→i.sets≠r→Lv l p r∧0≤r∧r < (Rn:Int))
    {x0 x1 x2 x3 x4 x5 x6 x9 x10 x11 x12 x13 x14 x15 x16 x17 x18 x19 x20 x21 x22 x23 x24 x25 x26 x27 x28 x29 x30 x31 x32 x33 x34 x35 x36 x37 x38 x39 x40 x41 x42 x43 x44 x45 x46 x47 x48 x49 x50 x51 x52 x53 x54 x55 x56 x57 x58 x59 x60 x61 x62 x63 x64 x65 x67 x68 x69 x70 x71 x72 x73 x74 x75 x76 x77 x78 x79 x80 x81:Value} (Q:Exit→Act→World→Prop)
    (hexit:∀ (y13 y67 y68 y69 y70 y71 y72 y73 y74 y75 y76 y77:Value) (w':World) (S:Sets) (ch:Bool),Fl W1 w' sb N S cb ch→Ps l N Rn Sp S ch→Kp w0 w' (sb + 2 + p) cb→(ch=false→ch0=false)→(ch=false→∀ r,Sp n r=true→i.sets≠r→Sp p r=true)→Q (.exit 10) ⟨(x0::x1::x2::x3::x4::x5::x6::.pointer (some ⟨wi,0,none⟩)::.func (.func 87) #[] #[.pointer (some ⟨sb + 1,0,none⟩),.pointer (some ⟨ab,0,none⟩),.pointer (some ⟨cb,0,none⟩)]::x9::x10::x11::x12::y13::x14::x15::x16::x17::x18::x19::x20::x21::x22::x23::x24::x25::x26::x27::x28::x29::x30::x31::x32::x33::x34::x35::x36::x37::x38::x39::x40::x41::x42::x43::x44::x45::x46::x47::x48::x49::x50::x51::x52::x53::x54::x55::x56::x57::x58::x59::x60::x61::x62::x63::x64::x65::.pointer (some ⟨rb,0,none⟩)::y67::y68::y69::y70::y71::y72::y73::y74::y75::y76::y77::x78::x79::x80::x81::[]).toArray,[]⟩ w') :
    Code.wp Try.prog lf6 Q ⟨(x0::x1::x2::x3::x4::x5::x6::.pointer (some ⟨wi,0,none⟩)::.func (.func 87) #[] #[.pointer (some ⟨sb + 1,0,none⟩),.pointer (some ⟨ab,0,none⟩),.pointer (some ⟨cb,0,none⟩)]::x9::x10::x11::x12::x13::x14::x15::x16::x17::x18::x19::x20::x21::x22::x23::x24::x25::x26::x27::x28::x29::x30::x31::x32::x33::x34::x35::x36::x37::x38::x39::x40::x41::x42::x43::x44::x45::x46::x47::x48::x49::x50::x51::x52::x53::x54::x55::x56::x57::x58::x59::x60::x61::x62::x63::x64::x65::.pointer (some ⟨rb,0,none⟩)::x67::x68::x69::x70::x71::x72::x73::x74::x75::x76::x77::x78::x79::x80::x81::[]).toArray,[]⟩ w:=by
  conv=>arg 2; whnf
  have hab:ab≠sb + 2 + p:=(hF.r p hp).ne ha
  have habc:ab≠cb:=ne_of_obj ha hF.c (by simp)
  have hib:wi≠sb + 2 + p:=(hF.r p hp).ne hi
  have hibc:wi≠cb:=ne_of_obj hi hF.c (by simp)
  have hcb:=hF.lt
  have hcn:=hF.cn
  have HE:=Lib.hid hexit
  have HLN:=Lib.hid hln
  have HF0:=Lib.hid hF
  have HA:=Lib.hid ha
  have HI:=Lib.hid hi
  have hal:=(Array.getElem?_eq_some_iff.1 ha).1
  have hil:=(Array.getElem?_eq_some_iff.1 hi).1
  have h0:∃ (lst':List Int) (S:Sets) (ch:Bool),lst.length=lst'.length∧RgD w rb (sb + 2 + n) (S0 n) lst'∧S n=S0 n∧Fl W1 w sb N S cb ch∧Ps l N Rn Sp S ch∧Kp w0 w (sb + 2 + p) cb∧(ch=false→ch0=false)∧(ch=false→∀ x,S0 n x=true→x ∉ lst'→i.sets≠x→Sp p x=true) :=
    ⟨lst,S0,ch0,rfl,hR,rfl,hF.later hb,hP,Kp.below hb,(fun h=>h),fun _ x hx hx2=>absurd ((hall x).2 hx) hx2⟩
  have H0:=Lib.hid h0
  have hset:=fun W=>Sets_any i W
  simp only [Ins.agg] at hset
  have HSET:=Lib.hid hset
  obtain ⟨k,op,dst,a,b',nn,text,r0,r1,r2,r3,r4,r5,to_,els⟩:=i
  clear hexit hln ha hi hF hP hR hall h0 hb hset
  go_loopg [67] lst.length (fun g _ wr=>∃ (lst':List Int) (S:Sets) (ch:Bool),g=lst'.length∧RgD wr rb (sb + 2 + n) (S0 n) lst'∧S n=S0 n∧Fl W1 wr sb N S cb ch∧Ps l N Rn Sp S ch∧Kp w0 wr (sb + 2 + p) cb∧(ch=false→ch0=false)∧(ch=false→∀ x,S0 n x=true→x ∉ lst'→Ins.sets ⟨k,op,dst,a,b',nn,text,r0,r1,r2,r3,r4,r5,to_,els⟩≠x→Sp p x=true))
  case atStart=>exact H0.out
  case round =>
    obtain ⟨lst',S,ch,hg,hrg,hsn,hf,hps,hkp,hc0,hdone⟩:=hrel
    have HG:=Lib.hid hg
    have HSN:=Lib.hid hsn
    have HDN:=Lib.hid hdone
    have HRG:=Lib.hid hrg
    have HFF:=Lib.hid hf
    have HPS:=Lib.hid hps
    have HKP:=Lib.hid hkp
    have HC0:=Lib.hid hc0
    clear hg hsn hdone H0 hrg hf hps hkp hc0
    go_wp2_with (first
      | (at_next; refine wpList_next_set _ rfl _ rfl rb (sb + 2 + n) (S0 n) lst' rfl HRG.out ?_ ?_))
    · intro hl
      have HX:=fun y13 y67 y68 y69 y70 y71 y72 y73 y74 y75 y76 y77=>Lib.hid (HE.out y13 y67 y68 y69 y70 y71 y72 y73 y74 y75 y76 y77 wr S ch HFF.out HPS.out HKP.out HC0.out (fun hch r hr hs=>HDN.out hch r (by rw [← HSN.out,HPS.out.st hch]; exact hr) (by rw [hl]; simp) hs))
      clear HE
      go_wp2
      exact (HX _ _ _ _ _ _ _ _ _ _ _ _).out
    · intro s l' w2 hm hs hmem hlen hrg2 hg2 hz2 hen
      have hf2:=HFF.out.other hg2 (by omega)
      have hk2:Kp w0 w2 (sb + 2 + p) cb:=⟨by have:=HKP.out.s; omega,fun b hb h1 h2=>(hg2.block b (Nat.lt_of_lt_of_le hb HKP.out.s) (fun e=>by injection e; omega)).trans (HKP.out.k b hb h1 h2)⟩
      have hi2:=(hk2.k wi hil hib hibc).trans HI.out
      have ha2:=(hk2.k ab hal hab habc).trans HA.out
      have ⟨d0,d1,d2,d3,d4,d5,d6,d7,d8,d9,d10,d11,d12,d13,d14⟩:=Ins.cells (i:=⟨k,op,dst,a,b',nn,text,r0,r1,r2,r3,r4,r5,to_,els⟩) hi2
      simp only at d0 d1 d2 d3 d4 d5 d6 d7 d8 d9 d10 d11 d12 d13 d14
      have HF2:=Lib.hid hf2
      have HK2:=Lib.hid hk2
      have HA2:=Lib.hid ha2
      have HG2:=Lib.hid hrg2
      have HM:=Lib.hid hm
      have HS:=Lib.hid hs
      have HME:=Lib.hid hmem
      have HLE:=Lib.hid hlen
      obtain ⟨z,hz⟩:∃ z,Ins.sets ⟨k,op,dst,a,b',nn,text,r0,r1,r2,r3,r4,r5,to_,els⟩=z:=⟨_,rfl⟩
      have HST2:Hid (∀ W:World,Calls Try.prog 31 #[.agg #[.int .i64 k,.int .i64 op,.int .i64 dst,.int .i64 a,.int .i64 b',.int .i64 nn,.string text,.int .i64 r0,.int .i64 r1,.int .i64 r2,.int .i64 r3,.int .i64 r4,.int .i64 r5,.int .i64 to_,.int .i64 els]] W fun e w'=>e = .returned (.int .i64 z)∧Below W.heap.size W w'):=Lib.hid (by rw [← hz]; exact HSET.out)
      have HZ:=Lib.hid hz
      have HRGS:=Lib.hid hg2
      clear hf2 hk2 hi2 ha2 hrg2 hm hs hmem hlen hz hg2 hz2 HSET
      by_cases hsz:s=z
      · have q1:(s == z)=true:=by simp [hsz]
        have q2:(s != z)=false:=by simp [hsz]
        have HSZ:=Lib.hid hsz
        clear hsz
        go_wp2_with (first
          | (refine (HST2.out _).mono ?_; rintro e w3 ⟨rfl,hb3⟩))
        go_roundg l'.length
        case measure=>rw [HG.out]; exact HLE.out
        case rel =>
          exact ⟨l',S,ch,rfl,HG2.out.below hb3,HSN.out,HF2.out.later hb3,HPS.out,HK2.out.trans (Kp.below hb3),HC0.out,fun hch x hx hx2 hx3=>HDN.out hch x hx (fun h=>hx2 ((HME.out x).2 ⟨h,fun e=>hx3 (by rw [HZ.out,e,HSZ.out])⟩)) hx3⟩
      · have q1 : (s == z)=false:=by simp [hsz]
        have q2:(s != z)=true:=by simp [hsz]
        have hin:=HLN.out s HS.out (by rw [HZ.out]; exact fun e=>hsz e.symm)
        have HIN:=Lib.hid hin
        clear hsz hin
        cases hS:S p s with
        | true =>
          have HC:=Lib.hid (fun (w3:World) (hb3:Below w2.heap.size w2 w3)=>add_yes (HF2.out.later hb3) ((hb3.block _ (Array.getElem?_eq_some_iff.1 HA2.out).1).trans HA2.out) hp hS)
          have HSS:=Lib.hid hS
          clear hS
          go_wp2_with (first
            | (refine (HST2.out _).mono ?_; rintro e w3 ⟨rfl,hb3⟩)
            | (refine (HC.out _ hb3).mono ?_; rintro e w4 ⟨rfl,rfl⟩))
          go_roundg l'.length
          case measure=>rw [HG.out]; exact HLE.out
          case rel =>
            exact ⟨l',S,ch,rfl,HG2.out.below hb3,HSN.out,HF2.out.later hb3,HPS.out,HK2.out.trans (Kp.below hb3),HC0.out,fun hch x hx hx2 hx3=>by
              by_cases hxs:x=s
              · subst hxs
                rw [← HPS.out.st hch]
                exact HSS.out
              · exact HDN.out hch x hx (fun h=>hx2 ((HME.out x).2 ⟨h,hxs⟩)) hx3⟩
        | false =>
          have HC:=Lib.hid (fun (w3:World) (hb3:Below w2.heap.size w2 w3)=>add_no (HF2.out.later hb3) ((hb3.block _ (Array.getElem?_eq_some_iff.1 HA2.out).1).trans HA2.out) hp hS)
          have hnp:n≠p:=fun e=>by
            subst e
            rw [HSN.out,HS.out] at hS
            cases hS
          have HPS2:=Lib.hid (HPS.out.add hp HIN.out.2 HIN.out.1 hS)
          clear hS
          go_wp2_with (first
            | (refine (HST2.out _).mono ?_; rintro e w3 ⟨rfl,hb3⟩)
            | (refine (HC.out _ hb3).mono ?_; rintro e w4 ⟨rfl,hf4,hk4⟩))
          go_roundg l'.length
          case measure=>rw [HG.out]; exact HLE.out
          case rel =>
            have hlt:=HG2.out.lt
            have hsz3:=hb3.size
            exact ⟨l',_,true,rfl,(HG2.out.below hb3).of_blocks (hk4.k _ (by omega) (by omega) (by omega)) (hk4.k _ (by omega) (by omega) (by omega)),by rw [upd2_other hnp]; exact HSN.out,hf4,HPS2.out,(HK2.out.trans (Kp.below hb3)).trans hk4,(fun hch=>by cases hch),fun hch=>by cases hch⟩
end Go.Proofs.Ythbcdckonaljiaa
namespace Go.Proofs.Ythbcdckonaljiaa
open Go.RowKit Go.BigFrame
set_option maxRecDepth 1000000 in
set_option maxHeartbeats 8000000 in
theorem lf5_any (l:List Ins) (Rn:Nat) (W1 w:World) (sb N p cb ab wi:Nat) (Sp S0:Sets) (ch0:Bool) (i:Ins) (nx:List Int) (A:Option Addr) (cap Ln:Nat) (hLn:nx.length=Ln) (hLn2:Ln≤100)
    (hF:Fl W1 w sb N S0 cb ch0) (hP:Ps l N Rn Sp S0 ch0) (hp:p < N) (ha:w.heap[ab]? = some (.cells #[.int .i64 (p:Int)] 3 (0,0))) (hi:w.heap[wi]? = some i.obj) (hR:RdN w A nx)
    (hin:∀ n ∈ nx,0≤n∧n.toNat < N) (hst:∀ n ∈ nx,∀ r,Lv l n.toNat r→i.sets≠r→Lv l p r∧0≤r∧r < (Rn:Int))
    {x0 x1 x2 x4 x5 x6 x9 x10 x11 x12 x13 x14 x15 x16 x17 x18 x19 x20 x21 x22 x23 x24 x25 x26 x27 x28 x29 x30 x31 x32 x33 x34 x35 x36 x37 x38 x39 x40 x41 x42 x43 x44 x45 x46 x47 x48 x49 x50 x51 x52 x53 x54 x55 x59 x60 x61 x62 x63 x64 x65 x66 x67 x68 x69 x70 x71 x72 x73 x74 x75 x76 x77 x78 x79 x80 x81:Value} (Q:Exit→Act→World→Prop)
    (hexit:∀ (y12 y13 y59 y60 y61 y62 y63 y64 y65 y66 y67 y68 y69 y70 y71 y72 y73 y74 y75 y76 y77 y78:Value) (w':World) (S:Sets) (ch:Bool),Fl W1 w' sb N S cb ch→Ps l N Rn Sp S ch→Kp w w' (sb + 2 + p) cb→(ch=false→ch0=false)→(ch=false→∀ n ∈ nx,∀ r,Sp n.toNat r=true→i.sets≠r→Sp p r=true)→Q (.exit 8) ⟨(x0::x1::x2::.pointer (some ⟨sb + 1,0,none⟩)::x4::x5::x6::.pointer (some ⟨wi,0,none⟩)::.func (.func 87) #[] #[.pointer (some ⟨sb + 1,0,none⟩),.pointer (some ⟨ab,0,none⟩),.pointer (some ⟨cb,0,none⟩)]::x9::x10::x11::y12::y13::x14::x15::x16::x17::x18::x19::x20::x21::x22::x23::x24::x25::x26::x27::x28::x29::x30::x31::x32::x33::x34::x35::x36::x37::x38::x39::x40::x41::x42::x43::x44::x45::x46::x47::x48::x49::x50::x51::x52::x53::x54::x55::.slice A Ln cap::.int .i64 (Ln:Int)::.int .i64 (Ln:Int)::y59::y60::y61::y62::y63::y64::y65::y66::y67::y68::y69::y70::y71::y72::y73::y74::y75::y76::y77::y78::x79::x80::x81::[]).toArray,[]⟩ w') :
    Code.wp Try.prog lf5 Q ⟨(x0::x1::x2::.pointer (some ⟨sb + 1,0,none⟩)::x4::x5::x6::.pointer (some ⟨wi,0,none⟩)::.func (.func 87) #[] #[.pointer (some ⟨sb + 1,0,none⟩),.pointer (some ⟨ab,0,none⟩),.pointer (some ⟨cb,0,none⟩)]::x9::x10::x11::x12::x13::x14::x15::x16::x17::x18::x19::x20::x21::x22::x23::x24::x25::x26::x27::x28::x29::x30::x31::x32::x33::x34::x35::x36::x37::x38::x39::x40::x41::x42::x43::x44::x45::x46::x47::x48::x49::x50::x51::x52::x53::x54::x55::.slice A Ln cap::.int .i64 (Ln:Int)::.int .i64 0::x59::x60::x61::x62::x63::x64::x65::x66::x67::x68::x69::x70::x71::x72::x73::x74::x75::x76::x77::x78::x79::x80::x81::[]).toArray,[]⟩ w:=by
  conv=>arg 2; whnf
  have hab:ab≠sb + 2 + p:=(hF.r p hp).ne ha
  have habc:ab≠cb:=ne_of_obj ha hF.c (by simp)
  have hib:wi≠sb + 2 + p:=(hF.r p hp).ne hi
  have hibc:wi≠cb:=ne_of_obj hi hF.c (by simp)
  have hal:=(Array.getElem?_eq_some_iff.1 ha).1
  have hil:=(Array.getElem?_eq_some_iff.1 hi).1
  have HE:=Lib.hid hexit
  have HLN:=Lib.hid hLn
  have HR:=Lib.hid hR
  have HIN:=Lib.hid hin
  have HST:=Lib.hid hst
  have HF0:=Lib.hid hF
  have HA:=Lib.hid ha
  have HI:=Lib.hid hi
  clear hexit hLn hin hst ha hi
  go_loopw [58] (fun ix wr=>∃ (k:Nat) (S:Sets) (ch:Bool),k≤Ln∧ix = .int .i64 k∧Fl W1 wr sb N S cb ch∧Ps l N Rn Sp S ch∧Kp w wr (sb + 2 + p) cb∧(ch=false→ch0=false)∧(ch=false→∀ (j:Nat) n,j < k→nx[j]? = some n→∀ r,Sp n.toNat r=true→i.sets≠r→Sp p r=true)) (fun ix _=>Ln - (intOf ix).toNat)
  case atStart=>exact ⟨0,S0,ch0,by omega,rfl,hF,hP,Kp.refl _ _ _,(fun h=>h),fun _ j r hj=>by omega⟩
  case round =>
    obtain ⟨k,S,ch,hk,rfl,hf,hps,hkp,hc0,hdone⟩:=hrel
    clear hF hP
    have HDN:=Lib.hid hdone
    have HC0:=Lib.hid hc0
    clear hdone hc0
    by_cases hlt:k < Ln
    · obtain ⟨n,hn⟩:∃ n,nx[k]? = some n:=⟨_,List.getElem?_eq_getElem (by rw [HLN.out]; exact hlt)⟩
      have hmem:=List.mem_of_getElem? hn
      have hnb:=HIN.out n hmem
      have hst:=HST.out n hmem
      obtain ⟨m,rfl⟩:∃ m:Nat,n=(m:Int):=⟨n.toNat,by omega⟩
      have hmN:m < N:=by have:=hnb.2; rwa [Int.toNat_natCast] at this
      rw [Int.toNat_natCast] at hst
      obtain ⟨b,o,rfl,hbl,hc⟩:=(HR.out.kp (HF0.out.r p hp) HF0.out.c hkp) k _ hn
      have ha2:=(hkp.k ab hal hab habc).trans HA.out
      have hi2:=(hkp.k wi hil hib hibc).trans HI.out
      have c0:=cell_of_heap hf.bx 0 _ rfl
      have c1:=hf.cell hmN
      have HSET:=Lib.hid (hf.r m hmN)
      have HNN:=Lib.hid hn
      have HL:=Lib.hid hst
      have HF:=Lib.hid hf
      have HP:=Lib.hid hps
      have HK:=Lib.hid hkp
      have HA2:=Lib.hid ha2
      have HI2:=Lib.hid hi2
      clear hn hmem hnb hst hf hps hkp ha2 hi2
      go_wp2_with (first
        | (at_range; refine wpList_range_set _ rfl _ 73 rfl umap (sb + 2 + m) (S m) rfl HSET.out ?_; intro lst o' hrg hnd hall))
      go_frame
      refine lf6_any l Rn W1 wr (wr.alloc o') sb N p m cb ab wi wr.heap.size Sp S ch i lst HF.out (Below.one _ _) HP.out hp hmN HA2.out HI2.out (Nat.le_refl _) hrg hall (fun r h1 h2=>HL.out r (HP.out.lo _ _ h1) h2) _ ?_
      intro z13 z67 z68 z69 z70 z71 z72 z73 z74 z75 z76 z77 w' S' ch' hf' hps' hkp' hcc hd'
      have HN:Hid (∃ (k':Nat) (S2:Sets) (ch2:Bool),k'≤Ln∧Value.int IntKind.i64 ((k:Int) + 1) = .int .i64 k'∧Fl W1 w' sb N S2 cb ch2∧Ps l N Rn Sp S2 ch2∧Kp w w' (sb + 2 + p) cb∧(ch2=false→ch0=false)∧(ch2=false→∀ (j:Nat) n,j < k'→nx[j]? = some n→∀ r,Sp n.toNat r=true→i.sets≠r→Sp p r=true)):=Lib.hid ⟨k + 1,S',ch',by omega,by go_num,hf',hps',HK.out.trans hkp',(fun h=>HC0.out (hcc h)),fun hch j n hj hn r h1 h2=>by
        by_cases hjk:j=k
        · subst hjk
          rw [HNN.out] at hn
          injection hn with hn
          subst hn
          rw [Int.toNat_natCast] at h1
          exact hd' hch r h1 h2
        · exact HDN.out (hcc hch) j n (by omega) hn r h1 h2⟩
      clear hf' hps' hkp' hd' hcc
      go_wp2
      exact ⟨HN.out,by simp [intOf]; omega⟩
    · obtain rfl:k=Ln:=by omega
      have HX:=fun y12 y13 y59 y60 y61 y62 y63 y64 y65 y66 y67 y68 y69 y70 y71 y72 y73 y74 y75 y76 y77 y78=>Lib.hid (HE.out y12 y13 y59 y60 y61 y62 y63 y64 y65 y66 y67 y68 y69 y70 y71 y72 y73 y74 y75 y76 y77 y78 wr S ch hf hps hkp HC0.out (fun hch n hn=>by
        obtain ⟨j,hj⟩:=List.mem_iff_getElem?.1 hn
        exact HDN.out hch j n (by have:=(List.getElem?_eq_some_iff.1 hj).1; rw [HLN.out] at this; exact this) hj))
      clear hf hps hkp HE
      go_wp2
      exact (HX _ _ _ _ _ _ _ _ _ _ _ _ _ _ _ _ _ _ _ _ _ _).out
end Go.Proofs.Ythbcdckonaljiaa
namespace Go.Proofs.Ythbcdckonaljiaa
open Go.RowKit Go.BigFrame
theorem Ins.next_len (i:Ins)(p:Int):(i.next p).length≤2:=by
  unfold Ins.next
  split
  · simp
  · split
    · simp
    · split <;> simp
def Pass (f:Fn7)(Rn:Nat)(W1:World)(sb N:Nat)(Sp:Sets)(cb:Nat)(g:Nat)(ap:Value)(wr:World):Prop :=
  ∃ (ab:Nat) (S:Sets) (ch:Bool),ap = .pointer (some ⟨ab,0,none⟩)∧g≤N∧wr.heap[ab]? = some (.cells #[.int .i64 ((g:Int) - 1)] 3 (0,0))∧Fl W1 wr sb N S cb ch∧Ps f.code N Rn Sp S ch∧(ch=false→∀ q,g≤q→q < N→Cl f.code Sp q)
set_option maxRecDepth 1000000 in
set_option maxHeartbeats 16000000 in
theorem lf3_any (f:Fn7) (hf:OkF f) (Rn:Nat) (hRn:f.R.toNat=Rn) (N:Nat) (hN:f.code.length=N) (C:Option Addr) (cap:Nat) (W1 w:World) (sb B cb ab0:Nat) (Sp:Sets) (hsb:sb=W1.heap.size)
    (hB:W1.heap[B]? = some (funcObj f.nm f.ps f.R f.Fr C N cap)) (hC:RdI W1 C f.code) (hF:Fl W1 w sb N Sp cb false) (hlo:∀ p r,Sp p r=true→Lv f.code p r) (ha:w.heap[ab0]? = some (.cells #[.int .i64 ((N:Int) - 1)] 3 (0,0)))
    {x0 x2 x4 x7 x8 x9 x10 x11 x12 x13 x14 x15 x16 x17 x18 x19 x20 x21 x22 x23 x24 x25 x26 x27 x28 x29 x30 x31 x32 x33 x34 x35 x36 x37 x38 x39 x40 x41 x42 x43 x44 x45 x46 x47 x48 x49 x50 x51 x52 x53 x54 x55 x56 x57 x58 x59 x60 x61 x62 x63 x64 x65 x66 x67 x68 x69 x70 x71 x72 x73 x74 x75 x76 x77 x78 x79 x80 x81:Value} (Q:Exit→Act→World→Prop)
    (hexit:∀ (y6 y7 y8 y10 y12 y13 y33 y34 y35 y36 y37 y38 y39 y40 y41 y42 y43 y44 y45 y46 y47 y48 y49 y50 y51 y52 y53 y54 y55 y56 y57 y58 y59 y60 y61 y62 y63 y64 y65 y66 y67 y68 y69 y70 y71 y72 y73 y74 y75 y76 y77 y78 y79:Value) (w':World) (S:Sets) (ch:Bool),Fl W1 w' sb N S cb ch→Ps f.code N Rn Sp S ch→(ch=false→∀ q,q < N→Cl f.code Sp q)→Q (.exit 4) ⟨(x0::.pointer (some ⟨B,0,none⟩)::x2::.pointer (some ⟨sb + 1,0,none⟩)::x4::.pointer (some ⟨cb,0,none⟩)::y6::y7::y8::x9::y10::x11::y12::y13::x14::x15::x16::x17::x18::x19::x20::x21::x22::x23::x24::x25::x26::x27::x28::x29::x30::x31::x32::y33::y34::y35::y36::y37::y38::y39::y40::y41::y42::y43::y44::y45::y46::y47::y48::y49::y50::y51::y52::y53::y54::y55::y56::y57::y58::y59::y60::y61::y62::y63::y64::y65::y66::y67::y68::y69::y70::y71::y72::y73::y74::y75::y76::y77::y78::y79::x80::x81::[]).toArray,[]⟩ w') :
    Code.wp Try.prog lf3 Q ⟨(x0::.pointer (some ⟨B,0,none⟩)::x2::.pointer (some ⟨sb + 1,0,none⟩)::x4::.pointer (some ⟨cb,0,none⟩)::.pointer (some ⟨ab0,0,none⟩)::x7::x8::x9::x10::x11::x12::x13::x14::x15::x16::x17::x18::x19::x20::x21::x22::x23::x24::x25::x26::x27::x28::x29::x30::x31::x32::x33::x34::x35::x36::x37::x38::x39::x40::x41::x42::x43::x44::x45::x46::x47::x48::x49::x50::x51::x52::x53::x54::x55::x56::x57::x58::x59::x60::x61::x62::x63::x64::x65::x66::x67::x68::x69::x70::x71::x72::x73::x74::x75::x76::x77::x78::x79::x80::x81::[]).toArray,[]⟩ w:=by
  conv=>arg 2; whnf
  have HE:=Lib.hid hexit
  have H0:=Lib.hid (show Pass f Rn W1 sb N Sp cb N (.pointer (some ⟨ab0,0,none⟩)) w from ⟨ab0,Sp,false,rfl,Nat.le_refl _,ha,hF,Ps.start hlo,fun _ q h1 h2=>by omega⟩)
  have HF:=Lib.hid hf
  have HRN:=Lib.hid hRn
  have HN:=Lib.hid hN
  have HB:=Lib.hid hB
  have HC:=Lib.hid hC
  have HSB:=Lib.hid hsb
  have hN2:N≤8192:=by rw [← hN]; exact hf.len.2
  clear hexit hf hRn hN hB hC hF hlo ha hsb
  go_loopg [6] N (fun g ap wr=>Pass f Rn W1 sb N Sp cb g ap wr)
  case atStart=>exact H0.out
  case round =>
    obtain ⟨ab,S,ch,rfl,hgN,ha,hfl,hps,hdone⟩:=hrel
    have HDN:=Lib.hid hdone
    have hbb:=hfl.b
    have hc0:=hfl.c
    clear hdone H0
    rcases Nat.eq_zero_or_pos gk with hg0 | hg0
    · subst hg0
      have a0:=cell_of_heap ha 0 _ rfl
      simp only [Int.natCast_zero,Int.zero_sub] at a0
      have HX:=fun y6 y7 y8 y10 y12 y13 y33 y34 y35 y36 y37 y38 y39 y40 y41 y42 y43 y44 y45 y46 y47 y48 y49 y50 y51 y52 y53 y54 y55 y56 y57 y58 y59 y60 y61 y62 y63 y64 y65 y66 y67 y68 y69 y70 y71 y72 y73 y74 y75 y76 y77 y78 y79=>Lib.hid (HE.out y6 y7 y8 y10 y12 y13 y33 y34 y35 y36 y37 y38 y39 y40 y41 y42 y43 y44 y45 y46 y47 y48 y49 y50 y51 y52 y53 y54 y55 y56 y57 y58 y59 y60 y61 y62 y63 y64 y65 y66 y67 y68 y69 y70 y71 y72 y73 y74 y75 y76 y77 y78 y79 wr S ch hfl hps (fun hch q hq=>HDN.out hch q (Nat.zero_le _) hq))
      clear HE ha hfl hps hbb
      go_wp2
      exact (HX _ _ _ _ _ _ _ _ _ _ _ _ _ _ _ _ _ _ _ _ _ _ _ _ _ _ _ _ _ _ _ _ _ _ _ _ _ _ _ _ _ _ _ _ _ _ _ _ _ _ _ _ _).out
    · obtain ⟨p,rfl⟩:∃ p,gk=p + 1:=⟨gk - 1,by omega⟩
      have hpe:((p + 1:Nat):Int) - 1=(p:Int):=by omega
      rw [hpe] at ha
      clear hpe
      have hp:p < N:=by omega
      obtain ⟨i,hi⟩:∃ i,f.code[p]? = some i:=⟨_,List.getElem?_eq_getElem (by rw [HN.out]; exact hp)⟩
      have hbx:wr.heap[B]? = _:=(hbb.block B (by rw [HSB.out]; exact (Array.getElem?_eq_some_iff.1 HB.out).1)).trans HB.out
      obtain ⟨bb,oo,rfl,hbl,hcs⟩:=(HC.out.below (by have h:=hbb; rw [HSB.out] at h; exact h)) p i hi
      obtain ⟨x0,x1,x2,x3,x4,x5,x6,x7,x8,x9,x10,x11,x12,x13,x14⟩:=RdI.load hcs
      have g4:=cell_of_heap hbx 4 (.slice (some ⟨bb,oo,none⟩) N cap) rfl
      have a0:=cell_of_heap ha 0 _ rfl
      have hal:=(Array.getElem?_eq_some_iff.1 ha).1
      have hlt:=hfl.lt
      have hcn:=hfl.cn
      have hab:ab≠sb + 2 + p:=(hfl.r p hp).ne ha
      have habc:ab≠cb:=ne_of_obj ha hfl.c (by simp)
      have huse:=HF.out.uses hi
      have hnxt:=HF.out.next hi
      have hLU:∀ r ∈ i.uses,Lv f.code p r∧0≤r∧r < (Rn:Int):=fun r hr=>⟨Lv.use hi hr,(huse r hr).1,by have:=(huse r hr).2; have:=HRN.out; omega⟩
      have hLN:∀ n ∈ i.next p,∀ r,Lv f.code n.toNat r→i.sets≠r→Lv f.code p r∧0≤r∧r < (Rn:Int):=fun n hn r h1 h2=>⟨Lv.step hi hn h2 h1,(h1.bound HF.out).1.1,by have:=(h1.bound HF.out).1.2; have:=HRN.out; omega⟩
      have hul:=i.uses_len
      have hnl:=Ins.next_len i p
      rw [HN.out] at hnxt
      have hua:=fun W=>Uses_any i W
      have hna:=fun W=>Next_any i p (by omega) W
      have kx:=heap_alloc_new wr i.obj
      have hCL:Hid (∀ (S1:Sets),(∀ r ∈ i.uses,Sp p r=true)→(∀ n ∈ i.next p,∀ r,Sp n.toNat r=true→i.sets≠r→Sp p r=true)→Cl f.code Sp p):=Lib.hid fun _ h1 h2 i' hi'=>by
        rw [hi] at hi'
        injection hi' with hi'
        subst hi'
        exact ⟨h1,h2⟩
      obtain ⟨us,hus⟩:∃ us,i.uses=us:=⟨_,rfl⟩
      obtain ⟨nx,hnx⟩:∃ nx,i.next p=nx:=⟨_,rfl⟩
      rw [hus] at hul hua hLU hCL
      rw [hnx] at hnl hna hLN hnxt hCL
      clear hus hnx huse
      obtain ⟨Lu,hLu⟩:∃ Lu,us.length=Lu:=⟨_,rfl⟩
      obtain ⟨Ln,hLn⟩:∃ Ln,nx.length=Ln:=⟨_,rfl⟩
      have hfl2:=hfl.later (Below.one wr i.obj)
      have ha2:=alloc_keeps ha i.obj
      have HI:=Lib.hid hi
      obtain ⟨k,op,dst,a,b',n,text,r0,r1,r2,r3,r4,r5,to_,els⟩:=i
      have hUA:∀ W,Calls Try.prog 58 #[.agg #[.int .i64 k,.int .i64 op,.int .i64 dst,.int .i64 a,.int .i64 b',.int .i64 n,.string text,.int .i64 r0,.int .i64 r1,.int .i64 r2,.int .i64 r3,.int .i64 r4,.int .i64 r5,.int .i64 to_,.int .i64 els]] W fun e w'=>(∃ A c,e = .returned (.slice A Lu c)∧RdN w' A us)∧Below W.heap.size W w':=fun W=>(hua W).mono fun e w' ⟨⟨A,c,h1,h2⟩,h3⟩=>⟨⟨A,c,by rw [h1,hLu],h2⟩,h3⟩
      have hNA:∀ W,Calls Try.prog 54 (#[.agg #[.int .i64 k,.int .i64 op,.int .i64 dst,.int .i64 a,.int .i64 b',.int .i64 n,.string text,.int .i64 r0,.int .i64 r1,.int .i64 r2,.int .i64 r3,.int .i64 r4,.int .i64 r5,.int .i64 to_,.int .i64 els]].push (.int .i64 p)) W fun e w'=>(∃ A c,e = .returned (.slice A Ln c)∧RdN w' A nx)∧Below W.heap.size W w':=fun W=>(hna W).mono fun e w' ⟨⟨A,c,h1,h2⟩,h3⟩=>⟨⟨A,c,by rw [h1,hLn],h2⟩,h3⟩
      simp only [List.push_toArray,List.cons_append,List.nil_append] at hNA
      have HUA:=Lib.hid hUA
      have HNA:=Lib.hid hNA
      have HLU:=Lib.hid hLU
      have HLN:=Lib.hid hLN
      have HNXT:=Lib.hid hnxt
      have HLu:=Lib.hid hLu
      have HLn:=Lib.hid hLn
      have HU10:Hid (Lu≤100):=Lib.hid (by omega)
      have HN10:Hid (Ln≤100):=Lib.hid (by omega)
      have ⟨d0,d1,d2,d3,d4,d5,d6,d7,d8,d9,d10,d11,d12,d13,d14⟩:=Ins.cells (i:=⟨k,op,dst,a,b',n,text,r0,r1,r2,r3,r4,r5,to_,els⟩) kx
      simp only at x0 x1 x2 x3 x4 x5 x6 x7 x8 x9 x10 x11 x12 x13 x14 d0 d1 d2 d3 d4 d5 d6 d7 d8 d9 d10 d11 d12 d13 d14
      have HFL:=Lib.hid hfl2
      have HA2:=Lib.hid ha2
      have HPS:=Lib.hid hps
      have HKX:=Lib.hid kx
      clear hua hna hUA hNA hLU hLN hnxt hLu hLn hul hnl hi hfl hfl2 ha2 hps kx hcs hbb ha
      go_wp2_with (first
        | (refine (HUA.out _).mono ?_; rintro e w2 ⟨⟨A,c2,rfl,hrd⟩,hb2⟩; have hf2:=Lib.hid (HFL.out.later hb2); have ha3:=Lib.hid ((hb2.block _ (Array.getElem?_eq_some_iff.1 HA2.out).1).trans HA2.out); have kx2:=Lib.hid ((hb2.block _ (Array.getElem?_eq_some_iff.1 HKX.out).1).trans HKX.out); have HRD:=Lib.hid hrd; have hsz2:wr.heap.size < w2.heap.size:=(by have h:=hb2.size; simp at h; omega); clear hrd))
      refine lf4_any f.code Rn W1 w2 sb N p cb ab Sp S ch us A c2 Lu HLu.out HU10.out hf2.out HPS.out hp ha3.out HRD.out HLU.out _ ?_
      intro z10 z47 z48 z49 z50 z51 z52 z53 w3 S1 ch1 hf3 hps3 hk3 hcc3 hd3
      have kx3:=(hk3.k wr.heap.size (by omega) (by omega) (by omega)).trans kx2.out
      have a3:=(hk3.k ab (by omega) hab habc).trans ha3.out
      have a0:=cell_of_heap a3 0 _ rfl
      have ⟨d0,d1,d2,d3,d4,d5,d6,d7,d8,d9,d10,d11,d12,d13,d14⟩:=Ins.cells (i:=⟨k,op,dst,a,b',n,text,r0,r1,r2,r3,r4,r5,to_,els⟩) kx3
      simp only at d0 d1 d2 d3 d4 d5 d6 d7 d8 d9 d10 d11 d12 d13 d14
      have HF3:=Lib.hid hf3
      have HPS3:=Lib.hid hps3
      have HCC3:=Lib.hid hcc3
      have HD3:=Lib.hid hd3
      have HK3:=Lib.hid kx3
      have HA3:=Lib.hid a3
      clear hf3 hps3 hcc3 hd3 kx3 a3
      go_wp2_with (first
        | (refine (HNA.out _).mono ?_; rintro e w4 ⟨⟨A4,c4,rfl,hrd⟩,hb4⟩; have hf4:=Lib.hid (HF3.out.later hb4); have ha4:=Lib.hid ((hb4.block _ (Array.getElem?_eq_some_iff.1 HA3.out).1).trans HA3.out); have kx4:=Lib.hid ((hb4.block _ (Array.getElem?_eq_some_iff.1 HK3.out).1).trans HK3.out); have HRD4:=Lib.hid hrd; clear hrd))
      refine lf5_any f.code Rn W1 w4 sb N p cb ab wr.heap.size Sp S1 ch1 ⟨k,op,dst,a,b',n,text,r0,r1,r2,r3,r4,r5,to_,els⟩ nx A4 c4 Ln HLn.out HN10.out hf4.out HPS3.out hp ha4.out kx4.out HRD4.out HNXT.out HLN.out _ ?_
      intro z12 z13 z59 z60 z61 z62 z63 z64 z65 z66 z67 z68 z69 z70 z71 z72 z73 z74 z75 z76 z77 z78 w5 S2 ch2 hf5 hps5 hk5 hcc5 hd5
      have a5:=(hk5.k ab (Array.getElem?_eq_some_iff.1 ha4.out).1 hab habc).trans ha4.out
      have a0:=cell_of_heap a5 0 _ rfl
      have HR:Hid (∀ w6,Below w5.heap.size w5 w6→w6.heap[w5.heap.size]? = some (.cells #[.int .i64 ((p:Int) - 1)] 3 (0,0))→Pass f Rn W1 sb N Sp cb p (.pointer (some ⟨w5.heap.size,0,none⟩)) w6):=Lib.hid fun w6 h1 h2=>⟨_,S2,ch2,rfl,by omega,h2,hf5.later h1,hps5,fun hch q hq1 hq2=>by
        by_cases hqp:q=p
        · subst hqp
          exact hCL.out S2 (HD3.out (hcc5 hch)) (hd5 hch)
        · exact HDN.out (HCC3.out (hcc5 hch)) q (by omega) hq2⟩
      clear hf5 hps5 hcc5 hd5 a5
      go_wp2
      go_roundg p
      case measure=>omega
      case rel=>exact HR.out _ (Below.one _ _) (heap_alloc_new _ _)
end Go.Proofs.Ythbcdckonaljiaa
namespace Go.Proofs.Ythbcdckonaljiaa
open Go.RowKit Go.BigFrame
theorem Fl.rebox {W1 w:World}{sb N:Nat}{S:Sets}{cb:Nat}{ch:Bool}(h:Fl W1 w sb N S cb ch):Fl W1 (w.alloc (.cells #[.bool ch] 4)) sb N S w.heap.size ch:=by
  have h1:=h.later (Below.one w (.cells #[.bool ch] 4))
  have:=h.cn
  have:=h.lt
  exact ⟨h1.h,h1.bx,h1.r,heap_alloc_new w _,by omega,h1.b⟩
def Outer (f:Fn7)(Rn:Nat)(W1:World)(sb N:Nat)(g:Nat)(cp:Value)(wr:World):Prop :=
  ∃ (cb:Nat) (S:Sets) (ch:Bool),cp = .pointer (some ⟨cb,0,none⟩)∧Fl W1 wr sb N S cb ch∧(∀ p r,S p r=true→Lv f.code p r)∧(ch=true→g=pot2 N Rn S + 1)∧(ch=false→g=0∧∀ q,q < N→Cl f.code S q)
set_option maxRecDepth 1000000 in
set_option maxHeartbeats 16000000 in
theorem lf2_any (f:Fn7) (hf:OkF f) (Rn:Nat) (hRn:f.R.toNat=Rn) (N:Nat) (hN:f.code.length=N) (C:Option Addr) (cap:Nat) (W1 w:World) (sb B cb0:Nat) (hsb:sb=W1.heap.size)
    (hB:W1.heap[B]? = some (funcObj f.nm f.ps f.R f.Fr C N cap)) (hC:RdI W1 C f.code) (hF:Fl W1 w sb N (fun _ _=>false) cb0 true)
    {x0 x2 x4 x6 x7 x8 x9 x10 x11 x12 x13 x14 x15 x16 x17 x18 x19 x20 x21 x22 x23 x24 x25 x26 x27 x28 x29 x30 x31 x32 x33 x34 x35 x36 x37 x38 x39 x40 x41 x42 x43 x44 x45 x46 x47 x48 x49 x50 x51 x52 x53 x54 x55 x56 x57 x58 x59 x60 x61 x62 x63 x64 x65 x66 x67 x68 x69 x70 x71 x72 x73 x74 x75 x76 x77 x78 x79 x80 x81:Value} (Q:Exit→Act→World→Prop)
    (hexit:∀ (y5 y6 y7 y8 y10 y12 y13 y28 y29 y30 y31 y32 y33 y34 y35 y36 y37 y38 y39 y40 y41 y42 y43 y44 y45 y46 y47 y48 y49 y50 y51 y52 y53 y54 y55 y56 y57 y58 y59 y60 y61 y62 y63 y64 y65 y66 y67 y68 y69 y70 y71 y72 y73 y74 y75 y76 y77 y78 y79 y80:Value) (w':World) (S:Sets) (cb:Nat),Fl W1 w' sb N S cb false→(∀ p,p < N→∀ r,S p r=true↔Lv f.code p r)→Q (.exit 2) ⟨(x0::.pointer (some ⟨B,0,none⟩)::x2::.pointer (some ⟨sb + 1,0,none⟩)::x4::y5::y6::y7::y8::x9::y10::x11::y12::y13::x14::x15::x16::x17::x18::x19::x20::x21::x22::x23::x24::x25::x26::x27::y28::y29::y30::y31::y32::y33::y34::y35::y36::y37::y38::y39::y40::y41::y42::y43::y44::y45::y46::y47::y48::y49::y50::y51::y52::y53::y54::y55::y56::y57::y58::y59::y60::y61::y62::y63::y64::y65::y66::y67::y68::y69::y70::y71::y72::y73::y74::y75::y76::y77::y78::y79::y80::x81::[]).toArray,[]⟩ w') :
    Code.wp Try.prog lf2 Q ⟨(x0::.pointer (some ⟨B,0,none⟩)::x2::.pointer (some ⟨sb + 1,0,none⟩)::x4::.pointer (some ⟨cb0,0,none⟩)::x6::x7::x8::x9::x10::x11::x12::x13::x14::x15::x16::x17::x18::x19::x20::x21::x22::x23::x24::x25::x26::x27::x28::x29::x30::x31::x32::x33::x34::x35::x36::x37::x38::x39::x40::x41::x42::x43::x44::x45::x46::x47::x48::x49::x50::x51::x52::x53::x54::x55::x56::x57::x58::x59::x60::x61::x62::x63::x64::x65::x66::x67::x68::x69::x70::x71::x72::x73::x74::x75::x76::x77::x78::x79::x80::x81::[]).toArray,[]⟩ w:=by
  conv=>arg 2; whnf
  have HE:=Lib.hid hexit
  have H0:=Lib.hid (show Outer f Rn W1 sb N (pot2 N Rn (fun _ _=>false) + 1) (.pointer (some ⟨cb0,0,none⟩)) w from ⟨cb0,_,true,rfl,hF,(fun p r h=>by cases h),(fun _=>rfl),fun h=>by cases h⟩)
  have HF:=Lib.hid hf
  have HRN:=Lib.hid hRn
  have HN:=Lib.hid hN
  have HB:=Lib.hid hB
  have HC:=Lib.hid hC
  have HSB:=Lib.hid hsb
  have hN2:N≤8192:=by rw [← hN]; exact hf.len.2
  clear hexit hf hRn hN hB hC hF hsb
  generalize pot2 N Rn (fun _ _=>false) + 1=g0 at H0
  go_loopg [5] g0 (fun g cp wr=>Outer f Rn W1 sb N g cp wr)
  case atStart=>exact H0.out
  case round =>
    obtain ⟨cb,S,ch,rfl,hfl,hlo,hg1,hg2⟩:=hrel
    clear H0
    have c0:=cell_of_heap hfl.c 0 _ rfl
    have cf:=free_of_heap hfl.c 0
    cases ch with
    | false =>
      have hcl:=(hg2 rfl).2
      have HX:=fun y5 y6 y7 y8 y10 y12 y13 y28 y29 y30 y31 y32 y33 y34 y35 y36 y37 y38 y39 y40 y41 y42 y43 y44 y45 y46 y47 y48 y49 y50 y51 y52 y53 y54 y55 y56 y57 y58 y59 y60 y61 y62 y63 y64 y65 y66 y67 y68 y69 y70 y71 y72 y73 y74 y75 y76 y77 y78 y79 y80=>Lib.hid (HE.out y5 y6 y7 y8 y10 y12 y13 y28 y29 y30 y31 y32 y33 y34 y35 y36 y37 y38 y39 y40 y41 y42 y43 y44 y45 y46 y47 y48 y49 y50 y51 y52 y53 y54 y55 y56 y57 y58 y59 y60 y61 y62 y63 y64 y65 y66 y67 y68 y69 y70 y71 y72 y73 y74 y75 y76 y77 y78 y79 y80 wr S cb hfl (fun p hp r=>⟨hlo p r,fun h=>Cl.all (fun q hq=>hcl q (by rw [← HN.out]; exact hq)) h⟩))
      clear HE hfl hlo hg1 hg2 hcl
      go_wp2
      exact (HX _ _ _ _ _ _ _ _ _ _ _ _ _ _ _ _ _ _ _ _ _ _ _ _ _ _ _ _ _ _ _ _ _ _ _ _ _ _ _ _ _ _ _ _ _ _ _ _ _ _ _ _ _ _ _ _ _ _ _ _).out
    | true =>
      have HG:=Lib.hid (hg1 rfl)
      have hm:=hfl.mark false
      have hbb:=hfl.b
      have hcn:=hfl.cn
      have hBl:=(Array.getElem?_eq_some_iff.1 HB.out).1
      rw [← HSB.out] at hBl
      have hbx:wr.heap[B]? = _:=(hbb.block B hBl).trans HB.out
      have hbx2:(wr.setCell ⟨cb,0,none⟩ (.bool false)).heap[B]? = _:=(heap_setCell_other wr ⟨cb,0,none⟩ B _ (by simp only; omega)).trans hbx
      have g4:=cell_of_heap hbx2 4 (.slice C N cap) rfl
      have HM:=Lib.hid hm.1
      have HLO:=Lib.hid hlo
      clear hg1 hg2 hm hlo hfl hbx hbb hbx2
      have hnew:=heap_alloc_new (wr.setCell ⟨cb,0,none⟩ (.bool false)) (.cells #[.int .i64 ((N:Int) - 1)] 3)
      rw [World.size_setCell] at hnew
      have HNEW:=Lib.hid hnew
      clear hnew
      go_wp2
      refine lf3_any f HF.out Rn HRN.out N HN.out C cap W1 _ sb B cb wr.heap.size S HSB.out HB.out HC.out (HM.out.later (Below.one _ _)) HLO.out HNEW.out _ ?_
      intro z6 z7 z8 z10 z12 z13 z33 z34 z35 z36 z37 z38 z39 z40 z41 z42 z43 z44 z45 z46 z47 z48 z49 z50 z51 z52 z53 z54 z55 z56 z57 z58 z59 z60 z61 z62 z63 z64 z65 z66 z67 z68 z69 z70 z71 z72 z73 z74 z75 z76 z77 z78 z79 w3 S' ch' hf3 hps3 hcl3
      have c3:=cell_of_heap hf3.c 0 _ rfl
      obtain ⟨g',hg',HO⟩:∃ g',g' < gk∧Hid (Outer f Rn W1 sb N g' (.pointer (some ⟨w3.heap.size,0,none⟩)) (w3.alloc (.cells #[.bool ch'] 4))):=by
        have hre:=hf3.rebox
        cases ch' with
        | false=>exact ⟨0,by rw [HG.out]; omega,Lib.hid ⟨_,S',false,rfl,hre,hps3.lo,(fun e=>by cases e),fun _=>⟨rfl,by rw [hps3.st rfl]; exact hcl3 rfl⟩⟩⟩
        | true=>exact ⟨pot2 N Rn S' + 1,by rw [HG.out]; have:=hps3.mv rfl; omega,Lib.hid ⟨_,S',true,rfl,hre,hps3.lo,(fun _=>rfl),fun e=>by cases e⟩⟩
      clear hf3 hps3 hcl3
      go_wp2
      go_roundg g'
      case measure=>exact hg'
      case rel=>exact HO.out
end Go.Proofs.Ythbcdckonaljiaa
namespace Go.Proofs.Ythbcdckonaljiaa
open Go.RowKit Go.BigFrame
theorem info_map:(Try.prog.info? 73).map (fun i=>(i.zero,i.size,i.bytes))=some (some (.map none),1,8):=by kernel_rfl
theorem make_maps (L:Nat)(hL:L≤100000)(W:World):(Instr.makeSlice 77 (.int .i64 L) (.int .i64 L)).run Try.prog W = .ok (.slice (some ⟨W.heap.size,0,none⟩) L L) (W.alloc (.cells (madeCells #[.map none] L) 73)):=by
  obtain ⟨i0,hi,hz0,hz1,hz2⟩:=info_parts info_map
  have:=run_make (P:=Try.prog) W 77 73 i0 (.map none) (by kernel_rfl) hi hz0 .i64 .i64 L L (by omega) (by omega) (by rw [hz2]; omega) (by omega)
  simpa [hz1,Value.cells] using this
structure MapsW (w:World)(sb N:Nat)(S:Sets):Prop where
  h:Pre g1 1 73 w sb ((List.range N).map fun p=>.map (some (sb + 2 + p)))
  r:∀ p,p < N→SetI w (sb + 2 + p) (S p)
theorem MapsW.later {w w':World}{sb N:Nat}{S:Sets}(h:MapsW w sb N S)(hb:Below w.heap.size w w'):MapsW w' sb N S:=⟨Pre.later h.h hb,fun p hp=>(h.r p hp).below hb (h.r p hp).lt⟩
theorem MapsW.cell {w:World}{sb N:Nat}{S:Sets}(h:MapsW w sb N S){p:Nat}(hp:p < N):w.cell? ⟨sb,p,none⟩=some (.map (some (sb + 2 + p))):=Pre1.cell h.h (by simp [hp])
def LiveM (f:Fn7)(N base:Nat)(e:Ending)(w:World):Prop:=∃ sb S,e = .returned (.slice (some ⟨sb,0,none⟩) N N)∧base≤sb∧MapsW w sb N S∧∀ p,p < N→∀ r,S p r=true↔Lv f.code p r
def hdrm (N sb k:Nat):List Value:=(List.range N).map fun j=>if j < k then .map (some (sb + 2 + j)) else .map none
theorem hdrm_get {N sb k j:Nat}(hj:j < N):(hdrm N sb k)[j]? = some (if j < k then .map (some (sb + 2 + j)) else .map none):=by simp [hdrm,hj]
theorem hdrm_zero (N sb:Nat):hdrm N sb 0=List.replicate N (.map none):=by
  apply List.ext_getElem?
  intro j
  by_cases hj:j < N
  · rw [hdrm_get hj,if_neg (Nat.not_lt_zero j)]; simp [hj]
  · rw [List.getElem?_eq_none (by simp [hdrm]; omega),List.getElem?_eq_none (by simp; omega)]
theorem hdrm_set {N sb k:Nat}(hk:k < N):(hdrm N sb k).set k (.map (some (sb + 2 + k)))=hdrm N sb (k + 1):=by
  apply List.ext_getElem?
  intro j
  by_cases hj:j < N
  · rw [List.getElem?_set,hdrm_get hj,hdrm_get hj]
    by_cases h1:k=j
    · subst h1; rw [if_pos rfl,if_pos (by simp [hdrm,hk]),if_pos (by omega)]
    · rw [if_neg h1]
      by_cases h2:j < k
      · rw [if_pos h2,if_pos (by omega)]
      · rw [if_neg h2,if_neg (by omega)]
  · rw [List.getElem?_eq_none (by simp [hdrm]; omega),List.getElem?_eq_none (by simp [hdrm]; omega)]
theorem hdrm_all (N sb:Nat):hdrm N sb N=(List.range N).map fun p=>.map (some (sb + 2 + p)):=by
  apply List.ext_getElem?
  intro j
  by_cases hj:j < N
  · rw [hdrm_get hj,if_pos hj]; simp [hj]
  · rw [List.getElem?_eq_none (by simp [hdrm]; omega),List.getElem?_eq_none (by simp; omega)]
structure Lpm (W1 wr:World)(N k:Nat):Prop where
  h:Pre g1 1 73 wr W1.heap.size (hdrm N W1.heap.size k)
  bx:wr.heap[W1.heap.size + 1]? = some (.cells #[.slice (some ⟨W1.heap.size,0,none⟩) N N] 77 (0,0))
  r:∀ j,j < k→SetI wr (W1.heap.size + 2 + j) (fun _=>false)
  s:wr.heap.size=W1.heap.size + 2 + k
  b:Below W1.heap.size W1 wr
theorem Lpm.start (W1:World)(N:Nat):Lpm W1 ((W1.alloc (.cells (madeCells #[.map none] N) 73)).alloc (.cells #[.slice (some ⟨W1.heap.size,0,none⟩) N N] 77)) N 0:=by
  have h:=made_pre (g:=g1) (d:=1) (t:=73) W1 #[.map none] N (.map none) rfl (fun k hk=>by
    obtain rfl:k=0:=by omega
    rfl)
  rw [Nat.mul_one] at h
  have hb:=Below.one (W1.alloc (.cells (madeCells #[.map none] N) 73)) (.cells #[.slice (some ⟨W1.heap.size,0,none⟩) N N] 77)
  refine ⟨by rw [hdrm_zero]; exact Pre.later h hb,?_,fun j hj=>by omega,by simp,(Below.one _ _).trans (hb.mono (by simp))⟩
  have h2:=heap_alloc_new (W1.alloc (.cells (madeCells #[.map none] N) 73)) (.cells #[.slice (some ⟨W1.heap.size,0,none⟩) N N] 77)
  rwa [show (W1.alloc (.cells (madeCells #[.map none] N) 73)).heap.size=W1.heap.size + 1 by simp] at h2
theorem Lpm.next {W1 wr:World}{N k:Nat}(h:Lpm W1 wr N k)(hk:k < N):Lpm W1 ((wr.alloc (.map #[] 0)).setCell ⟨W1.heap.size,k,none⟩ (.map (some wr.heap.size))) N (k + 1):=by
  have hb:=Below.one wr (.map #[] 0)
  have h1:=Pre1.set (Pre.later h.h hb) (j:=k) (by simp [hdrm,hk]) (.map (some (W1.heap.size + 2 + k)))
  rw [hdrm_set hk] at h1
  have hs:=h.s
  have hm:=SetI.made wr
  have ho:∀ b,b≠W1.heap.size→((wr.alloc (.map #[] 0)).setCell ⟨W1.heap.size,k,none⟩ (.map (some wr.heap.size))).heap[b]? = (wr.alloc (.map #[] 0)).heap[b]?:=fun b hb=>heap_setCell_other _ ⟨W1.heap.size,k,none⟩ b _ hb
  rw [hs] at hm ho ⊢
  refine ⟨h1,(ho _ (by omega)).trans ((hb.block _ (by omega)).trans h.bx),fun j hj=>?_,by simp [hs]; omega,(h.b.alloc (by omega) _).setCell (Nat.le_refl _) _⟩
  by_cases hjk:j < k
  · exact ((h.r j hjk).below hb (by omega)).of_block (ho _ (by omega))
  · obtain rfl:j=k:=by omega
    exact hm.of_block (ho _ (by omega))
theorem Lpm.cell {W1 wr:World}{N k:Nat}(h:Lpm W1 wr N k)(hk:k < N):wr.cell? ⟨W1.heap.size,k,none⟩=some (.map none):=by
  have:=Pre1.cell h.h (hdrm_get hk)
  rwa [if_neg (Nat.lt_irrefl k)] at this
theorem Lpm.done {W1 wr:World}{N:Nat}(h:Lpm W1 wr N N):Fl W1 (wr.alloc (.cells #[.bool true] 4)) W1.heap.size N (fun _ _=>false) wr.heap.size true:=by
  have hb:=Below.one wr (.cells #[.bool true] 4)
  have hs:=h.s
  have h1:=Pre.later h.h hb
  rw [hdrm_all] at h1
  exact ⟨h1,(hb.block _ (by omega)).trans h.bx,fun p hp=>(h.r p hp).below hb (by omega),heap_alloc_new _ _,by omega,h.b.trans (hb.mono (by omega))⟩
set_option maxRecDepth 1000000 in
set_option maxHeartbeats 16000000 in
theorem flow_live (f:Fn7)(hf:OkF f)(C:Option Addr)(cap:Nat)(w:World)(hC:RdI w C f.code) :
    Calls Try.prog 64 #[funcAgg f.nm f.ps f.R f.Fr C f.code.length cap] w fun e w'=>LiveM f f.code.length w.heap.size e w'∧Below w.heap.size w w':=by
  obtain ⟨N,hN⟩:∃ N,f.code.length=N:=⟨_,rfl⟩
  rw [hN]
  have hN2:N≤8192:=by rw [← hN]; exact hf.len.2
  have hB:=Below.one w (funcObj f.nm f.ps f.R f.Fr C N cap)
  have bx:=heap_alloc_new w (funcObj f.nm f.ps f.R f.Fr C N cap)
  have hsz:(w.alloc (funcObj f.nm f.ps f.R f.Fr C N cap)).heap.size=w.heap.size + 1:=by simp
  have hC1:=hC.below hB
  simp only [funcObj,funcAgg] at hB bx hC1 hsz ⊢
  have HF:=Lib.hid hf
  have HN:=Lib.hid hN
  clear hf hN hC
  obtain ⟨W,hW⟩:∃ W,w.alloc (.cells #[.string f.nm,.int .i64 f.ps,.int .i64 f.R,.int .i64 f.Fr,.slice C N cap] 26)=W:=⟨_,rfl⟩
  rw [hW] at hB bx hC1 hsz
  have hmk:=make_maps N (by omega) W
  have g4:=cell_of_heap bx 4 (.slice C N cap) rfl
  have HBX:=Lib.hid bx
  have HSZ:=Lib.hid hsz
  have HC1:=Lib.hid hC1
  have hmm:=@run_makeMap Try.prog
  clear bx hsz hC1
  go_enter Try.func64,Try.ntmps64
  go_wp2
  have H0:=Lib.hid (Lpm.start W N)
  clear hW hmk
  go_loopw [20] (fun ix wr=>∃ k:Nat,k≤N∧ix = .int .i64 k∧Lpm W wr N k) (fun ix _=>N - (intOf ix).toNat)
  case atStart=>exact ⟨0,by omega,rfl,H0.out⟩
  case round =>
    obtain ⟨k,hk,rfl,hl⟩:=hrel
    clear H0
    by_cases hlt:k < N
    · have c0:=cell_of_heap hl.bx 0 _ rfl
      have c1:=hl.cell hlt
      have cf:=Pre.free hl.h k
      have hs:=hl.s
      have HL:Hid (Lpm W ((wr.setCell ⟨W.heap.size,k,none⟩ (.map (some wr.heap.size))).alloc (.map #[] 0)) N (k + 1)):=Lib.hid (by rw [← World.setCell_alloc_past _ _ _ _ (Pre.lt hl.h)]; exact hl.next hlt)
      have hls:W.heap.size < wr.heap.size:=by omega
      clear hl hs
      go_wp2
      exact ⟨⟨k + 1,by omega,by go_num,HL.out⟩,by simp [intOf]; omega⟩
    · obtain rfl:k=N:=by omega
      have HD:=Lib.hid hl.done
      clear hl
      go_wp2
      refine lf2_any f HF.out _ rfl k HN.out C cap W _ W.heap.size w.heap.size wr.heap.size rfl HBX.out HC1.out HD.out _ ?_
      intro z5 z6 z7 z8 z10 z12 z13 z28 z29 z30 z31 z32 z33 z34 z35 z36 z37 z38 z39 z40 z41 z42 z43 z44 z45 z46 z47 z48 z49 z50 z51 z52 z53 z54 z55 z56 z57 z58 z59 z60 z61 z62 z63 z64 z65 z66 z67 z68 z69 z70 z71 z72 z73 z74 z75 z76 z77 z78 z79 z80 w3 S cb hf3 hS
      have c3:=cell_of_heap hf3.bx 0 _ rfl
      have HR:Hid (LiveM f k w.heap.size (.returned (.slice (some ⟨W.heap.size,0,none⟩) k k)) w3∧Below w.heap.size w w3):=Lib.hid ⟨⟨W.heap.size,S,rfl,by have:=HSZ.out; omega,⟨hf3.h,hf3.r⟩,hS⟩,hB.trans (hf3.b.mono (by have:=HSZ.out; omega))⟩
      clear hf3 hS
      go_wp2
      go_returns
      exact HR.out
end Go.Proofs.Ythbcdckonaljiaa
namespace Go.Proofs.Ythbcdckonaljiaa
open Go.RowKit Go.BigFrame
def isort (l:List Int):List Int:=l.mergeSort fun x y=>decide (x≤y)
theorem isort_len (l:List Int):(isort l).length=l.length:=List.length_mergeSort l
theorem isort_mem (l:List Int)(x:Int):x ∈ isort l↔x ∈ l:=(List.mergeSort_perm l _).mem_iff
theorem isort_lt {l:List Int}(h:l.Nodup):(isort l).Pairwise (· < ·):=by
  have h1:(isort l).Pairwise (fun x y=>decide (x≤y)=true):=List.pairwise_mergeSort (by intro a b c h1 h2; simp at h1 h2 ⊢; omega) (by intro a b; simp; omega) l
  have h2:(isort l).Pairwise (·≠·):=((List.mergeSort_perm l _).nodup_iff).2 h
  exact (h1.and h2).imp fun ⟨a,b⟩=>by simp at a; omega
theorem sort_own (base:Nat)(W0 w:World)(hb:Below base W0 w)(hw:base≤w.heap.size)(V:Value)(l:List Int)(hown:OwnN w V l)(hV:∀ b,V.ownBlock=some b→base≤b)(hl:l.length≤100000) :
    Calls Try.prog 49 #[V] w fun e w'=>e = .returned (.tuple #[])∧Below base W0 w'∧∃ A cap,V = .slice A l.length cap∧RdN w' A (isort l):=by
  have h0:=hown
  obtain ⟨h1,h2⟩:=hown
  rcases h2 with ⟨rfl,hn⟩ | ⟨g,cap,cur,rfl,hB,hg,hnc,hcm,hsz,htake⟩
  · obtain rfl:l=[]:=List.eq_nil_of_length_eq_zero hn
    exact (Try.slices_Sort_int_none none 0 w).mono fun e w' ⟨h1,h2⟩=>by
      subst h2
      exact ⟨h1,hb,none,0,rfl,fun j n hj=>by simp [isort] at hj⟩
  · have hlt:=(Array.getElem?_eq_some_iff.1 hg).1
    have hH:Sort.Holds (Value.int .i64) w g 0 l.toArray:=fun j hj=>by
      have hj':j < l.length:=by simpa using hj
      have:=World.ownsRow.cellAt h0 j (by omega)
      refine ⟨?_,free_of_heap hg _⟩
      rw [Nat.zero_add,this,List.getElem?_map,List.getElem?_eq_getElem hj']
      simp [hj']
    refine (Try.slices_Sort_int g 0 cap l w hH hlt (by omega)).mono fun e w' ⟨h1,n,os,h2⟩=>?_
    subst h2
    have hls:(isort l).toArray.size=l.toArray.size:=by simp [isort_len]
    refine ⟨h1,⟨hb.os,hb.tape,hb.output,?_,fun k hk=>?_⟩,_,cap,rfl,fun j x hj=>⟨g,0,rfl,?_,?_⟩⟩
    · have:=hb.size
      simp [Sort.grow,Sort.putRow,Sort.mapBlock]; omega
    · have:=hV g rfl
      have h3:=hb.block k hk
      simp only [Sort.grow,Sort.putRow,Sort.mapBlock]
      rw [Array.getElem?_append_left (by simp; omega),Array.getElem?_modify,if_neg (by omega)]
      exact h3
    · simp [Sort.grow,Sort.putRow,Sort.mapBlock]; omega
    · have hjl:=(List.getElem?_eq_some_iff.1 hj).1
      have hc:=Sort.cell?_putRow (Value.int .i64) (Sort.ahead w n) g 0 l.toArray (isort l).toArray hH hls j (by simpa using hjl)
      rw [Sort.cell?_grow _ _ _ (by simpa using hlt)]
      rw [show (isort l)=l.mergeSort fun x y=>decide (x≤y) from rfl] at hc
      rw [hc]
      rw [List.getElem?_eq_getElem hjl] at hj
      injection hj with hj
      rw [← hj]
      simp [isort] at hjl ⊢
      simp [hjl]
def SortT (S:Int→Bool)(e:Ending)(w:World):Prop:=∃ A l cap,e = .returned (.slice A l.length cap)∧RdN w A l∧l.Pairwise (· < ·)∧∀ x,x ∈ l↔S x=true
set_option maxRecDepth 1000000 in
set_option maxHeartbeats 8000000 in
theorem sorted_any (b:Nat) (S:Int→Bool) (R:Nat) (hR:R≤5000) (w:World) (hS:SetI w b S) (hbd:∀ x,S x=true→0≤x∧x < (R:Int)):Calls Try.prog 65 #[.map (some b)] w fun e w'=>SortT S e w'∧Below w.heap.size w w':=by
  have HS:=Lib.hid hS
  have HBD:=Lib.hid hbd
  have hbl:=hS.lt
  clear hS hbd
  go_enter Try.func65,Try.ntmps65
  go_wp2_with (first
    | (at_range; refine wpList_range_set _ rfl _ 73 rfl umap b S rfl HS.out ?_; intro lst o' hrg hnd hall))
  go_frame
  have H0:Hid (∃ (lst' acc:List Int),lst.length=lst'.length∧RgD (w.alloc o') w.heap.size b S lst'∧OwnN (w.alloc o') (.slice none 0 0) acc∧(∀ k,(Value.slice none 0 0).ownBlock=some k→w.heap.size < k)∧acc.Nodup∧(∀ x,x ∈ acc↔S x=true∧x ∉ lst')∧acc.length + lst'.length≤R∧Below w.heap.size w (w.alloc o')) :=
    Lib.hid ⟨lst,[],rfl,hrg,OwnN.nil _,(fun k hk=>by simp [Value.ownBlock] at hk),List.nodup_nil,(fun x=>⟨fun h=>by simp at h,fun ⟨h1,h2⟩=>absurd ((hall x).2 h1) h2⟩),by
      have:=nodup_le R lst hnd (fun x hx=>HBD.out x ((hall x).1 hx))
      simpa using this,Below.one _ _⟩
  clear hrg hnd hall
  go_loopg [3] lst.length (fun g V wr=>∃ (lst' acc:List Int),g=lst'.length∧RgD wr w.heap.size b S lst'∧OwnN wr V acc∧(∀ k,V.ownBlock=some k→w.heap.size < k)∧acc.Nodup∧(∀ x,x ∈ acc↔S x=true∧x ∉ lst')∧acc.length + lst'.length≤R∧Below w.heap.size w wr)
  case atStart=>exact H0.out
  case round =>
    obtain ⟨lst',acc,hg,hrg,hown,hV,hnd,hmem,hlen,hb⟩:=hrel
    have HG:=Lib.hid hg
    have HRG:=Lib.hid hrg
    have HOWN:=Lib.hid hown
    have HV:=Lib.hid hV
    have HND:=Lib.hid hnd
    have HM:=Lib.hid hmem
    have HB:=Lib.hid hb
    have hsz:=hb.size
    clear hg hrg hown hV hnd hmem hb H0
    go_wp2_with (first
      | (at_next; refine wpList_next_set _ rfl _ rfl w.heap.size b S lst' rfl HRG.out ?_ ?_))
    · intro hl
      have hso:=sort_own w.heap.size w wr HB.out hsz u3 acc HOWN.out (fun k hk=>by have:=HV.out k hk; omega) (by omega)
      have HSO:=Lib.hid hso
      have HL:=Lib.hid hl
      clear hso hl
      go_wp2_with (first
        | (refine HSO.out.mono ?_; rintro e w3 ⟨rfl,hb3,A,cap,rfl,hrd⟩; have HRD:=Lib.hid hrd; clear hrd))
      go_returns
      exact ⟨⟨A,isort acc,cap,(by rw [isort_len]; rfl),HRD.out,isort_lt HND.out,fun x=>⟨fun h=>((HM.out x).1 ((isort_mem _ _).1 h)).1,fun h=>(isort_mem _ _).2 ((HM.out x).2 ⟨h,by rw [HL.out]; simp⟩)⟩⟩,hb3⟩
    · intro s l' w2 hm hs hmem hlt hrg2 hg2 hz2 hen
      have hlr:=HRG.out.lt
      have ho2:OwnN w2 u3 acc:=World.ownsRow.kept HOWN.out hg2 (Or.inr fun e=>by have:=HV.out _ e; omega)
      have hb2:Below w.heap.size w w2:=Below.grown HB.out hg2 hsz (fun k hk=>by injection hk; omega)
      have HO2:=Lib.hid (OwnN.alloc ho2 (.cells #[.int .i64 s] 3))
      have HG2:=Lib.hid (hrg2.below (Below.one w2 (.cells #[.int .i64 s] 3)))
      have HB2:=Lib.hid (hb2.alloc (by omega) (.cells #[.int .i64 s] 3))
      have HX:=Lib.hid (show s ∉ acc from fun h=>((HM.out s).1 h).2 hm)
      have HS2:=Lib.hid hs
      have HME:=Lib.hid hmem
      have HLT:=Lib.hid hlt
      have hsz2:w.heap.size≤w2.heap.size:=by omega
      have hal:acc.length≤90000:=by omega
      clear hm hs hmem hlt hrg2 hg2 hz2 ho2 hb2
      go_wp2_with (first
        | (at_builtin; refine append_one rfl (.tmp 11) (.tmp 13) rfl u3 acc rfl HO2.out w2.heap.size s rfl (heap_alloc_new _ _) hal ?_; intro V' w4 ho4 hg4 hb4; have HO4:=Lib.hid ho4; have HG4:=Lib.hid hg4; have HB4:=Lib.hid hb4; clear ho4 hg4 hb4))
      go_roundg l'.length
      case measure=>rw [HG.out]; exact HLT.out
      case rel =>
        have hne:∀ k,u3.ownBlock=some k→w.heap.size < k:=HV.out
        have hl2:=HG2.out.lt
        have hk:∀ x,x < (w2.alloc (.cells #[.int .i64 s] 3)).heap.size→x≤w.heap.size→w4.heap[x]? = (w2.alloc (.cells #[.int .i64 s] 3)).heap[x]?:=fun x h1 h2=>HG4.out.block x h1 (fun e=>by have:=hne x e.symm; omega)
        refine ⟨l',acc++[s],rfl,HG2.out.of_blocks (hk _ hl2.1 (by omega)) (hk _ hl2.2 (Nat.le_refl _)),HO4.out,fun k hk2=>?_,?_,fun x=>?_,?_,Below.grown HB2.out HG4.out (by simp; omega) (fun k hk2=>by have:=hne k hk2; omega)⟩
        · rcases HB4.out with e | e
          · rw [e] at hk2; exact hne k hk2
          · rw [e] at hk2; injection hk2 with hk2; simp at hk2; omega
        · rw [List.nodup_append]
          exact ⟨HND.out,by simp,fun a ha b' hb' e=>by
            simp only [List.mem_singleton] at hb'
            subst hb' e
            exact HX.out ha⟩
        · rw [List.mem_append,List.mem_singleton,HM.out,HME.out]
          constructor
          · rintro (⟨h1,h2⟩ | rfl)
            · exact ⟨h1,fun h=>h2 h.1⟩
            · exact ⟨HS2.out,fun h=>h.2 rfl⟩
          · rintro ⟨h1,h2⟩
            by_cases hxs:x=s
            · exact Or.inr hxs
            · exact Or.inl ⟨h1,fun h=>h2 ⟨h,hxs⟩⟩
        · have:=HLT.out
          rw [List.length_append]
          simp
          omega
end Go.Proofs.Ythbcdckonaljiaa

