import Derived.StringKeys
import Derived.Maps.Own
import Derived.Maps.OwnOps
import Derived.Maps.RangeRun
import Derived.Maps.RangeWalk
import Derived.Deep.CutRange
import Derived.Carry
import Derived.Test.YtgdbkoncaojmoaaShelf
import Derived.Test.YtgdbkoncaojmoaaZg
namespace Go.Proofs.Ytgdbkoncaojmoaa
open Go.MapKept Go.RowKit
def MapI (w:World)(b n:Nat)(g:Int→Option Value):Prop:=∃ (es:Array MapEntry) (clock:Nat),w.heap[b]? = some (.map es clock)∧es.size≤n ∧
  (∀ (i j:Nat) ei ej,es[i]? = some ei→es[j]? = some ej→ei.key=ej.key→i=j)∧(∀ (i:Nat) e,es[i]? = some e→∃ s,e.key = .int .i64 s) ∧
  (∀ (i:Nat) e s,es[i]? = some e→e.key = .int .i64 s→g s=some e.val)∧(∀ s v,g s=some v→∃ (i:Nat) (e:MapEntry),es[i]? = some e∧e.key = .int .i64 s)
theorem MapI.made (w:World):MapI (w.alloc (.map #[] 0)) w.heap.size 0 (fun _=>none) :=
  ⟨#[],0,(MapKept.heap_alloc w _).1,by simp,by simp,by simp,by simp,by simp⟩
theorem MapI.lt {w:World}{b n:Nat}{g}(h:MapI w b n g):b < w.heap.size:=by
  obtain ⟨es,clock,hb,_⟩:=h
  exact (Array.getElem?_eq_some_iff.1 hb).1
theorem MapI.of_block {w w':World}{b n:Nat}{g}(h:MapI w b n g)(hb:w'.heap[b]? = w.heap[b]?):MapI w' b n g:=by
  obtain ⟨es,clock,h1,h2⟩:=h
  exact ⟨es,clock,hb.trans h1,h2⟩
theorem MapI.below {w w':World}{b n B:Nat}{g}(h:MapI w b n g)(hb:Below B w w')(hB:b < B):MapI w' b n g:=h.of_block (hb.block b hB)
theorem MapI.find {w:World}{b n:Nat}{g}(h:MapI w b n g)(s:Int):∃ (es:Array MapEntry) (clock:Nat),w.heap[b]? = some (.map es clock) ∧
    ((Instr.findNow (.int .i64) (.int .i64 s) es.toList 0=some none∧g s=none∧∀ (i:Nat) e,es[i]? = some e→e.key≠.int .i64 s)∨∃ (j:Nat) (e:MapEntry),Instr.findNow (.int .i64) (.int .i64 s) es.toList 0=some (some (j,e.val))∧es[j]? = some e∧e.key = .int .i64 s∧g s=some e.val):=by
  obtain ⟨es,clock,hb,_,h1,h2,h3,h4⟩:=h
  refine ⟨es,clock,hb,?_⟩
  have hks:∀ x ∈ es.toList,IsKey (.int .i64) x.key:=fun x hx=>by
    obtain ⟨i,hi⟩:=List.mem_iff_getElem?.1 hx
    obtain ⟨s',e⟩:=h2 i x (by simpa using hi)
    rw [e]; rfl
  rcases findNow_spec (d:=.int .i64) (k:=.int .i64 s) rfl es.toList 0 hks with ⟨ha,hn⟩ | ⟨j,e0,ha,hj,hk⟩
  · refine Or.inl ⟨ha,?_,fun i e hi=>hn e (List.mem_iff_getElem?.2 ⟨i,by simpa using hi⟩)⟩
    cases hg:g s with
    | none=>rfl
    | some v =>
      obtain ⟨i,e,hi,hk⟩:=h4 s v hg
      exact absurd hk (hn e (List.mem_iff_getElem?.2 ⟨i,by simpa using hi⟩))
  · have hj':es[j]? = some e0:=by simpa using hj
    exact Or.inr ⟨j,e0,by simpa using ha,hj',hk,h3 j e0 s hj' hk⟩
end Go.Proofs.Ytgdbkoncaojmoaa
namespace Go.Proofs.Ytgdbkoncaojmoaa
open Go.MapKept Go.RowKit
structure Ents (es:Array MapEntry)(clock:Nat)(S:Int→Bool):Prop where
  dist:∀ (i j:Nat) ei ej,es[i]? = some ei→es[j]? = some ej→ei.key=ej.key→i=j
  form:∀ (i:Nat) e,es[i]? = some e→∃ s,e.key = .int .i64 s∧S s=true∧e.val = .bool true
  has:∀ s,S s=true→∃ (i:Nat) (e:MapEntry),es[i]? = some e∧e.key = .int .i64 s
  born:∀ (i j:Nat) ei ej,es[i]? = some ei→es[j]? = some ej→ei.born=ej.born→i=j
  old:∀ (i:Nat) e,es[i]? = some e→e.born < clock
def SetI (w:World)(b:Nat)(S:Int→Bool):Prop:=∃ es clock,w.heap[b]? = some (.map es clock)∧Ents es clock S
def insS_ (S:Int→Bool)(s:Int):Int→Bool:=fun x=>decide (x=s) || S x
theorem SetI.made (w:World):SetI (w.alloc (.map #[] 0)) w.heap.size (fun _=>false) :=
  ⟨#[],0,(MapKept.heap_alloc w _).1,by simp,by simp,by simp,by simp,by simp⟩
theorem SetI.lt {w:World}{b:Nat}{S}(h:SetI w b S):b < w.heap.size:=by
  obtain ⟨es,clock,hb,_⟩:=h
  exact (Array.getElem?_eq_some_iff.1 hb).1
theorem SetI.of_block {w w':World}{b:Nat}{S}(h:SetI w b S)(hb:w'.heap[b]? = w.heap[b]?):SetI w' b S:=by
  obtain ⟨es,clock,h1,h2⟩:=h
  exact ⟨es,clock,hb.trans h1,h2⟩
theorem SetI.below {w w':World}{b B:Nat}{S}(h:SetI w b S)(hb:Below B w w')(hB:b < B):SetI w' b S:=h.of_block (hb.block b hB)
theorem SetI.find {w:World}{b:Nat}{S}(h:SetI w b S)(s:Int):∃ (es:Array MapEntry) (clock:Nat),w.heap[b]? = some (.map es clock)∧Ents es clock S ∧
    ((Instr.findNow (.int .i64) (.int .i64 s) es.toList 0=some none∧S s=false∧∀ (i:Nat) e,es[i]? = some e→e.key≠.int .i64 s)∨∃ (j:Nat) (e:MapEntry),Instr.findNow (.int .i64) (.int .i64 s) es.toList 0=some (some (j,.bool true))∧es[j]? = some e∧e.key = .int .i64 s∧S s=true∧e.val = .bool true):=by
  obtain ⟨es,clock,hb,hE⟩:=h
  refine ⟨es,clock,hb,hE,?_⟩
  have hks:∀ x ∈ es.toList,IsKey (.int .i64) x.key:=fun x hx=>by
    obtain ⟨i,hi⟩:=List.mem_iff_getElem?.1 hx
    obtain ⟨s',e,_⟩:=hE.form i x (by simpa using hi)
    rw [e]; rfl
  rcases findNow_spec (d:=.int .i64) (k:=.int .i64 s) rfl es.toList 0 hks with ⟨ha,hn⟩ | ⟨j,e0,ha,hj,hk⟩
  · have hno:∀ (i:Nat) e,es[i]? = some e→e.key≠.int .i64 s:=fun i e hi=>hn e (List.mem_iff_getElem?.2 ⟨i,by simpa using hi⟩)
    refine Or.inl ⟨ha,?_,hno⟩
    cases hg:S s with
    | false=>rfl
    | true =>
      obtain ⟨i,e,hi,hk⟩:=hE.has s hg
      exact absurd hk (hno i e hi)
  · have hj':es[j]? = some e0:=by simpa using hj
    obtain ⟨s',h1,h2,h3⟩:=hE.form j e0 hj'
    have hs:s'=s:=by rw [h1] at hk; injection hk
    subst hs
    exact Or.inr ⟨j,e0,by rw [← h3]; simpa using ha,hj',hk,h2,h3⟩
section
variable {P:Program}
theorem Ents.push {es:Array MapEntry}{clock:Nat}{S:Int→Bool}(h:Ents es clock S)(s:Int)(hno:∀ (i:Nat) e,es[i]? = some e→e.key≠.int .i64 s) :
    Ents (es.push { key:=.int .i64 s,val:=.bool true,born:=clock }) (clock + 1) (insS_ S s):=by
  refine ⟨fun i j ei ej hi hj he=>?_,fun i e hi=>?_,fun s' hs'=>?_,fun i j ei ej hi hj he=>?_,fun i e hi=>?_⟩
  · rw [Array.getElem?_push] at hi hj
    split at hi <;> split at hj
    · omega
    · injection hi with hi; subst hi; exact absurd he.symm (hno j ej hj)
    · injection hj with hj; subst hj; exact absurd he (hno i ei hi)
    · exact h.dist i j ei ej hi hj he
  · rw [Array.getElem?_push] at hi
    split at hi
    · injection hi with hi; subst hi; exact ⟨s,rfl,by simp [insS_],rfl⟩
    · obtain ⟨s',h1,h2,h3⟩:=h.form i e hi
      exact ⟨s',h1,by simp [insS_,h2],h3⟩
  · by_cases he:s'=s
    · subst he
      exact ⟨es.size,_,by rw [Array.getElem?_push,if_pos rfl],rfl⟩
    · obtain ⟨i,e,hi,hk'⟩:=h.has s' (by simpa [insS_,he] using hs')
      have hil:i < es.size:=(Array.getElem?_eq_some_iff.1 hi).1
      exact ⟨i,e,by rw [Array.getElem?_push,if_neg (by omega)]; exact hi,hk'⟩
  · rw [Array.getElem?_push] at hi hj
    split at hi <;> split at hj
    · omega
    · injection hi with hi; subst hi; have:=h.old j ej hj; simp only at he; omega
    · injection hj with hj; subst hj; have:=h.old i ei hi; simp only at he; omega
    · exact h.born i j ei ej hi hj he
  · rw [Array.getElem?_push] at hi
    split at hi
    · injection hi with hi; subst hi; simp
    · have:=h.old i e hi; omega
def HalfI (w:World)(b:Nat)(S:Int→Bool)(s:Int)(clock:Nat):Prop:=∃ es,w.heap[b]? = some (.map (es.push { key:=.int .i64 s,val:=.bool false,born:=clock }) (clock + 1))∧Ents es clock S∧∀ (i:Nat) e,es[i]? = some e→e.key≠.int .i64 s
theorem SetI.entry {w:World}{b:Nat}{S}(h:SetI w b S){t k e:TypeId}(ht:P.underlying t=some (.map k e))(hk:P.underlying k=some (.int .i64))(hz:(zeroValue e).run P w = .ok (.bool false) w)(s:Int)(hs:S s=false) :
    ∃ (w':World) (clock:Nat),(Instr.mapEntry t (.map (some b)) (.int .i64 s)).run P w = .ok (.tuple #[.bool false,.int .i64 clock]) w'∧HalfI w' b S s clock∧w.grownBy w' (some b)∧w'.heap.size=w.heap.size:=by
  obtain ⟨es,clock,hb,hE,hf⟩:=h.find s
  have hck:=run_checkKey (w:=w) hk (d:=.int .i64) (k:=.int .i64 s) rfl false 9999
  have hlt:b < w.heap.size:=(Array.getElem?_eq_some_iff.1 hb).1
  rcases hf with ⟨ha,hg,hno⟩ | ⟨j,e0,ha,hj,hkey,hg,hv⟩
  · refine ⟨{ w with heap:=w.heap.setIfInBounds b (.map (es.push { key:=.int .i64 s,val:=.bool false,born:=clock }) (clock + 1)) },clock,?_,⟨es,by simp [hlt],hE,hno⟩,⟨rfl,rfl,rfl,by simp,fun i _ hi=>by
      have:b≠i:=fun e=>hi (by rw [e])
      simp [this]⟩,by simp⟩
    simp [Instr.mapEntry,run_underlying ht,MapKept.run_getObj_map hb,hck,run_findKey (w:=w) hk ha,hz,Result.andThen,MapKept.run_setObj_map _ hb,goInt]
  · rw [hs] at hg; cases hg
theorem HalfI.store {w:World} {b:Nat} {S} {s:Int} {clock:Nat} (h:HalfI w b S s clock) (t:TypeId) :
    ∃ w',(Instr.entryStore t (.map (some b)) (.int .i64 clock) (.bool true)).run P w = .ok () w'∧SetI w' b (insS_ S s)∧w.grownBy w' (some b)∧w'.heap.size=w.heap.size:=by
  obtain ⟨es,hb,hE,hno⟩:=h
  have hlt:b < w.heap.size:=(Array.getElem?_eq_some_iff.1 hb).1
  have hfi:(es.push { key:=.int .i64 s,val:=.bool false,born:=clock }).findIdx? (fun e=>(e.born:Int) == (clock:Int))=some es.size:=by
    rw [Array.findIdx?_eq_some_iff_getElem]
    refine ⟨by simp,by simp,fun j hj=>?_⟩
    have hjl:j < es.size:=hj
    rw [Array.getElem_push_lt hjl]
    have:=hE.old j es[j] (Array.getElem?_eq_getElem hjl)
    simp
    omega
  have hmod:((es.push { key:=.int .i64 s,val:=.bool false,born:=clock }).modify es.size fun e=>{ e with val:=.bool true })=es.push { key:=.int .i64 s,val:=.bool true,born:=clock }:=by
    apply Array.ext
    · simp
    · intro i h1 h2
      rw [Array.getElem_modify]
      split
      · rename_i hi; subst hi; simp
      · rename_i hi
        have:i < es.size:=by simp at h2; omega
        rw [Array.getElem_push_lt this,Array.getElem_push_lt this]
  refine ⟨{ w with heap:=w.heap.setIfInBounds b (.map (es.push { key:=.int .i64 s,val:=.bool true,born:=clock }) (clock + 1)) },?_,⟨_,_,by simp [hlt],hE.push s hno⟩,⟨rfl,rfl,rfl,by simp,fun i _ hi=>by
    have:b≠i:=fun e=>hi (by rw [e])
    simp [this]⟩,by simp⟩
  simp [Instr.entryStore,MapKept.run_getObj_map hb,Result.andThen,asInt,asIntOf,hfi,hmod,MapKept.run_setObj_map _ hb]
def RgD (w:World)(r b:Nat)(S:Int→Bool)(l:List Int):Prop:=∃ (es:Array MapEntry) (clock c0:Nat) (seen:Array Nat),Ents es clock S∧w.heap[b]? = some (.map es clock)∧clock≤c0∧w.heap[r]? = some (.mapIter (some b) clock seen c0) ∧
  l=(es.toList.filter fun e=>!seen.contains e.born).map fun e=>match e.key with | .int _ n=>n | _=>0
theorem RgD.of_blocks {w w':World}{r b:Nat}{S}{l:List Int}(h:RgD w r b S l)(h1:w'.heap[b]? = w.heap[b]?)(h2:w'.heap[r]? = w.heap[r]?):RgD w' r b S l:=by
  obtain ⟨es,clock,c0,seen,a,b,c,d,e⟩:=h
  exact ⟨es,clock,c0,seen,a,h1.trans b,c,h2.trans d,e⟩
theorem RgD.lt {w:World}{r b:Nat}{S}{l:List Int}(h:RgD w r b S l):b < w.heap.size∧r < w.heap.size:=by
  obtain ⟨es,clock,c0,seen,a,b,c,d,e⟩:=h
  exact ⟨(Array.getElem?_eq_some_iff.1 b).1,(Array.getElem?_eq_some_iff.1 d).1⟩
theorem RgD.below {w w':World}{r b:Nat}{S}{l:List Int}(h:RgD w r b S l)(hb:Below w.heap.size w w'):RgD w' r b S l:=h.of_blocks (hb.block _ h.lt.1) (hb.block _ h.lt.2)
theorem RgD.set {w:World}{r b:Nat}{S}{l:List Int}(h:RgD w r b S l):SetI w b S:=by
  obtain ⟨es,clock,c0,seen,a,b,c,d,e⟩:=h
  exact ⟨es,clock,b,a⟩
theorem SetI.range {w:World}{b:Nat}{S}(h:SetI w b S){t k e:TypeId}(ht:P.underlying t=some (.map k e)) :
    ∃ (l:List Int) (o:Obj),(Instr.range t (.map (some b))).run P w = .ok (.pointer (some ⟨w.heap.size,0,none⟩)) (w.alloc o)∧RgD (w.alloc o) w.heap.size b S l∧l.Nodup∧∀ x,x ∈ l↔S x=true:=by
  obtain ⟨es,clock,hb,hE⟩:=h
  have hall:(es.toList.filter fun e=>!(#[]:Array Nat).contains e.born)=es.toList:=by simp
  refine ⟨_,_,run_range_map w t k e b es clock ht hb,⟨es,clock,clock,#[],hE,by rw [heap_alloc_old w _ (Array.getElem?_eq_some_iff.1 hb).1]; exact hb,Nat.le_refl _,heap_alloc_new w _,rfl⟩,?_,fun x=>?_⟩
  · rw [hall,List.nodup_iff_pairwise_ne,List.pairwise_iff_getElem]
    intro i j hi hj hij
    simp only [List.length_map,Array.length_toList] at hi hj
    simp only [List.getElem_map,Array.getElem_toList]
    obtain ⟨s1,a1,_⟩:=hE.form i es[i] (Array.getElem?_eq_getElem hi)
    obtain ⟨s2,a2,_⟩:=hE.form j es[j] (Array.getElem?_eq_getElem hj)
    rw [a1,a2]
    intro he
    simp only at he
    have:=hE.dist i j _ _ (Array.getElem?_eq_getElem hi) (Array.getElem?_eq_getElem hj) (by rw [a1,a2,he])
    omega
  · rw [hall,List.mem_map]
    constructor
    · rintro ⟨e,he,rfl⟩
      obtain ⟨i,hi⟩:=List.mem_iff_getElem?.1 he
      obtain ⟨s,h1,h2,_⟩:=hE.form i e (by simpa using hi)
      rw [h1]
      exact h2
    · intro hx
      obtain ⟨i,e,hi,hk⟩:=hE.has x hx
      exact ⟨e,List.mem_iff_getElem?.2 ⟨i,by simpa using hi⟩,by rw [hk]⟩
theorem RgD.next {w:World} {r b:Nat} {S} {l:List Int} (h:RgD w r b S l) (ty:TypeId) :
    (l=[]∧(Instr.next (.pointer (some ⟨r,0,none⟩)) false ty).run P w = .ok (.tuple #[.bool false]) w) ∨
    ∃ (s:Int) (l':List Int) (w':World),s ∈ l∧S s=true∧(∀ x,x ∈ l'↔x ∈ l∧x≠s)∧l'.length < l.length∧RgD w' r b S l'∧w.grownBy w' (some r)∧w'.heap.size=w.heap.size ∧
      (Instr.next (.pointer (some ⟨r,0,none⟩)) false ty).run P w = .ok (.tuple #[.bool true,.int .i64 s,.bool true]) w'∧(Instr.entry (.pointer (some ⟨r,0,none⟩))).run P w' = .ok (.tuple #[.int .i64 s,.bool true]) w':=by
  obtain ⟨es,clock,c0,seen,hE,hb,hc,hr,rfl⟩:=h
  have hlo:∀ sn:Array Nat,(leftOf es sn).toList=es.toList.filter fun e=>!sn.contains e.born:=fun sn=>by simp [leftOf]
  rcases run_next_at w ty r b clock c0 seen es clock hr hb (fun x hx=>by
    obtain ⟨i,hi⟩:=List.mem_iff_getElem?.1 hx
    exact hE.old i x (by simpa using hi)) hc with ⟨h0,hrun⟩ | ⟨e,he,w1,hw1,hrun⟩
  · refine Or.inl ⟨?_,hrun⟩
    have:(leftOf es seen).toList=[]:=by rw [Array.eq_empty_of_size_eq_zero h0]
    rw [← hlo,this]; rfl
  · rw [hlo] at he
    have hem:e ∈ es.toList:=(List.mem_filter.1 he).1
    obtain ⟨i,hi⟩:=List.mem_iff_getElem?.1 hem
    have hi':es[i]? = some e:=by simpa using hi
    obtain ⟨s,h1,h2,h3⟩:=hE.form i e hi'
    have hfilt:(es.toList.filter fun x=>!(seen.push e.born).contains x.born)=(es.toList.filter fun x=>!seen.contains x.born).filter fun x=>x.born != e.born:=by
      rw [List.filter_filter]
      apply List.filter_congr
      intro x _
      rw [Bool.eq_iff_iff]
      simp
      constructor
      · rintro ⟨a,b⟩; exact ⟨b,a⟩
      · rintro ⟨a,b⟩; exact ⟨b,a⟩
    have hblk:w1.heap=w.heap:=by rcases hw1 with rfl | rfl <;> rfl
    have hlr:r < w.heap.size:=(Array.getElem?_eq_some_iff.1 hr).1
    have hbr:b≠r:=fun e=>by subst e; rw [hb] at hr; cases hr
    have hg:w.grownBy (ChangeMaps.setBlock w1 r (.mapIter (some b) clock (seen.push e.born) clock)) (some r):=by
      rcases hw1 with rfl | rfl
      · exact ⟨rfl,rfl,rfl,by simp [ChangeMaps.setBlock],fun i _ hne=>by
          have:r≠i:=fun e=>hne (by rw [e])
          simp [ChangeMaps.setBlock,this]⟩
      · exact ⟨rfl,rfl,rfl,by simp [ChangeMaps.setBlock],fun i _ hne=>by
          have:r≠i:=fun e=>hne (by rw [e])
          simp [ChangeMaps.setBlock,this]
          rfl⟩
    have hr':(ChangeMaps.setBlock w1 r (.mapIter (some b) clock (seen.push e.born) clock)).heap[r]? = some (.mapIter (some b) clock (seen.push e.born) clock):=by
      simp [ChangeMaps.setBlock,hblk,hlr]
    have hb':(ChangeMaps.setBlock w1 r (.mapIter (some b) clock (seen.push e.born) clock)).heap[b]? = some (.map es clock):=by
      simp [ChangeMaps.setBlock,hblk,Ne.symm hbr,hb]
    refine Or.inr ⟨s,_,_,?_,h2,?_,?_,⟨es,clock,clock,seen.push e.born,hE,hb',Nat.le_refl _,hr',rfl⟩,hg,by simp [ChangeMaps.setBlock,hblk],by rw [h1,h3] at hrun; exact hrun,?_⟩
    · exact List.mem_map.2 ⟨e,he,by rw [h1]⟩
    · intro x
      rw [hfilt,List.mem_map,List.mem_map]
      constructor
      · rintro ⟨e',he',rfl⟩
        obtain ⟨h4,h5⟩:=List.mem_filter.1 he'
        refine ⟨⟨e',h4,rfl⟩,fun h6=>?_⟩
        obtain ⟨i',hi2⟩:=List.mem_iff_getElem?.1 (List.mem_filter.1 h4).1
        have hi2':es[i']? = some e':=by simpa using hi2
        obtain ⟨s',h7,_⟩:=hE.form i' e' hi2'
        rw [h7] at h6
        simp only at h6
        subst h6
        have:=hE.dist i' i e' e hi2' hi' (by rw [h7,h1])
        subst this
        rw [hi'] at hi2'
        injection hi2' with h8
        subst h8
        simp at h5
      · rintro ⟨⟨e',he',rfl⟩,hne⟩
        refine ⟨e',List.mem_filter.2 ⟨he',?_⟩,rfl⟩
        simp only [bne_iff_ne,ne_eq]
        intro h6
        obtain ⟨i',hi2⟩:=List.mem_iff_getElem?.1 (List.mem_filter.1 he').1
        have hi2':es[i']? = some e':=by simpa using hi2
        have:=hE.born i' i e' e hi2' hi' h6
        subst this
        rw [hi'] at hi2'
        injection hi2' with h8
        subst h8
        rw [h1] at hne
        exact hne rfl
    · rw [hfilt,List.length_map,List.length_map]
      exact List.length_filter_lt_length_iff_exists.2 ⟨e,he,by simp⟩
    · have:=run_entry_at (P:=P) _ r b clock seen es clock e hr' hb' hem (by
        rw [List.nodup_iff_pairwise_ne,List.pairwise_iff_getElem]
        intro i j hi hj hij
        simp only [List.length_map,Array.length_toList] at hi hj
        simp only [List.getElem_map,Array.getElem_toList]
        intro he
        have:=hE.born i j _ _ (Array.getElem?_eq_getElem hi) (Array.getElem?_eq_getElem hj) he
        omega)
      rw [h1,h3] at this
      exact this
theorem nodup_le:∀ (R:Nat) (l:List Int),l.Nodup→(∀ x ∈ l,0≤x∧x < (R:Int))→l.length≤R
  | 0,[],_,_=>Nat.le_refl _
  | 0,x::l,_,h=>by have:=h x (by simp); omega
  | R + 1,l,hn,h=>by
    by_cases hm:(R:Int) ∈ l
    · have h1:=nodup_le R (l.erase R) (hn.erase _) (fun x hx=>by
        have h2:=(List.Nodup.mem_erase_iff hn).1 hx
        have:=h x h2.2
        have:=h2.1
        omega)
      rw [List.length_erase_of_mem hm] at h1
      omega
    · have h1:=nodup_le R l hn (fun x hx=>by
        have:=h x hx
        have:x≠R:=fun e=>hm (e ▸ hx)
        omega)
      omega
end
end Go.Proofs.Ytgdbkoncaojmoaa
namespace Go.Proofs.Ytgdbkoncaojmoaa
theorem OkF.next {f:Fn7} (hf:OkF f) {p:Nat} {i:Ins} (h:f.code[p]? = some i):∀ n ∈ i.next p,0≤n∧n.toNat < f.code.length:=by
  intro n hn
  have hi:=hf.ok i (List.mem_of_getElem? h)
  have hp:=(List.getElem?_eq_some_iff.1 h).1
  unfold Ins.next at hn
  split at hn
  · rename_i h1
    have:=hi.to_ (Or.inl h1)
    simp only [List.mem_singleton] at hn
    subst hn
    omega
  · split at hn
    · rename_i h1
      have a:=hi.to_ (Or.inr h1)
      have b:=hi.els h1
      simp only [List.mem_cons,List.not_mem_nil,or_false] at hn
      rcases hn with rfl | rfl <;> omega
    · split at hn
      · cases hn
      · simp only [List.mem_singleton] at hn
        subst hn
        by_cases hl:p=f.code.length - 1
        · subst hl
          have h1:=hf.last i h
          have h2:=hi.kind
          omega
        · omega
theorem OkF.uses {f:Fn7}(hf:OkF f){p:Nat}{i:Ins}(h:f.code[p]? = some i):∀ r ∈ i.uses,0≤r∧r < f.R:=(hf.ok i (List.mem_of_getElem? h)).uses
inductive Lv (l:List Ins):Nat→Int→Prop
  | use {p:Nat} {i:Ins} {r:Int} (h:l[p]? = some i) (hu:r ∈ i.uses):Lv l p r
  | step {p:Nat} {i:Ins} {n r:Int} (h:l[p]? = some i) (hn:n ∈ i.next p) (hs:i.sets≠r) (hl:Lv l n.toNat r):Lv l p r
abbrev Sets:=Nat→Int→Bool
def upd2 (S:Sets)(p:Nat)(r:Int):Sets:=fun q x=>if q=p then decide (x=r) || S q x else S q x
theorem countP_lt {α:Type}{p q:α→Bool}:∀ {l:List α},(∀ x ∈ l,p x=true→q x=true)→(∃ x ∈ l,q x=true∧p x=false)→l.countP p < l.countP q
  | [],_,h=>by obtain ⟨x,hx,_⟩:=h; cases hx
  | y::l,h1,h2=>by
    rw [List.countP_cons,List.countP_cons]
    have hle:l.countP p≤l.countP q:=List.countP_mono_left fun x hx=>h1 x (by simp [hx])
    obtain ⟨x,hx,hq,hp⟩:=h2
    rcases List.mem_cons.1 hx with rfl | hx
    · simp [hq,hp]; omega
    · have ih:=countP_lt (fun x hx=>h1 x (by simp [hx])) ⟨x,hx,hq,hp⟩
      have:=h1 y (by simp)
      by_cases hy:p y=true
      · simp [hy,this hy]; omega
      · simp [hy]; omega
def pot2 (N R:Nat)(S:Sets):Nat:=((List.range N).flatMap fun p=>(List.range R).map fun r=>(p,r)).countP fun x=>!S x.1 (x.2:Int)
theorem pot2_lt {N R:Nat}{S:Sets}{p:Nat}{r:Int}(hp:p < N)(hr:0≤r∧r < (R:Int))(h:S p r=false):pot2 N R (upd2 S p r) < pot2 N R S:=by
  refine countP_lt (fun x _ hx=>?_) ⟨(p,r.toNat),?_,?_,?_⟩
  · simp only [Bool.not_eq_true'] at hx ⊢
    unfold upd2 at hx
    split at hx
    · simp at hx; exact hx.2
    · exact hx
  · rw [List.mem_flatMap]
    exact ⟨p,List.mem_range.2 hp,List.mem_map.2 ⟨r.toNat,List.mem_range.2 (by omega),rfl⟩⟩
  · simp only
    rw [Int.toNat_of_nonneg hr.1,h]; rfl
  · simp only [upd2]
    rw [Int.toNat_of_nonneg hr.1]
    simp
def Cl (l:List Ins)(S:Sets)(p:Nat):Prop:=∀ i,l[p]? = some i→(∀ r ∈ i.uses,S p r=true)∧∀ n ∈ i.next p,∀ r,S n.toNat r=true→i.sets≠r→S p r=true
theorem Cl.all {l:List Ins}{S:Sets}(h:∀ p,p < l.length→Cl l S p){p:Nat}{r:Int}(hl:Lv l p r):S p r=true:=by
  induction hl with
  | use h' hu=>exact (h _ (List.getElem?_eq_some_iff.1 h').1 _ h').1 _ hu
  | step h' hn hs hl ih=>exact (h _ (List.getElem?_eq_some_iff.1 h').1 _ h').2 _ hn _ ih hs
structure Ps (l:List Ins)(N R:Nat)(Sp S:Sets)(ch:Bool):Prop where
  lo:∀ p r,S p r=true→Lv l p r
  st:ch=false→S=Sp
  mv:ch=true→pot2 N R S < pot2 N R Sp
theorem Ps.start {l:List Ins}{N R:Nat}{S:Sets}(h:∀ p r,S p r=true→Lv l p r):Ps l N R S S false:=⟨h,fun _=>rfl,fun e=>by cases e⟩
theorem Ps.add {l:List Ins}{N R:Nat}{Sp S:Sets}{ch:Bool}(h:Ps l N R Sp S ch){p:Nat}{r:Int}(hp:p < N)(hr:0≤r∧r < (R:Int))(hl:Lv l p r)(hs:S p r=false):Ps l N R Sp (upd2 S p r) true:=by
  refine ⟨fun q x hq=>?_,(fun e=>by cases e),fun _=>?_⟩
  · unfold upd2 at hq
    split at hq
    · rename_i e; subst e
      simp only [Bool.or_eq_true,decide_eq_true_eq] at hq
      rcases hq with rfl | hq
      · exact hl
      · exact h.lo _ _ hq
    · exact h.lo _ _ hq
  · have h1:=pot2_lt (R:=R) hp hr hs
    cases ch with
    | false=>rw [h.st rfl] at h1 ⊢; exact h1
    | true=>exact Nat.lt_trans h1 (h.mv rfl)
end Go.Proofs.Ytgdbkoncaojmoaa
namespace Go.Proofs.Ytgdbkoncaojmoaa
open Go.RowKit Go.BigFrame
structure Kp (w w':World)(mb cb:Nat):Prop where
  s:w.heap.size≤w'.heap.size
  k:∀ b,b < w.heap.size→b≠mb→b≠cb→w'.heap[b]? = w.heap[b]?
theorem Kp.refl (w:World)(mb cb:Nat):Kp w w mb cb:=⟨Nat.le_refl _,fun _ _ _ _=>rfl⟩
theorem Kp.trans {a b c:World}{mb cb:Nat}(h1:Kp a b mb cb)(h2:Kp b c mb cb):Kp a c mb cb :=
  ⟨Nat.le_trans h1.s h2.s,fun x hx h3 h4=>(h2.k x (Nat.lt_of_lt_of_le hx h1.s) h3 h4).trans (h1.k x hx h3 h4)⟩
theorem Kp.below {w w':World}{mb cb:Nat}(h:Below w.heap.size w w'):Kp w w' mb cb:=⟨h.size,fun b hb _ _=>h.block b hb⟩
end Go.Proofs.Ytgdbkoncaojmoaa
namespace Go.Proofs.Ytgdbkoncaojmoaa
open Go.RowKit Go.BigFrame
theorem ne_of_obj {w:World}{a b:Nat}{x y:Obj}(h1:w.heap[a]? = some x)(h2:w.heap[b]? = some y)(h:x≠y):a≠b:=by
  rintro rfl
  rw [h1] at h2
  injection h2 with h2
  exact h h2
theorem SetI.ne {w:World}{a b:Nat}{S:Int→Bool}{cs:Array Value}{t:TypeId}{z:Nat × Nat}(h:SetI w b S)(h1:w.heap[a]? = some (.cells cs t z)):a≠b:=by
  obtain ⟨es,clock,h2,_⟩:=h
  exact ne_of_obj h1 h2 (by simp)
end Go.Proofs.Ytgdbkoncaojmoaa
namespace Go.Proofs.Ytgdbkoncaojmoaa
open Go.RowKit Go.BigFrame
theorem Ins.next_len (i:Ins)(p:Int):(i.next p).length≤2:=by
  unfold Ins.next
  split
  · simp
  · split
    · simp
    · split <;> simp
end Go.Proofs.Ytgdbkoncaojmoaa
namespace Go.Proofs.Ytgdbkoncaojmoaa
open Go.RowKit Go.BigFrame
def isort (l:List Int):List Int:=l.mergeSort fun x y=>decide (x≤y)
theorem isort_len (l:List Int):(isort l).length=l.length:=List.length_mergeSort l
theorem sort_own (base:Nat)(W0 w:World)(hb:Below base W0 w)(hw:base≤w.heap.size)(V:Value)(l:List Int)(hown:OwnN w V l)(hV:∀ b,V.ownBlock=some b→base≤b)(hl:l.length≤100000) :
    Calls Try.prog 40 #[V] w fun e w'=>e = .returned (.tuple #[])∧Below base W0 w'∧∃ A cap,V = .slice A l.length cap∧RdN w' A (isort l):=by
  have h0:=hown
  obtain ⟨h1,h2⟩:=hown
  rcases h2 with ⟨rfl,hn⟩ | ⟨g,cap,cur,rfl,hB,hg,hnc,hcm,hsz,htake⟩
  · obtain rfl:l=[]:=List.eq_nil_of_length_eq_zero hn
    exact (Try.slices_Sort_int_none none 0 w).mono fun e w' ⟨h1,h2⟩=>by
      subst h2
      exact ⟨h1,hb,none,0,rfl,fun j n hj=>by simp [isort] at hj⟩
  · have hlt:=(Array.getElem?_eq_some_iff.1 hg).1
    have hH:Sort.Holds (Value.int .i64) w g 0 l.toArray:=fun j hj=>by
      have hj':j < l.length:=by simpa using hj
      have:=World.ownsRow.cellAt h0 j (by omega)
      refine ⟨?_,free_of_heap hg _⟩
      rw [Nat.zero_add,this,List.getElem?_map,List.getElem?_eq_getElem hj']
      simp [hj']
    refine (Try.slices_Sort_int g 0 cap l w hH hlt (by omega)).mono fun e w' ⟨h1,n,os,h2⟩=>?_
    subst h2
    have hls:(isort l).toArray.size=l.toArray.size:=by simp [isort_len]
    refine ⟨h1,⟨hb.os,hb.tape,hb.output,?_,fun k hk=>?_⟩,_,cap,rfl,fun j x hj=>⟨g,0,rfl,?_,?_⟩⟩
    · have:=hb.size
      simp [Sort.grow,Sort.putRow,Sort.mapBlock]; omega
    · have:=hV g rfl
      have h3:=hb.block k hk
      simp only [Sort.grow,Sort.putRow,Sort.mapBlock]
      rw [Array.getElem?_append_left (by simp; omega),Array.getElem?_modify,if_neg (by omega)]
      exact h3
    · simp [Sort.grow,Sort.putRow,Sort.mapBlock]; omega
    · have hjl:=(List.getElem?_eq_some_iff.1 hj).1
      have hc:=Sort.cell?_putRow (Value.int .i64) (Sort.ahead w n) g 0 l.toArray (isort l).toArray hH hls j (by simpa using hjl)
      rw [Sort.cell?_grow _ _ _ (by simpa using hlt)]
      rw [show (isort l)=l.mergeSort fun x y=>decide (x≤y) from rfl] at hc
      rw [hc]
      rw [List.getElem?_eq_getElem hjl] at hj
      injection hj with hj
      rw [← hj]
      simp [isort] at hjl ⊢
      simp [hjl]
end Go.Proofs.Ytgdbkoncaojmoaa

