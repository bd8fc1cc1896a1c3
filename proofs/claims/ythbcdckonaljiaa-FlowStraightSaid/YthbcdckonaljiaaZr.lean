import Derived.Test.YthbcdckonaljiaaZp2
import Derived.Test.YthbcdckonaljiaaZq
import Derived.Test.YthbcdckonaljiaaZg3
namespace Go.Proofs.Ythbcdckonaljiaa
open Go.RowKit Go.BigFrame
abbrev awI0:Ins:=⟨1,0,0,0,0,2,⟨#[]⟩,0,0,0,0,0,0,0,-1⟩
abbrev awI1:Ins:=⟨1,0,1,0,0,3,⟨#[]⟩,0,0,0,0,0,0,0,-1⟩
abbrev awI2:Ins:=⟨3,1,2,0,1,0,⟨#[]⟩,0,0,0,0,0,0,0,-1⟩
abbrev awI3:Ins:=⟨13,0,-1,2,0,0,⟨#[]⟩,0,0,0,0,0,0,0,-1⟩
def awF:Fn7:=⟨⟨#[102]⟩,0,3,0,[awI0,awI1,awI2,awI3]⟩
theorem awF_ok:OkF awF:=by
  refine ⟨by decide,by decide,by decide,by decide,by decide,fun i hi=>?_,fun i hi=>?_⟩
  · have hi:i=awI0∨i=awI1∨i=awI2∨i=awI3:=by simpa [awF] using hi
    rcases hi with rfl | rfl | rfl | rfl
    · exact ⟨by decide,by decide,by decide,by decide,by decide,by decide,by decide,by decide,by decide,by decide,by decide⟩
    · exact ⟨by decide,by decide,by decide,by decide,by decide,by decide,by decide,by decide,by decide,by decide,by decide⟩
    · exact ⟨by decide,by decide,by decide,by decide,by decide,by decide,by decide,by decide,by decide,by decide,by decide⟩
    · exact ⟨by decide,by decide,by decide,by decide,by decide,by decide,by decide,by decide,by decide,by decide,by decide⟩
  · obtain rfl:awI3=i:=by simpa [awF] using hi
    decide
theorem awF_get {p:Nat}{i:Ins}(h:awF.code[p]? = some i):(p=0∧i=awI0)∨(p=1∧i=awI1)∨(p=2∧i=awI2)∨(p=3∧i=awI3):=by
  match p,h with
  | 0,h=>exact Or.inl ⟨rfl,by simpa [awF] using h.symm⟩
  | 1,h=>exact Or.inr (Or.inl ⟨rfl,by simpa [awF] using h.symm⟩)
  | 2,h=>exact Or.inr (Or.inr (Or.inl ⟨rfl,by simpa [awF] using h.symm⟩))
  | 3,h=>exact Or.inr (Or.inr (Or.inr ⟨rfl,by simpa [awF] using h.symm⟩))
  | p + 4,h=>simp [awF] at h
theorem awF_strt:Strt awF:=by
  refine ⟨awF_ok,rfl,fun p i h=>?_,fun p i h h13=>?_,fun p i h h3 a b=>?_⟩
  · rcases awF_get h with ⟨_,rfl⟩ | ⟨_,rfl⟩ | ⟨_,rfl⟩ | ⟨_,rfl⟩ <;> simp
  · rcases awF_get h with ⟨_,rfl⟩ | ⟨_,rfl⟩ | ⟨_,rfl⟩ | ⟨rfl,rfl⟩
    · cases h13
    · cases h13
    · cases h13
    · rfl
  · rcases awF_get h with ⟨_,rfl⟩ | ⟨_,rfl⟩ | ⟨_,rfl⟩ | ⟨rfl,rfl⟩
    · cases h3
    · cases h3
    · rfl
    · cases h3
theorem awF_fold {M:List (List Vl)}(h:Ans awF M):foldN awF M awF.code.length=1∧(foldL awF M)[2]? = some ⟨1,0,2,0,0,5,⟨#[]⟩,0,0,0,0,0,0,0,-1⟩:=by
  obtain rfl:=h.unique (sM_ans awF_strt)
  exact ⟨by kernel_rfl,by kernel_rfl⟩
theorem PreI.flat {W:World}{b:Nat}(l:List Ins)(h:W.heap[b]? = some (.cells (l.flatMap Ins.l).toArray 31 (0,0))):PreI W b l :=
  ⟨_,h,fun j x hx k hk=>by
    have:=flatI_get l j k hk
    rw [hx] at this
    simpa using this⟩
theorem alloc5 (w:World)(a b c d e:Obj):(((((w.alloc a).alloc b).alloc c).alloc d).alloc e).heap[w.heap.size + 1 + 1 + 1 + 1]? = some e:=by
  have h:=heap_alloc_new ((((w.alloc a).alloc b).alloc c).alloc d) e
  rwa [show ((((w.alloc a).alloc b).alloc c).alloc d).heap.size=w.heap.size + 1 + 1 + 1 + 1 by simp] at h
def AwT (e:Ending)(w:World):Prop:=∃ nb,e = .returned (.tuple #[.agg #[.string ⟨#[102]⟩,.int .i64 0,.int .i64 3,.int .i64 0,.slice (some ⟨nb,0,none⟩) 4 4],.int .i64 1])∧nb < w.heap.size∧w.cell? ⟨nb,30,none⟩=some (.int .i64 1)∧w.cell? ⟨nb,35,none⟩=some (.int .i64 5)
theorem awFold_any (W:World)(b:Nat)(h:W.heap[b]? = some (.cells #[.int .i64 1,.int .i64 0,.int .i64 0,.int .i64 0,.int .i64 0,.int .i64 2,.string ⟨#[]⟩,.int .i64 0,.int .i64 0,.int .i64 0,.int .i64 0,.int .i64 0,.int .i64 0,.int .i64 0,.int .i64 (-1),.int .i64 1,.int .i64 0,.int .i64 1,.int .i64 0,.int .i64 0,.int .i64 3,.string ⟨#[]⟩,.int .i64 0,.int .i64 0,.int .i64 0,.int .i64 0,.int .i64 0,.int .i64 0,.int .i64 0,.int .i64 (-1),.int .i64 3,.int .i64 1,.int .i64 2,.int .i64 0,.int .i64 1,.int .i64 0,.string ⟨#[]⟩,.int .i64 0,.int .i64 0,.int .i64 0,.int .i64 0,.int .i64 0,.int .i64 0,.int .i64 0,.int .i64 (-1),.int .i64 13,.int .i64 0,.int .i64 (-1),.int .i64 2,.int .i64 0,.int .i64 0,.string ⟨#[]⟩,.int .i64 0,.int .i64 0,.int .i64 0,.int .i64 0,.int .i64 0,.int .i64 0,.int .i64 0,.int .i64 (-1)] 31 (0,0))) :
    Calls Try.prog 10 #[.agg #[.string ⟨#[102]⟩,.int .i64 0,.int .i64 3,.int .i64 0,.slice (some ⟨b,0,none⟩) 4 4]] W fun e w'=>AwT e w'∧Below W.heap.size W w':=by
  have hp:PreI W b awF.code:=PreI.flat awF.code h
  refine (fold_yes awF awF_ok (by decide) (some ⟨b,0,none⟩) 4 W hp.read).mono fun e w' ⟨⟨nb,M,hA,he,_,hP⟩,hb⟩=>⟨⟨nb,?_,Pre.lt hP,?_,?_⟩,hb⟩
  · rw [he,(awF_fold hA).1]
    rfl
  · exact (PreI.cells hP (awF_fold hA).2).1
  · exact (PreI.cells hP (awF_fold hA).2).2.2.2.2.2.1
set_option maxRecDepth 1000000 in
set_option maxHeartbeats 8000000 in
theorem awake11_any (w:World):Calls Try.prog 6 #[] w fun e w'=>e = .returned (.bool true)∧Below w.heap.size w w':=by
  have hpla:=fun k W=>Plain_any k W
  simp only [Ins.agg] at hpla
  go_enter Try.func6,Try.ntmps6
  go_wp2_with fail
  refine (hpla _ _).mono ?_
  rintro e w1 ⟨rfl,hb1⟩
  go_wp2_with fail
  refine (hpla _ _).mono ?_
  rintro e w2 ⟨rfl,hb2⟩
  go_wp2_with fail
  refine (hpla _ _).mono ?_
  rintro e w3 ⟨rfl,hb3⟩
  go_wp2_with fail
  refine (hpla _ _).mono ?_
  rintro e w4 ⟨rfl,hb4⟩
  have hb:=((hb1.trans (hb2.mono hb1.size)).trans (hb3.mono (Nat.le_trans hb1.size hb2.size))).trans (hb4.mono (Nat.le_trans (Nat.le_trans hb1.size hb2.size) hb3.size))
  clear hb1 hb2 hb3 hb4
  go_wp2_with fail
  refine (awFold_any _ _ (alloc5 _ _ _ _ _ _)).mono ?_
  rintro e w5 ⟨⟨nb,rfl,hnb,c0,c5⟩,hb5⟩
  clear hpla
  go_wp2
  go_returns
  exact ⟨rfl,(hb.trans (((((((Below.refl _ _).alloc (Nat.le_refl _) _).alloc (by simp) _).alloc (by simp; omega) _).alloc (by simp; omega) _).alloc (by simp; omega) _).mono hb.size)).trans ((hb5.alloc hb5.size _).mono (by have:=hb.size; simp; omega))⟩
end Go.Proofs.Ythbcdckonaljiaa
namespace Go.Proofs.Ythbcdckonaljiaa
open Go.ChangeShapes Go.WideShapes Go.ChangeAt Go.RowKit Go.BigFrame
abbrev B4.l (x:B4):List Value:=[.int .u8 x.x0,.int .u8 x.x1,.int .u8 x.x2,.int .u8 x.x3]
def RdB (w:World)(A:Option Addr)(l:List B4):Prop:=∀ (j:Nat) x,l[j]? = some x→∃ b o,A=some ⟨b,o,none⟩∧b < w.heap.size∧∀ k,k < 4→w.cell? ⟨b,o + (j * 4 + k),none⟩=x.l[k]?
theorem RdB.below {w w':World}{A:Option Addr}{l:List B4}(h:RdB w A l)(hb:Below w.heap.size w w'):RdB w' A l:=fun j x hx=>by
  obtain ⟨b,o,e1,e2,e3⟩:=h j x hx
  exact ⟨b,o,e1,Nat.lt_of_lt_of_le e2 hb.size,fun k hk=>(hb.cell (p:=⟨b,_,none⟩) e2).trans (e3 k hk)⟩
theorem oiB:Try.prog.underlying 5=some (.int .u8):=by kernel_rfl
theorem oiA4:Try.prog.underlying 33=some (.array 4 5):=by kernel_rfl
theorem ocB:Try.prog.cellsOf 5=1:=by kernel_rfl
theorem ocA4:Try.prog.cellsOf 33=4:=by kernel_rfl
section
variable {H:Type} {enc:TypeId × Value→H} {w:World} {base:Nat} {sp:Nat→Bool} {held:Bool} {fuel:Nat} {cs:List Value} {x:DataW H × List MemPlace}
set_option maxRecDepth 100000 in
theorem trod_b4 (h:DataW.trod enc Try.prog w base sp held fuel 33 cs=some x):∃ r:B4,cs=r.l∧r.ok:=by
  obtain ⟨xs,m,_,_,hl,hxl,hi⟩:=DataW.trod_array oiA4 h
  rw [ocA4] at hl
  have h0:=hi 0 (by omega)
  have h1:=hi 1 (by omega)
  have h2:=hi 2 (by omega)
  have h3:=hi 3 (by omega)
  rw [ocB,List.getElem?_eq_getElem (by omega)] at h0 h1 h2 h3
  obtain ⟨n0,e0,_,w0⟩:=DataW.trod_int oiB h0
  obtain ⟨n1,e1,_,w1⟩:=DataW.trod_int oiB h1
  obtain ⟨n2,e2,_,w2⟩:=DataW.trod_int oiB h2
  obtain ⟨n3,e3,_,w3⟩:=DataW.trod_int oiB h3
  have b0:=bounds_u8 w0
  have b1:=bounds_u8 w1
  have b2:=bounds_u8 w2
  have b3:=bounds_u8 w3
  match cs,hl with
  | [a,b,c,d],_ =>
    simp at e0 e1 e2 e3
    exact ⟨⟨n0,n1,n2,n3⟩,by simp [e0,e1,e2,e3],by unfold B4.ok; simp only; omega⟩
end
theorem open_b4s {H:Type} {enc:TypeId × Value→H} {w:World} {v:Value} {d:DataW H} {p:List MemPlace} (h:DataW.Trod enc Try.prog w 0 (fun _=>true) true 22 v d p) (hv:∃ a len cap,v = .slice a len cap) :
    ∃ (A:Option Addr) (l:List B4) (cap:Nat),v = .slice A l.length cap∧RdB w A l∧(∀ x ∈ l,x.ok)∧l.length≤9223372036854775807:=by
  obtain ⟨a0,len0,cap0,rfl⟩:=hv
  obtain ⟨fuel,hf⟩:=h
  rcases Go.Deep.open_slice (e:=33) (by kernel_rfl) hf with ⟨hcs,_⟩ | ⟨a,len,cap,m,n,D,Pl,hcs,_,hlc,hcm,hm,hx,hi⟩
  · simp [Value.cells] at hcs
    obtain ⟨rfl,rfl,rfl⟩:=hcs
    exact ⟨none,[],0,rfl,(fun j s hs=>by simp at hs),(fun x hx=>by simp at hx),by simp⟩
  · simp [Value.cells] at hcs
    obtain ⟨rfl,rfl,rfl⟩:=hcs
    rw [ocA4] at hi
    have hm':m=cap0:=by simpa using hm
    subst hm'
    have hrows:∀ i,i < len0→∃ r:B4,w.cells? 0 (a.add (i * 4)) 4=some r.l∧r.ok:=fun i hil=>by
      obtain ⟨cs',hc,ht⟩:=hi i (by omega)
      obtain ⟨r,rfl,hr⟩:=trod_b4 ht
      exact ⟨r,hc,hr⟩
    haveI:Inhabited B4:=⟨⟨0,0,0,0⟩⟩
    obtain ⟨f,hfr⟩:=Go.Deep.choose_lt hrows
    refine ⟨some a,(List.range len0).map f,m,by simp,fun j g hg=>?_,fun x hx=>?_,by simp [maxLen] at hcm ⊢; omega⟩
    · have hj:j < len0:=by simpa using (List.getElem?_eq_some_iff.1 hg).1
      have hgf:g=f j:=by simp [hj] at hg; exact hg.symm
      subst hgf
      have hc:=(World.cells?_some (hfr j hj).1).2.2
      have h00:=(World.cells?_some (hfr 0 (by omega)).1).2.2 0 (by omega)
      have hsp':a.spot=none:=by
        have e1:(a.add (0 * 4)).add 0=a.add 0:=by simp [Addr.add]
        rw [e1] at h00
        exact no_spot (v:=(f 0).l[0]) h00 rfl
      obtain ⟨b,o,spot⟩:=a
      simp only at hsp'
      subst hsp'
      have c0:=hc 0 (by omega)
      rw [addr_add2] at c0
      refine ⟨b,o,rfl,cell_lt c0,fun k hk=>?_⟩
      have ck:=hc k hk
      rw [addr_add2] at ck
      rw [ck,List.getElem?_eq_getElem (by exact hk)]
    · obtain ⟨j,hj,rfl⟩:=List.mem_map.1 hx
      exact (hfr j (by simpa using hj)).2
def RegB (w:World)(b:Nat)(rg:List Int):Prop:=w.heap[b]? = some (.cells (rg.map (Value.int .i64)).toArray 27 (0,0))
theorem RegB.cell {w:World}{b:Nat}{rg:List Int}(h:RegB w b rg){j:Nat}(hj:j < rg.length):w.cell? ⟨b,j,none⟩=some (.int .i64 (rgAt rg j)) :=
  cell_of_heap h j _ (by simp [rgAt,List.getD,hj])
theorem RegB.set {w:World}{b:Nat}{rg:List Int}(h:RegB w b rg)(j:Nat)(n:Int):RegB (w.setCell ⟨b,j,none⟩ (.int .i64 n)) b (rg.set j n):=by
  unfold RegB
  rw [heap_setCell h]
  simp [List.map_set]
end Go.Proofs.Ythbcdckonaljiaa

