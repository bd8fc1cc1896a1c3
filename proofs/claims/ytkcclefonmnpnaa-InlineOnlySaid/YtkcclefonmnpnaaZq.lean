import Derived.Test.YtkcclefonmnpnaaZj
import Derived.Test.YtkcclefonmnpnaaZg2
namespace Go.Proofs.Ytkcclefonmnpnaa
open Go.RowKit Go.BigFrame
def toL (G:Nat→Bool)(N k:Nat):List Value:=(List.range N).map fun j=>.int .i64 (if j < k then (toI G j:Int) else 0)
theorem toL_get {G:Nat→Bool}{N k j:Nat}(hj:j < N):(toL G N k)[j]? = some (.int .i64 (if j < k then (toI G j:Int) else 0)):=by simp [toL,hj]
theorem toL_set {G:Nat→Bool}{N k:Nat}(hk:k < N):(toL G N k).set k (.int .i64 (toI G k:Int))=toL G N (k + 1):=by
  apply List.ext_getElem?
  intro j
  by_cases hj:j < N
  · rw [List.getElem?_set,toL_get hj,toL_get hj]
    by_cases h1:k=j
    · subst h1; rw [if_pos rfl,if_pos (by simp [toL,hk]),if_pos (by omega)]
    · rw [if_neg h1]
      by_cases h2:j < k
      · rw [if_pos h2,if_pos (by omega)]
      · rw [if_neg h2,if_neg (by omega)]
  · rw [List.getElem?_eq_none (by simp [toL]; omega),List.getElem?_eq_none (by simp [toL]; omega)]
def keepK (G:Nat→Bool)(l:List Ins)(k:Nat):List Ins:=(kl G k).map (insD l)
structure Wo1 (W wr:World)(G:Nat→Bool)(l:List Ins)(N k:Nat)(V:Value):Prop where
  t:Pre g1 1 3 wr W.heap.size (toL G N k)
  o:OwnI wr (W.heap.size + 1) V (keepK G l k)
  b:Below W.heap.size W wr
theorem OwnI.base2 {w:World}{base:Nat}{V:Value}{l:List Ins}(h:OwnI w base V l):∀ g,V.ownBlock=some g→base≤g:=fun g hg=>by
  obtain ⟨_,h2⟩:=h
  rcases h2 with ⟨rfl,_⟩ | ⟨g',cap,cur,rfl,hB,_⟩
  · cases hg
  · simp [Value.ownBlock] at hg
    omega
theorem OwnI.form {w:World}{base:Nat}{V:Value}{l:List Ins}(h:OwnI w base V l):∃ A cap,V = .slice A l.length cap:=by
  obtain ⟨_,h2⟩:=h
  rcases h2 with ⟨rfl,h0⟩ | ⟨g',cap,cur,rfl,hB,_⟩
  · exact ⟨none,0,by rw [h0]⟩
  · exact ⟨_,cap,rfl⟩
theorem Wo1.mark {W wr:World}{G:Nat→Bool}{l:List Ins}{N k:Nat}{V:Value}(h:Wo1 W wr G l N k V)(hk:k < N){o:Obj} :
    Pre g1 1 3 ((wr.alloc o).setCell ⟨W.heap.size,k,none⟩ (.int .i64 (toI G k:Int))) W.heap.size (toL G N (k + 1))∧OwnI ((wr.alloc o).setCell ⟨W.heap.size,k,none⟩ (.int .i64 (toI G k:Int))) (W.heap.size + 1) V (keepK G l k)∧Below W.heap.size W ((wr.alloc o).setCell ⟨W.heap.size,k,none⟩ (.int .i64 (toI G k:Int))):=by
  have hb:=Below.one wr o
  have h1:=Pre1.set (Pre.later h.t hb) (j:=k) (by simp [toL,hk]) (.int .i64 (toI G k:Int))
  rw [toL_set hk] at h1
  refine ⟨h1,h.o.keep fun g hg hl _=>?_,(h.b.alloc h.b.size _).setCell (Nat.le_refl _) _⟩
  rw [heap_setCell_other (wr.alloc o) ⟨W.heap.size,k,none⟩ g _ (by simp only; omega)]
  exact hb.block g hl
end Go.Proofs.Ytkcclefonmnpnaa
namespace Go.Proofs.Ytkcclefonmnpnaa
open Go.RowKit Go.BigFrame
def mixK (G:Nat→Bool)(l:List Ins)(k:Nat):List Ins:=(List.range l.length).map fun j=>if j < k then fixI G (insD l j) else insD l j
theorem mixK_get {G:Nat→Bool}{l:List Ins}{k j:Nat}(hj:j < l.length):(mixK G l k)[j]? = some (if j < k then fixI G (insD l j) else insD l j):=by simp [mixK,hj]
theorem mixK_len (G:Nat→Bool)(l:List Ins)(k:Nat):(mixK G l k).length=l.length:=by simp [mixK]
theorem mixK_set {G:Nat→Bool}{l:List Ins}{k:Nat}(hk:k < l.length){i:Ins}(hi:i=fixI G (insD l k)):(mixK G l k).set k i=mixK G l (k + 1):=by
  subst hi
  apply List.ext_getElem?
  intro j
  by_cases hj:j < l.length
  · rw [List.getElem?_set,mixK_get hj,mixK_get hj]
    by_cases h1:k=j
    · subst h1; rw [if_pos rfl,if_pos (by rw [mixK_len]; exact hk),if_pos (by omega)]
    · rw [if_neg h1]
      by_cases h2:j < k
      · rw [if_pos h2,if_pos (by omega)]
      · rw [if_neg h2,if_neg (by omega)]
  · rw [List.getElem?_eq_none (by rw [List.length_set,mixK_len]; omega),List.getElem?_eq_none (by rw [mixK_len]; omega)]
theorem PreI.st13 {W:World}{g k:Nat}{l:List Ins}{i:Ins}(h:PreI W g l)(hi:l[k]? = some i)(v:Int):PreI (W.setCell ⟨g,k * 15 + 13,none⟩ (.int .i64 v)) g (l.set k { i with to_:=v }) :=
  Pre.store h hi (by omega) rfl rfl (fun k' hk'=>by
    obtain ⟨kk,op,dst,a',b',n,text,r0,r1,r2,r3,r4,r5,to_,els⟩:=i
    match k',hk' with
    | 0,_ | 1,_ | 2,_ | 3,_ | 4,_ | 5,_ | 6,_ | 7,_ | 8,_ | 9,_ | 10,_ | 11,_ | 12,_ | 14,_=>rfl
    | 13,h=>exact absurd rfl h
    | n + 15,_=>rfl)
theorem PreI.st14 {W:World}{g k:Nat}{l:List Ins}{i:Ins}(h:PreI W g l)(hi:l[k]? = some i)(v:Int):PreI (W.setCell ⟨g,k * 15 + 14,none⟩ (.int .i64 v)) g (l.set k { i with els:=v }) :=
  Pre.store h hi (by omega) rfl rfl (fun k' hk'=>by
    obtain ⟨kk,op,dst,a',b',n,text,r0,r1,r2,r3,r4,r5,to_,els⟩:=i
    match k',hk' with
    | 0,_ | 1,_ | 2,_ | 3,_ | 4,_ | 5,_ | 6,_ | 7,_ | 8,_ | 9,_ | 10,_ | 11,_ | 12,_ | 13,_=>rfl
    | 14,h=>exact absurd rfl h
    | n + 15,_=>rfl)
structure Wo2 (W wr:World)(G:Nat→Bool)(l:List Ins)(N g k:Nat):Prop where
  t:Pre g1 1 3 wr W.heap.size (toL G N N)
  i:PreI wr g (mixK G l k)
  b:Below W.heap.size W wr
theorem Wo2.box {W wr:World}{G:Nat→Bool}{l:List Ins}{N g k k':Nat}(h:Wo2 W wr G l N g k)(he:mixK G l k'=mixK G l k)(o:Obj):Wo2 W (wr.alloc o) G l N g k' :=
  ⟨Pre.later h.t (Below.one wr o),by rw [he]; exact Pre.later h.i (Below.one wr o),h.b.alloc h.b.size _⟩
theorem Wo2.st13 {W wr:World}{G:Nat→Bool}{l:List Ins}{N g k:Nat}(h:Wo2 W wr G l N g k)(hgW:W.heap.size < g)(hk:k < l.length)(v:Int) :
    Pre g1 1 3 (wr.setCell ⟨g,k * 15 + 13,none⟩ (.int .i64 v)) W.heap.size (toL G N N)∧PreI (wr.setCell ⟨g,k * 15 + 13,none⟩ (.int .i64 v)) g ((mixK G l k).set k { insD l k with to_:=v })∧Below W.heap.size W (wr.setCell ⟨g,k * 15 + 13,none⟩ (.int .i64 v)) :=
  ⟨Pre.other h.t (by simp only; omega) _,PreI.st13 h.i (by rw [mixK_get hk,if_neg (by omega)]) v,h.b.setCell (by simp only; omega) _⟩
theorem Wo2.br {W wr:World}{G:Nat→Bool}{l:List Ins}{N g k:Nat}(h:Wo2 W wr G l N g k)(hgW:W.heap.size < g)(hk:k < l.length)(h12:(insD l k).kind=12)(o:Obj) :
    Wo2 W (((wr.setCell ⟨g,k * 15 + 13,none⟩ (.int .i64 (toI G (insD l k).to_.toNat:Int))).setCell ⟨g,k * 15 + 14,none⟩ (.int .i64 (toI G (insD l k).els.toNat:Int))).alloc o) G l N g (k + 1):=by
  obtain ⟨h1,h2,h3⟩:=h.st13 hgW hk (toI G (insD l k).to_.toNat:Int)
  have h4:=PreI.st14 h2 (List.getElem?_set_self (by rw [mixK_len]; exact hk)) (toI G (insD l k).els.toNat:Int)
  rw [List.set_set,mixK_set hk (by simp [fixI,h12])] at h4
  exact Wo2.box (k:=k + 1) ⟨Pre.other h1 (by simp only; omega) _,h4,h3.setCell (by simp only; omega) _⟩ rfl o
end Go.Proofs.Ytkcclefonmnpnaa
namespace Go.Proofs.Ytkcclefonmnpnaa
open Go.RowKit Go.BigFrame
theorem make_ints (L:Nat)(hL:L≤100000)(W:World):(Instr.makeSlice 33 (.int .i64 L) (.int .i64 L)).run Try.prog W = .ok (.slice (some ⟨W.heap.size,0,none⟩) L L) (W.alloc (.cells (madeCells #[.int .i64 0] L) 3)):=by
  obtain ⟨i0,hi,hz0,hz1,hz2⟩:=info_parts info_n
  have:=run_make (P:=Try.prog) W 33 3 i0 (.int .i64 0) (by kernel_rfl) hi hz0 .i64 .i64 L L (by omega) (by omega) (by rw [hz2]; omega) (by omega)
  simpa [hz1,Value.cells] using this
theorem OwnI.pre {w:World}{base:Nat}{V:Value}{l:List Ins}(h:OwnI w base V l)(h0:0 < l.length):∃ g cap,V = .slice (some ⟨g,0,none⟩) l.length cap∧base≤g∧PreI w g l:=by
  obtain ⟨ha,hh⟩:=h
  rcases hh with ⟨rfl,h1⟩ | ⟨g,cap,cur,rfl,hB,hg,hnc,_,hsz,htake⟩
  · omega
  · refine ⟨g,cap,rfl,hB,cur,hg,fun j y hj k hk=>?_⟩
    have hf:=flatI_get l j k hk
    rw [hj] at hf
    simp only [Option.bind_some] at hf
    rw [← hf,← htake,List.getElem?_take]
    have hjl:=(List.getElem?_eq_some_iff.1 hj).1
    rw [if_pos (by omega)]
    simp
end Go.Proofs.Ytkcclefonmnpnaa
namespace Go.Proofs.Ytkcclefonmnpnaa
open Go.RowKit Go.BigFrame
structure SwI (f c:Fn7)(w wr:World):Prop where
  ok:OkF c
  nm:c.nm=f.nm∧c.ps=f.ps∧c.R=f.R∧c.Fr=f.Fr
  le:c.code.length≤f.code.length
  box:∃ gb cap,wr.heap[w.heap.size]? = some (.cells #[.string f.nm,.int .i64 f.ps,.int .i64 f.R,.int .i64 f.Fr,.slice (some ⟨gb,0,none⟩) c.code.length cap] 24)∧PreI wr gb c.code∧w.heap.size + 2≤gb
  res:wr.heap[w.heap.size + 1]? = some (.cells #[.string ⟨#[]⟩,.int .i64 0,.int .i64 0,.int .i64 0,.slice none 0 0] 24)
  b:Below w.heap.size w wr
  s:w.heap.size + 2≤wr.heap.size
theorem SwI.put {f c:Fn7}{w wr w5:World}{G:Nat→Bool}{g cap:Nat}(h:SwI f c w wr)(hfit:Fits G c)(hb:Below wr.heap.size wr w5)(hg:wr.heap.size≤g)(hP:PreI w5 g (wout G c.code)) :
    SwI f (wF G c) w (w5.setRow w.heap.size #[.string f.nm,.int .i64 f.ps,.int .i64 f.R,.int .i64 f.Fr,.slice (some ⟨g,0,none⟩) (wout G c.code).length cap]):=by
  have hs:=h.s
  obtain ⟨gb,cp,hbx,_,_⟩:=h.box
  refine ⟨hfit.ok h.ok,h.nm,?_,⟨g,cap,setRow_heap _ _ _ _ _ _ ((hb.block _ (by omega)).trans hbx),Pre.of_heap hP (setRow_other _ _ _ _ (by omega)),by omega⟩,
    (setRow_other _ _ _ _ (by omega)).trans ((hb.block _ (by omega)).trans h.res),below_setRow (h.b.trans (hb.mono (by omega))) (Nat.le_refl _) _,by have:=hb.size; simp; omega⟩
  have h1:(wF G c).code.length≤c.code.length:=by show (wout _ _).length≤_; rw [wout_len]; exact toI_le _ _
  have:=h.le
  omega
end Go.Proofs.Ytkcclefonmnpnaa

