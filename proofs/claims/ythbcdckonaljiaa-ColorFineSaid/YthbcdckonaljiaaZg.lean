import Derived.Laws.CopyRow
import Derived.Laws.MakeOwn
import Derived.Deep.LoopGhost
import Derived.Deep.RegionHeld3
import Derived.Deep.RegionWith
import Derived.WalkMore
import Derived.ScopeJumps
import Derived.Laws.BitsLemmas
import Derived.Laws.Shifts
import Derived.Test.YthbcdckonaljiaaZg0
namespace Go.Proofs.Ythbcdckonaljiaa
open Go.RowKit Go.BigFrame
abbrev Vl.agg (v:Vl):Value:=.agg #[.int .i64 v.k,.int .i64 v.n]
abbrev Vl.obj (v:Vl):Obj:=.cells #[.int .i64 v.k,.int .i64 v.n] 41
def RdV (w:World)(A:Option Addr)(l:List Vl):Prop:=∀ (j:Nat) x,l[j]? = some x→∃ b o,A=some ⟨b,o,none⟩∧b < w.heap.size∧w.cell? ⟨b,o + j * 2,none⟩=some (.int .i64 x.k)∧w.cell? ⟨b,o + j * 2 + 1,none⟩=some (.int .i64 x.n)
theorem RdV.below {w w':World}{A:Option Addr}{l:List Vl}(h:RdV w A l)(hb:Below w.heap.size w w'):RdV w' A l:=fun j x hx=>by
  obtain ⟨b,o,e1,e2,e3,e4⟩:=h j x hx
  exact ⟨b,o,e1,Nat.lt_of_lt_of_le e2 hb.size,(hb.cell (p:=⟨b,_,none⟩) e2).trans e3,(hb.cell (p:=⟨b,_,none⟩) e2).trans e4⟩
end Go.Proofs.Ythbcdckonaljiaa
namespace Go.Proofs.Ythbcdckonaljiaa
open Go.RowKit Go.BigFrame
def SlF (base:Nat)(l:List Int)(e:Ending)(w:World):Prop:=∃ A cap,e = .returned (.slice A l.length cap)∧RdN w A l∧∀ b o,A=some ⟨b,o,none⟩→base≤b
set_option maxRecDepth 1000000 in
set_option maxHeartbeats 4000000 in
theorem Next_fr (i:Ins) (p:Int) (hp:0≤p∧p≤100000) (w:World):Calls Try.prog 54 #[i.agg,.int .i64 p] w fun e w'=>SlF w.heap.size (i.next p) e w'∧Below w.heap.size w w':=by
  obtain ⟨k,op,dst,a,b,n,text,r0,r1,r2,r3,r4,r5,to_,els⟩:=i
  have hb0:=Below.one w (Ins.obj ⟨k,op,dst,a,b,n,text,r0,r1,r2,r3,r4,r5,to_,els⟩)
  have bx:=heap_alloc_new w (Ins.obj ⟨k,op,dst,a,b,n,text,r0,r1,r2,r3,r4,r5,to_,els⟩)
  simp only [Ins.obj,Ins.agg,Ins.next] at hb0 bx ⊢
  have hwr:wrap64 (p + 1)=p + 1:=by unfold wrap64; omega
  have hone:∀ (W:World) (x:Int),RdN (W.alloc (.cells #[.int .i64 x] 3)) (some ⟨W.heap.size,0,none⟩) [x]:=fun W x j y hj=>by
    cases j with
    | succ j=>simp at hj
    | zero =>
      simp at hj
      subst hj
      exact ⟨W.heap.size,0,rfl,by simp,cell_of_heap (heap_alloc_new W (.cells #[.int .i64 x] 3)) 0 _ rfl⟩
  have htwo:∀ (W:World) (x y:Int),RdN (W.alloc (.cells #[.int .i64 x,.int .i64 y] 3)) (some ⟨W.heap.size,0,none⟩) [x,y]:=fun W x y j z hj=>by
    have hn:=heap_alloc_new W (.cells #[.int .i64 x,.int .i64 y] 3)
    match j with
    | 0=>simp at hj; subst hj; exact ⟨W.heap.size,0,rfl,by simp,cell_of_heap hn 0 _ rfl⟩
    | 1=>simp at hj; subst hj; exact ⟨W.heap.size,0,rfl,by simp,cell_of_heap hn 1 _ rfl⟩
    | j + 2=>simp at hj
  have h1:=hone (w.alloc (Ins.obj ⟨k,op,dst,a,b,n,text,r0,r1,r2,r3,r4,r5,to_,els⟩))
  have h2:=htwo (w.alloc (Ins.obj ⟨k,op,dst,a,b,n,text,r0,r1,r2,r3,r4,r5,to_,els⟩))
  simp only [Ins.obj] at h1 h2
  rw [show (w.alloc (Ins.obj ⟨k,op,dst,a,b,n,text,r0,r1,r2,r3,r4,r5,to_,els⟩)).heap.size=w.heap.size + 1 by simp] at h1 h2
  by_cases e11:k=11
  · subst e11
    go_enter Try.func54,Try.ntmps54
    go_wp2
    go_returns
    exact ⟨⟨_,1,rfl,h1 _,fun b o h=>by injection h with h; injection h with h; omega⟩,hb0.alloc hb0.size _⟩
  · rw [if_neg e11]
    have q1:(k == 11)=false:=by simpa using e11
    by_cases e12:k=12
    · subst e12
      go_enter Try.func54,Try.ntmps54
      go_wp2
      go_returns
      exact ⟨⟨_,2,rfl,h2 _ _,fun b o h=>by injection h with h; injection h with h; omega⟩,hb0.alloc hb0.size _⟩
    · rw [if_neg e12]
      have q2:(k == 12)=false:=by simpa using e12
      by_cases e13:k=13
      · subst e13
        go_enter Try.func54,Try.ntmps54
        go_wp2
        go_returns
        exact ⟨⟨none,0,rfl,fun j y hj=>by simp at hj,fun b o h=>by cases h⟩,hb0⟩
      · rw [if_neg e13]
        have q3:(k == 13)=false:=by simpa using e13
        clear e11 e12 e13
        go_enter Try.func54,Try.ntmps54
        go_wp2
        go_returns
        exact ⟨⟨_,1,rfl,h1 _,fun b o h=>by injection h with h; injection h with h; omega⟩,hb0.alloc hb0.size _⟩
theorem SlF.one {w:World}{base b o cap:Nat}{x:Int}(hB:base≤b)(hb:b < w.heap.size)(h:w.cell? ⟨b,o,none⟩=some (.int .i64 x)):SlF base [x] (.returned (.slice (some ⟨b,o,none⟩) 1 cap)) w :=
  ⟨_, cap,rfl,fun j y hj=>by
    cases j with
    | succ j=>simp at hj
    | zero =>
      simp at hj
      subst hj
      exact ⟨b,o,rfl,hb,h⟩,fun b' o' h'=>by injection h' with h'; injection h' with h'; omega⟩
theorem SlF.two {w:World}{base b cap:Nat}{x y:Int}(hB:base≤b)(hb:b < w.heap.size)(h:w.cell? ⟨b,0,none⟩=some (.int .i64 x))(h':w.cell? ⟨b,1,none⟩=some (.int .i64 y)):SlF base [x,y] (.returned (.slice (some ⟨b,0,none⟩) 2 cap)) w :=
  ⟨_,cap,rfl,fun j z hj=>by
    match j with
    | 0=>simp at hj; subst hj; exact ⟨b,0,rfl,hb,h⟩
    | 1=>simp at hj; subst hj; exact ⟨b,0,rfl,hb,h'⟩
    | j + 2=>simp at hj,fun b' o' h'=>by injection h' with h'; injection h' with h'; omega⟩
end Go.Proofs.Ythbcdckonaljiaa
namespace Go.Proofs.Ythbcdckonaljiaa
open Go.RowKit Go.BigFrame
def Pre {α:Type}(g:α→List Value)(d:Nat)(t:TypeId)(W:World)(b:Nat)(l:List α):Prop :=
  ∃ cs:Array Value,W.heap[b]? = some (.cells cs t (0,0))∧∀ j x,l[j]? = some x→∀ k,k < d→cs[j * d + k]? = (g x)[k]?
section
variable {α:Type} {g:α→List Value} {d:Nat} {t:TypeId} {W W':World} {b:Nat} {l:List α}
theorem Pre.lt (h:Pre g d t W b l):b < W.heap.size:=by
  obtain ⟨cs,h1,_⟩:=h
  exact (Array.getElem?_eq_some_iff.1 h1).1
theorem Pre.of_heap (h:Pre g d t W b l)(hb:W'.heap[b]? = W.heap[b]?):Pre g d t W' b l:=by
  obtain ⟨cs,h1,h2⟩:=h
  exact ⟨cs,hb.trans h1,h2⟩
theorem Pre.later (h:Pre g d t W b l)(hb:Below W.heap.size W W'):Pre g d t W' b l:=h.of_heap (hb.block _ h.lt)
theorem Pre.cell (h:Pre g d t W b l){j:Nat}{x:α}(hj:l[j]? = some x){k:Nat}(hk:k < d){v:Value}(hv:(g x)[k]? = some v):W.cell? ⟨b,j * d + k,none⟩=some v:=by
  obtain ⟨cs,h1,h2⟩:=h
  rw [cell_of_row W b (j * d + k) cs t _ h1,h2 j x hj k hk,hv]
theorem Pre.free (h:Pre g d t W b l)(n:Nat):W.frozen? ⟨b,n,none⟩=false:=by
  obtain ⟨cs,h1,h2⟩:=h
  exact free_of_heap h1 n
theorem Pre.other (h:Pre g d t W b l){a:Addr}(hne:a.block≠b)(v:Value):Pre g d t (W.setCell a v) b l:=h.of_heap (heap_setCell_other W a b v (Ne.symm hne))
theorem Pre.store (h:Pre g d t W b l){j:Nat}{x y:α}(hj:l[j]? = some x){k:Nat}(hk:k < d){v:Value}(hlen:(g x).length=(g y).length)(hv:(g y)[k]? = some v)(ho:∀ k',k'≠k→(g y)[k']? = (g x)[k']?):Pre g d t (W.setCell ⟨b,j * d + k,none⟩ v) b (l.set j y):=by
  obtain ⟨cs,h1,h2⟩:=h
  refine ⟨cs.setIfInBounds (j * d + k) v,heap_setCell_same W b _ cs t v h1,fun j' x' hj' k' hk'=>?_⟩
  have hc:=h2 j x hj k hk
  have hkx:k < (g x).length:=by rw [hlen]; exact (List.getElem?_eq_some_iff.1 hv).1
  have hb:j * d + k < cs.size:=by
    rw [List.getElem?_eq_getElem hkx] at hc
    exact (Array.getElem?_eq_some_iff.1 hc).1
  have hjl:=(List.getElem?_eq_some_iff.1 hj).1
  rw [Array.getElem?_setIfInBounds]
  by_cases hjj:j=j'
  · subst hjj
    rw [List.getElem?_set_self hjl] at hj'
    injection hj' with hj'
    subst hj'
    by_cases hkk:k'=k
    · subst hkk
      simp [hb,hv]
    · rw [if_neg (by omega),h2 j x hj k' hk',ho k' hkk]
  · rw [List.getElem?_set_ne hjj] at hj'
    have hne:¬ j * d + k=j' * d + k':=by
      intro e
      have h3:(j * d + k) / d=(j' * d + k') / d:=by rw [e]
      have hd:0 < d:=by omega
      rw [Nat.add_comm,Nat.add_mul_div_right _ _ hd,Nat.div_eq_of_lt hk,Nat.add_comm (j' * d),Nat.add_mul_div_right _ _ hd,Nat.div_eq_of_lt hk'] at h3
      omega
    rw [if_neg hne]
    exact h2 j' x' hj' k' hk'
end
def gV (v:Vl):List Value:=[.int .i64 v.k,.int .i64 v.n]
def g1 (v:Value):List Value:=[v]
def gB (b:Bool):List Value:=[.bool b]
abbrev PreV (W:World)(b:Nat)(l:List Vl):Prop:=Pre gV 2 41 W b l
theorem PreV.cells {W:World}{b:Nat}{l:List Vl}(h:PreV W b l){j:Nat}{x:Vl}(hj:l[j]? = some x):W.cell? ⟨b,j * 2,none⟩=some (.int .i64 x.k)∧W.cell? ⟨b,j * 2 + 1,none⟩=some (.int .i64 x.n) :=
  ⟨Pre.cell h hj (k:=0) (by omega) rfl,Pre.cell h hj (k:=1) (by omega) rfl⟩
theorem PreV.set {W:World}{b:Nat}{l:List Vl}(h:PreV W b l){j:Nat}{x:Vl}(hj:l[j]? = some x)(y:Vl):PreV ((W.setCell ⟨b,j * 2,none⟩ (.int .i64 y.k)).setCell ⟨b,j * 2 + 1,none⟩ (.int .i64 y.n)) b (l.set j y):=by
  have h1:=Pre.store (y:=⟨y.k,x.n⟩) h hj (k:=0) (v:=.int .i64 y.k) (by omega) rfl rfl (fun k' hk'=>by
    cases k' with
    | zero=>exact absurd rfl hk'
    | succ k'=>rfl)
  have hjl:=(List.getElem?_eq_some_iff.1 hj).1
  have h2:=Pre.store (y:=y) h1 (List.getElem?_set_self hjl) (k:=1) (v:=.int .i64 y.n) (by omega) rfl rfl (fun k' hk'=>by
    match k' with
    | 0=>rfl
    | 1=>exact absurd rfl hk'
    | k' + 2=>rfl)
  rw [List.set_set] at h2
  exact h2
theorem Pre1.cell {W:World}{b:Nat}{l:List Value}{t:TypeId}(h:Pre g1 1 t W b l){j:Nat}{v:Value}(hj:l[j]? = some v):W.cell? ⟨b,j,none⟩=some v:=by
  have:=Pre.cell h hj (k:=0) (v:=v) (by omega) rfl
  rwa [Nat.mul_one] at this
theorem Pre1.set {W:World}{b:Nat}{l:List Value}{t:TypeId}(h:Pre g1 1 t W b l){j:Nat}(hj:j < l.length)(v:Value):Pre g1 1 t (W.setCell ⟨b,j,none⟩ v) b (l.set j v):=by
  have:=Pre.store (y:=v) h (List.getElem?_eq_getElem hj) (k:=0) (v:=v) (by omega) rfl rfl (fun k' hk'=>by
    cases k' with
    | zero=>exact absurd rfl hk'
    | succ k'=>rfl)
  rwa [Nat.mul_one] at this
theorem PreB.cell {W:World}{b:Nat}{l:List Bool}{t:TypeId}(h:Pre gB 1 t W b l){j:Nat}{v:Bool}(hj:l[j]? = some v):W.cell? ⟨b,j,none⟩=some (.bool v):=by
  have:=Pre.cell h hj (k:=0) (v:=.bool v) (by omega) rfl
  rwa [Nat.mul_one] at this
theorem PreB.set {W:World}{b:Nat}{l:List Bool}{t:TypeId}(h:Pre gB 1 t W b l){j:Nat}(hj:j < l.length)(v:Bool):Pre gB 1 t (W.setCell ⟨b,j,none⟩ (.bool v)) b (l.set j v):=by
  have:=Pre.store (y:=v) h (List.getElem?_eq_getElem hj) (k:=0) (v:=.bool v) (by omega) rfl rfl (fun k' hk'=>by
    cases k' with
    | zero=>exact absurd rfl hk'
    | succ k'=>rfl)
  rwa [Nat.mul_one] at this
theorem made_pre {α:Type}{g:α→List Value}{d:Nat}{t:TypeId}(W:World)(z:Array Value)(n:Nat)(x:α)(hz:z.size=d)(hg:∀ k,k < d→some (z[k]!)=(g x)[k]?) :
    Pre g d t (W.alloc (.cells (madeCells z (n * d)) t)) W.heap.size (List.replicate n x):=by
  refine ⟨_,heap_alloc_new W _,fun j y hj k hk=>?_⟩
  have hjn:j < n:=by
    have:=(List.getElem?_eq_some_iff.1 hj).1
    simpa using this
  have hy:y=x:=by simp [hjn] at hj; exact hj.symm
  subst hy
  have hlt:j * d + k < n * d:=by
    have:(j + 1) * d≤n * d:=Nat.mul_le_mul_right d hjn
    rw [Nat.succ_mul] at this
    omega
  rw [← hg k hk]
  simp only [madeCells]
  rw [Array.getElem?_map,Array.getElem?_range,if_pos hlt]
  have:(j * d + k) % d=k:=by rw [Nat.mul_comm,Nat.mul_add_mod,Nat.mod_eq_of_lt hk]
  simp only [Option.map_some,hz,this]
theorem info_b:(Try.prog.info? 4).map (fun i=>(i.zero,i.size,i.bytes))=some (some (.bool false),1,1):=by kernel_rfl
theorem make_bools (L:Nat)(hL:L≤100000)(W:World):(Instr.makeSlice 53 (.int .i64 L) (.int .i64 L)).run Try.prog W = .ok (.slice (some ⟨W.heap.size,0,none⟩) L L) (W.alloc (.cells (madeCells #[.bool false] L) 4)):=by
  obtain ⟨i0,hi,hz0,hz1,hz2⟩:=info_parts info_b
  have:=run_make (P:=Try.prog) W 53 4 i0 (.bool false) (by kernel_rfl) hi hz0 .i64 .i64 L L (by omega) (by omega) (by rw [hz2]; omega) (by omega)
  simpa [hz1,Value.cells] using this
theorem run_copy_any {P:Program}(w:World)(dT sT ty elem:TypeId)(g o dLen dCap:Nat)(a:Addr)(sLen sCap:Nat)(cur:Array Value)(t:TypeId)(cs:List Value)(size n:Nat)
    (hu:P.underlying dT=some (.slice elem)) (hs:(P.info? elem).map (·.size)=some size)
    (hg:w.heap[g]? = some (.cells cur t (0,0))) (hnn:n=Nat.min sLen dLen) (hn:cs.length=n * size)
    (hsrc:∀ j v,cs[j]? = some v→w.cell? (a.add j)=some v) (hfit:o + cs.length≤cur.size) (h1:∀ v ∈ cs,v.oneCell'=true) :
    (Builtin.copy_ #[dT,sT] ty #[.slice (some ⟨g,o,none⟩) dLen dCap,.slice (some a) sLen sCap]).run P w =
      .ok (goInt n) (w.setRow g (cur.toList.take o++cs++cur.toList.drop (o + cs.length)).toArray):=by
  have hl:=run_loadCells_list (P:=P) w a cs hsrc
  have hst:=run_storeCells_at P g o t cs 0 cur w hg (by simpa using hfit) h1
  cases hq:P.info? elem with
  | none=>simp [hq] at hs
  | some i =>
    have hi:i.size=size:=by simpa [hq] using hs
    simp [Builtin.copy_,run_underlying hu,Builtin.lenOf,Builtin.firstCells,sizeOf,typeInfo,hq,hi,← hnn,← hn,hl,hst]
def Que (W:World)(base:Nat)(V:Value)(T:List Nat):Prop:=∃ b o cap cs,V = .slice (some ⟨b,o,none⟩) T.length cap∧T.length≤cap∧cap≤maxLen∧base≤b∧W.heap[b]? = some (.cells cs 3 (0,0))∧o + cap≤cs.size∧∀ j x,T[j]? = some x→cs[o + j]? = some (.int .i64 ((x:Nat):Int))
theorem Que.later {W W':World}{base:Nat}{V:Value}{T:List Nat}(h:Que W base V T)(hb:Below W.heap.size W W'):Que W' base V T:=by
  obtain ⟨b,o,cap,cs,e1,e2,e3,e4,e5,e6,e7⟩:=h
  exact ⟨b,o,cap,cs,e1,e2,e3,e4,(hb.block _ (Array.getElem?_eq_some_iff.1 e5).1).trans e5,e6,e7⟩
theorem Que.other {W:World}{base:Nat}{V:Value}{T:List Nat}(h:Que W base V T){a:Addr}(ha:a.block < base)(v:Value):Que (W.setCell a v) base V T:=by
  obtain ⟨b,o,cap,cs,e1,e2,e3,e4,e5,e6,e7⟩:=h
  exact ⟨b,o,cap,cs,e1,e2,e3,e4,(heap_setCell_other W a b v (by omega)).trans e5,e6,e7⟩
end Go.Proofs.Ythbcdckonaljiaa
namespace Go.Proofs.Ythbcdckonaljiaa
open Go.RowKit Go.BigFrame
def hdr (L R ob k:Nat):List Value:=(List.range L).map fun j=>if j < k then .slice (some ⟨ob + 1 + j,0,none⟩) R R else .slice none 0 0
theorem hdr_get {L R ob k j:Nat}(hj:j < L):(hdr L R ob k)[j]? = some (if j < k then .slice (some ⟨ob + 1 + j,0,none⟩) R R else .slice none 0 0):=by simp [hdr,hj]
theorem hdr_zero (L R ob:Nat):hdr L R ob 0=List.replicate L (.slice none 0 0):=by
  apply List.ext_getElem?
  intro j
  by_cases hj:j < L
  · rw [hdr_get hj,if_neg (Nat.not_lt_zero j)]; simp [hj]
  · rw [List.getElem?_eq_none (by simp [hdr]; omega),List.getElem?_eq_none (by simp; omega)]
theorem hdr_set {L R ob k:Nat}(hk:k < L):(hdr L R ob k).set k (.slice (some ⟨ob + 1 + k,0,none⟩) R R)=hdr L R ob (k + 1):=by
  apply List.ext_getElem?
  intro j
  by_cases hj:j < L
  · rw [List.getElem?_set,hdr_get hj,hdr_get hj]
    by_cases h1:k=j
    · subst h1; rw [if_pos rfl,if_pos (by simp [hdr,hk]),if_pos (by omega)]
    · rw [if_neg h1]
      by_cases h2:j < k
      · rw [if_pos h2,if_pos (by omega)]
      · rw [if_neg h2,if_neg (by omega)]
  · rw [List.getElem?_eq_none (by simp [hdr]; omega),List.getElem?_eq_none (by simp [hdr]; omega)]
structure Lp1 (W1 W:World)(ob L R k:Nat):Prop where
  h:Pre g1 1 42 W ob (hdr L R ob k)
  r:∀ j,j < k→PreV W (ob + 1 + j) (List.replicate R nv)
  s:W.heap.size=ob + 1 + k
  b:Below ob W1 W
theorem Lp1.start {W1:World}{L R:Nat}:Lp1 W1 (W1.alloc (.cells (madeCells #[.slice none 0 0] L) 42)) W1.heap.size L R 0 :=
  ⟨by
    have h:=made_pre (g:=g1) (d:=1) (t:=42) W1 #[.slice none 0 0] L (.slice none 0 0) rfl (fun k hk=>by
      obtain rfl:k=0:=by omega
      rfl)
    rw [Nat.mul_one] at h
    rw [hdr_zero]
    exact h,fun j hj=>by omega,by simp,Below.one _ _⟩
theorem Lp1.next {W1 W:World}{ob L R k:Nat}(h:Lp1 W1 W ob L R k)(hk:k < L):Lp1 W1 ((W.setCell ⟨ob,k,none⟩ (.slice (some ⟨W.heap.size,0,none⟩) R R)).alloc (.cells (madeCells #[.int .i64 0,.int .i64 0] (R * 2)) 41)) ob L R (k + 1):=by
  rw [← World.setCell_alloc_past _ _ _ _ (Pre.lt h.h)]
  have hb:=Below.one W (.cells (madeCells #[.int .i64 0,.int .i64 0] (R * 2)) 41)
  have h1:=Pre1.set (Pre.later h.h hb) (j:=k) (by simp [hdr,hk]) (.slice (some ⟨ob + 1 + k,0,none⟩) R R)
  rw [hdr_set hk] at h1
  have hs:=h.s
  have hm:=made_pre (g:=gV) (d:=2) (t:=41) W #[.int .i64 0,.int .i64 0] R nv rfl (fun k hk=>by
    have:k=0∨k=1:=by omega
    rcases this with rfl | rfl <;> rfl)
  rw [hs] at hm ⊢
  exact ⟨h1,fun j hj=>by
    by_cases hjk:j < k
    · exact Pre.other (Pre.later (h.r j hjk) hb) (by simp only; omega) _
    · obtain rfl:j=k:=by omega
      exact Pre.other hm (by simp only; omega) _,by simp [hs]; omega,(h.b.alloc (by omega) _).setCell (Nat.le_refl _) _⟩
theorem Lp1.cell {W1 W:World}{ob L R k:Nat}(h:Lp1 W1 W ob L R k)(hk:k < L):W.cell? ⟨ob,k,none⟩=some (.slice none 0 0):=by
  have:=Pre1.cell h.h (hdr_get hk)
  rwa [if_neg (Nat.lt_irrefl k)] at this
def fst (R:Nat)(ps:Int)(k:Nat):List Vl:=(List.range R).map fun (r:Nat)=>if r < k then (if (r:Int) < ps then av else ⟨1,0⟩) else nv
theorem fst_get {R k r:Nat}{ps:Int}(hr:r < R):(fst R ps k)[r]? = some (if r < k then (if (r:Int) < ps then av else ⟨1,0⟩) else nv):=by simp [fst,hr]
theorem fst_zero (R:Nat)(ps:Int):fst R ps 0=List.replicate R nv:=by
  apply List.ext_getElem?
  intro j
  by_cases hj:j < R
  · rw [fst_get hj,if_neg (Nat.not_lt_zero j)]; simp [hj]
  · rw [List.getElem?_eq_none (by simp [fst]; omega),List.getElem?_eq_none (by simp; omega)]
theorem fst_ini (f:Fn7):fst f.R.toNat f.ps f.R.toNat=ini f:=by
  apply List.ext_getElem?
  intro j
  by_cases hj:j < f.R.toNat
  · rw [fst_get hj,if_pos hj]; simp [ini,hj]
  · rw [List.getElem?_eq_none (by simp [fst]; omega),List.getElem?_eq_none (by simp [ini]; omega)]
structure Lp2 (W3 W:World)(fo R:Nat)(ps:Int)(k:Nat):Prop where
  h:PreV W fo (fst R ps k)
  s:W.heap.size=fo + 1
  b:Below fo W3 W
theorem Lp2.start {W3:World}{R:Nat}{ps:Int}:Lp2 W3 (W3.alloc (.cells (madeCells #[.int .i64 0,.int .i64 0] (R * 2)) 41)) W3.heap.size R ps 0 :=
  ⟨by
    rw [fst_zero]
    exact made_pre (g:=gV) (d:=2) (t:=41) W3 #[.int .i64 0,.int .i64 0] R nv rfl (fun k hk=>by
      have:k=0∨k=1:=by omega
      rcases this with rfl | rfl <;> rfl),by simp,Below.one _ _⟩
structure Mem (W1 W:World)(ob L R:Nat)(M:List (List Vl))(Cm:List Bool):Prop where
  b:Below ob W1 W
  h:Pre g1 1 42 W ob (hdr L R ob L)
  r:∀ p v,M[p]? = some v→PreV W (ob + 1 + p) v
  c:Pre gB 1 4 W (ob + 1 + L) Cm
  s:ob + 2 + L≤W.heap.size
  l:M.length=L
theorem Mem.past {W1 W W':World}{ob L R:Nat}{M:List (List Vl)}{Cm:List Bool}(h:Mem W1 W ob L R M Cm)(hb:Below (ob + 2 + L) W W'):Mem W1 W' ob L R M Cm :=
  ⟨h.b.trans (hb.mono (by omega)),h.h.of_heap (hb.block _ (by omega)),fun p v hv=>Pre.of_heap (h.r p v hv) (hb.block _ (by have:=(List.getElem?_eq_some_iff.1 hv).1; have:=h.l; omega)),h.c.of_heap (hb.block _ (by omega)),Nat.le_trans h.s hb.size,h.l⟩
theorem Mem.later {W1 W W':World}{ob L R:Nat}{M:List (List Vl)}{Cm:List Bool}(h:Mem W1 W ob L R M Cm)(hb:Below W.heap.size W W'):Mem W1 W' ob L R M Cm:=h.past (hb.mono h.s)
theorem Mem.head {W1 W:World}{ob L R:Nat}{M:List (List Vl)}{Cm:List Bool}(h:Mem W1 W ob L R M Cm){p:Nat}(hp:p < L):W.cell? ⟨ob,p,none⟩=some (.slice (some ⟨ob + 1 + p,0,none⟩) R R):=by
  have:=Pre1.cell h.h (hdr_get hp)
  rwa [if_pos hp] at this
theorem Mem.start {W1 w2 W3 w4:World}{ob L R fo:Nat}{ps:Int}(h1:Lp1 W1 w2 ob L R L)(hc:Pre gB 1 4 W3 (ob + 1 + L) (List.replicate L false))(hb:Below w2.heap.size w2 W3)(hfo:fo=ob + 2 + L)(h2:Lp2 W3 w4 fo R ps R):Mem W1 w4 ob L R (List.replicate L (List.replicate R nv)) (List.replicate L false):=by
  have hs:=h1.s
  have hb2:Below w2.heap.size w2 w4:=hb.trans (h2.b.mono (by omega))
  exact ⟨h1.b.trans (hb2.mono (by omega)),Pre.later h1.h hb2,fun p v hv=>by
    have hp:=(List.getElem?_eq_some_iff.1 hv).1
    simp at hp
    have hv':v=List.replicate R nv:=by simp [hp] at hv; exact hv.symm
    rw [hv']
    exact Pre.later (h1.r p hp) hb2,hc.of_heap (h2.b.block _ (by omega)),by have:=h2.s; omega,by simp⟩
def RdM (w:World)(ob R:Nat)(M:List (List Vl)):Prop:=∃ pb:Nat→Nat,∀ p v,M[p]? = some v→w.cell? ⟨ob,p,none⟩=some (.slice (some ⟨pb p,0,none⟩) R R)∧PreV w (pb p) v
theorem RdM.later {w w':World}{ob R:Nat}{M:List (List Vl)}(h:RdM w ob R M)(hb:Below w.heap.size w w'):RdM w' ob R M:=by
  obtain ⟨pb,h⟩:=h
  exact ⟨pb,fun p v hv=>⟨(hb.cell (World.block_lt_of_cell? w ⟨ob,p,none⟩ (h p v hv).1)).trans (h p v hv).1,Pre.later (h p v hv).2 hb⟩⟩
theorem Mem.told {W1 W:World}{ob L R:Nat}{M:List (List Vl)}{Cm:List Bool}(h:Mem W1 W ob L R M Cm):RdM W ob R M :=
  ⟨fun p=>ob + 1 + p,fun p v hv=>⟨h.head (by have:=(List.getElem?_eq_some_iff.1 hv).1; have:=h.l; omega),h.r p v hv⟩⟩
end Go.Proofs.Ythbcdckonaljiaa
namespace Go.Proofs.Ythbcdckonaljiaa
open Go.RowKit Go.BigFrame
theorem sum_bound {α:Type}(g:α→Nat)(c:Nat):∀ l:List α,(∀ x ∈ l,g x≤c)→(l.map g).sum≤l.length * c
  | [],_=>by simp
  | x::l,h=>by
    have h1:=h x (by simp)
    have h2:=sum_bound g c l (fun y hy=>h y (by simp [hy]))
    simp only [List.map_cons,List.sum_cons,List.length_cons,Nat.succ_mul]
    omega
theorem pot_bound {f:Fn7}{M:List (List Vl)}{C:List Bool}(h:Shp f M)(hC:C.length=f.code.length):pot M C≤2 * (f.code.length * (f.R.toNat + 1)):=by
  have h1:=sum_bound rpot (f.R.toNat * 2) M (fun v hv=>by
    have h2:=sum_bound rk 2 v (fun x _=>by unfold rk; split; omega; split <;> omega)
    unfold rpot
    rw [(h.rows v hv).1] at h2
    exact h2)
  have h3:=sum_bound cw 1 C (fun b _=>by unfold cw; split <;> omega)
  rw [h.len] at h1
  rw [hC] at h3
  unfold pot
  have e:f.code.length * (f.R.toNat * 2)=2 * (f.code.length * f.R.toNat):=by rw [Nat.mul_comm f.R.toNat,← Nat.mul_assoc,Nat.mul_comm f.code.length 2,Nat.mul_assoc]
  rw [e] at h1
  rw [Nat.mul_add]
  omega
def M0 (f:Fn7):List (List Vl):=(List.replicate f.code.length (List.replicate f.R.toNat nv)).set 0 (ini f)
def C0 (f:Fn7):List Bool:=(List.replicate f.code.length false).set 0 true
theorem ini_ok (f:Fn7):rok (ini f):=fun x hx=>by
  simp only [ini,List.mem_map] at hx
  obtain ⟨r,_,rfl⟩:=hx
  split
  · exact Or.inr rfl
  · exact Or.inl rfl
theorem ini_len (f:Fn7):(ini f).length=f.R.toNat:=by simp [ini]
theorem never_at (R r:Nat):at_ (List.replicate R nv) r=nv:=by
  by_cases h:r < R
  · rw [at_in (by simpa using h)]; simp
  · rw [at_out (by simpa using h)]
theorem row_M0 (f:Fn7)(p:Nat):row (M0 f) p=if p=0∧0 < f.code.length then ini f else if p < f.code.length then List.replicate f.R.toNat nv else []:=by
  unfold M0
  rw [row_set]
  by_cases h:0=p∧p < (List.replicate f.code.length (List.replicate f.R.toNat nv)).length
  · obtain ⟨rfl,h2⟩:=h
    rw [if_pos ⟨rfl,h2⟩,if_pos ⟨rfl,by simpa using h2⟩]
  · rw [if_neg h,if_neg (by rintro ⟨rfl,h2⟩; exact h ⟨rfl,by simpa using h2⟩)]
    by_cases hp:p < f.code.length
    · rw [if_pos hp]; simp [row,List.getD,hp]
    · rw [if_neg hp]; simp [row,List.getD,hp]
theorem cm_C0 (f:Fn7)(p:Nat):cm (C0 f) p=true↔p=0∧0 < f.code.length:=by
  unfold C0
  rw [cm_set]
  by_cases h:0=p∧p < (List.replicate f.code.length false).length
  · rw [if_pos h]
    obtain ⟨rfl,h2⟩:=h
    exact ⟨fun _=>⟨rfl,by simpa using h2⟩,fun _=>rfl⟩
  · rw [if_neg h]
    constructor
    · intro hc
      exfalso
      by_cases hp:p < f.code.length
      · simp [cm,List.getD,hp] at hc
      · simp [cm,List.getD,hp] at hc
    · rintro ⟨rfl,h2⟩
      exact absurd ⟨rfl,by simpa using h2⟩ h
theorem Head.start {f:Fn7}(hf:OkF f):Head f (M0 f) (C0 f) [0]:=by
  have hL:0 < f.code.length:=hf.len.1
  have h0:row (M0 f) 0=ini f:=by rw [row_M0,if_pos ⟨rfl,hL⟩]
  have hn:∀ p,p≠0→∀ r,at_ (row (M0 f) p) r=nv:=fun p hp r=>by
    rw [row_M0,if_neg (fun e=>hp e.1)]
    split
    · exact never_at _ r
    · rw [at_out (by simp)]
  refine ⟨⟨⟨by simp [M0],fun v hv=>?_⟩,by simp [C0],fun N hN p=>?_,by rw [h0]; exact rle.refl _,fun p hp=>?_,fun p hp r=>?_,(cm_C0 f 0).2 ⟨rfl,hL⟩,fun p hp=>?_⟩,fun p hp=>?_⟩
  · rcases List.mem_or_eq_of_mem_set hv with hv | rfl
    · obtain ⟨_,rfl⟩:=List.mem_replicate.1 hv
      exact ⟨by simp,fun x hx=>by obtain ⟨_,rfl⟩:=List.mem_replicate.1 hx; exact Or.inl rfl⟩
    · exact ⟨ini_len f,fun x hx=>(ini_ok f x hx).wf⟩
  · by_cases hp:p=0
    · rw [hp,h0]; exact hN.start
    · intro r; rw [hn p hp r]; exact Or.inl rfl
  · obtain ⟨rfl,_⟩:=(cm_C0 f p).1 hp
    rw [h0]; exact ini_ok f
  · refine hn p (fun e=>?_) r
    rw [e,(cm_C0 f 0).2 ⟨rfl,hL⟩] at hp
    cases hp
  · simp at hp; rw [hp]; exact (cm_C0 f 0).2 ⟨rfl,hL⟩
  · left; rw [((cm_C0 f p).1 hp).1]; simp
structure Third (f:Fn7)(W1 W:World)(ob L Rn:Nat)(g:Nat)(V:Value)(M:List (List Vl))(Cm:List Bool)(T:List Nat):Prop where
  head:Head f M Cm T
  mem:Mem W1 W ob L Rn M Cm
  que:Que W (ob + 2 + L) V T
  meas:g=T.length + 2 * pot M Cm
  g3:g≤300000
theorem Third.start {f:Fn7}{W1 w5:World}{ob L Rn:Nat}{ps:Int}(hf:OkF f)(hL:f.code.length=L)(hR:f.R.toNat=Rn)(hps:f.ps=ps)(hsz:L * (Rn + 1)≤65536){o:Obj}(ho:o = .cells #[.int .i64 0] 3)
    (hM:Mem W1 w5 ob L Rn ((List.replicate L (List.replicate Rn nv)).set 0 (fst Rn ps Rn)) ((List.replicate L false).set 0 true)) :
    Third f W1 (w5.alloc o) ob L Rn (1 + 2 * pot (M0 f) (C0 f)) (.slice (some ⟨w5.heap.size,0,none⟩) 1 1) (M0 f) (C0 f) [0]:=by
  subst hL hR hps ho
  rw [fst_ini] at hM
  have hH:=Head.start hf
  refine ⟨hH,Mem.later hM (Below.one _ _),⟨w5.heap.size,0,1,#[.int .i64 0],rfl,by simp,by decide,hM.s,heap_alloc_new w5 _,by simp,fun j x hj=>?_⟩,rfl,?_⟩
  · cases j with
    | zero=>simp at hj; subst hj; rfl
    | succ j=>simp at hj
  · have:=pot_bound hH.way.shp hH.way.clen
    omega
abbrev zeroI:Ins:=⟨0,0,0,0,0,0,⟨#[]⟩,0,0,0,0,0,0,0,0⟩
abbrev put15 (W:World)(q:Nat)(i:Ins):World:=(((((((((((((((W.setCell ⟨q,0,none⟩ (.int .i64 i.kind)).setCell ⟨q,1,none⟩ (.int .i64 i.op)).setCell ⟨q,2,none⟩ (.int .i64 i.dst)).setCell ⟨q,3,none⟩ (.int .i64 i.a)).setCell ⟨q,4,none⟩ (.int .i64 i.b)).setCell ⟨q,5,none⟩ (.int .i64 i.n)).setCell ⟨q,6,none⟩ (.string i.text)).setCell ⟨q,7,none⟩ (.int .i64 i.r0)).setCell ⟨q,8,none⟩ (.int .i64 i.r1)).setCell ⟨q,9,none⟩ (.int .i64 i.r2)).setCell ⟨q,10,none⟩ (.int .i64 i.r3)).setCell ⟨q,11,none⟩ (.int .i64 i.r4)).setCell ⟨q,12,none⟩ (.int .i64 i.r5)).setCell ⟨q,13,none⟩ (.int .i64 i.to_)).setCell ⟨q,14,none⟩ (.int .i64 i.els))
theorem heap_put15 {W:World}{q:Nat}{i:Ins}(h:W.heap[q]? = some zeroI.obj):(put15 W q i).heap[q]? = some i.obj:=by
  unfold put15
  have h0:=heap_setCell h (j:=0) (.int .i64 i.kind)
  simp only [List.setIfInBounds_toArray,List.set_cons_zero] at h0
  have h1:=heap_setCell h0 (j:=1) (.int .i64 i.op)
  simp only [List.setIfInBounds_toArray,List.set_cons_zero,List.set_cons_succ] at h1
  have h2:=heap_setCell h1 (j:=2) (.int .i64 i.dst)
  simp only [List.setIfInBounds_toArray,List.set_cons_zero,List.set_cons_succ] at h2
  have h3:=heap_setCell h2 (j:=3) (.int .i64 i.a)
  simp only [List.setIfInBounds_toArray,List.set_cons_zero,List.set_cons_succ] at h3
  have h4:=heap_setCell h3 (j:=4) (.int .i64 i.b)
  simp only [List.setIfInBounds_toArray,List.set_cons_zero,List.set_cons_succ] at h4
  have h5:=heap_setCell h4 (j:=5) (.int .i64 i.n)
  simp only [List.setIfInBounds_toArray,List.set_cons_zero,List.set_cons_succ] at h5
  have h6:=heap_setCell h5 (j:=6) (.string i.text)
  simp only [List.setIfInBounds_toArray,List.set_cons_zero,List.set_cons_succ] at h6
  have h7:=heap_setCell h6 (j:=7) (.int .i64 i.r0)
  simp only [List.setIfInBounds_toArray,List.set_cons_zero,List.set_cons_succ] at h7
  have h8:=heap_setCell h7 (j:=8) (.int .i64 i.r1)
  simp only [List.setIfInBounds_toArray,List.set_cons_zero,List.set_cons_succ] at h8
  have h9:=heap_setCell h8 (j:=9) (.int .i64 i.r2)
  simp only [List.setIfInBounds_toArray,List.set_cons_zero,List.set_cons_succ] at h9
  have h10:=heap_setCell h9 (j:=10) (.int .i64 i.r3)
  simp only [List.setIfInBounds_toArray,List.set_cons_zero,List.set_cons_succ] at h10
  have h11:=heap_setCell h10 (j:=11) (.int .i64 i.r4)
  simp only [List.setIfInBounds_toArray,List.set_cons_zero,List.set_cons_succ] at h11
  have h12:=heap_setCell h11 (j:=12) (.int .i64 i.r5)
  simp only [List.setIfInBounds_toArray,List.set_cons_zero,List.set_cons_succ] at h12
  have h13:=heap_setCell h12 (j:=13) (.int .i64 i.to_)
  simp only [List.setIfInBounds_toArray,List.set_cons_zero,List.set_cons_succ] at h13
  have h14:=heap_setCell h13 (j:=14) (.int .i64 i.els)
  simp only [List.setIfInBounds_toArray,List.set_cons_zero,List.set_cons_succ] at h14
  exact h14
theorem below_put15 {W0 W:World}{B q:Nat}{i:Ins}(h:Below B W0 W)(hq:B≤q):Below B W0 (put15 W q i):=by
  have hs:∀ (V:World) (j:Nat) (u:Value),Below B W0 V→Below B W0 (V.setCell ⟨q,j,none⟩ u):=fun V j u hV=>hV.setCell (p:=⟨q,j,none⟩) hq u
  unfold put15
  repeat apply hs
  exact h
theorem block_put15 {W:World}{b q:Nat}{i:Ins}(h:b≠q):(put15 W q i).heap[b]? = W.heap[b]?:=by
  have hs:∀ (V:World) (j:Nat) (u:Value),V.heap[b]? = W.heap[b]?→(V.setCell ⟨q,j,none⟩ u).heap[b]? = W.heap[b]?:=fun V j u hV=>(heap_setCell_other V ⟨q,j,none⟩ b u h).trans hV
  unfold put15
  repeat apply hs
  rfl
theorem sI:(Try.prog.info? 31).map (·.size)=some 15:=by kernel_rfl
def Cut24 (W Wx:World)(i:Ins)(v:List Vl)(R:Nat)(a b:Value):Prop :=
  ∃ ib nb nc,a = .pointer (some ⟨ib,0,none⟩)∧b = .slice (some ⟨nb,0,none⟩) R nc∧Below W.heap.size W Wx∧Wx.heap[ib]? = some i.obj∧PreV Wx nb v∧W.heap.size≤nb∧W.heap.size≤ib
theorem Cut24.a {W w6:World}{i:Ins}{v:List Vl}{R nb nc:Nat}(hb:Below W.heap.size W w6)(hnb:W.heap.size≤nb)(h:PreV w6 nb v):Cut24 W (w6.alloc i.obj) i v R (.pointer (some ⟨w6.heap.size,0,none⟩)) (.slice (some ⟨nb,0,none⟩) R nc) :=
  ⟨_,_,_,rfl,rfl,hb.alloc hb.size _,heap_alloc_new _ _,Pre.later h (Below.one _ _),hnb,hb.size⟩
theorem Cut24.b {W w6:World}{i:Ins}{v:List Vl}{R nb nc:Nat}(hb:Below W.heap.size W w6)(hz:w6.heap[W.heap.size]? = some zeroI.obj)(hnb:(W.alloc zeroI.obj).heap.size≤nb)(h:PreV w6 nb v):Cut24 W (put15 w6 W.heap.size i) i v R (.pointer (some ⟨W.heap.size,0,none⟩)) (.slice (some ⟨nb,0,none⟩) R nc):=by
  have hs:(W.alloc zeroI.obj).heap.size=W.heap.size + 1:=by simp
  exact ⟨_,_,_,rfl,rfl,below_put15 hb (Nat.le_refl _),heap_put15 hz,Pre.of_heap h (block_put15 (by omega)),by omega,Nat.le_refl _⟩
theorem Cut24.apart {W:World}{ib nb:Nat}{i:Ins}{v:List Vl}(h1:W.heap[ib]? = some i.obj)(h2:PreV W nb v):ib≠nb:=by
  rintro rfl
  obtain ⟨cs,h3,_⟩:=h2
  rw [h1] at h3
  injection h3 with h3
  injection h3 with _ h4
  exact absurd h4 (by decide)
end Go.Proofs.Ythbcdckonaljiaa
namespace Go.Proofs.Ythbcdckonaljiaa
open Go.RowKit Go.BigFrame
set_option maxRecDepth 1000000 in
set_option maxHeartbeats 4000000 in
theorem refNext_fr (i:Ins) (p:Int) (hp:0≤p∧p≤100000) (w:World):Calls Try.prog 62 #[i.agg,.int .i64 p] w fun e w'=>SlF w.heap.size (i.next p) e w'∧Below w.heap.size w w':=by
  obtain ⟨k,op,dst,a,b,n,text,r0,r1,r2,r3,r4,r5,to_,els⟩:=i
  have hb0:=Below.one w (Ins.obj ⟨k,op,dst,a,b,n,text,r0,r1,r2,r3,r4,r5,to_,els⟩)
  have bx:=heap_alloc_new w (Ins.obj ⟨k,op,dst,a,b,n,text,r0,r1,r2,r3,r4,r5,to_,els⟩)
  simp only [Ins.obj,Ins.agg,Ins.next] at hb0 bx ⊢
  have hwr:wrap64 (p + 1)=p + 1:=by unfold wrap64; omega
  have hone:∀ (W:World) (x:Int),RdN (W.alloc (.cells #[.int .i64 x] 3)) (some ⟨W.heap.size,0,none⟩) [x]:=fun W x j y hj=>by
    cases j with
    | succ j=>simp at hj
    | zero =>
      simp at hj
      subst hj
      exact ⟨W.heap.size,0,rfl,by simp,cell_of_heap (heap_alloc_new W (.cells #[.int .i64 x] 3)) 0 _ rfl⟩
  have htwo:∀ (W:World) (x y:Int),RdN (W.alloc (.cells #[.int .i64 x,.int .i64 y] 3)) (some ⟨W.heap.size,0,none⟩) [x,y]:=fun W x y j z hj=>by
    have hn:=heap_alloc_new W (.cells #[.int .i64 x,.int .i64 y] 3)
    match j with
    | 0=>simp at hj; subst hj; exact ⟨W.heap.size,0,rfl,by simp,cell_of_heap hn 0 _ rfl⟩
    | 1=>simp at hj; subst hj; exact ⟨W.heap.size,0,rfl,by simp,cell_of_heap hn 1 _ rfl⟩
    | j + 2=>simp at hj
  have h1:=hone (w.alloc (Ins.obj ⟨k,op,dst,a,b,n,text,r0,r1,r2,r3,r4,r5,to_,els⟩))
  have h2:=htwo (w.alloc (Ins.obj ⟨k,op,dst,a,b,n,text,r0,r1,r2,r3,r4,r5,to_,els⟩))
  simp only [Ins.obj] at h1 h2
  rw [show (w.alloc (Ins.obj ⟨k,op,dst,a,b,n,text,r0,r1,r2,r3,r4,r5,to_,els⟩)).heap.size=w.heap.size + 1 by simp] at h1 h2
  by_cases e11:k=11
  · subst e11
    go_enter Try.func62,Try.ntmps62
    go_wp2
    go_returns
    exact ⟨⟨_,1,rfl,h1 _,fun b o h=>by injection h with h; injection h with h; omega⟩,hb0.alloc hb0.size _⟩
  · rw [if_neg e11]
    have q1:(k == 11)=false:=by simpa using e11
    by_cases e12:k=12
    · subst e12
      go_enter Try.func62,Try.ntmps62
      go_wp2
      go_returns
      exact ⟨⟨_,2,rfl,h2 _ _,fun b o h=>by injection h with h; injection h with h; omega⟩,hb0.alloc hb0.size _⟩
    · rw [if_neg e12]
      have q2:(k == 12)=false:=by simpa using e12
      by_cases e13:k=13
      · subst e13
        go_enter Try.func62,Try.ntmps62
        go_wp2
        go_returns
        exact ⟨⟨none,0,rfl,fun j y hj=>by simp at hj,fun b o h=>by cases h⟩,hb0⟩
      · rw [if_neg e13]
        have q3:(k == 13)=false:=by simpa using e13
        clear e11 e12 e13
        go_enter Try.func62,Try.ntmps62
        go_wp2
        go_returns
        exact ⟨⟨_,1,rfl,h1 _,fun b o h=>by injection h with h; injection h with h; omega⟩,hb0.alloc hb0.size _⟩
end Go.Proofs.Ythbcdckonaljiaa

