import Derived.Laws.CopyRow
import Derived.Laws.MakeOwn
import Derived.Deep.LoopGhost
import Derived.Deep.RegionHeld3
import Derived.Deep.RegionWith
import Derived.WalkMore
import Derived.ScopeJumps
import Derived.Laws.BitsLemmas
import Derived.Laws.Shifts
import Derived.Test.YtgdbkoncaojmoaaZg0
namespace Go.Proofs.Ytgdbkoncaojmoaa
open Go.RowKit Go.BigFrame
abbrev Vl.agg (v:Vl):Value:=.agg #[.int .i64 v.k,.int .i64 v.n]
def RdV (w:World)(A:Option Addr)(l:List Vl):Prop:=∀ (j:Nat) x,l[j]? = some x→∃ b o,A=some ⟨b,o,none⟩∧b < w.heap.size∧w.cell? ⟨b,o + j * 2,none⟩=some (.int .i64 x.k)∧w.cell? ⟨b,o + j * 2 + 1,none⟩=some (.int .i64 x.n)
theorem RdV.below {w w':World}{A:Option Addr}{l:List Vl}(h:RdV w A l)(hb:Below w.heap.size w w'):RdV w' A l:=fun j x hx=>by
  obtain ⟨b,o,e1,e2,e3,e4⟩:=h j x hx
  exact ⟨b,o,e1,Nat.lt_of_lt_of_le e2 hb.size,(hb.cell (p:=⟨b,_,none⟩) e2).trans e3,(hb.cell (p:=⟨b,_,none⟩) e2).trans e4⟩
end Go.Proofs.Ytgdbkoncaojmoaa
namespace Go.Proofs.Ytgdbkoncaojmoaa
open Go.RowKit Go.BigFrame
def SlF (base:Nat)(l:List Int)(e:Ending)(w:World):Prop:=∃ A cap,e = .returned (.slice A l.length cap)∧RdN w A l∧∀ b o,A=some ⟨b,o,none⟩→base≤b
set_option maxRecDepth 1000000 in
set_option maxHeartbeats 4000000 in
theorem Next_fr (i:Ins) (p:Int) (hp:0≤p∧p≤100000) (w:World):Calls Try.prog 31 #[i.agg,.int .i64 p] w fun e w'=>SlF w.heap.size (i.next p) e w'∧Below w.heap.size w w':=by
  obtain ⟨k,op,dst,a,b,n,text,r0,r1,r2,r3,r4,r5,to_,els⟩:=i
  have hb0:=Below.one w (Ins.obj ⟨k,op,dst,a,b,n,text,r0,r1,r2,r3,r4,r5,to_,els⟩)
  have bx:=heap_alloc_new w (Ins.obj ⟨k,op,dst,a,b,n,text,r0,r1,r2,r3,r4,r5,to_,els⟩)
  simp only [Ins.obj,Ins.agg,Ins.next] at hb0 bx ⊢
  have hwr:wrap64 (p + 1)=p + 1:=by unfold wrap64; omega
  have hone:∀ (W:World) (x:Int),RdN (W.alloc (.cells #[.int .i64 x] 3)) (some ⟨W.heap.size,0,none⟩) [x]:=fun W x j y hj=>by
    cases j with
    | succ j=>simp at hj
    | zero =>
      simp at hj
      subst hj
      exact ⟨W.heap.size,0,rfl,by simp,cell_of_heap (heap_alloc_new W (.cells #[.int .i64 x] 3)) 0 _ rfl⟩
  have htwo:∀ (W:World) (x y:Int),RdN (W.alloc (.cells #[.int .i64 x,.int .i64 y] 3)) (some ⟨W.heap.size,0,none⟩) [x,y]:=fun W x y j z hj=>by
    have hn:=heap_alloc_new W (.cells #[.int .i64 x,.int .i64 y] 3)
    match j with
    | 0=>simp at hj; subst hj; exact ⟨W.heap.size,0,rfl,by simp,cell_of_heap hn 0 _ rfl⟩
    | 1=>simp at hj; subst hj; exact ⟨W.heap.size,0,rfl,by simp,cell_of_heap hn 1 _ rfl⟩
    | j + 2=>simp at hj
  have h1:=hone (w.alloc (Ins.obj ⟨k,op,dst,a,b,n,text,r0,r1,r2,r3,r4,r5,to_,els⟩))
  have h2:=htwo (w.alloc (Ins.obj ⟨k,op,dst,a,b,n,text,r0,r1,r2,r3,r4,r5,to_,els⟩))
  simp only [Ins.obj] at h1 h2
  rw [show (w.alloc (Ins.obj ⟨k,op,dst,a,b,n,text,r0,r1,r2,r3,r4,r5,to_,els⟩)).heap.size=w.heap.size + 1 by simp] at h1 h2
  by_cases e11:k=11
  · subst e11
    go_enter Try.func31,Try.ntmps31
    go_wp2
    go_returns
    exact ⟨⟨_,1,rfl,h1 _,fun b o h=>by injection h with h; injection h with h; omega⟩,hb0.alloc hb0.size _⟩
  · rw [if_neg e11]
    have q1:(k == 11)=false:=by simpa using e11
    by_cases e12:k=12
    · subst e12
      go_enter Try.func31,Try.ntmps31
      go_wp2
      go_returns
      exact ⟨⟨_,2,rfl,h2 _ _,fun b o h=>by injection h with h; injection h with h; omega⟩,hb0.alloc hb0.size _⟩
    · rw [if_neg e12]
      have q2:(k == 12)=false:=by simpa using e12
      by_cases e13:k=13
      · subst e13
        go_enter Try.func31,Try.ntmps31
        go_wp2
        go_returns
        exact ⟨⟨none,0,rfl,fun j y hj=>by simp at hj,fun b o h=>by cases h⟩,hb0⟩
      · rw [if_neg e13]
        have q3:(k == 13)=false:=by simpa using e13
        clear e11 e12 e13
        go_enter Try.func31,Try.ntmps31
        go_wp2
        go_returns
        exact ⟨⟨_,1,rfl,h1 _,fun b o h=>by injection h with h; injection h with h; omega⟩,hb0.alloc hb0.size _⟩
theorem SlF.one {w:World}{base b o cap:Nat}{x:Int}(hB:base≤b)(hb:b < w.heap.size)(h:w.cell? ⟨b,o,none⟩=some (.int .i64 x)):SlF base [x] (.returned (.slice (some ⟨b,o,none⟩) 1 cap)) w :=
  ⟨_, cap,rfl,fun j y hj=>by
    cases j with
    | succ j=>simp at hj
    | zero =>
      simp at hj
      subst hj
      exact ⟨b,o,rfl,hb,h⟩,fun b' o' h'=>by injection h' with h'; injection h' with h'; omega⟩
theorem SlF.two {w:World}{base b cap:Nat}{x y:Int}(hB:base≤b)(hb:b < w.heap.size)(h:w.cell? ⟨b,0,none⟩=some (.int .i64 x))(h':w.cell? ⟨b,1,none⟩=some (.int .i64 y)):SlF base [x,y] (.returned (.slice (some ⟨b,0,none⟩) 2 cap)) w :=
  ⟨_,cap,rfl,fun j z hj=>by
    match j with
    | 0=>simp at hj; subst hj; exact ⟨b,0,rfl,hb,h⟩
    | 1=>simp at hj; subst hj; exact ⟨b,0,rfl,hb,h'⟩
    | j + 2=>simp at hj,fun b' o' h'=>by injection h' with h'; injection h' with h'; omega⟩
end Go.Proofs.Ytgdbkoncaojmoaa
namespace Go.Proofs.Ytgdbkoncaojmoaa
open Go.RowKit Go.BigFrame
def Pre {α:Type}(g:α→List Value)(d:Nat)(t:TypeId)(W:World)(b:Nat)(l:List α):Prop :=
  ∃ cs:Array Value,W.heap[b]? = some (.cells cs t (0,0))∧∀ j x,l[j]? = some x→∀ k,k < d→cs[j * d + k]? = (g x)[k]?
section
variable {α:Type} {g:α→List Value} {d:Nat} {t:TypeId} {W W':World} {b:Nat} {l:List α}
theorem Pre.lt (h:Pre g d t W b l):b < W.heap.size:=by
  obtain ⟨cs,h1,_⟩:=h
  exact (Array.getElem?_eq_some_iff.1 h1).1
theorem Pre.of_heap (h:Pre g d t W b l)(hb:W'.heap[b]? = W.heap[b]?):Pre g d t W' b l:=by
  obtain ⟨cs,h1,h2⟩:=h
  exact ⟨cs,hb.trans h1,h2⟩
theorem Pre.later (h:Pre g d t W b l)(hb:Below W.heap.size W W'):Pre g d t W' b l:=h.of_heap (hb.block _ h.lt)
theorem Pre.cell (h:Pre g d t W b l){j:Nat}{x:α}(hj:l[j]? = some x){k:Nat}(hk:k < d){v:Value}(hv:(g x)[k]? = some v):W.cell? ⟨b,j * d + k,none⟩=some v:=by
  obtain ⟨cs,h1,h2⟩:=h
  rw [cell_of_row W b (j * d + k) cs t _ h1,h2 j x hj k hk,hv]
theorem Pre.free (h:Pre g d t W b l)(n:Nat):W.frozen? ⟨b,n,none⟩=false:=by
  obtain ⟨cs,h1,h2⟩:=h
  exact free_of_heap h1 n
theorem Pre.other (h:Pre g d t W b l){a:Addr}(hne:a.block≠b)(v:Value):Pre g d t (W.setCell a v) b l:=h.of_heap (heap_setCell_other W a b v (Ne.symm hne))
theorem Pre.store (h:Pre g d t W b l){j:Nat}{x y:α}(hj:l[j]? = some x){k:Nat}(hk:k < d){v:Value}(hlen:(g x).length=(g y).length)(hv:(g y)[k]? = some v)(ho:∀ k',k'≠k→(g y)[k']? = (g x)[k']?):Pre g d t (W.setCell ⟨b,j * d + k,none⟩ v) b (l.set j y):=by
  obtain ⟨cs,h1,h2⟩:=h
  refine ⟨cs.setIfInBounds (j * d + k) v,heap_setCell_same W b _ cs t v h1,fun j' x' hj' k' hk'=>?_⟩
  have hc:=h2 j x hj k hk
  have hkx:k < (g x).length:=by rw [hlen]; exact (List.getElem?_eq_some_iff.1 hv).1
  have hb:j * d + k < cs.size:=by
    rw [List.getElem?_eq_getElem hkx] at hc
    exact (Array.getElem?_eq_some_iff.1 hc).1
  have hjl:=(List.getElem?_eq_some_iff.1 hj).1
  rw [Array.getElem?_setIfInBounds]
  by_cases hjj:j=j'
  · subst hjj
    rw [List.getElem?_set_self hjl] at hj'
    injection hj' with hj'
    subst hj'
    by_cases hkk:k'=k
    · subst hkk
      simp [hb,hv]
    · rw [if_neg (by omega),h2 j x hj k' hk',ho k' hkk]
  · rw [List.getElem?_set_ne hjj] at hj'
    have hne:¬ j * d + k=j' * d + k':=by
      intro e
      have h3:(j * d + k) / d=(j' * d + k') / d:=by rw [e]
      have hd:0 < d:=by omega
      rw [Nat.add_comm,Nat.add_mul_div_right _ _ hd,Nat.div_eq_of_lt hk,Nat.add_comm (j' * d),Nat.add_mul_div_right _ _ hd,Nat.div_eq_of_lt hk'] at h3
      omega
    rw [if_neg hne]
    exact h2 j' x' hj' k' hk'
end
def g1 (v:Value):List Value:=[v]
def gB (b:Bool):List Value:=[.bool b]
theorem Pre1.cell {W:World}{b:Nat}{l:List Value}{t:TypeId}(h:Pre g1 1 t W b l){j:Nat}{v:Value}(hj:l[j]? = some v):W.cell? ⟨b,j,none⟩=some v:=by
  have:=Pre.cell h hj (k:=0) (v:=v) (by omega) rfl
  rwa [Nat.mul_one] at this
theorem Pre1.set {W:World}{b:Nat}{l:List Value}{t:TypeId}(h:Pre g1 1 t W b l){j:Nat}(hj:j < l.length)(v:Value):Pre g1 1 t (W.setCell ⟨b,j,none⟩ v) b (l.set j v):=by
  have:=Pre.store (y:=v) h (List.getElem?_eq_getElem hj) (k:=0) (v:=v) (by omega) rfl rfl (fun k' hk'=>by
    cases k' with
    | zero=>exact absurd rfl hk'
    | succ k'=>rfl)
  rwa [Nat.mul_one] at this
theorem PreB.cell {W:World}{b:Nat}{l:List Bool}{t:TypeId}(h:Pre gB 1 t W b l){j:Nat}{v:Bool}(hj:l[j]? = some v):W.cell? ⟨b,j,none⟩=some (.bool v):=by
  have:=Pre.cell h hj (k:=0) (v:=.bool v) (by omega) rfl
  rwa [Nat.mul_one] at this
theorem PreB.set {W:World}{b:Nat}{l:List Bool}{t:TypeId}(h:Pre gB 1 t W b l){j:Nat}(hj:j < l.length)(v:Bool):Pre gB 1 t (W.setCell ⟨b,j,none⟩ (.bool v)) b (l.set j v):=by
  have:=Pre.store (y:=v) h (List.getElem?_eq_getElem hj) (k:=0) (v:=.bool v) (by omega) rfl rfl (fun k' hk'=>by
    cases k' with
    | zero=>exact absurd rfl hk'
    | succ k'=>rfl)
  rwa [Nat.mul_one] at this
theorem made_pre {α:Type}{g:α→List Value}{d:Nat}{t:TypeId}(W:World)(z:Array Value)(n:Nat)(x:α)(hz:z.size=d)(hg:∀ k,k < d→some (z[k]!)=(g x)[k]?) :
    Pre g d t (W.alloc (.cells (madeCells z (n * d)) t)) W.heap.size (List.replicate n x):=by
  refine ⟨_,heap_alloc_new W _,fun j y hj k hk=>?_⟩
  have hjn:j < n:=by
    have:=(List.getElem?_eq_some_iff.1 hj).1
    simpa using this
  have hy:y=x:=by simp [hjn] at hj; exact hj.symm
  subst hy
  have hlt:j * d + k < n * d:=by
    have:(j + 1) * d≤n * d:=Nat.mul_le_mul_right d hjn
    rw [Nat.succ_mul] at this
    omega
  rw [← hg k hk]
  simp only [madeCells]
  rw [Array.getElem?_map,Array.getElem?_range,if_pos hlt]
  have:(j * d + k) % d=k:=by rw [Nat.mul_comm,Nat.mul_add_mod,Nat.mod_eq_of_lt hk]
  simp only [Option.map_some,hz,this]
theorem info_b:(Try.prog.info? 4).map (fun i=>(i.zero,i.size,i.bytes))=some (some (.bool false),1,1):=by kernel_rfl
theorem make_bools (L:Nat)(hL:L≤100000)(W:World):(Instr.makeSlice 29 (.int .i64 L) (.int .i64 L)).run Try.prog W = .ok (.slice (some ⟨W.heap.size,0,none⟩) L L) (W.alloc (.cells (madeCells #[.bool false] L) 4)):=by
  obtain ⟨i0,hi,hz0,hz1,hz2⟩:=info_parts info_b
  have:=run_make (P:=Try.prog) W 29 4 i0 (.bool false) (by kernel_rfl) hi hz0 .i64 .i64 L L (by omega) (by omega) (by rw [hz2]; omega) (by omega)
  simpa [hz1,Value.cells] using this
def Que (W:World)(base:Nat)(V:Value)(T:List Nat):Prop:=∃ b o cap cs,V = .slice (some ⟨b,o,none⟩) T.length cap∧T.length≤cap∧cap≤maxLen∧base≤b∧W.heap[b]? = some (.cells cs 3 (0,0))∧o + cap≤cs.size∧∀ j x,T[j]? = some x→cs[o + j]? = some (.int .i64 ((x:Nat):Int))
theorem Que.later {W W':World}{base:Nat}{V:Value}{T:List Nat}(h:Que W base V T)(hb:Below W.heap.size W W'):Que W' base V T:=by
  obtain ⟨b,o,cap,cs,e1,e2,e3,e4,e5,e6,e7⟩:=h
  exact ⟨b,o,cap,cs,e1,e2,e3,e4,(hb.block _ (Array.getElem?_eq_some_iff.1 e5).1).trans e5,e6,e7⟩
theorem Que.other {W:World}{base:Nat}{V:Value}{T:List Nat}(h:Que W base V T){a:Addr}(ha:a.block < base)(v:Value):Que (W.setCell a v) base V T:=by
  obtain ⟨b,o,cap,cs,e1,e2,e3,e4,e5,e6,e7⟩:=h
  exact ⟨b,o,cap,cs,e1,e2,e3,e4,(heap_setCell_other W a b v (by omega)).trans e5,e6,e7⟩
end Go.Proofs.Ytgdbkoncaojmoaa
namespace Go.Proofs.Ytgdbkoncaojmoaa
open Go.RowKit Go.BigFrame
def M0 (f:Fn7):List (List Vl):=(List.replicate f.code.length (List.replicate f.R.toNat nv)).set 0 (ini f)
def C0 (f:Fn7):List Bool:=(List.replicate f.code.length false).set 0 true
theorem ini_ok (f:Fn7):rok (ini f):=fun x hx=>by
  simp only [ini,List.mem_map] at hx
  obtain ⟨r,_,rfl⟩:=hx
  split
  · exact Or.inr rfl
  · exact Or.inl rfl
theorem ini_len (f:Fn7):(ini f).length=f.R.toNat:=by simp [ini]
theorem never_at (R r:Nat):at_ (List.replicate R nv) r=nv:=by
  by_cases h:r < R
  · rw [at_in (by simpa using h)]; simp
  · rw [at_out (by simpa using h)]
theorem row_M0 (f:Fn7)(p:Nat):row (M0 f) p=if p=0∧0 < f.code.length then ini f else if p < f.code.length then List.replicate f.R.toNat nv else []:=by
  unfold M0
  rw [row_set]
  by_cases h:0=p∧p < (List.replicate f.code.length (List.replicate f.R.toNat nv)).length
  · obtain ⟨rfl,h2⟩:=h
    rw [if_pos ⟨rfl,h2⟩,if_pos ⟨rfl,by simpa using h2⟩]
  · rw [if_neg h,if_neg (by rintro ⟨rfl,h2⟩; exact h ⟨rfl,by simpa using h2⟩)]
    by_cases hp:p < f.code.length
    · rw [if_pos hp]; simp [row,List.getD,hp]
    · rw [if_neg hp]; simp [row,List.getD,hp]
theorem cm_C0 (f:Fn7)(p:Nat):cm (C0 f) p=true↔p=0∧0 < f.code.length:=by
  unfold C0
  rw [cm_set]
  by_cases h:0=p∧p < (List.replicate f.code.length false).length
  · rw [if_pos h]
    obtain ⟨rfl,h2⟩:=h
    exact ⟨fun _=>⟨rfl,by simpa using h2⟩,fun _=>rfl⟩
  · rw [if_neg h]
    constructor
    · intro hc
      exfalso
      by_cases hp:p < f.code.length
      · simp [cm,List.getD,hp] at hc
      · simp [cm,List.getD,hp] at hc
    · rintro ⟨rfl,h2⟩
      exact absurd ⟨rfl,by simpa using h2⟩ h
theorem Head.start {f:Fn7}(hf:OkF f):Head f (M0 f) (C0 f) [0]:=by
  have hL:0 < f.code.length:=hf.len.1
  have h0:row (M0 f) 0=ini f:=by rw [row_M0,if_pos ⟨rfl,hL⟩]
  have hn:∀ p,p≠0→∀ r,at_ (row (M0 f) p) r=nv:=fun p hp r=>by
    rw [row_M0,if_neg (fun e=>hp e.1)]
    split
    · exact never_at _ r
    · rw [at_out (by simp)]
  refine ⟨⟨⟨by simp [M0],fun v hv=>?_⟩,by simp [C0],fun N hN p=>?_,by rw [h0]; exact rle.refl _,fun p hp=>?_,fun p hp r=>?_,(cm_C0 f 0).2 ⟨rfl,hL⟩,fun p hp=>?_⟩,fun p hp=>?_⟩
  · rcases List.mem_or_eq_of_mem_set hv with hv | rfl
    · obtain ⟨_,rfl⟩:=List.mem_replicate.1 hv
      exact ⟨by simp,fun x hx=>by obtain ⟨_,rfl⟩:=List.mem_replicate.1 hx; exact Or.inl rfl⟩
    · exact ⟨ini_len f,fun x hx=>(ini_ok f x hx).wf⟩
  · by_cases hp:p=0
    · rw [hp,h0]; exact hN.start
    · intro r; rw [hn p hp r]; exact Or.inl rfl
  · obtain ⟨rfl,_⟩:=(cm_C0 f p).1 hp
    rw [h0]; exact ini_ok f
  · refine hn p (fun e=>?_) r
    rw [e,(cm_C0 f 0).2 ⟨rfl,hL⟩] at hp
    cases hp
  · simp at hp; rw [hp]; exact (cm_C0 f 0).2 ⟨rfl,hL⟩
  · left; rw [((cm_C0 f p).1 hp).1]; simp
end Go.Proofs.Ytgdbkoncaojmoaa
namespace Go.Proofs.Ytgdbkoncaojmoaa
open Go.RowKit Go.BigFrame
set_option maxRecDepth 1000000 in
set_option maxHeartbeats 4000000 in
theorem refNext_fr (i:Ins) (p:Int) (hp:0≤p∧p≤100000) (w:World):Calls Try.prog 27 #[i.agg,.int .i64 p] w fun e w'=>SlF w.heap.size (i.next p) e w'∧Below w.heap.size w w':=by
  obtain ⟨k,op,dst,a,b,n,text,r0,r1,r2,r3,r4,r5,to_,els⟩:=i
  have hb0:=Below.one w (Ins.obj ⟨k,op,dst,a,b,n,text,r0,r1,r2,r3,r4,r5,to_,els⟩)
  have bx:=heap_alloc_new w (Ins.obj ⟨k,op,dst,a,b,n,text,r0,r1,r2,r3,r4,r5,to_,els⟩)
  simp only [Ins.obj,Ins.agg,Ins.next] at hb0 bx ⊢
  have hwr:wrap64 (p + 1)=p + 1:=by unfold wrap64; omega
  have hone:∀ (W:World) (x:Int),RdN (W.alloc (.cells #[.int .i64 x] 3)) (some ⟨W.heap.size,0,none⟩) [x]:=fun W x j y hj=>by
    cases j with
    | succ j=>simp at hj
    | zero =>
      simp at hj
      subst hj
      exact ⟨W.heap.size,0,rfl,by simp,cell_of_heap (heap_alloc_new W (.cells #[.int .i64 x] 3)) 0 _ rfl⟩
  have htwo:∀ (W:World) (x y:Int),RdN (W.alloc (.cells #[.int .i64 x,.int .i64 y] 3)) (some ⟨W.heap.size,0,none⟩) [x,y]:=fun W x y j z hj=>by
    have hn:=heap_alloc_new W (.cells #[.int .i64 x,.int .i64 y] 3)
    match j with
    | 0=>simp at hj; subst hj; exact ⟨W.heap.size,0,rfl,by simp,cell_of_heap hn 0 _ rfl⟩
    | 1=>simp at hj; subst hj; exact ⟨W.heap.size,0,rfl,by simp,cell_of_heap hn 1 _ rfl⟩
    | j + 2=>simp at hj
  have h1:=hone (w.alloc (Ins.obj ⟨k,op,dst,a,b,n,text,r0,r1,r2,r3,r4,r5,to_,els⟩))
  have h2:=htwo (w.alloc (Ins.obj ⟨k,op,dst,a,b,n,text,r0,r1,r2,r3,r4,r5,to_,els⟩))
  simp only [Ins.obj] at h1 h2
  rw [show (w.alloc (Ins.obj ⟨k,op,dst,a,b,n,text,r0,r1,r2,r3,r4,r5,to_,els⟩)).heap.size=w.heap.size + 1 by simp] at h1 h2
  by_cases e11:k=11
  · subst e11
    go_enter Try.func27,Try.ntmps27
    go_wp2
    go_returns
    exact ⟨⟨_,1,rfl,h1 _,fun b o h=>by injection h with h; injection h with h; omega⟩,hb0.alloc hb0.size _⟩
  · rw [if_neg e11]
    have q1:(k == 11)=false:=by simpa using e11
    by_cases e12:k=12
    · subst e12
      go_enter Try.func27,Try.ntmps27
      go_wp2
      go_returns
      exact ⟨⟨_,2,rfl,h2 _ _,fun b o h=>by injection h with h; injection h with h; omega⟩,hb0.alloc hb0.size _⟩
    · rw [if_neg e12]
      have q2:(k == 12)=false:=by simpa using e12
      by_cases e13:k=13
      · subst e13
        go_enter Try.func27,Try.ntmps27
        go_wp2
        go_returns
        exact ⟨⟨none,0,rfl,fun j y hj=>by simp at hj,fun b o h=>by cases h⟩,hb0⟩
      · rw [if_neg e13]
        have q3:(k == 13)=false:=by simpa using e13
        clear e11 e12 e13
        go_enter Try.func27,Try.ntmps27
        go_wp2
        go_returns
        exact ⟨⟨_,1,rfl,h1 _,fun b o h=>by injection h with h; injection h with h; omega⟩,hb0.alloc hb0.size _⟩
end Go.Proofs.Ytgdbkoncaojmoaa

