import Derived.Test.YthbcdckonaljiaaZa
namespace Go.Proofs.Ythbcdckonaljiaa
open Go.RowKit Go.BigFrame
def Tru (p:Prop)(e:Ending):Prop:=∃ b:Bool,e = .returned (.bool b)∧(b=true↔p)
theorem Tru.no {p:Prop}(h:¬ p):Tru p (.returned (.bool false)):=⟨false,rfl,by simp [h]⟩
abbrev funcObj (nm:ByteArray)(ps R Fr:Int)(C:Option Addr)(L cap:Nat):Obj:=.cells #[.string nm,.int .i64 ps,.int .i64 R,.int .i64 Fr,.slice C L cap] 26
abbrev funcAgg (nm:ByteArray)(ps R Fr:Int)(C:Option Addr)(L cap:Nat):Value:=.agg #[.string nm,.int .i64 ps,.int .i64 R,.int .i64 Fr,.slice C L cap]
theorem box3 (w:World)(o o' o'':Obj):(((w.alloc o).alloc o').alloc o'').heap[w.heap.size]? = some o∧(((w.alloc o).alloc o').alloc o'').heap[w.heap.size + 1]? = some o'∧(((w.alloc o).alloc o').alloc o'').heap[w.heap.size + 1 + 1]? = some o'' ∧
    (((w.alloc o).alloc o').alloc o'').heap.size=w.heap.size + 3∧Below w.heap.size w (((w.alloc o).alloc o').alloc o''):=by
  have h1:=heap_alloc_new w o
  have h2:=heap_alloc_new (w.alloc o) o'
  have h3:=heap_alloc_new ((w.alloc o).alloc o') o''
  rw [show (w.alloc o).heap.size=w.heap.size + 1 by simp] at h2
  rw [show ((w.alloc o).alloc o').heap.size=w.heap.size + 1 + 1 by simp] at h3
  exact ⟨alloc_keeps (alloc_keeps h1 _) _,alloc_keeps h2 _,h3,by simp,((Below.one w o).alloc (by simp) _).alloc (by simp; omega) _⟩
theorem isWord_any (n:Int)(w:World):Calls Try.prog 61 #[.int .i64 n] w fun e w'=>e = .returned (.bool (decide (-2147483648≤n∧n≤2147483647)))∧w=w':=by
  by_cases h1:-2147483648≤n <;> by_cases h2:n≤2147483647
  all_goals
    first | have q1:decide (n ≥ -2147483648)=true:=(by simpa using h1) | have q1:decide (n ≥ -2147483648)=false:=(by simp; omega)
    first | have q3:decide (-2147483648≤n)=true:=(by simpa using h1) | have q3:decide (-2147483648≤n)=false:=(by simp; omega)
    first | have q2:decide (n≤2147483647)=true:=(by simpa using h2) | have q2:decide (n≤2147483647)=false:=(by simp; omega)
    have hd:decide (-2147483648≤n∧n≤2147483647)=(decide (-2147483648≤n) && decide (n≤2147483647)):=by simp
    rw [hd,q3,q2]
    clear hd h1 h2
    go_enter Try.func61,Try.ntmps61
    go_wp2
    go_returns
    exact ⟨rfl,rfl⟩
structure RSt (w w1:World)(i o:Ins)(nm:ByteArray)(ps R Fr:Int)(C:Option Addr)(L cap:Nat):Prop where
  bi:w1.heap[w.heap.size]? = some i.obj
  bf:w1.heap[w.heap.size + 1]? = some (funcObj nm ps R Fr C L cap)
  bo:w1.heap[w.heap.size + 1 + 1]? = some o.obj
  below:Below w.heap.size w w1
theorem RSt.later {w w1 w2:World}{i o:Ins}{nm:ByteArray}{ps R Fr:Int}{C:Option Addr}{L cap:Nat}(h:RSt w w1 i o nm ps R Fr C L cap)(hb:Below w1.heap.size w1 w2):RSt w w2 i o nm ps R Fr C L cap :=
  ⟨(hb.block _ (Array.getElem?_eq_some_iff.1 h.bi).1).trans h.bi,(hb.block _ (Array.getElem?_eq_some_iff.1 h.bf).1).trans h.bf,(hb.block _ (Array.getElem?_eq_some_iff.1 h.bo).1).trans h.bo,h.below.trans (hb.mono h.below.size)⟩
theorem RSt.store {w w1:World}{i o o':Ins}{nm:ByteArray}{ps R Fr:Int}{C:Option Addr}{L cap:Nat}(h:RSt w w1 i o nm ps R Fr C L cap)(j:Nat)(v:Value)(ho:(o.l.toArray.setIfInBounds j v)=o'.l.toArray) :
    RSt w (w1.setCell ⟨w.heap.size + 1 + 1,j,none⟩ v) i o' nm ps R Fr C L cap :=
  ⟨(Below.heap_setCell _ _ _ _ (by simp only; omega)).trans h.bi,(Below.heap_setCell _ _ _ _ (by simp only; omega)).trans h.bf,by rw [heap_setCell h.bo]; exact congrArg some (congrArg (fun c=>Obj.cells c 31 (0,0)) ho),h.below.setCell (p:=⟨w.heap.size + 1 + 1,j,none⟩) (by simp only; omega) _⟩
theorem RSt.free {w w1:World}{i o:Ins}{nm:ByteArray}{ps R Fr:Int}{C:Option Addr}{L cap:Nat}(h:RSt w w1 i o nm ps R Fr C L cap)(j:Nat):w1.frozen? ⟨w.heap.size + 1 + 1,j,none⟩=false:=free_of_heap h.bo j
theorem Ok.tru {i o:Ins}{R Fr:Int}{L:Nat}{be:Bool}(ho:i.mask=o)(h:i=i.mask→Ok i R Fr L)(hbe:be=decide (i=o)):Tru (Ok i R Fr L) (.returned (.bool be)):=by
  subst hbe
  subst ho
  exact ⟨_,rfl,by rw [decide_eq_true_eq]; exact ⟨h,fun h=>h.mask⟩⟩
end Go.Proofs.Ythbcdckonaljiaa
namespace Go.Proofs.Ythbcdckonaljiaa
open Go.RowKit Go.BigFrame
def fillA (i:Ins)(m:Int):Ins:=⟨8,0,i.dst,0,0,i.n,i.text,if 0 < m then i.r0 else 0,if 1 < m then i.r1 else 0,if 2 < m then i.r2 else 0,if 3 < m then i.r3 else 0,if 4 < m then i.r4 else 0,if 5 < m then i.r5 else 0,0,-1⟩
theorem Ins.uses_len (i:Ins):i.uses.length≤8:=by
  unfold Ins.uses
  simp only [List.length_append]
  have h1:(if kA i.kind then [i.a] else []).length≤1:=by split <;> simp
  have h2:(if kB i.kind then [i.b] else []).length≤1:=by split <;> simp
  have h3:(if i.kind=8 then i.args.take i.n.toNat else []).length≤6:=by
    split
    · rw [List.length_take]; simp [Ins.args]; omega
    · simp
  omega
end Go.Proofs.Ythbcdckonaljiaa
namespace Go.Proofs.Ythbcdckonaljiaa
open Go.RowKit Go.BigFrame
set_option maxRecDepth 1000000 in
set_option maxHeartbeats 40000000 in
theorem refright_8a (op dst a b n:Int) (text:ByteArray) (r0 r1 r2 r3 r4 r5 to_ els:Int) (nm:ByteArray) (ps R Fr:Int) (C:Option Addr) (L cap:Nat) (w:World) (hx:(dst < 0∧dst≠-1)∨R≤dst) :
    Calls Try.prog 41 #[Ins.agg ⟨8,op,dst,a,b,n,text,r0,r1,r2,r3,r4,r5,to_,els⟩,funcAgg nm ps R Fr C L cap] w fun e w'=>Tru (Ok ⟨8,op,dst,a,b,n,text,r0,r1,r2,r3,r4,r5,to_,els⟩ R Fr L) e∧Below w.heap.size w w':=by
  obtain ⟨b0,b1,b2,hs3,hB3⟩:=box3 w (Ins.obj ⟨8,op,dst,a,b,n,text,r0,r1,r2,r3,r4,r5,to_,els⟩) (funcObj nm ps R Fr C L cap) (Ins.obj ⟨8,0,-1,0,0,0,⟨#[]⟩,0,0,0,0,0,0,0,-1⟩)
  obtain ⟨W,hW⟩:∃ W,((w.alloc (Ins.obj ⟨8,op,dst,a,b,n,text,r0,r1,r2,r3,r4,r5,to_,els⟩)).alloc (funcObj nm ps R Fr C L cap)).alloc (Ins.obj ⟨8,0,-1,0,0,0,⟨#[]⟩,0,0,0,0,0,0,0,-1⟩)=W:=⟨_,rfl⟩
  rw [hW] at b0 b1 b2 hs3 hB3
  have hS0:RSt w W ⟨8,op,dst,a,b,n,text,r0,r1,r2,r3,r4,r5,to_,els⟩ ⟨8,0,-1,0,0,0,⟨#[]⟩,0,0,0,0,0,0,0,-1⟩ nm ps R Fr C L cap:=⟨b0,b1,b2,hB3⟩
  obtain ⟨x0,x1,x2,x3,x4,x5,x6,x7,x8,x9,x10,x11,x12,x13,x14⟩:=Ins.cells b0
  simp only [Ins.obj,funcObj,Ins.agg,funcAgg] at hW x0 x1 x2 x3 x4 x5 x6 x7 x8 x9 x10 x11 x12 x13 x14 ⊢
  have hus:=refUses_any ⟨8,op,dst,a,b,n,text,r0,r1,r2,r3,r4,r5,to_,els⟩ W
  have hst:=fun W=>refSets_any ⟨8,op,dst,a,b,n,text,r0,r1,r2,r3,r4,r5,to_,els⟩ W
  obtain ⟨ul,hul⟩:∃ ul,ul=Ins.uses ⟨8,op,dst,a,b,n,text,r0,r1,r2,r3,r4,r5,to_,els⟩:=⟨_,rfl⟩
  simp only [Ins.agg] at hus hst
  rw [← hul] at hus
  have HUL:=Lib.hid hul
  clear hul b0 b1 b2 hs3 hB3
  obtain ⟨LU,hLU⟩:∃ LU,ul.length=LU:=⟨_,rfl⟩
  have hLU6:LU≤8:=by
    rw [← hLU,HUL.out]
    exact Ins.uses_len _
  have HLU:=Lib.hid hLU
  clear hLU
  go_enter Try.func41,Try.ntmps41
  go_wp2_with (first
    | (go_at_call 60; refine hus.mono ?_; rintro e w1 ⟨⟨A,cA,rfl,hR⟩,hb1⟩; rw [HLU.out]))
  have hS1:=hS0.later hb1
  clear x0 x1 x2 x3 x4 x5 x6 x7 x8 x9 x10 x11 x12 x13 x14 hW hS0
  go_loopw [7] (fun ix w8=>∃ m:Nat,m≤LU∧ix = .int .i64 m∧Below w1.heap.size w1 w8∧∀ (j:Nat) r,j < m→ul[j]? = some r→0≤r∧r < R) (fun ix _=>LU - (intOf ix).toNat)
  case atStart=>exact ⟨0,by omega,rfl,Below.refl _ _,fun j r hj=>by omega⟩
  case round =>
    obtain ⟨m,hm,rfl,hb,hno⟩:=hrel
    have hS:=hS1.later hb
    by_cases hlt:m < LU
    · have hr : ul[m]? = some (ul[m]'(by rw [HLU.out]; exact hlt)):=by simp
      generalize ul[m]'(by rw [HLU.out]; exact hlt)=r at hr
      obtain ⟨bu,ou,rfl,_,g0⟩:=(hR.below hb) m r hr
      have f2:=cell_of_heap hS.bf 2 (.int .i64 R) rfl
      have hno':¬ (0≤r∧r < R)→¬ Ok ⟨8,op,dst,a,b,n,text,r0,r1,r2,r3,r4,r5,to_,els⟩ R Fr L:=fun hn h=>hn (h.uses r (by rw [← HUL.out]; exact List.mem_of_getElem? hr))
      by_cases hr0:r < 0
      · have q4:decide (r < 0)=true:=by simpa using hr0
        have HT:=Lib.hid (Tru.no (hno' (by omega)))
        clear hno' hr0
        go_wp2
        go_quiet (fail)
        go_wp2
        go_returns
        exact ⟨HT.out,below_drewN hS.below _⟩
      · have q4:decide (r < 0)=false:=by simpa using hr0
        by_cases hrR:r < R
        · have q5:decide (r ≥ R)=false:=by simp; omega
          have q6:decide (R≤r)=false:=by simp; omega
          clear hno'
          go_wp2
          go_quiet (fail)
          go_wp2
          exact ⟨⟨m + 1,by omega,by simp,below_drewN hb _,fun j r' hj hr'=>by
            by_cases hjm:j=m
            · subst hjm
              rw [hr] at hr'
              injection hr' with hr'
              subst hr'
              exact ⟨by omega,hrR⟩
            · exact hno j r' (by omega) hr'⟩,by simp [intOf]; omega⟩
        · have q5:decide (r ≥ R)=true:=by simp; omega
          have q6:decide (R≤r)=true:=by simp; omega
          have HT:=Lib.hid (Tru.no (hno' (by omega)))
          clear hno' hr0 hrR
          go_wp2
          go_quiet (fail)
          go_wp2
          go_returns
          exact ⟨HT.out,below_drewN hS.below _⟩
    · have hU:∀ r ∈ Ins.uses ⟨8,op,dst,a,b,n,text,r0,r1,r2,r3,r4,r5,to_,els⟩,0≤r∧r < R:=fun r hr=>by
        rw [← HUL.out] at hr
        obtain ⟨j,hj⟩:=List.mem_iff_getElem?.1 hr
        exact hno j r (by have:=(List.getElem?_eq_some_iff.1 hj).1; rw [HLU.out] at this; omega) hj
      have HU:=Lib.hid hU
      have hge:¬ (m < LU):=hlt
      obtain rfl:m=LU:=by omega
      clear hU hno hb hS1 hb1 hR hus hlt hge hm
      obtain ⟨x0,x1,x2,x3,x4,x5,x6,x7,x8,x9,x10,x11,x12,x13,x14⟩:=Ins.cells hS.bi
      simp only at x0 x1 x2 x3 x4 x5 x6 x7 x8 x9 x10 x11 x12 x13 x14
      clear hLU6
      have hse:Ins.sets ⟨8,op,dst,a,b,n,text,r0,r1,r2,r3,r4,r5,to_,els⟩=dst:=rfl
      rw [hse] at hst
      clear hse
      have HT:=Lib.hid (Tru.no (fun h:Ok ⟨8,op,dst,a,b,n,text,r0,r1,r2,r3,r4,r5,to_,els⟩ R Fr L=>by have:=h.dst rfl; simp only at this; omega))
      have hc:((dst != -1)=true∧decide (dst < 0)=true∧(dst == -1)=false)∨((dst != -1)=true∧decide (dst < 0)=false∧decide (dst ≥ R)=true∧decide (R≤dst)=true)∨((dst != -1)=false∧decide (dst < 0)=true∧(dst == -1)=true∧decide (dst ≥ R)=true∧decide (R≤dst)=true):=by simp; omega
      clear hx
      rcases hc with ⟨d1,d2,d3⟩ | ⟨d1,d2,d3,d4⟩ | ⟨d1,d2,d3,d4,d5⟩
      all_goals
        go_wp2_with (first
          | (go_at_call 44; refine (hst _).mono ?_; rintro e w2 ⟨rfl,hb2⟩; have hT0:=hS.later hb2; have ck0:=cell_of_heap hT0.bi 0 (.int .i64 8) rfl; have cd0:=cell_of_heap hT0.bi 2 (.int .i64 dst) rfl; have cn0:=cell_of_heap hT0.bi 5 (.int .i64 n) rfl; have cx0:=cell_of_heap hT0.bi 6 (.string text) rfl; have g0_2:=cell_of_heap hT0.bf 2 (.int .i64 R) rfl))
        go_returns
        exact ⟨HT.out,hT0.below⟩
set_option maxRecDepth 1000000 in
set_option maxHeartbeats 40000000 in
theorem refright_8n (op dst a b n:Int) (text:ByteArray) (r0 r1 r2 r3 r4 r5 to_ els:Int) (nm:ByteArray) (ps R Fr:Int) (C:Option Addr) (L cap:Nat) (w:World) (hx:¬ ((dst < 0∧dst≠-1)∨R≤dst)) (eN:¬ (0≤n∧n≤6∧text.size≠0)) :
    Calls Try.prog 41 #[Ins.agg ⟨8,op,dst,a,b,n,text,r0,r1,r2,r3,r4,r5,to_,els⟩,funcAgg nm ps R Fr C L cap] w fun e w'=>Tru (Ok ⟨8,op,dst,a,b,n,text,r0,r1,r2,r3,r4,r5,to_,els⟩ R Fr L) e∧Below w.heap.size w w':=by
  obtain ⟨b0,b1,b2,hs3,hB3⟩:=box3 w (Ins.obj ⟨8,op,dst,a,b,n,text,r0,r1,r2,r3,r4,r5,to_,els⟩) (funcObj nm ps R Fr C L cap) (Ins.obj ⟨8,0,-1,0,0,0,⟨#[]⟩,0,0,0,0,0,0,0,-1⟩)
  obtain ⟨W,hW⟩:∃ W,((w.alloc (Ins.obj ⟨8,op,dst,a,b,n,text,r0,r1,r2,r3,r4,r5,to_,els⟩)).alloc (funcObj nm ps R Fr C L cap)).alloc (Ins.obj ⟨8,0,-1,0,0,0,⟨#[]⟩,0,0,0,0,0,0,0,-1⟩)=W:=⟨_,rfl⟩
  rw [hW] at b0 b1 b2 hs3 hB3
  have hS0:RSt w W ⟨8,op,dst,a,b,n,text,r0,r1,r2,r3,r4,r5,to_,els⟩ ⟨8,0,-1,0,0,0,⟨#[]⟩,0,0,0,0,0,0,0,-1⟩ nm ps R Fr C L cap:=⟨b0,b1,b2,hB3⟩
  obtain ⟨x0,x1,x2,x3,x4,x5,x6,x7,x8,x9,x10,x11,x12,x13,x14⟩:=Ins.cells b0
  simp only [Ins.obj,funcObj,Ins.agg,funcAgg] at hW x0 x1 x2 x3 x4 x5 x6 x7 x8 x9 x10 x11 x12 x13 x14 ⊢
  have hus:=refUses_any ⟨8,op,dst,a,b,n,text,r0,r1,r2,r3,r4,r5,to_,els⟩ W
  have hst:=fun W=>refSets_any ⟨8,op,dst,a,b,n,text,r0,r1,r2,r3,r4,r5,to_,els⟩ W
  obtain ⟨ul,hul⟩:∃ ul,ul=Ins.uses ⟨8,op,dst,a,b,n,text,r0,r1,r2,r3,r4,r5,to_,els⟩:=⟨_,rfl⟩
  simp only [Ins.agg] at hus hst
  rw [← hul] at hus
  have HUL:=Lib.hid hul
  clear hul b0 b1 b2 hs3 hB3
  obtain ⟨LU,hLU⟩:∃ LU,ul.length=LU:=⟨_,rfl⟩
  have hLU6:LU≤8:=by
    rw [← hLU,HUL.out]
    exact Ins.uses_len _
  have HLU:=Lib.hid hLU
  clear hLU
  go_enter Try.func41,Try.ntmps41
  go_wp2_with (first
    | (go_at_call 60; refine hus.mono ?_; rintro e w1 ⟨⟨A,cA,rfl,hR⟩,hb1⟩; rw [HLU.out]))
  have hS1:=hS0.later hb1
  clear x0 x1 x2 x3 x4 x5 x6 x7 x8 x9 x10 x11 x12 x13 x14 hW hS0
  go_loopw [7] (fun ix w8=>∃ m:Nat,m≤LU∧ix = .int .i64 m∧Below w1.heap.size w1 w8∧∀ (j:Nat) r,j < m→ul[j]? = some r→0≤r∧r < R) (fun ix _=>LU - (intOf ix).toNat)
  case atStart=>exact ⟨0,by omega,rfl,Below.refl _ _,fun j r hj=>by omega⟩
  case round =>
    obtain ⟨m,hm,rfl,hb,hno⟩:=hrel
    have hS:=hS1.later hb
    by_cases hlt:m < LU
    · have hr : ul[m]? = some (ul[m]'(by rw [HLU.out]; exact hlt)):=by simp
      generalize ul[m]'(by rw [HLU.out]; exact hlt)=r at hr
      obtain ⟨bu,ou,rfl,_,g0⟩:=(hR.below hb) m r hr
      have f2:=cell_of_heap hS.bf 2 (.int .i64 R) rfl
      have hno':¬ (0≤r∧r < R)→¬ Ok ⟨8,op,dst,a,b,n,text,r0,r1,r2,r3,r4,r5,to_,els⟩ R Fr L:=fun hn h=>hn (h.uses r (by rw [← HUL.out]; exact List.mem_of_getElem? hr))
      by_cases hr0:r < 0
      · have q4:decide (r < 0)=true:=by simpa using hr0
        have HT:=Lib.hid (Tru.no (hno' (by omega)))
        clear hno' hr0
        go_wp2
        go_quiet (fail)
        go_wp2
        go_returns
        exact ⟨HT.out,below_drewN hS.below _⟩
      · have q4:decide (r < 0)=false:=by simpa using hr0
        by_cases hrR:r < R
        · have q5:decide (r ≥ R)=false:=by simp; omega
          have q6:decide (R≤r)=false:=by simp; omega
          clear hno'
          go_wp2
          go_quiet (fail)
          go_wp2
          exact ⟨⟨m + 1,by omega,by simp,below_drewN hb _,fun j r' hj hr'=>by
            by_cases hjm:j=m
            · subst hjm
              rw [hr] at hr'
              injection hr' with hr'
              subst hr'
              exact ⟨by omega,hrR⟩
            · exact hno j r' (by omega) hr'⟩,by simp [intOf]; omega⟩
        · have q5:decide (r ≥ R)=true:=by simp; omega
          have q6:decide (R≤r)=true:=by simp; omega
          have HT:=Lib.hid (Tru.no (hno' (by omega)))
          clear hno' hr0 hrR
          go_wp2
          go_quiet (fail)
          go_wp2
          go_returns
          exact ⟨HT.out,below_drewN hS.below _⟩
    · have hU:∀ r ∈ Ins.uses ⟨8,op,dst,a,b,n,text,r0,r1,r2,r3,r4,r5,to_,els⟩,0≤r∧r < R:=fun r hr=>by
        rw [← HUL.out] at hr
        obtain ⟨j,hj⟩:=List.mem_iff_getElem?.1 hr
        exact hno j r (by have:=(List.getElem?_eq_some_iff.1 hj).1; rw [HLU.out] at this; omega) hj
      have HU:=Lib.hid hU
      have hge:¬ (m < LU):=hlt
      obtain rfl:m=LU:=by omega
      clear hU hno hb hS1 hb1 hR hus hlt hge hm
      obtain ⟨x0,x1,x2,x3,x4,x5,x6,x7,x8,x9,x10,x11,x12,x13,x14⟩:=Ins.cells hS.bi
      simp only at x0 x1 x2 x3 x4 x5 x6 x7 x8 x9 x10 x11 x12 x13 x14
      clear hLU6
      have hse:Ins.sets ⟨8,op,dst,a,b,n,text,r0,r1,r2,r3,r4,r5,to_,els⟩=dst:=rfl
      rw [hse] at hst
      clear hse
      have hD:((dst != -1)=false∧decide (dst < 0)=true∧(dst == -1)=true)∨((dst != -1)=true∧decide (dst < 0)=false∧(dst == -1)=false):=by simp; omega
      have hdd:(0≤dst∧dst < R)∨((8:Int)=8∧dst=-1∧dst < R):=by omega
      have HDD:=Lib.hid hdd
      have p1:decide (dst ≥ R)=false:=by simp; omega
      have p2:decide (R≤dst)=false:=by simp; omega
      clear hdd
      have HT:=Lib.hid (Tru.no (fun h:Ok ⟨8,op,dst,a,b,n,text,r0,r1,r2,r3,r4,r5,to_,els⟩ R Fr L=>by have h1:=h.call rfl; simp only at h1; exact eN ⟨h1.1,h1.2.1,fun e=>h1.2.2 (size_zero e)⟩))
      have hc:(decide (n < 0)=true)∨(decide (n < 0)=false∧decide (n > 6)=true∧decide (6 < n)=true)∨(decide (n < 0)=false∧decide (n > 6)=false∧decide (6 < n)=false∧((text.size:Int) == 0)=true∧(text.size == 0)=true):=by
        by_cases c1:n < 0
        · exact .inl (by simpa using c1)
        · by_cases c2:6 < n
          · exact .inr (.inl ⟨by simpa using c1,by simpa using c2,by simpa using c2⟩)
          · have c3:text.size=0:=by omega
            exact .inr (.inr ⟨by simpa using c1,by simpa using c2,by simpa using c2,by rw [c3]; rfl,by rw [c3]; rfl⟩)
      clear eN hx
      rcases hD with ⟨d1,d2,d3⟩ | ⟨d1,d2,d3⟩ <;> rcases hc with n1 | ⟨n1,n2,n3⟩ | ⟨n1,n2,n3,n4,n5⟩
      all_goals
        go_wp2_with (first
          | (go_at_call 44; refine (hst _).mono ?_; rintro e w2 ⟨rfl,hb2⟩; have hT0:=hS.later hb2; have ck0:=cell_of_heap hT0.bi 0 (.int .i64 8) rfl; have cd0:=cell_of_heap hT0.bi 2 (.int .i64 dst) rfl; have cn0:=cell_of_heap hT0.bi 5 (.int .i64 n) rfl; have cx0:=cell_of_heap hT0.bi 6 (.string text) rfl; have g0_2:=cell_of_heap hT0.bf 2 (.int .i64 R) rfl; have cs0:=cell_of_heap hT0.bi 2 (.int .i64 dst) rfl; have co0:=cell_of_heap hT0.bo 2 (.int .i64 (-1)) rfl; have fz0:=hT0.free 2; have hT1:=hT0.store (o':=⟨8,0,dst,0,0,0,⟨#[]⟩,0,0,0,0,0,0,0,-1⟩) 2 (.int .i64 dst) rfl; have ck1:=cell_of_heap hT1.bi 0 (.int .i64 8) rfl; have cd1:=cell_of_heap hT1.bi 2 (.int .i64 dst) rfl; have cn1:=cell_of_heap hT1.bi 5 (.int .i64 n) rfl; have cx1:=cell_of_heap hT1.bi 6 (.string text) rfl; have cs1:=cell_of_heap hT1.bi 5 (.int .i64 n) rfl; have co1:=cell_of_heap hT1.bo 5 (.int .i64 0) rfl; have fz1:=hT1.free 5; have hT2:=hT1.store (o':=⟨8,0,dst,0,0,n,⟨#[]⟩,0,0,0,0,0,0,0,-1⟩) 5 (.int .i64 n) rfl; have ck2:=cell_of_heap hT2.bi 0 (.int .i64 8) rfl; have cd2:=cell_of_heap hT2.bi 2 (.int .i64 dst) rfl; have cn2:=cell_of_heap hT2.bi 5 (.int .i64 n) rfl; have cx2:=cell_of_heap hT2.bi 6 (.string text) rfl))
        go_returns
        exact ⟨HT.out,hT2.below⟩
end Go.Proofs.Ythbcdckonaljiaa
namespace Go.Proofs.Ythbcdckonaljiaa
open Go.RowKit Go.BigFrame
set_option maxRecDepth 1000000 in
set_option maxHeartbeats 40000000 in
theorem refright_8m (op dst a b n:Int) (text:ByteArray) (r0 r1 r2 r3 r4 r5 to_ els:Int) (nm:ByteArray) (ps R Fr:Int) (C:Option Addr) (L cap:Nat) (w:World) (hx:¬ ((dst < 0∧dst≠-1)∨R≤dst)) (eN:0≤n∧n≤6∧text.size≠0) (hm1:dst=-1) :
    Calls Try.prog 41 #[Ins.agg ⟨8,op,dst,a,b,n,text,r0,r1,r2,r3,r4,r5,to_,els⟩,funcAgg nm ps R Fr C L cap] w fun e w'=>Tru (Ok ⟨8,op,dst,a,b,n,text,r0,r1,r2,r3,r4,r5,to_,els⟩ R Fr L) e∧Below w.heap.size w w':=by
  have HM1:=Lib.hid hm1
  clear hm1
  obtain ⟨b0,b1,b2,hs3,hB3⟩:=box3 w (Ins.obj ⟨8,op,dst,a,b,n,text,r0,r1,r2,r3,r4,r5,to_,els⟩) (funcObj nm ps R Fr C L cap) (Ins.obj ⟨8,0,-1,0,0,0,⟨#[]⟩,0,0,0,0,0,0,0,-1⟩)
  obtain ⟨W,hW⟩:∃ W,((w.alloc (Ins.obj ⟨8,op,dst,a,b,n,text,r0,r1,r2,r3,r4,r5,to_,els⟩)).alloc (funcObj nm ps R Fr C L cap)).alloc (Ins.obj ⟨8,0,-1,0,0,0,⟨#[]⟩,0,0,0,0,0,0,0,-1⟩)=W:=⟨_,rfl⟩
  rw [hW] at b0 b1 b2 hs3 hB3
  have hS0:RSt w W ⟨8,op,dst,a,b,n,text,r0,r1,r2,r3,r4,r5,to_,els⟩ ⟨8,0,-1,0,0,0,⟨#[]⟩,0,0,0,0,0,0,0,-1⟩ nm ps R Fr C L cap:=⟨b0,b1,b2,hB3⟩
  obtain ⟨x0,x1,x2,x3,x4,x5,x6,x7,x8,x9,x10,x11,x12,x13,x14⟩:=Ins.cells b0
  simp only [Ins.obj,funcObj,Ins.agg,funcAgg] at hW x0 x1 x2 x3 x4 x5 x6 x7 x8 x9 x10 x11 x12 x13 x14 ⊢
  have hus:=refUses_any ⟨8,op,dst,a,b,n,text,r0,r1,r2,r3,r4,r5,to_,els⟩ W
  have hst:=fun W=>refSets_any ⟨8,op,dst,a,b,n,text,r0,r1,r2,r3,r4,r5,to_,els⟩ W
  obtain ⟨ul,hul⟩:∃ ul,ul=Ins.uses ⟨8,op,dst,a,b,n,text,r0,r1,r2,r3,r4,r5,to_,els⟩:=⟨_,rfl⟩
  simp only [Ins.agg] at hus hst
  rw [← hul] at hus
  have HUL:=Lib.hid hul
  clear hul b0 b1 b2 hs3 hB3
  obtain ⟨LU,hLU⟩:∃ LU,ul.length=LU:=⟨_,rfl⟩
  have hLU6:LU≤8:=by
    rw [← hLU,HUL.out]
    exact Ins.uses_len _
  have HLU:=Lib.hid hLU
  clear hLU
  go_enter Try.func41,Try.ntmps41
  go_wp2_with (first
    | (go_at_call 60; refine hus.mono ?_; rintro e w1 ⟨⟨A,cA,rfl,hR⟩,hb1⟩; rw [HLU.out]))
  have hS1:=hS0.later hb1
  clear x0 x1 x2 x3 x4 x5 x6 x7 x8 x9 x10 x11 x12 x13 x14 hW hS0
  go_loopw [7] (fun ix w8=>∃ m:Nat,m≤LU∧ix = .int .i64 m∧Below w1.heap.size w1 w8∧∀ (j:Nat) r,j < m→ul[j]? = some r→0≤r∧r < R) (fun ix _=>LU - (intOf ix).toNat)
  case atStart=>exact ⟨0,by omega,rfl,Below.refl _ _,fun j r hj=>by omega⟩
  case round =>
    obtain ⟨m,hm,rfl,hb,hno⟩:=hrel
    have hS:=hS1.later hb
    by_cases hlt:m < LU
    · have hr : ul[m]? = some (ul[m]'(by rw [HLU.out]; exact hlt)):=by simp
      generalize ul[m]'(by rw [HLU.out]; exact hlt)=r at hr
      obtain ⟨bu,ou,rfl,_,g0⟩:=(hR.below hb) m r hr
      have f2:=cell_of_heap hS.bf 2 (.int .i64 R) rfl
      have hno':¬ (0≤r∧r < R)→¬ Ok ⟨8,op,dst,a,b,n,text,r0,r1,r2,r3,r4,r5,to_,els⟩ R Fr L:=fun hn h=>hn (h.uses r (by rw [← HUL.out]; exact List.mem_of_getElem? hr))
      by_cases hr0:r < 0
      · have q4:decide (r < 0)=true:=by simpa using hr0
        have HT:=Lib.hid (Tru.no (hno' (by omega)))
        clear hno' hr0
        go_wp2
        go_quiet (fail)
        go_wp2
        go_returns
        exact ⟨HT.out,below_drewN hS.below _⟩
      · have q4:decide (r < 0)=false:=by simpa using hr0
        by_cases hrR:r < R
        · have q5:decide (r ≥ R)=false:=by simp; omega
          have q6:decide (R≤r)=false:=by simp; omega
          clear hno'
          go_wp2
          go_quiet (fail)
          go_wp2
          exact ⟨⟨m + 1,by omega,by simp,below_drewN hb _,fun j r' hj hr'=>by
            by_cases hjm:j=m
            · subst hjm
              rw [hr] at hr'
              injection hr' with hr'
              subst hr'
              exact ⟨by omega,hrR⟩
            · exact hno j r' (by omega) hr'⟩,by simp [intOf]; omega⟩
        · have q5:decide (r ≥ R)=true:=by simp; omega
          have q6:decide (R≤r)=true:=by simp; omega
          have HT:=Lib.hid (Tru.no (hno' (by omega)))
          clear hno' hr0 hrR
          go_wp2
          go_quiet (fail)
          go_wp2
          go_returns
          exact ⟨HT.out,below_drewN hS.below _⟩
    · have hU:∀ r ∈ Ins.uses ⟨8,op,dst,a,b,n,text,r0,r1,r2,r3,r4,r5,to_,els⟩,0≤r∧r < R:=fun r hr=>by
        rw [← HUL.out] at hr
        obtain ⟨j,hj⟩:=List.mem_iff_getElem?.1 hr
        exact hno j r (by have:=(List.getElem?_eq_some_iff.1 hj).1; rw [HLU.out] at this; omega) hj
      have HU:=Lib.hid hU
      have hge:¬ (m < LU):=hlt
      obtain rfl:m=LU:=by omega
      clear hU hno hb hS1 hb1 hR hus hlt hge hm
      obtain ⟨x0,x1,x2,x3,x4,x5,x6,x7,x8,x9,x10,x11,x12,x13,x14⟩:=Ins.cells hS.bi
      simp only at x0 x1 x2 x3 x4 x5 x6 x7 x8 x9 x10 x11 x12 x13 x14
      clear hLU6
      have hse:Ins.sets ⟨8,op,dst,a,b,n,text,r0,r1,r2,r3,r4,r5,to_,els⟩=dst:=rfl
      rw [hse] at hst
      clear hse
      have hD:((dst != -1)=false∧decide (dst < 0)=true∧(dst == -1)=true)∨((dst != -1)=true∧decide (dst < 0)=false∧(dst == -1)=false):=by simp; omega
      have hdd:(0≤dst∧dst < R)∨((8:Int)=8∧dst=-1∧dst < R):=by omega
      have HDD:=Lib.hid hdd
      have p1:decide (dst ≥ R)=false:=by simp; omega
      have p2:decide (R≤dst)=false:=by simp; omega
      clear hdd
      have n1:decide (n < 0)=false:=by simp; omega
      have n2:decide (n > 6)=false:=by simp; omega
      have n3:decide (6 < n)=false:=by simp; omega
      have n4:((text.size:Int) == 0)=false:=by rw [beq_eq_false_iff_ne]; omega
      have n5:(text.size == 0)=false:=by rw [beq_eq_false_iff_ne]; omega
      obtain ⟨N,rfl⟩:∃ N:Nat,n=N:=⟨n.toNat,by omega⟩
      have hN6:N≤6:=by omega
      have HOK:Hid (Ins.mk 8 op dst a b (N:Int) text r0 r1 r2 r3 r4 r5 to_ els=Ins.mask ⟨8,op,dst,a,b,(N:Int),text,r0,r1,r2,r3,r4,r5,to_,els⟩→Ok ⟨8,op,dst,a,b,(N:Int),text,r0,r1,r2,r3,r4,r5,to_,els⟩ R Fr L):=Lib.hid (fun hm=>⟨⟨by simp only; omega,by simp only; omega⟩,HU.out,fun _=>HDD.out,fun h=>by simp at h,fun h=>by simp at h,fun _=>⟨by simp only; omega,by simp only; omega,fun e=>eN.2.2 (by simp only at e; rw [e]; rfl)⟩,fun h=>by simp at h,fun h=>by simp at h,fun h=>by simp at h,fun h=>by simp at h,hm⟩)
      have HM:Hid (Ins.mask ⟨8,op,dst,a,b,(N:Int),text,r0,r1,r2,r3,r4,r5,to_,els⟩=fillA ⟨8,op,dst,a,b,(N:Int),text,r0,r1,r2,r3,r4,r5,to_,els⟩ N):=Lib.hid (by simp [Ins.mask,fillA,kA,kB,kS])
      clear eN hx
      obtain ⟨d1,d2,d3⟩:=hD.resolve_right (fun h=>by have h1:=h.1; have h2:=HM1.out; simp at h1; omega)
      clear hD
      go_wp2_with (first
        | (go_at_call 44; refine (hst _).mono ?_; rintro e w2 ⟨rfl,hb2⟩; have hT0:=hS.later hb2; have ck0:=cell_of_heap hT0.bi 0 (.int .i64 8) rfl; have cd0:=cell_of_heap hT0.bi 2 (.int .i64 dst) rfl; have cn0:=cell_of_heap hT0.bi 5 (.int .i64 (N:Int)) rfl; have cx0:=cell_of_heap hT0.bi 6 (.string text) rfl; have g0_2:=cell_of_heap hT0.bf 2 (.int .i64 R) rfl; have cs0:=cell_of_heap hT0.bi 2 (.int .i64 dst) rfl; have co0:=cell_of_heap hT0.bo 2 (.int .i64 (-1)) rfl; have fz0:=hT0.free 2; have hT1:=hT0.store (o':=⟨8,0,dst,0,0,0,⟨#[]⟩,0,0,0,0,0,0,0,-1⟩) 2 (.int .i64 dst) rfl; have ck1:=cell_of_heap hT1.bi 0 (.int .i64 8) rfl; have cd1:=cell_of_heap hT1.bi 2 (.int .i64 dst) rfl; have cn1:=cell_of_heap hT1.bi 5 (.int .i64 (N:Int)) rfl; have cx1:=cell_of_heap hT1.bi 6 (.string text) rfl; have cs1:=cell_of_heap hT1.bi 5 (.int .i64 (N:Int)) rfl; have co1:=cell_of_heap hT1.bo 5 (.int .i64 0) rfl; have fz1:=hT1.free 5; have hT2:=hT1.store (o':=⟨8,0,dst,0,0,(N:Int),⟨#[]⟩,0,0,0,0,0,0,0,-1⟩) 5 (.int .i64 (N:Int)) rfl; have ck2:=cell_of_heap hT2.bi 0 (.int .i64 8) rfl; have cd2:=cell_of_heap hT2.bi 2 (.int .i64 dst) rfl; have cn2:=cell_of_heap hT2.bi 5 (.int .i64 (N:Int)) rfl; have cx2:=cell_of_heap hT2.bi 6 (.string text) rfl; have cs2:=cell_of_heap hT2.bi 6 (.string text) rfl; have co2:=cell_of_heap hT2.bo 6 (.string ⟨#[]⟩) rfl; have fz2:=hT2.free 6; have hT3:=hT2.store (o':=⟨8,0,dst,0,0,(N:Int),text,0,0,0,0,0,0,0,-1⟩) 6 (.string text) rfl; have ck3:=cell_of_heap hT3.bi 0 (.int .i64 8) rfl; have cd3:=cell_of_heap hT3.bi 2 (.int .i64 dst) rfl; have cn3:=cell_of_heap hT3.bi 5 (.int .i64 (N:Int)) rfl; have cx3:=cell_of_heap hT3.bi 6 (.string text) rfl))
      have hF0:RSt w _ ⟨8,op,dst,a,b,(N:Int),text,r0,r1,r2,r3,r4,r5,to_,els⟩ (fillA ⟨8,op,dst,a,b,(N:Int),text,r0,r1,r2,r3,r4,r5,to_,els⟩ ((0:Nat):Int)) nm ps R Fr C L cap:=hT3
      clear hT0 hT1 hT2 hT3 hst
      go_loopw [9] (fun ix w8=>∃ m:Nat,m≤N∧ix = .int .i64 m∧RSt w w8 ⟨8,op,dst,a,b,(N:Int),text,r0,r1,r2,r3,r4,r5,to_,els⟩ (fillA ⟨8,op,dst,a,b,(N:Int),text,r0,r1,r2,r3,r4,r5,to_,els⟩ (m:Int)) nm ps R Fr C L cap) (fun ix _=>N - (intOf ix).toNat)
      case atStart=>exact ⟨0,by omega,rfl,hF0⟩
      case round =>
        obtain ⟨j,hj,rfl,hF⟩:=hrel
        have cn:=cell_of_heap hF.bi 5 (.int .i64 (N:Int)) rfl
        by_cases hlt:j < N
        · have hj6:j=0∨j=1∨j=2∨j=3∨j=4∨j=5:=by omega
          rcases hj6 with rfl | rfl | rfl | rfl | rfl | rfl
          · have ca:=cell_of_heap hF.bi 7 (.int .i64 r0) rfl
            have co:=cell_of_heap hF.bo 7 (.int .i64 0) rfl
            have cf:=hF.free 7
            have hF2:=hF.store (o':=fillA ⟨8,op,dst,a,b,(N:Int),text,r0,r1,r2,r3,r4,r5,to_,els⟩ ((1:Nat):Int)) 7 (.int .i64 r0) rfl
            have qj:decide (((0:Nat):Int) < (N:Int))=true:=by simp; omega
            go_wp2
            exact ⟨⟨1,by omega,by simp,hF2⟩,by simp [intOf]; omega⟩
          · have ca:=cell_of_heap hF.bi 8 (.int .i64 r1) rfl
            have co:=cell_of_heap hF.bo 8 (.int .i64 0) rfl
            have cf:=hF.free 8
            have hF2:=hF.store (o':=fillA ⟨8,op,dst,a,b,(N:Int),text,r0,r1,r2,r3,r4,r5,to_,els⟩ ((2:Nat):Int)) 8 (.int .i64 r1) rfl
            have qj:decide (((1:Nat):Int) < (N:Int))=true:=by simp; omega
            go_wp2
            exact ⟨⟨2,by omega,by simp,hF2⟩,by simp [intOf]; omega⟩
          · have ca:=cell_of_heap hF.bi 9 (.int .i64 r2) rfl
            have co:=cell_of_heap hF.bo 9 (.int .i64 0) rfl
            have cf:=hF.free 9
            have hF2:=hF.store (o':=fillA ⟨8,op,dst,a,b,(N:Int),text,r0,r1,r2,r3,r4,r5,to_,els⟩ ((3:Nat):Int)) 9 (.int .i64 r2) rfl
            have qj:decide (((2:Nat):Int) < (N:Int))=true:=by simp; omega
            go_wp2
            exact ⟨⟨3,by omega,by simp,hF2⟩,by simp [intOf]; omega⟩
          · have ca:=cell_of_heap hF.bi 10 (.int .i64 r3) rfl
            have co:=cell_of_heap hF.bo 10 (.int .i64 0) rfl
            have cf:=hF.free 10
            have hF2:=hF.store (o':=fillA ⟨8,op,dst,a,b,(N:Int),text,r0,r1,r2,r3,r4,r5,to_,els⟩ ((4:Nat):Int)) 10 (.int .i64 r3) rfl
            have qj:decide (((3:Nat):Int) < (N:Int))=true:=by simp; omega
            go_wp2
            exact ⟨⟨4,by omega,by simp,hF2⟩,by simp [intOf]; omega⟩
          · have ca:=cell_of_heap hF.bi 11 (.int .i64 r4) rfl
            have co:=cell_of_heap hF.bo 11 (.int .i64 0) rfl
            have cf:=hF.free 11
            have hF2:=hF.store (o':=fillA ⟨8,op,dst,a,b,(N:Int),text,r0,r1,r2,r3,r4,r5,to_,els⟩ ((5:Nat):Int)) 11 (.int .i64 r4) rfl
            have qj:decide (((4:Nat):Int) < (N:Int))=true:=by simp; omega
            go_wp2
            exact ⟨⟨5,by omega,by simp,hF2⟩,by simp [intOf]; omega⟩
          · have ca:=cell_of_heap hF.bi 12 (.int .i64 r5) rfl
            have co:=cell_of_heap hF.bo 12 (.int .i64 0) rfl
            have cf:=hF.free 12
            have hF2:=hF.store (o':=fillA ⟨8,op,dst,a,b,(N:Int),text,r0,r1,r2,r3,r4,r5,to_,els⟩ ((6:Nat):Int)) 12 (.int .i64 r5) rfl
            have qj:decide (((5:Nat):Int) < (N:Int))=true:=by simp; omega
            go_wp2
            exact ⟨⟨6,by omega,by simp,hF2⟩,by simp [intOf]; omega⟩
        · obtain rfl:j=N:=by omega
          have hM:=HM.out
          generalize fillA ⟨8,op,dst,a,b,(j:Int),text,r0,r1,r2,r3,r4,r5,to_,els⟩ (j:Int)=o at hF hM
          obtain ⟨o0,o1,o2,o3,o4,o5,o6,o7,o8,o9,o10,o11,o12,o13,o14⟩:=o
          have HM2:=Lib.hid hM
          have heq:=fun w=>eql_ins ⟨8,op,dst,a,b,(j:Int),text,r0,r1,r2,r3,r4,r5,to_,els⟩ ⟨o0,o1,o2,o3,o4,o5,o6,o7,o8,o9,o10,o11,o12,o13,o14⟩ w
          obtain ⟨be,hbe⟩:∃ be,be=decide (Ins.mk 8 op dst a b (j:Int) text r0 r1 r2 r3 r4 r5 to_ els=⟨o0,o1,o2,o3,o4,o5,o6,o7,o8,o9,o10,o11,o12,o13,o14⟩):=⟨_,rfl⟩
          rw [← hbe] at heq
          have HBE:=Lib.hid hbe
          clear hbe hM HM hlt hj
          simp only [Ins.agg] at heq
          obtain ⟨c0,c1,c2,c3,c4,c5,c6,c7,c8,c9,c10,c11,c12,c13,c14⟩:=Ins.cells hF.bi
          simp only at c0 c1 c2 c3 c4 c5 c6 c7 c8 c9 c10 c11 c12 c13 c14
          obtain ⟨y0,y1,y2,y3,y4,y5,y6,y7,y8,y9,y10,y11,y12,y13,y14⟩:=Ins.cells hF.bo
          simp only at y0 y1 y2 y3 y4 y5 y6 y7 y8 y9 y10 y11 y12 y13 y14
          go_wp2
          go_returns
          exact ⟨Ok.tru HM2.out HOK.out HBE.out,hF.below⟩
end Go.Proofs.Ythbcdckonaljiaa
namespace Go.Proofs.Ythbcdckonaljiaa
open Go.RowKit Go.BigFrame
set_option maxRecDepth 1000000 in
set_option maxHeartbeats 40000000 in
theorem refright_8p (op dst a b n:Int) (text:ByteArray) (r0 r1 r2 r3 r4 r5 to_ els:Int) (nm:ByteArray) (ps R Fr:Int) (C:Option Addr) (L cap:Nat) (w:World) (hx:¬ ((dst < 0∧dst≠-1)∨R≤dst)) (eN:0≤n∧n≤6∧text.size≠0) (hm1:¬ dst=-1) :
    Calls Try.prog 41 #[Ins.agg ⟨8,op,dst,a,b,n,text,r0,r1,r2,r3,r4,r5,to_,els⟩,funcAgg nm ps R Fr C L cap] w fun e w'=>Tru (Ok ⟨8,op,dst,a,b,n,text,r0,r1,r2,r3,r4,r5,to_,els⟩ R Fr L) e∧Below w.heap.size w w':=by
  have HM1:=Lib.hid hm1
  clear hm1
  obtain ⟨b0,b1,b2,hs3,hB3⟩:=box3 w (Ins.obj ⟨8,op,dst,a,b,n,text,r0,r1,r2,r3,r4,r5,to_,els⟩) (funcObj nm ps R Fr C L cap) (Ins.obj ⟨8,0,-1,0,0,0,⟨#[]⟩,0,0,0,0,0,0,0,-1⟩)
  obtain ⟨W,hW⟩:∃ W,((w.alloc (Ins.obj ⟨8,op,dst,a,b,n,text,r0,r1,r2,r3,r4,r5,to_,els⟩)).alloc (funcObj nm ps R Fr C L cap)).alloc (Ins.obj ⟨8,0,-1,0,0,0,⟨#[]⟩,0,0,0,0,0,0,0,-1⟩)=W:=⟨_,rfl⟩
  rw [hW] at b0 b1 b2 hs3 hB3
  have hS0:RSt w W ⟨8,op,dst,a,b,n,text,r0,r1,r2,r3,r4,r5,to_,els⟩ ⟨8,0,-1,0,0,0,⟨#[]⟩,0,0,0,0,0,0,0,-1⟩ nm ps R Fr C L cap:=⟨b0,b1,b2,hB3⟩
  obtain ⟨x0,x1,x2,x3,x4,x5,x6,x7,x8,x9,x10,x11,x12,x13,x14⟩:=Ins.cells b0
  simp only [Ins.obj,funcObj,Ins.agg,funcAgg] at hW x0 x1 x2 x3 x4 x5 x6 x7 x8 x9 x10 x11 x12 x13 x14 ⊢
  have hus:=refUses_any ⟨8,op,dst,a,b,n,text,r0,r1,r2,r3,r4,r5,to_,els⟩ W
  have hst:=fun W=>refSets_any ⟨8,op,dst,a,b,n,text,r0,r1,r2,r3,r4,r5,to_,els⟩ W
  obtain ⟨ul,hul⟩:∃ ul,ul=Ins.uses ⟨8,op,dst,a,b,n,text,r0,r1,r2,r3,r4,r5,to_,els⟩:=⟨_,rfl⟩
  simp only [Ins.agg] at hus hst
  rw [← hul] at hus
  have HUL:=Lib.hid hul
  clear hul b0 b1 b2 hs3 hB3
  obtain ⟨LU,hLU⟩:∃ LU,ul.length=LU:=⟨_,rfl⟩
  have hLU6:LU≤8:=by
    rw [← hLU,HUL.out]
    exact Ins.uses_len _
  have HLU:=Lib.hid hLU
  clear hLU
  go_enter Try.func41,Try.ntmps41
  go_wp2_with (first
    | (go_at_call 60; refine hus.mono ?_; rintro e w1 ⟨⟨A,cA,rfl,hR⟩,hb1⟩; rw [HLU.out]))
  have hS1:=hS0.later hb1
  clear x0 x1 x2 x3 x4 x5 x6 x7 x8 x9 x10 x11 x12 x13 x14 hW hS0
  go_loopw [7] (fun ix w8=>∃ m:Nat,m≤LU∧ix = .int .i64 m∧Below w1.heap.size w1 w8∧∀ (j:Nat) r,j < m→ul[j]? = some r→0≤r∧r < R) (fun ix _=>LU - (intOf ix).toNat)
  case atStart=>exact ⟨0,by omega,rfl,Below.refl _ _,fun j r hj=>by omega⟩
  case round =>
    obtain ⟨m,hm,rfl,hb,hno⟩:=hrel
    have hS:=hS1.later hb
    by_cases hlt:m < LU
    · have hr : ul[m]? = some (ul[m]'(by rw [HLU.out]; exact hlt)):=by simp
      generalize ul[m]'(by rw [HLU.out]; exact hlt)=r at hr
      obtain ⟨bu,ou,rfl,_,g0⟩:=(hR.below hb) m r hr
      have f2:=cell_of_heap hS.bf 2 (.int .i64 R) rfl
      have hno':¬ (0≤r∧r < R)→¬ Ok ⟨8,op,dst,a,b,n,text,r0,r1,r2,r3,r4,r5,to_,els⟩ R Fr L:=fun hn h=>hn (h.uses r (by rw [← HUL.out]; exact List.mem_of_getElem? hr))
      by_cases hr0:r < 0
      · have q4:decide (r < 0)=true:=by simpa using hr0
        have HT:=Lib.hid (Tru.no (hno' (by omega)))
        clear hno' hr0
        go_wp2
        go_quiet (fail)
        go_wp2
        go_returns
        exact ⟨HT.out,below_drewN hS.below _⟩
      · have q4:decide (r < 0)=false:=by simpa using hr0
        by_cases hrR:r < R
        · have q5:decide (r ≥ R)=false:=by simp; omega
          have q6:decide (R≤r)=false:=by simp; omega
          clear hno'
          go_wp2
          go_quiet (fail)
          go_wp2
          exact ⟨⟨m + 1,by omega,by simp,below_drewN hb _,fun j r' hj hr'=>by
            by_cases hjm:j=m
            · subst hjm
              rw [hr] at hr'
              injection hr' with hr'
              subst hr'
              exact ⟨by omega,hrR⟩
            · exact hno j r' (by omega) hr'⟩,by simp [intOf]; omega⟩
        · have q5:decide (r ≥ R)=true:=by simp; omega
          have q6:decide (R≤r)=true:=by simp; omega
          have HT:=Lib.hid (Tru.no (hno' (by omega)))
          clear hno' hr0 hrR
          go_wp2
          go_quiet (fail)
          go_wp2
          go_returns
          exact ⟨HT.out,below_drewN hS.below _⟩
    · have hU:∀ r ∈ Ins.uses ⟨8,op,dst,a,b,n,text,r0,r1,r2,r3,r4,r5,to_,els⟩,0≤r∧r < R:=fun r hr=>by
        rw [← HUL.out] at hr
        obtain ⟨j,hj⟩:=List.mem_iff_getElem?.1 hr
        exact hno j r (by have:=(List.getElem?_eq_some_iff.1 hj).1; rw [HLU.out] at this; omega) hj
      have HU:=Lib.hid hU
      have hge:¬ (m < LU):=hlt
      obtain rfl:m=LU:=by omega
      clear hU hno hb hS1 hb1 hR hus hlt hge hm
      obtain ⟨x0,x1,x2,x3,x4,x5,x6,x7,x8,x9,x10,x11,x12,x13,x14⟩:=Ins.cells hS.bi
      simp only at x0 x1 x2 x3 x4 x5 x6 x7 x8 x9 x10 x11 x12 x13 x14
      clear hLU6
      have hse:Ins.sets ⟨8,op,dst,a,b,n,text,r0,r1,r2,r3,r4,r5,to_,els⟩=dst:=rfl
      rw [hse] at hst
      clear hse
      have hD:((dst != -1)=false∧decide (dst < 0)=true∧(dst == -1)=true)∨((dst != -1)=true∧decide (dst < 0)=false∧(dst == -1)=false):=by simp; omega
      have hdd:(0≤dst∧dst < R)∨((8:Int)=8∧dst=-1∧dst < R):=by omega
      have HDD:=Lib.hid hdd
      have p1:decide (dst ≥ R)=false:=by simp; omega
      have p2:decide (R≤dst)=false:=by simp; omega
      clear hdd
      have n1:decide (n < 0)=false:=by simp; omega
      have n2:decide (n > 6)=false:=by simp; omega
      have n3:decide (6 < n)=false:=by simp; omega
      have n4:((text.size:Int) == 0)=false:=by rw [beq_eq_false_iff_ne]; omega
      have n5:(text.size == 0)=false:=by rw [beq_eq_false_iff_ne]; omega
      obtain ⟨N,rfl⟩:∃ N:Nat,n=N:=⟨n.toNat,by omega⟩
      have hN6:N≤6:=by omega
      have HOK:Hid (Ins.mk 8 op dst a b (N:Int) text r0 r1 r2 r3 r4 r5 to_ els=Ins.mask ⟨8,op,dst,a,b,(N:Int),text,r0,r1,r2,r3,r4,r5,to_,els⟩→Ok ⟨8,op,dst,a,b,(N:Int),text,r0,r1,r2,r3,r4,r5,to_,els⟩ R Fr L):=Lib.hid (fun hm=>⟨⟨by simp only; omega,by simp only; omega⟩,HU.out,fun _=>HDD.out,fun h=>by simp at h,fun h=>by simp at h,fun _=>⟨by simp only; omega,by simp only; omega,fun e=>eN.2.2 (by simp only at e; rw [e]; rfl)⟩,fun h=>by simp at h,fun h=>by simp at h,fun h=>by simp at h,fun h=>by simp at h,hm⟩)
      have HM:Hid (Ins.mask ⟨8,op,dst,a,b,(N:Int),text,r0,r1,r2,r3,r4,r5,to_,els⟩=fillA ⟨8,op,dst,a,b,(N:Int),text,r0,r1,r2,r3,r4,r5,to_,els⟩ N):=Lib.hid (by simp [Ins.mask,fillA,kA,kB,kS])
      clear eN hx
      obtain ⟨d1,d2,d3⟩:=hD.resolve_left (fun h=>by have h1:=h.1; have h2:=HM1.out; simp at h1; omega)
      clear hD
      go_wp2_with (first
        | (go_at_call 44; refine (hst _).mono ?_; rintro e w2 ⟨rfl,hb2⟩; have hT0:=hS.later hb2; have ck0:=cell_of_heap hT0.bi 0 (.int .i64 8) rfl; have cd0:=cell_of_heap hT0.bi 2 (.int .i64 dst) rfl; have cn0:=cell_of_heap hT0.bi 5 (.int .i64 (N:Int)) rfl; have cx0:=cell_of_heap hT0.bi 6 (.string text) rfl; have g0_2:=cell_of_heap hT0.bf 2 (.int .i64 R) rfl; have cs0:=cell_of_heap hT0.bi 2 (.int .i64 dst) rfl; have co0:=cell_of_heap hT0.bo 2 (.int .i64 (-1)) rfl; have fz0:=hT0.free 2; have hT1:=hT0.store (o':=⟨8,0,dst,0,0,0,⟨#[]⟩,0,0,0,0,0,0,0,-1⟩) 2 (.int .i64 dst) rfl; have ck1:=cell_of_heap hT1.bi 0 (.int .i64 8) rfl; have cd1:=cell_of_heap hT1.bi 2 (.int .i64 dst) rfl; have cn1:=cell_of_heap hT1.bi 5 (.int .i64 (N:Int)) rfl; have cx1:=cell_of_heap hT1.bi 6 (.string text) rfl; have cs1:=cell_of_heap hT1.bi 5 (.int .i64 (N:Int)) rfl; have co1:=cell_of_heap hT1.bo 5 (.int .i64 0) rfl; have fz1:=hT1.free 5; have hT2:=hT1.store (o':=⟨8,0,dst,0,0,(N:Int),⟨#[]⟩,0,0,0,0,0,0,0,-1⟩) 5 (.int .i64 (N:Int)) rfl; have ck2:=cell_of_heap hT2.bi 0 (.int .i64 8) rfl; have cd2:=cell_of_heap hT2.bi 2 (.int .i64 dst) rfl; have cn2:=cell_of_heap hT2.bi 5 (.int .i64 (N:Int)) rfl; have cx2:=cell_of_heap hT2.bi 6 (.string text) rfl; have cs2:=cell_of_heap hT2.bi 6 (.string text) rfl; have co2:=cell_of_heap hT2.bo 6 (.string ⟨#[]⟩) rfl; have fz2:=hT2.free 6; have hT3:=hT2.store (o':=⟨8,0,dst,0,0,(N:Int),text,0,0,0,0,0,0,0,-1⟩) 6 (.string text) rfl; have ck3:=cell_of_heap hT3.bi 0 (.int .i64 8) rfl; have cd3:=cell_of_heap hT3.bi 2 (.int .i64 dst) rfl; have cn3:=cell_of_heap hT3.bi 5 (.int .i64 (N:Int)) rfl; have cx3:=cell_of_heap hT3.bi 6 (.string text) rfl))
      have hF0:RSt w _ ⟨8,op,dst,a,b,(N:Int),text,r0,r1,r2,r3,r4,r5,to_,els⟩ (fillA ⟨8,op,dst,a,b,(N:Int),text,r0,r1,r2,r3,r4,r5,to_,els⟩ ((0:Nat):Int)) nm ps R Fr C L cap:=hT3
      clear hT0 hT1 hT2 hT3 hst
      go_loopw [9] (fun ix w8=>∃ m:Nat,m≤N∧ix = .int .i64 m∧RSt w w8 ⟨8,op,dst,a,b,(N:Int),text,r0,r1,r2,r3,r4,r5,to_,els⟩ (fillA ⟨8,op,dst,a,b,(N:Int),text,r0,r1,r2,r3,r4,r5,to_,els⟩ (m:Int)) nm ps R Fr C L cap) (fun ix _=>N - (intOf ix).toNat)
      case atStart=>exact ⟨0,by omega,rfl,hF0⟩
      case round =>
        obtain ⟨j,hj,rfl,hF⟩:=hrel
        have cn:=cell_of_heap hF.bi 5 (.int .i64 (N:Int)) rfl
        by_cases hlt:j < N
        · have hj6:j=0∨j=1∨j=2∨j=3∨j=4∨j=5:=by omega
          rcases hj6 with rfl | rfl | rfl | rfl | rfl | rfl
          · have ca:=cell_of_heap hF.bi 7 (.int .i64 r0) rfl
            have co:=cell_of_heap hF.bo 7 (.int .i64 0) rfl
            have cf:=hF.free 7
            have hF2:=hF.store (o':=fillA ⟨8,op,dst,a,b,(N:Int),text,r0,r1,r2,r3,r4,r5,to_,els⟩ ((1:Nat):Int)) 7 (.int .i64 r0) rfl
            have qj:decide (((0:Nat):Int) < (N:Int))=true:=by simp; omega
            go_wp2
            exact ⟨⟨1,by omega,by simp,hF2⟩,by simp [intOf]; omega⟩
          · have ca:=cell_of_heap hF.bi 8 (.int .i64 r1) rfl
            have co:=cell_of_heap hF.bo 8 (.int .i64 0) rfl
            have cf:=hF.free 8
            have hF2:=hF.store (o':=fillA ⟨8,op,dst,a,b,(N:Int),text,r0,r1,r2,r3,r4,r5,to_,els⟩ ((2:Nat):Int)) 8 (.int .i64 r1) rfl
            have qj:decide (((1:Nat):Int) < (N:Int))=true:=by simp; omega
            go_wp2
            exact ⟨⟨2,by omega,by simp,hF2⟩,by simp [intOf]; omega⟩
          · have ca:=cell_of_heap hF.bi 9 (.int .i64 r2) rfl
            have co:=cell_of_heap hF.bo 9 (.int .i64 0) rfl
            have cf:=hF.free 9
            have hF2:=hF.store (o':=fillA ⟨8,op,dst,a,b,(N:Int),text,r0,r1,r2,r3,r4,r5,to_,els⟩ ((3:Nat):Int)) 9 (.int .i64 r2) rfl
            have qj:decide (((2:Nat):Int) < (N:Int))=true:=by simp; omega
            go_wp2
            exact ⟨⟨3,by omega,by simp,hF2⟩,by simp [intOf]; omega⟩
          · have ca:=cell_of_heap hF.bi 10 (.int .i64 r3) rfl
            have co:=cell_of_heap hF.bo 10 (.int .i64 0) rfl
            have cf:=hF.free 10
            have hF2:=hF.store (o':=fillA ⟨8,op,dst,a,b,(N:Int),text,r0,r1,r2,r3,r4,r5,to_,els⟩ ((4:Nat):Int)) 10 (.int .i64 r3) rfl
            have qj:decide (((3:Nat):Int) < (N:Int))=true:=by simp; omega
            go_wp2
            exact ⟨⟨4,by omega,by simp,hF2⟩,by simp [intOf]; omega⟩
          · have ca:=cell_of_heap hF.bi 11 (.int .i64 r4) rfl
            have co:=cell_of_heap hF.bo 11 (.int .i64 0) rfl
            have cf:=hF.free 11
            have hF2:=hF.store (o':=fillA ⟨8,op,dst,a,b,(N:Int),text,r0,r1,r2,r3,r4,r5,to_,els⟩ ((5:Nat):Int)) 11 (.int .i64 r4) rfl
            have qj:decide (((4:Nat):Int) < (N:Int))=true:=by simp; omega
            go_wp2
            exact ⟨⟨5,by omega,by simp,hF2⟩,by simp [intOf]; omega⟩
          · have ca:=cell_of_heap hF.bi 12 (.int .i64 r5) rfl
            have co:=cell_of_heap hF.bo 12 (.int .i64 0) rfl
            have cf:=hF.free 12
            have hF2:=hF.store (o':=fillA ⟨8,op,dst,a,b,(N:Int),text,r0,r1,r2,r3,r4,r5,to_,els⟩ ((6:Nat):Int)) 12 (.int .i64 r5) rfl
            have qj:decide (((5:Nat):Int) < (N:Int))=true:=by simp; omega
            go_wp2
            exact ⟨⟨6,by omega,by simp,hF2⟩,by simp [intOf]; omega⟩
        · obtain rfl:j=N:=by omega
          have hM:=HM.out
          generalize fillA ⟨8,op,dst,a,b,(j:Int),text,r0,r1,r2,r3,r4,r5,to_,els⟩ (j:Int)=o at hF hM
          obtain ⟨o0,o1,o2,o3,o4,o5,o6,o7,o8,o9,o10,o11,o12,o13,o14⟩:=o
          have HM2:=Lib.hid hM
          have heq:=fun w=>eql_ins ⟨8,op,dst,a,b,(j:Int),text,r0,r1,r2,r3,r4,r5,to_,els⟩ ⟨o0,o1,o2,o3,o4,o5,o6,o7,o8,o9,o10,o11,o12,o13,o14⟩ w
          obtain ⟨be,hbe⟩:∃ be,be=decide (Ins.mk 8 op dst a b (j:Int) text r0 r1 r2 r3 r4 r5 to_ els=⟨o0,o1,o2,o3,o4,o5,o6,o7,o8,o9,o10,o11,o12,o13,o14⟩):=⟨_,rfl⟩
          rw [← hbe] at heq
          have HBE:=Lib.hid hbe
          clear hbe hM HM hlt hj
          simp only [Ins.agg] at heq
          obtain ⟨c0,c1,c2,c3,c4,c5,c6,c7,c8,c9,c10,c11,c12,c13,c14⟩:=Ins.cells hF.bi
          simp only at c0 c1 c2 c3 c4 c5 c6 c7 c8 c9 c10 c11 c12 c13 c14
          obtain ⟨y0,y1,y2,y3,y4,y5,y6,y7,y8,y9,y10,y11,y12,y13,y14⟩:=Ins.cells hF.bo
          simp only at y0 y1 y2 y3 y4 y5 y6 y7 y8 y9 y10 y11 y12 y13 y14
          go_wp2
          go_returns
          exact ⟨Ok.tru HM2.out HOK.out HBE.out,hF.below⟩
end Go.Proofs.Ythbcdckonaljiaa

