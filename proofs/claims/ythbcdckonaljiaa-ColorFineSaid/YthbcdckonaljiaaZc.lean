import Derived.Laws.Tables
import Derived.Laws.CopyOwn
import Derived.Test.YthbcdckonaljiaaZa
namespace Go.Proofs.Ythbcdckonaljiaa
open Go.RowKit Go.BigFrame
def wr (n:Int):Int:=(n + 2147483648) % 4294967296 - 2147483648
theorem wrap_any (n:Int)(w:World):Calls Try.prog 75 #[.int .i64 n] w fun e w'=>e = .returned (.int .i64 (wr n))∧w=w':=by
  have h1:wrap64 (wrap32 (n % 4294967296))=wr n:=by unfold wrap64 wrap32 wr; omega
  go_enter Try.func75,Try.ntmps75
  go_wp2
  go_returns
  exact ⟨congrArg (fun x=>Ending.returned (.int .i64 x)) h1,rfl⟩
theorem is_any (n:Int)(w:World):Calls Try.prog 72 #[.int .i64 n] w fun e w'=>e = .returned (.bool (decide (-2147483648≤n∧n≤2147483647)))∧w=w':=by
  have h:(wr n == n)=decide (-2147483648≤n∧n≤2147483647):=by
    rw [Bool.eq_iff_iff]
    simp [wr]
    omega
  rw [← h]
  clear h
  go_enter Try.func72,Try.ntmps72
  go_wp2_with (first
    | (go_at_call 75; refine (wrap_any n _).mono ?_; rintro e w1 ⟨rfl,hw⟩; subst hw))
  go_returns
  exact ⟨rfl,rfl⟩
theorem one_any (n:Int)(w:World):Calls Try.prog 73 #[.int .i64 n] w fun e w'=>e = .returned (.bool (decide (20≤n∧n≤23)))∧w=w':=by
  have hc:(decide (n ≥ 20)=true∧decide (20≤n)=true∧decide (n≤23)=true∧decide (20≤n∧n≤23)=true)∨(decide (n ≥ 20)=true∧decide (20≤n)=true∧decide (n≤23)=false∧decide (20≤n∧n≤23)=false)∨(decide (n ≥ 20)=false∧decide (20≤n)=false∧decide (n≤23)=true∧decide (20≤n∧n≤23)=false):=by simp; omega
  rcases hc with ⟨q1,q2,q3,q4⟩ | ⟨q1,q2,q3,q4⟩ | ⟨q1,q2,q3,q4⟩
  all_goals
    rw [q4]
    clear q4
    go_enter Try.func73,Try.ntmps73
    go_wp2
    go_returns
    exact ⟨rfl,rfl⟩
theorem two_any (n:Int)(w:World):Calls Try.prog 74 #[.int .i64 n] w fun e w'=>e = .returned (.bool (decide (1≤n∧n≤19)))∧w=w':=by
  have hc:(decide (n ≥ 1)=true∧decide (1≤n)=true∧decide (n≤19)=true∧decide (1≤n∧n≤19)=true)∨(decide (n ≥ 1)=true∧decide (1≤n)=true∧decide (n≤19)=false∧decide (1≤n∧n≤19)=false)∨(decide (n ≥ 1)=false∧decide (1≤n)=false∧decide (n≤19)=true∧decide (1≤n∧n≤19)=false):=by simp; omega
  rcases hc with ⟨q1,q2,q3,q4⟩ | ⟨q1,q2,q3,q4⟩ | ⟨q1,q2,q3,q4⟩
  all_goals
    rw [q4]
    clear q4
    go_enter Try.func74,Try.ntmps74
    go_wp2
    go_returns
    exact ⟨rfl,rfl⟩
set_option maxRecDepth 1000000 in
theorem uses_any (k:Int)(w:World):Calls Try.prog 84 #[.int .i64 k] w fun e w'=>e = .returned (.tuple #[.bool (kA k),.bool (kB k)])∧w=w':=by
  by_cases hx:k=2∨k=4∨k=6∨k=10∨k=12∨k=13∨k=3∨k=7
  · rcases hx with rfl | rfl | rfl | rfl | rfl | rfl | rfl | rfl
    all_goals
      go_enter Try.func84,Try.ntmps84
      go_wp2
      go_returns
      exact ⟨rfl,rfl⟩
  · have hA:kA k=false:=by simp [kA]; omega
    have hB:kB k=false:=by simp [kB]; omega
    have q2:(k == 2)=false:=by simp; omega
    have q3:(k == 3)=false:=by simp; omega
    have q4:(k == 4)=false:=by simp; omega
    have q6:(k == 6)=false:=by simp; omega
    have q7:(k == 7)=false:=by simp; omega
    have q10:(k == 10)=false:=by simp; omega
    have q12:(k == 12)=false:=by simp; omega
    have q13:(k == 13)=false:=by simp; omega
    rw [hA,hB]
    clear hA hB hx
    go_enter Try.func84,Try.ntmps84
    go_wp2
    go_returns
    exact ⟨rfl,rfl⟩
set_option maxRecDepth 1000000 in
theorem sets_any (k:Int)(w:World):Calls Try.prog 53 #[.int .i64 k] w fun e w'=>e = .returned (.bool (kS k))∧w=w':=by
  have hc:(decide (k ≥ 1)=true∧decide (1≤k)=true∧decide (k≤6)=true∧kS k=true)∨(decide (k ≥ 1)=true∧decide (1≤k)=true∧decide (k≤6)=false∧(k == 8)=true∧kS k=true)∨(decide (k ≥ 1)=true∧decide (1≤k)=true∧decide (k≤6)=false∧(k == 8)=false∧(k == 9)=true∧kS k=true) ∨
      (decide (k ≥ 1)=true∧decide (1≤k)=true∧decide (k≤6)=false∧(k == 8)=false∧(k == 9)=false∧kS k=false)∨(decide (k ≥ 1)=false∧decide (1≤k)=false∧(k == 8)=false∧(k == 9)=false∧kS k=false):=by
    simp [kS]; omega
  rcases hc with ⟨q1,q2,q3,q4⟩ | ⟨q1,q2,q3,q5,q4⟩ | ⟨q1,q2,q3,q5,q6,q4⟩ | ⟨q1,q2,q3,q5,q6,q4⟩ | ⟨q1,q2,q5,q6,q4⟩
  all_goals
    rw [q4]
    clear q4
    go_enter Try.func53,Try.ntmps53
    go_wp2
    go_returns
    exact ⟨rfl,rfl⟩
set_option maxRecDepth 1000000 in
theorem Sets_any (i:Ins)(w:World):Calls Try.prog 31 #[i.agg] w fun e w'=>e = .returned (.int .i64 i.sets)∧Below w.heap.size w w':=by
  obtain ⟨k,op,dst,a,b,n,text,r0,r1,r2,r3,r4,r5,to_,els⟩:=i
  have hb0:=Below.one w (Ins.obj ⟨k,op,dst,a,b,n,text,r0,r1,r2,r3,r4,r5,to_,els⟩)
  simp only [Ins.obj,Ins.agg,Ins.sets] at hb0 ⊢
  have hk:=fun w=>sets_any k w
  cases hs:kS k
  all_goals
    rw [hs] at hk
    clear hs
    go_enter Try.func31,Try.ntmps31
    go_wp2_with (first
      | (go_at_call 53; refine (hk _).mono ?_; rintro e w1 ⟨rfl,hw⟩; subst hw))
    go_returns
    exact ⟨rfl,hb0⟩
set_option maxRecDepth 1000000 in
theorem Plain_any (k:Int)(w:World):Calls Try.prog 7 #[.int .i64 k] w fun e w'=>e = .returned (Ins.agg ⟨k,0,-1,0,0,0,⟨#[]⟩,0,0,0,0,0,0,0,-1⟩)∧Below w.heap.size w w':=by
  go_enter Try.func7,Try.ntmps7
  go_wp2
  (try simp only [Exit.inBlock,Exit.then])
  refine bodyPost_ret (by simp [results,Try.results7,go_sem]; try rfl) rfl ?_
  exact ⟨rfl,Below.one _ _⟩
set_option maxRecDepth 1000000 in
set_option maxHeartbeats 4000000 in
theorem Next_any (i:Ins) (p:Int) (hp:0≤p∧p≤100000) (w:World):Calls Try.prog 54 #[i.agg,.int .i64 p] w fun e w'=>SlN (i.next p) e w'∧Below w.heap.size w w':=by
  obtain ⟨k,op,dst,a,b,n,text,r0,r1,r2,r3,r4,r5,to_,els⟩:=i
  have hb0:=Below.one w (Ins.obj ⟨k,op,dst,a,b,n,text,r0,r1,r2,r3,r4,r5,to_,els⟩)
  have bx:=heap_alloc_new w (Ins.obj ⟨k,op,dst,a,b,n,text,r0,r1,r2,r3,r4,r5,to_,els⟩)
  simp only [Ins.obj,Ins.agg,Ins.next] at hb0 bx ⊢
  have hwr:wrap64 (p + 1)=p + 1:=by unfold wrap64; omega
  have hone:∀ (W:World) (x:Int),RdN (W.alloc (.cells #[.int .i64 x] 3)) (some ⟨W.heap.size,0,none⟩) [x]:=fun W x j y hj=>by
    cases j with
    | succ j=>simp at hj
    | zero =>
      simp at hj
      subst hj
      exact ⟨W.heap.size,0,rfl,by simp,cell_of_heap (heap_alloc_new W (.cells #[.int .i64 x] 3)) 0 _ rfl⟩
  have htwo:∀ (W:World) (x y:Int),RdN (W.alloc (.cells #[.int .i64 x,.int .i64 y] 3)) (some ⟨W.heap.size,0,none⟩) [x,y]:=fun W x y j z hj=>by
    have hn:=heap_alloc_new W (.cells #[.int .i64 x,.int .i64 y] 3)
    match j with
    | 0=>simp at hj; subst hj; exact ⟨W.heap.size,0,rfl,by simp,cell_of_heap hn 0 _ rfl⟩
    | 1=>simp at hj; subst hj; exact ⟨W.heap.size,0,rfl,by simp,cell_of_heap hn 1 _ rfl⟩
    | j + 2=>simp at hj
  have h1:=hone (w.alloc (Ins.obj ⟨k,op,dst,a,b,n,text,r0,r1,r2,r3,r4,r5,to_,els⟩))
  have h2:=htwo (w.alloc (Ins.obj ⟨k,op,dst,a,b,n,text,r0,r1,r2,r3,r4,r5,to_,els⟩))
  simp only [Ins.obj] at h1 h2
  rw [show (w.alloc (Ins.obj ⟨k,op,dst,a,b,n,text,r0,r1,r2,r3,r4,r5,to_,els⟩)).heap.size=w.heap.size + 1 by simp] at h1 h2
  by_cases e11:k=11
  · subst e11
    go_enter Try.func54,Try.ntmps54
    go_wp2
    go_returns
    exact ⟨⟨_,1,rfl,h1 _⟩,hb0.alloc hb0.size _⟩
  · rw [if_neg e11]
    have q1:(k == 11)=false:=by simpa using e11
    by_cases e12:k=12
    · subst e12
      go_enter Try.func54,Try.ntmps54
      go_wp2
      go_returns
      exact ⟨⟨_,2,rfl,h2 _ _⟩,hb0.alloc hb0.size _⟩
    · rw [if_neg e12]
      have q2:(k == 12)=false:=by simpa using e12
      by_cases e13:k=13
      · subst e13
        go_enter Try.func54,Try.ntmps54
        go_wp2
        go_returns
        exact ⟨⟨none,0,rfl,fun j y hj=>by simp at hj⟩,hb0⟩
      · rw [if_neg e13]
        have q3:(k == 13)=false:=by simpa using e13
        clear e11 e12 e13
        go_enter Try.func54,Try.ntmps54
        go_wp2
        go_returns
        exact ⟨⟨_,1,rfl,h1 _⟩,hb0.alloc hb0.size _⟩
end Go.Proofs.Ythbcdckonaljiaa
namespace Go.Proofs.Ythbcdckonaljiaa
open Go.RowKit Go.BigFrame
abbrev regV (fb:Nat):Value:=.func (.func 68) #[] #[.pointer (some ⟨fb,0,none⟩)]
def inR (n R:Int):Bool:=decide (0≤n) && decide (n < R)
theorem right1_any {w:World}{fb:Nat}{R:Int}(h:w.cell? ⟨fb,2,none⟩=some (.int .i64 R))(n:Int):Calls Try.prog 68 #[.int .i64 n,.pointer (some ⟨fb,0,none⟩)] w fun e w'=>e = .returned (.bool (inR n R))∧w=w':=by
  have hc:(decide (n ≥ 0)=true∧decide (0≤n)=true∧decide (n < R)=true)∨(decide (n ≥ 0)=true∧decide (0≤n)=true∧decide (n < R)=false)∨(decide (n ≥ 0)=false∧decide (0≤n)=false):=by simp; omega
  unfold inR
  rcases hc with ⟨q1,q2,q3⟩ | ⟨q1,q2,q3⟩ | ⟨q1,q2⟩
  all_goals
    rw [q2]
    try rw [q3]
    go_enter Try.func68,Try.ntmps68
    go_wp2
    go_returns
    exact ⟨rfl,rfl⟩
theorem right2_any {w:World}{fb:Nat}{C:Option Addr}{L cap:Nat}(h:w.cell? ⟨fb,4,none⟩=some (.slice C L cap))(n:Int):Calls Try.prog 69 #[.int .i64 n,.pointer (some ⟨fb,0,none⟩)] w fun e w'=>e = .returned (.bool (inR n L))∧w=w':=by
  have hc:(decide (n ≥ 0)=true∧decide (0≤n)=true∧decide (n < (L:Int))=true)∨(decide (n ≥ 0)=true∧decide (0≤n)=true∧decide (n < (L:Int))=false)∨(decide (n ≥ 0)=false∧decide (0≤n)=false):=by simp; omega
  unfold inR
  rcases hc with ⟨q1,q2,q3⟩ | ⟨q1,q2,q3⟩ | ⟨q1,q2⟩
  all_goals
    rw [q2]
    try rw [q3]
    go_enter Try.func69,Try.ntmps69
    go_wp2
    go_returns
    exact ⟨rfl,rfl⟩
theorem allOf1_any {w:World}{Bb fb:Nat}{R:Int}(h:w.cell? ⟨Bb,0,none⟩=some (regV fb))(hR:w.cell? ⟨fb,2,none⟩=some (.int .i64 R))(n:Int):Calls Try.prog 100 #[.int .i64 n,.pointer (some ⟨Bb,0,none⟩)] w fun e w'=>e = .returned (.bool (!inR n R))∧w=w':=by
  have h1:=right1_any hR n
  generalize inR n R=b at *
  go_enter Try.func100,Try.ntmps100
  go_wp2_with (first
    | (go_at_call 68; refine h1.mono ?_; rintro e w1 ⟨rfl,hw⟩; subst hw))
  go_returns
  exact ⟨rfl,rfl⟩
def Idx (l:List Int)(R:Int)(e:Ending):Prop:=∃ i:Int,e = .returned (.int .i64 i)∧(i ≥ 0↔∃ r ∈ l,inR r R=false)
def Bad (l:List Int)(R:Int)(e:Ending):Prop:=∃ b:Bool,e = .returned (.bool b)∧(b=true↔∃ r ∈ l,inR r R=false)
def AllR (l:List Int)(R:Int)(e:Ending):Prop:=∃ b:Bool,e = .returned (.bool b)∧(b=true↔∀ r ∈ l,0≤r∧r < R)
set_option maxRecDepth 1000000 in
theorem IndexFunc_any {w:World} {Bb fb:Nat} {R:Int} (h:w.cell? ⟨Bb,0,none⟩=some (regV fb)) (hR:w.cell? ⟨fb,2,none⟩=some (.int .i64 R)) (A:Option Addr) (l:List Int) (cap:Nat) (hl:RdN w A l) (hL:l.length≤100000) :
    Calls Try.prog 112 #[.slice A l.length cap,.func (.func 100) #[] #[.pointer (some ⟨Bb,0,none⟩)]] w fun e w'=>Idx l R e∧w=w':=by
  obtain ⟨L,hLL⟩:∃ L,l.length=L:=⟨_,rfl⟩
  rw [hLL] at hL ⊢
  have HL:=Lib.hid hLL
  clear hLL
  go_enter Try.func112,Try.ntmps112
  go_wp2
  go_loopw [8] (fun i w8=>∃ k:Nat,k≤L∧i = .int .i64 k∧w8=w∧∀ (j:Nat) r,j < k→l[j]? = some r→inR r R=true) (fun i _=>L - (intOf i).toNat)
  case atStart=>exact ⟨0,by omega,rfl,rfl,fun j r hj=>by omega⟩
  case round =>
    obtain ⟨k,hk,rfl,hw0,hno⟩:=hrel
    have hw1:=hw0.symm
    subst hw1
    by_cases hlt:k < L
    · have hr:l[k]? = some (l[k]'(by rw [HL.out]; exact hlt)):=by simp
      generalize l[k]'(by rw [HL.out]; exact hlt)=r at hr
      obtain ⟨b,o,rfl,_,c0⟩:=hl k r hr
      have h1:=fun (w:World) (h:w.cell? ⟨Bb,0,none⟩=some (regV fb)) (hR:w.cell? ⟨fb,2,none⟩=some (.int .i64 R))=>allOf1_any h hR r
      cases hb:inR r R
      · rw [hb] at h1
        have HE:Hid ((k:Int) ≥ 0↔∃ r ∈ l,inR r R=false):=Lib.hid ⟨fun _=>⟨r,List.mem_of_getElem? hr,hb⟩,fun _=>by omega⟩
        clear hb
        go_wp2_with (first
          | (go_at_call 100; refine (h1 _ h hR).mono ?_; rintro e w1 ⟨rfl,hw⟩; subst hw))
        go_returns
        exact ⟨⟨_,rfl,HE.out⟩,rfl⟩
      · rw [hb] at h1
        have HB:=Lib.hid hb
        clear hb
        go_wp2_with (first
          | (go_at_call 100; refine (h1 _ h hR).mono ?_; rintro e w1 ⟨rfl,hw⟩; subst hw))
        exact ⟨⟨k + 1,by omega,by simp,trivial,fun j r' hj hr'=>by
          by_cases hjk:j=k
          · subst hjk
            rw [hr] at hr'
            injection hr' with hr'
            subst hr'
            exact HB.out
          · exact hno j r' (by omega) hr'⟩,by simp [intOf]; omega⟩
    · have HE:Hid ((-1:Int) ≥ 0↔∃ r ∈ l,inR r R=false):=Lib.hid ⟨fun h=>by omega,fun ⟨r,hr,hb⟩=>by
        obtain ⟨j,hj⟩:=List.mem_iff_getElem?.1 hr
        have:=hno j r (by have h1:=(List.getElem?_eq_some_iff.1 hj).1; rw [HL.out] at h1; omega) hj
        rw [hb] at this
        cases this⟩
      clear hno
      go_wp2
      go_returns
      exact ⟨⟨_,rfl,HE.out⟩,rfl⟩
theorem allOf_any {w:World}{fb:Nat}{R:Int}(hR:w.cell? ⟨fb,2,none⟩=some (.int .i64 R))(hfb:fb < w.heap.size)(A:Option Addr)(l:List Int)(cap:Nat)(hl:RdN w A l)(hL:l.length≤100000) :
    Calls Try.prog 71 #[.slice A l.length cap,regV fb] w fun e w'=>AllR l R e∧Below w.heap.size w w':=by
  have hb:=Below.one w (.cells #[regV fb] 80)
  have bx:=heap_alloc_new w (.cells #[regV fb] 80)
  have hI:=IndexFunc_any (w:=w.alloc (.cells #[regV fb] 80)) (Bb:=w.heap.size) (fb:=fb) (R:=R) (cell_of_heap bx 0 _ rfl) ((hb.cell (p:=⟨fb,2,none⟩) hfb).trans hR) A l cap (hl.below hb) hL
  generalize l.length=LL at *
  have hC:Calls Try.prog 99 #[.slice A LL cap,.func (.func 100) #[] #[.pointer (some ⟨w.heap.size,0,none⟩)]] (w.alloc (.cells #[regV fb] 80)) fun e w'=>Bad l R e∧w.alloc (.cells #[regV fb] 80)=w':=by
    generalize w.alloc (.cells #[regV fb] 80)=W at *
    generalize w.heap.size=q at *
    go_enter Try.func99,Try.ntmps99
    go_wp2_with (first
      | (go_at_call 112; refine hI.mono ?_; rintro e w1 ⟨⟨i,rfl,hi⟩,hw⟩; subst hw; have HI:=Lib.hid hi; clear hi))
    go_returns
    exact ⟨⟨decide (i ≥ 0),by simp,by rw [decide_eq_true_eq]; exact HI.out⟩,rfl⟩
  clear hI
  go_enter Try.func71,Try.ntmps71
  go_wp2_with (first
    | (go_at_call 99; refine hC.mono ?_; rintro e w1 ⟨⟨b,rfl,hbb⟩,hw⟩; subst hw; have HB:=Lib.hid hbb; clear hbb))
  go_returns
  refine ⟨⟨!b,rfl,?_⟩,hb⟩
  have h1:=HB.out
  constructor
  · intro hn r hr
    cases hi:inR r R
    · have:=h1.2 ⟨r,hr,hi⟩
      rw [this] at hn
      cases hn
    · simpa [inR] using hi
  · intro hall
    cases b
    · rfl
    · obtain ⟨r,hr,hi⟩:=h1.1 rfl
      have:=hall r hr
      simp [inR] at hi
      omega
end Go.Proofs.Ythbcdckonaljiaa
namespace Go.Proofs.Ythbcdckonaljiaa
open Go.RowKit Go.BigFrame
theorem vIns:Try.prog.underlying 31=some (.struct (Try.prog.fieldsOf 31)):=by kernel_rfl
theorem sIns:(Try.prog.info? 31).map (·.size)=some 15:=by kernel_rfl
abbrev plainI (k:Int):Ins:=⟨k,0,-1,0,0,0,⟨#[]⟩,0,0,0,0,0,0,0,-1⟩
abbrev zeroObj:Obj:=.cells #[.int .i64 0,.int .i64 0,.int .i64 0,.int .i64 0,.int .i64 0,.int .i64 0,.string ⟨#[]⟩,.int .i64 0,.int .i64 0,.int .i64 0,.int .i64 0,.int .i64 0,.int .i64 0,.int .i64 0,.int .i64 0] 31
theorem plain_one (k:Int):((plainI k).l.toArray.all (·.oneCell'))=true:=by simp [Value.oneCell']
theorem free15 {w:World}{p:Nat}{cs:Array Value}{t:TypeId}(h:w.heap[p]? = some (.cells cs t (0,0))):∀ j,w.frozen? ⟨p,j,none⟩=false:=fun j=>free_of_heap h j
structure BSt (w W:World)(i o:Ins)(p5:Nat):Prop where
  bi:W.heap[w.heap.size]? = some i.obj
  br:W.heap[w.heap.size + 1]? = some zeroObj
  b5:W.heap[p5]? = some o.obj
  below:Below w.heap.size w W
  p5:w.heap.size + 1 < p5
theorem BSt.store {w W:World}{i i' o:Ins}{p5:Nat}(h:BSt w W i o p5)(j:Nat)(v:Value)(hi:(i.l.toArray.setIfInBounds j v)=i'.l.toArray):BSt w (W.setCell ⟨w.heap.size,j,none⟩ v) i' o p5 :=
  ⟨by rw [heap_setCell h.bi]; exact congrArg some (congrArg (fun c=>Obj.cells c 31 (0,0)) hi),(Below.heap_setCell _ _ _ _ (by simp only; omega)).trans h.br,(Below.heap_setCell _ _ _ _ (by have:=h.p5; simp only; omega)).trans h.b5,h.below.setCell (p:=⟨w.heap.size,j,none⟩) (Nat.le_refl _) _,h.p5⟩
theorem BSt.store5 {w W:World}{i o o':Ins}{p5:Nat}(h:BSt w W i o p5)(j:Nat)(v:Value)(ho:(o.l.toArray.setIfInBounds j v)=o'.l.toArray):BSt w (W.setCell ⟨p5,j,none⟩ v) i o' p5 :=
  ⟨(Below.heap_setCell _ _ _ _ (by have:=h.p5; simp only; omega)).trans h.bi,(Below.heap_setCell _ _ _ _ (by have:=h.p5; simp only; omega)).trans h.br,by rw [heap_setCell h.b5]; exact congrArg some (congrArg (fun c=>Obj.cells c 31 (0,0)) ho),h.below.setCell (p:=⟨p5,j,none⟩) (by have:=h.p5; simp only; omega) _,h.p5⟩
def BareT (i:Ins)(e:Ending):Prop:=e = .returned (Ins.agg ⟨if i=i.mask then i.kind else 0,0,-1,0,0,0,⟨#[]⟩,0,0,0,0,0,0,0,-1⟩)
theorem BareT.yes {i:Ins}{o:Ins}(h:i=i.mask)(ho:o=plainI i.kind):BareT i (.returned o.agg):=by unfold BareT; rw [if_pos h,ho]
theorem BareT.no {i:Ins}{o:Ins}(h:¬ i=i.mask)(ho:o=plainI 0):BareT i (.returned o.agg):=by unfold BareT; rw [if_neg h,ho]
theorem bareN {p q:Prop}[Decidable q](h:false=decide q)(hm:p↔q):¬ p:=fun hp=>by rw [decide_eq_true (hm.1 hp)] at h; cases h
theorem bareY {p q:Prop}[Decidable q](h:true=decide q)(hm:p↔q):p:=hm.2 (of_decide_eq_true h.symm)
theorem bare_pre (i:Ins)(w:World):∃ W,(w.alloc i.obj).alloc zeroObj=W∧W.heap.size=w.heap.size + 2∧W.heap[w.heap.size]? = some i.obj∧W.heap[w.heap.size + 1]? = some zeroObj∧Below w.heap.size w W:=by
  have b1:=heap_alloc_new (w.alloc i.obj) zeroObj
  rw [show (w.alloc i.obj).heap.size=w.heap.size + 1 by simp] at b1
  exact ⟨_,rfl,by simp,alloc_keeps (heap_alloc_new w i.obj) zeroObj,b1,(Below.one w _).alloc (by simp) _⟩
theorem BSt.first {w W w1:World}{i o:Ins}(b0:W.heap[w.heap.size]? = some i.obj)(b1:W.heap[w.heap.size + 1]? = some zeroObj)(hs:W.heap.size=w.heap.size + 2)(hB:Below w.heap.size w W)(hb:Below W.heap.size W w1):BSt w (w1.alloc o.obj) i o w1.heap.size :=
  ⟨alloc_keeps ((hb.block _ (Array.getElem?_eq_some_iff.1 b0).1).trans b0) _,alloc_keeps ((hb.block _ (Array.getElem?_eq_some_iff.1 b1).1).trans b1) _,heap_alloc_new _ _,(hB.trans (hb.mono hB.size)).alloc ((hB.trans (hb.mono hB.size)).size) _,by have:=hb.size; omega⟩
end Go.Proofs.Ythbcdckonaljiaa
namespace Go.Proofs.Ythbcdckonaljiaa
open Go.RowKit Go.BigFrame
def clrA (i:Ins)(m:Int):Ins:=⟨i.kind,i.op,i.dst,i.a,i.b,i.n,i.text,if 0 < m then 0 else i.r0,if 1 < m then 0 else i.r1,if 2 < m then 0 else i.r2,if 3 < m then 0 else i.r3,if 4 < m then 0 else i.r4,if 5 < m then 0 else i.r5,i.to_,i.els⟩
end Go.Proofs.Ythbcdckonaljiaa

