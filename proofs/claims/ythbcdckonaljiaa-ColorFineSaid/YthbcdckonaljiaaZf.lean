import Derived.Test.YthbcdckonaljiaaZd
import Derived.Test.YthbcdckonaljiaaZe
import Derived.Test.YthbcdckonaljiaaZce
import Derived.Test.YthbcdckonaljiaaZe1
namespace Go.Proofs.Ythbcdckonaljiaa
open Go.RowKit Go.BigFrame
theorem bare_any (i:Ins) (h:1≤i.kind∧i.kind≤13) (w:World):Calls Try.prog 70 #[i.agg] w fun e w'=>BareT i e∧Below w.heap.size w w':=by
  obtain ⟨k,op,dst,a,b,n,text,r0,r1,r2,r3,r4,r5,to_,els⟩:=i
  simp only at h
  rcases kind_cases k with rfl | rfl | rfl | rfl | rfl | rfl | rfl | rfl | rfl | rfl | rfl | rfl | rfl | hk
  · exact bare_1 op dst a b n text r0 r1 r2 r3 r4 r5 to_ els w
  · exact bare_2 op dst a b n text r0 r1 r2 r3 r4 r5 to_ els w
  · exact bare_3 op dst a b n text r0 r1 r2 r3 r4 r5 to_ els w
  · exact bare_4 op dst a b n text r0 r1 r2 r3 r4 r5 to_ els w
  · exact bare_5 op dst a b n text r0 r1 r2 r3 r4 r5 to_ els w
  · exact bare_6 op dst a b n text r0 r1 r2 r3 r4 r5 to_ els w
  · exact bare_7 op dst a b n text r0 r1 r2 r3 r4 r5 to_ els w
  · by_cases h1:n < 0
    · exact bare_8m op dst a b n h1 text r0 r1 r2 r3 r4 r5 to_ els w
    · by_cases h2:6 < n
      · exact bare_8g op dst a b n h2 text r0 r1 r2 r3 r4 r5 to_ els w
      · obtain ⟨N,rfl⟩:∃ N:Nat,n=N:=⟨n.toNat,by omega⟩
        exact bare_8i op dst a b N (by omega) text r0 r1 r2 r3 r4 r5 to_ els w
  · exact bare_9 op dst a b n text r0 r1 r2 r3 r4 r5 to_ els w
  · exact bare_10 op dst a b n text r0 r1 r2 r3 r4 r5 to_ els w
  · exact bare_11 op dst a b n text r0 r1 r2 r3 r4 r5 to_ els w
  · exact bare_12 op dst a b n text r0 r1 r2 r3 r4 r5 to_ els w
  · exact bare_13 op dst a b n text r0 r1 r2 r3 r4 r5 to_ els w
  · exact absurd h (by omega)
theorem Ok.build {i:Ins}{R Fr:Int}{L:Nat}(hk:1≤i.kind∧i.kind≤13)(hu:∀ r ∈ i.uses,0≤r∧r < R)(hd:kS i.kind=true→(0≤i.dst∧i.dst < R)∨(i.kind=8∧i.dst=-1∧i.dst < R))(hm:i=i.mask) :
    Ok i R Fr L↔((i.kind=1→-2147483648≤i.n∧i.n≤2147483647)∧(i.kind=5→0≤i.n∧i.n≤Fr)∧(i.kind=8→0≤i.n∧i.n≤6∧i.text≠⟨#[]⟩)∧(i.kind=2→20≤i.op∧i.op≤23)∧(i.kind=3→1≤i.op∧i.op≤19)∧(i.kind=11∨i.kind=12→0≤i.to_∧i.to_ < L)∧(i.kind=12→0≤i.els∧i.els < L)) :=
  ⟨fun h=>⟨h.word,h.fr,h.call,h.one,h.two,h.to_,h.els⟩,fun ⟨h1,h2,h3,h4,h5,h6,h7⟩=>⟨hk,hu,hd,h1,h2,h3,h4,h5,h6,h7,hm⟩⟩
theorem field0 (k:Int)(w:World):(Instr.field 31 (.agg #[.int .i64 k,.int .i64 0,.int .i64 (-1),.int .i64 0,.int .i64 0,.int .i64 0,.string ⟨#[]⟩,.int .i64 0,.int .i64 0,.int .i64 0,.int .i64 0,.int .i64 0,.int .i64 0,.int .i64 0,.int .i64 (-1)]) 0).run Try.prog w = .ok (.int .i64 k) w:=by kernel_rfl
structure KSt (w W:World)(i:Ins)(nm:ByteArray)(ps R Fr:Int)(C:Option Addr)(L cap:Nat):Prop where
  bi:W.heap[w.heap.size]? = some i.obj
  bf:W.heap[w.heap.size + 1]? = some (funcObj nm ps R Fr C L cap)
  below:Below w.heap.size w W
theorem KSt.later {w w1 w2:World}{i:Ins}{nm:ByteArray}{ps R Fr:Int}{C:Option Addr}{L cap:Nat}(h:KSt w w1 i nm ps R Fr C L cap)(hb:Below w1.heap.size w1 w2):KSt w w2 i nm ps R Fr C L cap :=
  ⟨(hb.block _ (Array.getElem?_eq_some_iff.1 h.bi).1).trans h.bi,(hb.block _ (Array.getElem?_eq_some_iff.1 h.bf).1).trans h.bf,h.below.trans (hb.mono h.below.size)⟩
theorem KSt.made (w:World)(i:Ins)(nm:ByteArray)(ps R Fr:Int)(C:Option Addr)(L cap:Nat):KSt w ((w.alloc i.obj).alloc (funcObj nm ps R Fr C L cap)) i nm ps R Fr C L cap:=by
  refine ⟨alloc_keeps (heap_alloc_new w i.obj) _,?_,(Below.one w _).alloc (by simp) _⟩
  have h:=heap_alloc_new (w.alloc i.obj) (funcObj nm ps R Fr C L cap)
  rwa [show (w.alloc i.obj).heap.size=w.heap.size + 1 by simp] at h
theorem KSt.fb {w W:World}{i:Ins}{nm:ByteArray}{ps R Fr:Int}{C:Option Addr}{L cap:Nat}(h:KSt w W i nm ps R Fr C L cap):w.heap.size + 1 < W.heap.size:=(Array.getElem?_eq_some_iff.1 h.bf).1
theorem inR_true {n R:Int}(h:inR n R=true):0≤n∧n < R:=by simpa [inR] using h
theorem inR_false {n R:Int}(h:inR n R=false):¬ (0≤n∧n < R):=fun ⟨h1,h2⟩=>by simp [inR,h1,h2] at h
set_option maxRecDepth 1000000 in
set_option maxHeartbeats 4000000 in
theorem right_bad (k op dst a b n:Int)(text:ByteArray)(r0 r1 r2 r3 r4 r5 to_ els:Int)(nm:ByteArray)(ps R Fr:Int)(C:Option Addr)(L cap:Nat)(w:World)(hk:k < 1∨13 < k):Calls Try.prog 51 #[Ins.agg ⟨k,op,dst,a,b,n,text,r0,r1,r2,r3,r4,r5,to_,els⟩,funcAgg nm ps R Fr C L cap] w fun e w'=>Tru (Ok ⟨k,op,dst,a,b,n,text,r0,r1,r2,r3,r4,r5,to_,els⟩ R Fr L) e∧Below w.heap.size w w':=by
  have hS:=KSt.made w ⟨k,op,dst,a,b,n,text,r0,r1,r2,r3,r4,r5,to_,els⟩ nm ps R Fr C L cap
  have HT:=Lib.hid (Tru.no (fun h:Ok ⟨k,op,dst,a,b,n,text,r0,r1,r2,r3,r4,r5,to_,els⟩ R Fr L=>by have:=h.kind; simp only at this; omega))
  have hc:(decide (k < 1)=true)∨(decide (k < 1)=false∧decide (k > 13)=true∧decide (13 < k)=true):=by simp; omega
  obtain ⟨W,hW⟩:∃ W,(w.alloc (Ins.obj ⟨k,op,dst,a,b,n,text,r0,r1,r2,r3,r4,r5,to_,els⟩)).alloc (funcObj nm ps R Fr C L cap)=W:=⟨_,rfl⟩
  rw [hW] at hS
  have x0:=cell_of_heap hS.bi 0 (.int .i64 k) rfl
  simp only [Ins.obj,funcObj,Ins.agg,funcAgg] at hW ⊢
  clear hk
  rcases hc with q1 | ⟨q1,q2,q3⟩
  all_goals
    go_enter Try.func51,Try.ntmps51
    go_wp2
    go_returns
    exact ⟨HT.out,hS.below⟩
set_option maxRecDepth 1000000 in
set_option maxHeartbeats 8000000 in
theorem right_nomask (k op dst a b n:Int)(text:ByteArray)(r0 r1 r2 r3 r4 r5 to_ els:Int)(nm:ByteArray)(ps R Fr:Int)(C:Option Addr)(L cap:Nat)(w:World)(hk:1≤k∧k≤13)(hm:¬ Ins.mk k op dst a b n text r0 r1 r2 r3 r4 r5 to_ els=Ins.mask ⟨k,op,dst,a,b,n,text,r0,r1,r2,r3,r4,r5,to_,els⟩):Calls Try.prog 51 #[Ins.agg ⟨k,op,dst,a,b,n,text,r0,r1,r2,r3,r4,r5,to_,els⟩,funcAgg nm ps R Fr C L cap] w fun e w'=>Tru (Ok ⟨k,op,dst,a,b,n,text,r0,r1,r2,r3,r4,r5,to_,els⟩ R Fr L) e∧Below w.heap.size w w':=by
  have HT:=Lib.hid (Tru.no (fun h:Ok ⟨k,op,dst,a,b,n,text,r0,r1,r2,r3,r4,r5,to_,els⟩ R Fr L=>hm h.mask))
  have hS:=KSt.made w ⟨k,op,dst,a,b,n,text,r0,r1,r2,r3,r4,r5,to_,els⟩ nm ps R Fr C L cap
  obtain ⟨W,hW⟩:∃ W,(w.alloc (Ins.obj ⟨k,op,dst,a,b,n,text,r0,r1,r2,r3,r4,r5,to_,els⟩)).alloc (funcObj nm ps R Fr C L cap)=W:=⟨_,rfl⟩
  rw [hW] at hS
  have k1:decide (k < 1)=false:=by simp; omega
  have k2:decide (k > 13)=false:=by simp; omega
  have k3:decide (13 < k)=false:=by simp; omega
  have k4:(k == 0)=false:=by simp; omega
  have hba:=fun w=>bare_any ⟨k,op,dst,a,b,n,text,r0,r1,r2,r3,r4,r5,to_,els⟩ hk w
  simp only [BareT] at hba
  rw [if_neg hm] at hba
  obtain ⟨x0,x1,x2,x3,x4,x5,x6,x7,x8,x9,x10,x11,x12,x13,x14⟩:=Ins.cells hS.bi
  simp only [Ins.obj,funcObj,Ins.agg,funcAgg] at hW hba x0 x1 x2 x3 x4 x5 x6 x7 x8 x9 x10 x11 x12 x13 x14 ⊢
  have hfd:=fun w=>field0 0 w
  clear hk hm
  go_enter Try.func51,Try.ntmps51
  go_wp2_with (first
    | (go_at_call 70; refine (hba _).mono ?_; rintro e w1 ⟨rfl,hb1⟩; have hS1:=hS.later hb1; have z0:=cell_of_heap hS1.bi 0 (.int .i64 k) rfl; have z2:=cell_of_heap hS1.bi 2 (.int .i64 dst) rfl; have zr:=right1_any (cell_of_heap hS1.bf 2 (.int .i64 R) rfl)))
  go_returns
  exact ⟨HT.out,hS1.below⟩
set_option maxRecDepth 1000000 in
set_option maxHeartbeats 8000000 in
theorem right_dst (k op dst a b n:Int)(text:ByteArray)(r0 r1 r2 r3 r4 r5 to_ els:Int)(nm:ByteArray)(ps R Fr:Int)(C:Option Addr)(L cap:Nat)(w:World)(hk:1≤k∧k≤13)(hm:Ins.mk k op dst a b n text r0 r1 r2 r3 r4 r5 to_ els=Ins.mask ⟨k,op,dst,a,b,n,text,r0,r1,r2,r3,r4,r5,to_,els⟩)(hs:kS k=true)(hd:inR dst R=false)(hc:¬ (k=8∧dst=-1)):Calls Try.prog 51 #[Ins.agg ⟨k,op,dst,a,b,n,text,r0,r1,r2,r3,r4,r5,to_,els⟩,funcAgg nm ps R Fr C L cap] w fun e w'=>Tru (Ok ⟨k,op,dst,a,b,n,text,r0,r1,r2,r3,r4,r5,to_,els⟩ R Fr L) e∧Below w.heap.size w w':=by
  have HT:=Lib.hid (Tru.no (fun h:Ok ⟨k,op,dst,a,b,n,text,r0,r1,r2,r3,r4,r5,to_,els⟩ R Fr L=>by
    rcases h.dst hs with h1 | h1
    · exact inR_false hd h1
    · exact hc ⟨h1.1,h1.2.1⟩))
  have hS:=KSt.made w ⟨k,op,dst,a,b,n,text,r0,r1,r2,r3,r4,r5,to_,els⟩ nm ps R Fr C L cap
  obtain ⟨W,hW⟩:∃ W,(w.alloc (Ins.obj ⟨k,op,dst,a,b,n,text,r0,r1,r2,r3,r4,r5,to_,els⟩)).alloc (funcObj nm ps R Fr C L cap)=W:=⟨_,rfl⟩
  rw [hW] at hS
  have k1:decide (k < 1)=false:=by simp; omega
  have k2:decide (k > 13)=false:=by simp; omega
  have k3:decide (13 < k)=false:=by simp; omega
  have k4:(k == 0)=false:=by simp; omega
  have hba:=fun w=>bare_any ⟨k,op,dst,a,b,n,text,r0,r1,r2,r3,r4,r5,to_,els⟩ hk w
  simp only [BareT] at hba
  rw [if_pos hm] at hba
  obtain ⟨x0,x1,x2,x3,x4,x5,x6,x7,x8,x9,x10,x11,x12,x13,x14⟩:=Ins.cells hS.bi
  simp only [Ins.obj,funcObj,Ins.agg,funcAgg] at hW hba x0 x1 x2 x3 x4 x5 x6 x7 x8 x9 x10 x11 x12 x13 x14 ⊢
  have hst:=fun w=>sets_any k w
  rw [hs] at hst
  have hq:((k == 8)=false)∨((k == 8)=true∧(dst == -1)=false):=by
    simp; omega
  have hfd:=fun w=>field0 k w
  clear hk hm hs hc
  rcases hq with q8 | ⟨q8,q1⟩
  all_goals
    go_enter Try.func51,Try.ntmps51
    go_wp2_with (first
      | (go_at_call 70; refine (hba _).mono ?_; rintro e w1 ⟨rfl,hb1⟩; have hS1:=hS.later hb1; have z0:=cell_of_heap hS1.bi 0 (.int .i64 k) rfl; have z2:=cell_of_heap hS1.bi 2 (.int .i64 dst) rfl; have zr:=right1_any (cell_of_heap hS1.bf 2 (.int .i64 R) rfl))
      | (go_at_call 53; refine (hst _).mono ?_; rintro e w5 ⟨rfl,hw5⟩; subst hw5)
      | (go_at_call 68; have zz:=zr dst; rw [hd] at zz; refine zz.mono ?_; rintro e w5 ⟨rfl,hw5⟩; subst hw5))
    go_returns
    exact ⟨HT.out,hS1.below⟩
end Go.Proofs.Ythbcdckonaljiaa
namespace Go.Proofs.Ythbcdckonaljiaa
open Go.RowKit Go.BigFrame
set_option maxRecDepth 1000000 in
set_option maxHeartbeats 8000000 in
theorem right_n (k op dst a b n:Int) (text:ByteArray) (r0 r1 r2 r3 r4 r5 to_ els:Int) (nm:ByteArray) (ps R Fr:Int) (C:Option Addr) (L cap:Nat) (w:World) (hk:1≤k∧k≤13) (hm:Ins.mk k op dst a b n text r0 r1 r2 r3 r4 r5 to_ els=Ins.mask ⟨k,op,dst,a,b,n,text,r0,r1,r2,r3,r4,r5,to_,els⟩) (hs:kS k=false):Calls Try.prog 51 #[Ins.agg ⟨k,op,dst,a,b,n,text,r0,r1,r2,r3,r4,r5,to_,els⟩,funcAgg nm ps R Fr C L cap] w fun e w'=>Tru (Ok ⟨k,op,dst,a,b,n,text,r0,r1,r2,r3,r4,r5,to_,els⟩ R Fr L) e∧Below w.heap.size w w':=by
  have HB:=Lib.hid (fun (hu:∀ r ∈ Ins.uses ⟨k,op,dst,a,b,n,text,r0,r1,r2,r3,r4,r5,to_,els⟩,0≤r∧r < R)=>Ok.build (i:=⟨k,op,dst,a,b,n,text,r0,r1,r2,r3,r4,r5,to_,els⟩) (R:=R) (Fr:=Fr) (L:=L) hk hu (fun h=>by simp only at h; rw [hs] at h; cases h) hm)
  have HNO:=Lib.hid (fun (hu:¬ ∀ r ∈ Ins.uses ⟨k,op,dst,a,b,n,text,r0,r1,r2,r3,r4,r5,to_,els⟩,0≤r∧r < R)=>Tru.no (fun h:Ok ⟨k,op,dst,a,b,n,text,r0,r1,r2,r3,r4,r5,to_,els⟩ R Fr L=>hu h.uses))
  have hS:=KSt.made w ⟨k,op,dst,a,b,n,text,r0,r1,r2,r3,r4,r5,to_,els⟩ nm ps R Fr C L cap
  obtain ⟨W,hW⟩:∃ W,(w.alloc (Ins.obj ⟨k,op,dst,a,b,n,text,r0,r1,r2,r3,r4,r5,to_,els⟩)).alloc (funcObj nm ps R Fr C L cap)=W:=⟨_,rfl⟩
  rw [hW] at hS
  have k1:decide (k < 1)=false:=by simp; omega
  have k2:decide (k > 13)=false:=by simp; omega
  have k3:decide (13 < k)=false:=by simp; omega
  have k4:(k == 0)=false:=by simp; omega
  have hba:=fun w=>bare_any ⟨k,op,dst,a,b,n,text,r0,r1,r2,r3,r4,r5,to_,els⟩ hk w
  simp only [BareT] at hba
  rw [if_pos hm] at hba
  obtain ⟨x0,x1,x2,x3,x4,x5,x6,x7,x8,x9,x10,x11,x12,x13,x14⟩:=Ins.cells hS.bi
  simp only [Ins.obj,funcObj,Ins.agg,funcAgg] at hW hba x0 x1 x2 x3 x4 x5 x6 x7 x8 x9 x10 x11 x12 x13 x14 ⊢
  have hst:=fun w=>sets_any k w
  rw [hs] at hst
  have hus:=fun w=>Uses_any ⟨k,op,dst,a,b,n,text,r0,r1,r2,r3,r4,r5,to_,els⟩ w
  have hul6:=Ins.uses_len ⟨k,op,dst,a,b,n,text,r0,r1,r2,r3,r4,r5,to_,els⟩
  obtain ⟨ul,hul⟩:∃ ul,ul=Ins.uses ⟨k,op,dst,a,b,n,text,r0,r1,r2,r3,r4,r5,to_,els⟩:=⟨_,rfl⟩
  simp only [Ins.agg] at hus
  rw [← hul] at hul6
  simp only [← hul] at hus
  have HUL:=Lib.hid hul
  clear hul
  have HK:=Lib.hid hk
  have HS:=Lib.hid hs
  have hfd:=fun w=>field0 k w
  clear hk hm hs
  go_enter Try.func51,Try.ntmps51
  go_wp2_with (first
    | (go_at_call 70; refine (hba _).mono ?_; rintro e w1 ⟨rfl,hb1⟩; have hS1:=hS.later hb1; obtain ⟨z0,z1,z2,z3,z4,z5,z6,z7,z8,z9,z10,z11,z12,z13,z14⟩:=Ins.cells hS1.bi; simp only at z0 z1 z2 z3 z4 z5 z6 z7 z8 z9 z10 z11 z12 z13 z14; have zr:=right1_any (cell_of_heap hS1.bf 2 (.int .i64 R) rfl))
    | (go_at_call 53; refine (hst _).mono ?_; rintro e w5 ⟨rfl,hw5⟩; subst hw5)
    | (go_at_call 58; refine (hus _).mono ?_; rintro e w2 ⟨⟨A,cA,rfl,hRd⟩,hb2⟩; have hS2:=hS1.later hb2))
  go_at_call 71
  refine (allOf_any (fb:=w.heap.size + 1) (R:=R) (cell_of_heap hS2.bf 2 (.int .i64 R) rfl) hS2.fb A ul cA hRd (by omega)).mono ?_
  rintro e w3 ⟨⟨bu,rfl,hbu⟩,hb3⟩
  have hS3:=hS2.later hb3
  have HBU:=Lib.hid hbu
  clear hbu
  have v0:=cell_of_heap hS3.bi 0 (.int .i64 k) rfl
  have v1:=cell_of_heap hS3.bi 1 (.int .i64 op) rfl
  have v5:=cell_of_heap hS3.bi 5 (.int .i64 n) rfl
  have v6:=cell_of_heap hS3.bi 6 (.string text) rfl
  have v13:=cell_of_heap hS3.bi 13 (.int .i64 to_) rfl
  have v14:=cell_of_heap hS3.bi 14 (.int .i64 els) rfl
  have u3:=cell_of_heap hS3.bf 3 (.int .i64 Fr) rfl
  have zr2:=right2_any (cell_of_heap hS3.bf 4 (.slice C L cap) rfl)
  cases bu
  · go_wp2
    go_returns
    exact ⟨HNO.out (fun h=>by have:=HBU.out.2 (by rw [HUL.out]; exact h); cases this),hS3.below⟩
  have hB:=HB.out (by rw [← HUL.out]; exact HBU.out.1 (by trivial))
  clear HB HNO hba hst hus hS hS1 hS2 hb1 hb2 hb3 hRd hW x0 x1 x2 x3 x4 x5 x6 x7 x8 x9 x10 x11 x12 x13 x14 z0 z1 z2 z3 z4 z5 z6 z7 z8 z9 z10 z11 z12 z13 z14 zr
  have HB:=Lib.hid hB
  clear hB k1 k2 k3 k4
  have hkk:k=7∨k=10∨k=11∨k=12∨k=13:=by
    have h1:=HK.out
    have h2:=HS.out
    (try simp only at h1)
    simp [kS] at h2
    omega
  rcases hkk with rfl | rfl | rfl | rfl | rfl
  · go_wp2
    go_returns
    exact ⟨⟨true,rfl,by rw [HB.out]; simp⟩,hS3.below⟩
  · go_wp2
    go_returns
    exact ⟨⟨true,rfl,by rw [HB.out]; simp⟩,hS3.below⟩
  · go_wp2_with (first
      | (go_at_call 69; refine (zr2 to_).mono ?_; rintro e w5 ⟨rfl,hw5⟩; subst hw5))
    go_returns
    exact ⟨⟨_,rfl,by rw [HB.out]; simp [inR]⟩,hS3.below⟩
  · have ha:=zr2 to_
    have hb:=zr2 els
    have HI:Hid ((inR to_ L=true↔0≤to_∧to_ < L)∧(inR els L=true↔0≤els∧els < L)):=Lib.hid (by simp [inR])
    generalize inR to_ L=t1 at ha HI
    generalize inR els L=t2 at hb HI
    cases t1
    all_goals
      go_wp2_with (first
        | (go_at_call_of 69 (Value.int IntKind.i64 to_); refine ha.mono ?_; rintro e w5 ⟨rfl,hw5⟩; subst hw5)
        | (go_at_call_of 69 (Value.int IntKind.i64 els); refine hb.mono ?_; rintro e w5 ⟨rfl,hw5⟩; subst hw5))
      go_returns
    · exact ⟨⟨_,rfl,by rw [HB.out]; have:=HI.out.1; simp at this ⊢; omega⟩,hS3.below⟩
    · exact ⟨⟨_,rfl,by rw [HB.out]; have h1:=HI.out.1; have h2:=HI.out.2; simp at h1; simp [h1,h2]⟩,hS3.below⟩
  · go_wp2
    go_returns
    exact ⟨⟨true,rfl,by rw [HB.out]; simp⟩,hS3.below⟩
end Go.Proofs.Ythbcdckonaljiaa
namespace Go.Proofs.Ythbcdckonaljiaa
open Go.RowKit Go.BigFrame
theorem nonempty_list {s:ByteArray}(h:¬ s.size=0):s.toList.isEmpty=false:=by
  rw [Go.ByteArray.toList_eq]
  cases s with
  | mk d =>
    have:d.size≠0:=h
    rw [List.isEmpty_eq_false_iff_exists_mem]
    exact ⟨d[0],by simp⟩
set_option maxRecDepth 1000000 in
set_option maxHeartbeats 8000000 in
theorem right_y (k op dst a b n:Int) (text:ByteArray) (r0 r1 r2 r3 r4 r5 to_ els:Int) (nm:ByteArray) (ps R Fr:Int) (C:Option Addr) (L cap:Nat) (w:World) (hk:1≤k∧k≤13) (hm:Ins.mk k op dst a b n text r0 r1 r2 r3 r4 r5 to_ els=Ins.mask ⟨k,op,dst,a,b,n,text,r0,r1,r2,r3,r4,r5,to_,els⟩) (hs:kS k=true) (hd:inR dst R=true):Calls Try.prog 51 #[Ins.agg ⟨k,op,dst,a,b,n,text,r0,r1,r2,r3,r4,r5,to_,els⟩,funcAgg nm ps R Fr C L cap] w fun e w'=>Tru (Ok ⟨k,op,dst,a,b,n,text,r0,r1,r2,r3,r4,r5,to_,els⟩ R Fr L) e∧Below w.heap.size w w':=by
  have HB:=Lib.hid (fun (hu:∀ r ∈ Ins.uses ⟨k,op,dst,a,b,n,text,r0,r1,r2,r3,r4,r5,to_,els⟩,0≤r∧r < R)=>Ok.build (i:=⟨k,op,dst,a,b,n,text,r0,r1,r2,r3,r4,r5,to_,els⟩) (R:=R) (Fr:=Fr) (L:=L) hk hu (fun _=>Or.inl (inR_true hd)) hm)
  have HNO:=Lib.hid (fun (hu:¬ ∀ r ∈ Ins.uses ⟨k,op,dst,a,b,n,text,r0,r1,r2,r3,r4,r5,to_,els⟩,0≤r∧r < R)=>Tru.no (fun h:Ok ⟨k,op,dst,a,b,n,text,r0,r1,r2,r3,r4,r5,to_,els⟩ R Fr L=>hu h.uses))
  have hS:=KSt.made w ⟨k,op,dst,a,b,n,text,r0,r1,r2,r3,r4,r5,to_,els⟩ nm ps R Fr C L cap
  obtain ⟨W,hW⟩:∃ W,(w.alloc (Ins.obj ⟨k,op,dst,a,b,n,text,r0,r1,r2,r3,r4,r5,to_,els⟩)).alloc (funcObj nm ps R Fr C L cap)=W:=⟨_,rfl⟩
  rw [hW] at hS
  have k1:decide (k < 1)=false:=by simp; omega
  have k2:decide (k > 13)=false:=by simp; omega
  have k3:decide (13 < k)=false:=by simp; omega
  have k4:(k == 0)=false:=by simp; omega
  have hba:=fun w=>bare_any ⟨k,op,dst,a,b,n,text,r0,r1,r2,r3,r4,r5,to_,els⟩ hk w
  simp only [BareT] at hba
  rw [if_pos hm] at hba
  obtain ⟨x0,x1,x2,x3,x4,x5,x6,x7,x8,x9,x10,x11,x12,x13,x14⟩:=Ins.cells hS.bi
  simp only [Ins.obj,funcObj,Ins.agg,funcAgg] at hW hba x0 x1 x2 x3 x4 x5 x6 x7 x8 x9 x10 x11 x12 x13 x14 ⊢
  have hst:=fun w=>sets_any k w
  rw [hs] at hst
  have hus:=fun w=>Uses_any ⟨k,op,dst,a,b,n,text,r0,r1,r2,r3,r4,r5,to_,els⟩ w
  have hul6:=Ins.uses_len ⟨k,op,dst,a,b,n,text,r0,r1,r2,r3,r4,r5,to_,els⟩
  obtain ⟨ul,hul⟩:∃ ul,ul=Ins.uses ⟨k,op,dst,a,b,n,text,r0,r1,r2,r3,r4,r5,to_,els⟩:=⟨_,rfl⟩
  simp only [Ins.agg] at hus
  rw [← hul] at hul6
  simp only [← hul] at hus
  have HUL:=Lib.hid hul
  clear hul
  have HK:=Lib.hid hk
  have HS:=Lib.hid hs
  have hfd:=fun w=>field0 k w
  clear hk hm hs
  go_enter Try.func51,Try.ntmps51
  go_wp2_with (first
    | (go_at_call 70; refine (hba _).mono ?_; rintro e w1 ⟨rfl,hb1⟩; have hS1:=hS.later hb1; obtain ⟨z0,z1,z2,z3,z4,z5,z6,z7,z8,z9,z10,z11,z12,z13,z14⟩:=Ins.cells hS1.bi; simp only at z0 z1 z2 z3 z4 z5 z6 z7 z8 z9 z10 z11 z12 z13 z14; have zr:=right1_any (cell_of_heap hS1.bf 2 (.int .i64 R) rfl))
    | (go_at_call 53; refine (hst _).mono ?_; rintro e w5 ⟨rfl,hw5⟩; subst hw5)
    | (go_at_call 68; have zz:=zr dst; rw [hd] at zz; refine zz.mono ?_; rintro e w5 ⟨rfl,hw5⟩; subst hw5)
    | (go_at_call 58; refine (hus _).mono ?_; rintro e w2 ⟨⟨A,cA,rfl,hRd⟩,hb2⟩; have hS2:=hS1.later hb2))
  go_at_call 71
  refine (allOf_any (fb:=w.heap.size + 1) (R:=R) (cell_of_heap hS2.bf 2 (.int .i64 R) rfl) hS2.fb A ul cA hRd (by omega)).mono ?_
  rintro e w3 ⟨⟨bu,rfl,hbu⟩,hb3⟩
  have hS3:=hS2.later hb3
  have HBU:=Lib.hid hbu
  clear hbu
  have v0:=cell_of_heap hS3.bi 0 (.int .i64 k) rfl
  have v1:=cell_of_heap hS3.bi 1 (.int .i64 op) rfl
  have v5:=cell_of_heap hS3.bi 5 (.int .i64 n) rfl
  have v6:=cell_of_heap hS3.bi 6 (.string text) rfl
  have v13:=cell_of_heap hS3.bi 13 (.int .i64 to_) rfl
  have v14:=cell_of_heap hS3.bi 14 (.int .i64 els) rfl
  have u3:=cell_of_heap hS3.bf 3 (.int .i64 Fr) rfl
  have zr2:=right2_any (cell_of_heap hS3.bf 4 (.slice C L cap) rfl)
  cases bu
  · go_wp2
    go_returns
    exact ⟨HNO.out (fun h=>by have:=HBU.out.2 (by rw [HUL.out]; exact h); cases this),hS3.below⟩
  have hB:=HB.out (by rw [← HUL.out]; exact HBU.out.1 (by trivial))
  clear HB HNO hba hst hus hS hS1 hS2 hb1 hb2 hb3 hRd hW x0 x1 x2 x3 x4 x5 x6 x7 x8 x9 x10 x11 x12 x13 x14 z0 z1 z2 z3 z4 z5 z6 z7 z8 z9 z10 z11 z12 z13 z14 zr
  have HB:=Lib.hid hB
  clear hB k1 k2 k3 k4
  have hkk:k=1∨k=2∨k=3∨k=4∨k=5∨k=6∨k=8∨k=9:=by
    have h1:=HK.out
    have h2:=HS.out
    (try simp only at h1)
    simp [kS] at h2
    omega
  rcases hkk with rfl | rfl | rfl | rfl | rfl | rfl | rfl | rfl
  · go_wp2_with (first
      | (go_at_call 72; refine (is_any n _).mono ?_; rintro e w5 ⟨rfl,hw5⟩; subst hw5))
    go_returns
    exact ⟨⟨_,rfl,by rw [HB.out]; simp⟩,hS3.below⟩
  · go_wp2_with (first
      | (go_at_call 73; refine (one_any op _).mono ?_; rintro e w5 ⟨rfl,hw5⟩; subst hw5))
    go_returns
    exact ⟨⟨_,rfl,by rw [HB.out]; simp⟩,hS3.below⟩
  · go_wp2_with (first
      | (go_at_call 74; refine (two_any op _).mono ?_; rintro e w5 ⟨rfl,hw5⟩; subst hw5))
    go_returns
    exact ⟨⟨_,rfl,by rw [HB.out]; simp⟩,hS3.below⟩
  · go_wp2
    go_returns
    exact ⟨⟨true,rfl,by rw [HB.out]; simp⟩,hS3.below⟩
  · rcases (by simp; omega:(decide (n ≥ 0)=false∧decide (0≤n)=false)∨(decide (n ≥ 0)=true∧decide (0≤n)=true∧decide (n≤Fr)=false)∨(decide (n ≥ 0)=true∧decide (0≤n)=true∧decide (n≤Fr)=true)) with ⟨h1,h2⟩ | ⟨h1,h2,h3⟩ | ⟨h1,h2,h3⟩
    all_goals
      go_wp2
      go_returns
    · exact ⟨⟨_,rfl,by rw [HB.out]; simp at h2 ⊢; omega⟩,hS3.below⟩
    · exact ⟨⟨_,rfl,by rw [HB.out]; simp at h2 h3 ⊢; omega⟩,hS3.below⟩
    · exact ⟨⟨_,rfl,by rw [HB.out]; simp at h2 h3 ⊢; omega⟩,hS3.below⟩
  · go_wp2
    go_returns
    exact ⟨⟨true,rfl,by rw [HB.out]; simp⟩,hS3.below⟩
  · have ht:(text.toList.isEmpty=true∧(text.toList == ([]:List UInt8))=true∧text=⟨#[]⟩)∨(text.toList.isEmpty=false∧(text.toList == ([]:List UInt8))=false∧text≠⟨#[]⟩):=by
      by_cases h0:text.size=0
      · left
        rw [size_zero h0,Go.ByteArray.toList_eq]
        exact ⟨rfl,rfl,rfl⟩
      · right
        have h:=nonempty_list h0
        exact ⟨h,by cases hl:text.toList with | nil=>rw [hl] at h; cases h | cons a l=>rfl,fun e=>h0 (by rw [e]; rfl)⟩
    rcases (by simp; omega:(decide (n ≥ 0)=false∧decide (0≤n)=false)∨(decide (n ≥ 0)=true∧decide (0≤n)=true∧decide (n≤6)=false)∨(decide (n ≥ 0)=true∧decide (0≤n)=true∧decide (n≤6)=true)) with ⟨h1,h2⟩ | ⟨h1,h2,h3⟩ | ⟨h1,h2,h3⟩
    · clear ht
      go_wp2
      go_returns
      exact ⟨⟨_,rfl,by rw [HB.out]; simp at h2 ⊢; omega⟩,hS3.below⟩
    · clear ht
      go_wp2
      go_returns
      exact ⟨⟨_,rfl,by rw [HB.out]; simp at h2 h3 ⊢; omega⟩,hS3.below⟩
    · rcases ht with ⟨t1,t2,t3⟩ | ⟨t1,t2,t3⟩
      all_goals
        have HT3:=Lib.hid t3
        clear t3
        go_wp2
        go_returns
      · exact ⟨⟨_,rfl,by rw [HB.out]; have:=HT3.out; simp [this]⟩,hS3.below⟩
      · exact ⟨⟨_,rfl,by rw [HB.out]; have:=HT3.out; simp at h2 h3; simp [this,h2,h3]⟩,hS3.below⟩
  · go_wp2
    go_returns
    exact ⟨⟨true,rfl,by rw [HB.out]; simp⟩,hS3.below⟩
end Go.Proofs.Ythbcdckonaljiaa
namespace Go.Proofs.Ythbcdckonaljiaa
open Go.RowKit Go.BigFrame
set_option maxRecDepth 1000000 in
set_option maxHeartbeats 8000000 in
theorem right_c (k op dst a b n:Int)(text:ByteArray)(r0 r1 r2 r3 r4 r5 to_ els:Int)(nm:ByteArray)(ps R Fr:Int)(C:Option Addr)(L cap:Nat)(w:World)(hk:1≤k∧k≤13)(hm:Ins.mk k op dst a b n text r0 r1 r2 r3 r4 r5 to_ els=Ins.mask ⟨k,op,dst,a,b,n,text,r0,r1,r2,r3,r4,r5,to_,els⟩)(hs:kS k=true)(hc:k=8∧dst=-1)(hR0:0≤R):Calls Try.prog 51 #[Ins.agg ⟨k,op,dst,a,b,n,text,r0,r1,r2,r3,r4,r5,to_,els⟩,funcAgg nm ps R Fr C L cap] w fun e w'=>Tru (Ok ⟨k,op,dst,a,b,n,text,r0,r1,r2,r3,r4,r5,to_,els⟩ R Fr L) e∧Below w.heap.size w w':=by
  have HB:=Lib.hid (fun (hu:∀ r ∈ Ins.uses ⟨k,op,dst,a,b,n,text,r0,r1,r2,r3,r4,r5,to_,els⟩,0≤r∧r < R)=>Ok.build (i:=⟨k,op,dst,a,b,n,text,r0,r1,r2,r3,r4,r5,to_,els⟩) (R:=R) (Fr:=Fr) (L:=L) hk hu (fun _=>Or.inr ⟨hc.1,hc.2,by simp only; omega⟩) hm)
  have HNO:=Lib.hid (fun (hu:¬ ∀ r ∈ Ins.uses ⟨k,op,dst,a,b,n,text,r0,r1,r2,r3,r4,r5,to_,els⟩,0≤r∧r < R)=>Tru.no (fun h:Ok ⟨k,op,dst,a,b,n,text,r0,r1,r2,r3,r4,r5,to_,els⟩ R Fr L=>hu h.uses))
  have hS:=KSt.made w ⟨k,op,dst,a,b,n,text,r0,r1,r2,r3,r4,r5,to_,els⟩ nm ps R Fr C L cap
  obtain ⟨W,hW⟩:∃ W,(w.alloc (Ins.obj ⟨k,op,dst,a,b,n,text,r0,r1,r2,r3,r4,r5,to_,els⟩)).alloc (funcObj nm ps R Fr C L cap)=W:=⟨_,rfl⟩
  rw [hW] at hS
  have k1:decide (k < 1)=false:=by simp; omega
  have k2:decide (k > 13)=false:=by simp; omega
  have k3:decide (13 < k)=false:=by simp; omega
  have k4:(k == 0)=false:=by simp; omega
  have hba:=fun w=>bare_any ⟨k,op,dst,a,b,n,text,r0,r1,r2,r3,r4,r5,to_,els⟩ hk w
  simp only [BareT] at hba
  rw [if_pos hm] at hba
  obtain ⟨x0,x1,x2,x3,x4,x5,x6,x7,x8,x9,x10,x11,x12,x13,x14⟩:=Ins.cells hS.bi
  simp only [Ins.obj,funcObj,Ins.agg,funcAgg] at hW hba x0 x1 x2 x3 x4 x5 x6 x7 x8 x9 x10 x11 x12 x13 x14 ⊢
  have hst:=fun w=>sets_any k w
  rw [hs] at hst
  have hd:inR dst R=false:=by simp [inR]; omega
  have q8:(k == 8)=true:=by simp; omega
  have q1:(dst == -1)=true:=by simp; omega
  have hus:=fun w=>Uses_any ⟨k,op,dst,a,b,n,text,r0,r1,r2,r3,r4,r5,to_,els⟩ w
  have hul6:=Ins.uses_len ⟨k,op,dst,a,b,n,text,r0,r1,r2,r3,r4,r5,to_,els⟩
  obtain ⟨ul,hul⟩:∃ ul,ul=Ins.uses ⟨k,op,dst,a,b,n,text,r0,r1,r2,r3,r4,r5,to_,els⟩:=⟨_,rfl⟩
  simp only [Ins.agg] at hus
  rw [← hul] at hul6
  simp only [← hul] at hus
  have HUL:=Lib.hid hul
  clear hul
  have HK:=Lib.hid hk
  have HS:=Lib.hid hs
  have hfd:=fun w=>field0 k w
  clear hk hm hs hc
  go_enter Try.func51,Try.ntmps51
  go_wp2_with (first
    | (go_at_call 70; refine (hba _).mono ?_; rintro e w1 ⟨rfl,hb1⟩; have hS1:=hS.later hb1; obtain ⟨z0,z1,z2,z3,z4,z5,z6,z7,z8,z9,z10,z11,z12,z13,z14⟩:=Ins.cells hS1.bi; simp only at z0 z1 z2 z3 z4 z5 z6 z7 z8 z9 z10 z11 z12 z13 z14; have zr:=right1_any (cell_of_heap hS1.bf 2 (.int .i64 R) rfl))
    | (go_at_call 53; refine (hst _).mono ?_; rintro e w5 ⟨rfl,hw5⟩; subst hw5)
    | (go_at_call 68; have zz:=zr dst; rw [hd] at zz; refine zz.mono ?_; rintro e w5 ⟨rfl,hw5⟩; subst hw5)
    | (go_at_call 58; refine (hus _).mono ?_; rintro e w2 ⟨⟨A,cA,rfl,hRd⟩,hb2⟩; have hS2:=hS1.later hb2))
  go_at_call 71
  refine (allOf_any (fb:=w.heap.size + 1) (R:=R) (cell_of_heap hS2.bf 2 (.int .i64 R) rfl) hS2.fb A ul cA hRd (by omega)).mono ?_
  rintro e w3 ⟨⟨bu,rfl,hbu⟩,hb3⟩
  have hS3:=hS2.later hb3
  have HBU:=Lib.hid hbu
  clear hbu
  have v0:=cell_of_heap hS3.bi 0 (.int .i64 k) rfl
  have v1:=cell_of_heap hS3.bi 1 (.int .i64 op) rfl
  have v5:=cell_of_heap hS3.bi 5 (.int .i64 n) rfl
  have v6:=cell_of_heap hS3.bi 6 (.string text) rfl
  have v13:=cell_of_heap hS3.bi 13 (.int .i64 to_) rfl
  have v14:=cell_of_heap hS3.bi 14 (.int .i64 els) rfl
  have u3:=cell_of_heap hS3.bf 3 (.int .i64 Fr) rfl
  have zr2:=right2_any (cell_of_heap hS3.bf 4 (.slice C L cap) rfl)
  cases bu
  · go_wp2
    go_returns
    exact ⟨HNO.out (fun h=>by have:=HBU.out.2 (by rw [HUL.out]; exact h); cases this),hS3.below⟩
  have hB:=HB.out (by rw [← HUL.out]; exact HBU.out.1 (by trivial))
  clear HB HNO hba hst hus hS hS1 hS2 hb1 hb2 hb3 hRd hW x0 x1 x2 x3 x4 x5 x6 x7 x8 x9 x10 x11 x12 x13 x14 z0 z1 z2 z3 z4 z5 z6 z7 z8 z9 z10 z11 z12 z13 z14 zr
  have HB:=Lib.hid hB
  clear hB k1 k2 k3 k4
  obtain rfl:k=8:=by simpa using q8
  have ht:(text.toList.isEmpty=true∧(text.toList == ([]:List UInt8))=true∧text=⟨#[]⟩)∨(text.toList.isEmpty=false∧(text.toList == ([]:List UInt8))=false∧text≠⟨#[]⟩):=by
    by_cases h0:text.size=0
    · left
      rw [size_zero h0,Go.ByteArray.toList_eq]
      exact ⟨rfl,rfl,rfl⟩
    · right
      have h:=nonempty_list h0
      exact ⟨h,by cases hl:text.toList with | nil=>rw [hl] at h; cases h | cons a l=>rfl,fun e=>h0 (by rw [e]; rfl)⟩
  rcases (by simp; omega:(decide (n ≥ 0)=false∧decide (0≤n)=false)∨(decide (n ≥ 0)=true∧decide (0≤n)=true∧decide (n≤6)=false)∨(decide (n ≥ 0)=true∧decide (0≤n)=true∧decide (n≤6)=true)) with ⟨h1,h2⟩ | ⟨h1,h2,h3⟩ | ⟨h1,h2,h3⟩
  · clear ht
    go_wp2
    go_returns
    exact ⟨⟨_,rfl,by rw [HB.out]; simp at h2 ⊢; omega⟩,hS3.below⟩
  · clear ht
    go_wp2
    go_returns
    exact ⟨⟨_,rfl,by rw [HB.out]; simp at h2 h3 ⊢; omega⟩,hS3.below⟩
  · rcases ht with ⟨t1,t2,t3⟩ | ⟨t1,t2,t3⟩
    all_goals
      have HT3:=Lib.hid t3
      clear t3
      go_wp2
      go_returns
    · exact ⟨⟨_,rfl,by rw [HB.out]; have:=HT3.out; simp [this]⟩,hS3.below⟩
    · exact ⟨⟨_,rfl,by rw [HB.out]; have:=HT3.out; simp at h2 h3; simp [this,h2,h3]⟩,hS3.below⟩
end Go.Proofs.Ythbcdckonaljiaa
namespace Go.Proofs.Ythbcdckonaljiaa
open Go.RowKit Go.BigFrame
theorem right_any (i:Ins) (nm:ByteArray) (ps R Fr:Int) (C:Option Addr) (L cap:Nat) (w:World) (hR0:0≤R) :
    Calls Try.prog 51 #[i.agg,funcAgg nm ps R Fr C L cap] w fun e w'=>Tru (Ok i R Fr L) e∧Below w.heap.size w w':=by
  obtain ⟨k,op,dst,a,b,n,text,r0,r1,r2,r3,r4,r5,to_,els⟩:=i
  by_cases hk:1≤k∧k≤13
  · by_cases hm:Ins.mk k op dst a b n text r0 r1 r2 r3 r4 r5 to_ els=Ins.mask ⟨k,op,dst,a,b,n,text,r0,r1,r2,r3,r4,r5,to_,els⟩
    · cases hs:kS k
      · exact right_n k op dst a b n text r0 r1 r2 r3 r4 r5 to_ els nm ps R Fr C L cap w hk hm hs
      · cases hd:inR dst R
        · by_cases hc:k=8∧dst=-1
          · exact right_c k op dst a b n text r0 r1 r2 r3 r4 r5 to_ els nm ps R Fr C L cap w hk hm hs hc hR0
          · exact right_dst k op dst a b n text r0 r1 r2 r3 r4 r5 to_ els nm ps R Fr C L cap w hk hm hs hd hc
        · exact right_y k op dst a b n text r0 r1 r2 r3 r4 r5 to_ els nm ps R Fr C L cap w hk hm hs hd
    · exact right_nomask k op dst a b n text r0 r1 r2 r3 r4 r5 to_ els nm ps R Fr C L cap w hk hm
  · exact right_bad k op dst a b n text r0 r1 r2 r3 r4 r5 to_ els nm ps R Fr C L cap w (by omega)
end Go.Proofs.Ythbcdckonaljiaa
namespace Go.Proofs.Ythbcdckonaljiaa
open Go.RowKit Go.BigFrame
set_option maxRecDepth 1000000 in
set_option maxHeartbeats 8000000 in
theorem RightFunc_any (f:Fn7) (C:Option Addr) (cap:Nat) (w:World) (hC:RdI w C f.code):Calls Try.prog 28 #[funcAgg f.nm f.ps f.R f.Fr C f.code.length cap] w fun e w'=>Tru (OkF f) e∧Below w.heap.size w w':=by
  obtain ⟨nm,ps,R,Fr,l⟩:=f
  obtain ⟨L,hL⟩:∃ L,l.length=L:=⟨_,rfl⟩
  simp only at hC ⊢
  rw [hL]
  have HL:=Lib.hid hL
  clear hL
  have hB:=Below.one w (funcObj nm ps R Fr C L cap)
  have bx:=heap_alloc_new w (funcObj nm ps R Fr C L cap)
  simp only [funcObj,funcAgg] at hB bx ⊢
  by_cases hn:nm.size=0
  · have HT:=Lib.hid (Tru.no (fun h:OkF ⟨nm,ps,R,Fr,l⟩=>h.nm hn))
    have n0:nm.toList.isEmpty=true:=by rw [size_zero hn,Go.ByteArray.toList_eq]; rfl
    have n1:(nm.toList == ([]:List UInt8))=true:=by rw [size_zero hn,Go.ByteArray.toList_eq]; rfl
    clear hn
    go_enter Try.func28,Try.ntmps28
    go_wp2
    go_returns
    exact ⟨HT.out,hB⟩
  have HN:=Lib.hid hn
  have n0:nm.toList.isEmpty=false:=name_some hn
  have n1:(nm.toList == ([]:List UInt8))=false:=by
    have h:=name_some hn
    cases hl:nm.toList with
    | nil=>rw [hl] at h; cases h
    | cons a l=>rfl
  clear hn
  by_cases hc:0≤ps∧ps≤6∧ps≤R∧R≤4096∧0≤Fr∧Fr≤4096∧1≤L∧L≤8192
  case neg =>
    have HT:=Lib.hid (Tru.no (fun h:OkF ⟨nm,ps,R,Fr,l⟩=>by
      have h1:=h.ps; have h2:=h.R; have h3:=h.Fr; have h4:=h.len
      simp only at h1 h2 h3 h4
      rw [HL.out] at h4
      omega))
    have hd:(decide (ps < 0)=true)∨(decide (ps < 0)=false∧decide (ps > 6)=true∧decide (6 < ps)=true)∨(decide (ps < 0)=false∧decide (ps > 6)=false∧decide (6 < ps)=false∧decide (R < ps)=true)∨(decide (ps < 0)=false∧decide (ps > 6)=false∧decide (6 < ps)=false∧decide (R < ps)=false∧decide (R > 4096)=true∧decide (4096 < R)=true)∨(decide (ps < 0)=false∧decide (ps > 6)=false∧decide (6 < ps)=false∧decide (R < ps)=false∧decide (R > 4096)=false∧decide (4096 < R)=false∧decide (Fr < 0)=true)∨(decide (ps < 0)=false∧decide (ps > 6)=false∧decide (6 < ps)=false∧decide (R < ps)=false∧decide (R > 4096)=false∧decide (4096 < R)=false∧decide (Fr < 0)=false∧decide (Fr > 4096)=true∧decide (4096 < Fr)=true)∨(decide (ps < 0)=false∧decide (ps > 6)=false∧decide (6 < ps)=false∧decide (R < ps)=false∧decide (R > 4096)=false∧decide (4096 < R)=false∧decide (Fr < 0)=false∧decide (Fr > 4096)=false∧decide (4096 < Fr)=false∧decide ((L:Int) < 1)=true∧decide (L < 1)=true)∨(decide (ps < 0)=false∧decide (ps > 6)=false∧decide (6 < ps)=false∧decide (R < ps)=false∧decide (R > 4096)=false∧decide (4096 < R)=false∧decide (Fr < 0)=false∧decide (Fr > 4096)=false∧decide (4096 < Fr)=false∧decide ((L:Int) < 1)=false∧decide (L < 1)=false∧decide ((L:Int) > 8192)=true∧decide (8192 < L)=true∧decide (L > 8192)=true):=by simp; omega
    clear hc
    rcases hd with c0 | ⟨c0,c1,c2⟩ | ⟨c0,c1,c2,c3⟩ | ⟨c0,c1,c2,c3,c4,c5⟩ | ⟨c0,c1,c2,c3,c4,c5,c6⟩ | ⟨c0,c1,c2,c3,c4,c5,c6,c7,c8⟩ | ⟨c0,c1,c2,c3,c4,c5,c6,c7,c8,c9,c10⟩ | ⟨c0,c1,c2,c3,c4,c5,c6,c7,c8,c9,c10,c11,c12,c13⟩
    all_goals
      go_enter Try.func28,Try.ntmps28
      go_wp2
      go_returns
      exact ⟨HT.out,hB⟩
  have k0:decide (ps < 0)=false:=by simp; omega
  have k1:decide (ps > 6)=false:=by simp; omega
  have k2:decide (6 < ps)=false:=by simp; omega
  have k3:decide (R < ps)=false:=by simp; omega
  have k4:decide (R > 4096)=false:=by simp; omega
  have k5:decide (4096 < R)=false:=by simp; omega
  have k6:decide (Fr < 0)=false:=by simp; omega
  have k7:decide (Fr > 4096)=false:=by simp; omega
  have k8:decide (4096 < Fr)=false:=by simp; omega
  have k9:decide ((L:Int) < 1)=false:=by simp; omega
  have k10:decide (L < 1)=false:=by simp; omega
  have k11:decide ((L:Int) > 8192)=false:=by simp; omega
  have k12:decide (8192 < L)=false:=by simp; omega
  have k13:decide (L > 8192)=false:=by simp; omega
  have hR0:0≤R:=by omega
  have hL8:L≤8192:=by omega
  obtain ⟨M,hM⟩:∃ M,L=M + 1:=⟨L - 1,by omega⟩
  have HM:=Lib.hid hM
  clear hM
  have HC:=Lib.hid hc
  clear hc
  obtain ⟨W,hW⟩:∃ W,w.alloc (.cells #[.string nm,.int .i64 ps,.int .i64 R,.int .i64 Fr,.slice C L cap] 26)=W:=⟨_,rfl⟩
  have g0:=cell_of_heap bx 0 (.string nm) rfl
  have g1:=cell_of_heap bx 1 (.int .i64 ps) rfl
  have g2:=cell_of_heap bx 2 (.int .i64 R) rfl
  have g3:=cell_of_heap bx 3 (.int .i64 Fr) rfl
  have g4:=cell_of_heap bx 4 (.slice C L cap) rfl
  rw [hW] at bx hB g0 g1 g2 g3 g4
  go_enter Try.func28,Try.ntmps28
  go_wp2
  clear hW
  go_loopw [55] (fun ix w8=>∃ m:Nat,m≤L∧ix = .int .i64 m∧Below W.heap.size W w8∧∀ (j:Nat) i,j < m→l[j]? = some i→Ok i R Fr L) (fun ix _=>L - (intOf ix).toNat)
  case atStart=>exact ⟨0,by omega,rfl,Below.refl _ _,fun j i hj=>by omega⟩
  case round =>
    obtain ⟨m,hm,rfl,hb,hno⟩:=hrel
    have hBw:=hB.trans (hb.mono hB.size)
    have bxr:=(hb.block _ (Array.getElem?_eq_some_iff.1 bx).1).trans bx
    have y0:=cell_of_heap bxr 0 (.string nm) rfl
    have y1:=cell_of_heap bxr 1 (.int .i64 ps) rfl
    have y2:=cell_of_heap bxr 2 (.int .i64 R) rfl
    have y3:=cell_of_heap bxr 3 (.int .i64 Fr) rfl
    have y4:=cell_of_heap bxr 4 (.slice C L cap) rfl
    by_cases hlt:m < L
    · have hi:l[m]? = some (l[m]'(by rw [HL.out]; exact hlt)):=by simp
      generalize l[m]'(by rw [HL.out]; exact hlt)=i at hi
      obtain ⟨b,o,rfl,_,hcs⟩:=(hC.below hBw) m i hi
      obtain ⟨x0,x1,x2,x3,x4,x5,x6,x7,x8,x9,x10,x11,x12,x13,x14⟩:=RdI.load hcs
      have hr:=fun (s:World)=>right_any i nm ps R Fr (some ⟨b,o,none⟩) L cap s hR0
      obtain ⟨k,op,dst,a,b',n,text,r0,r1,r2,r3,r4,r5,to_,els⟩:=i
      simp only at x0 x1 x2 x3 x4 x5 x6 x7 x8 x9 x10 x11 x12 x13 x14
      simp only [Ins.agg,funcAgg] at hr
      clear hcs
      have hv:∀ s:World,Calls Try.prog 51 #[.agg #[.int .i64 k,.int .i64 op,.int .i64 dst,.int .i64 a,.int .i64 b',.int .i64 n,.string text,.int .i64 r0,.int .i64 r1,.int .i64 r2,.int .i64 r3,.int .i64 r4,.int .i64 r5,.int .i64 to_,.int .i64 els],.agg #[.string nm,.int .i64 ps,.int .i64 R,.int .i64 Fr,.slice (some ⟨b,o,none⟩) L cap]] s fun e w'=>e = .returned (.bool (tb (Ok ⟨k,op,dst,a,b',n,text,r0,r1,r2,r3,r4,r5,to_,els⟩ R Fr L)))∧Below s.heap.size s w':=fun s=>(hr s).mono fun e w' h=>⟨h.1.val,h.2⟩
      have HO:=Lib.hid (⟨(tb_true (p:=Ok ⟨k,op,dst,a,b',n,text,r0,r1,r2,r3,r4,r5,to_,els⟩ R Fr L)).1,(tb_false (p:=Ok ⟨k,op,dst,a,b',n,text,r0,r1,r2,r3,r4,r5,to_,els⟩ R Fr L)).1⟩:(tb (Ok ⟨k,op,dst,a,b',n,text,r0,r1,r2,r3,r4,r5,to_,els⟩ R Fr L)=true→Ok ⟨k,op,dst,a,b',n,text,r0,r1,r2,r3,r4,r5,to_,els⟩ R Fr L)∧(tb (Ok ⟨k,op,dst,a,b',n,text,r0,r1,r2,r3,r4,r5,to_,els⟩ R Fr L)=false→¬ Ok ⟨k,op,dst,a,b',n,text,r0,r1,r2,r3,r4,r5,to_,els⟩ R Fr L))
      generalize tb (Ok ⟨k,op,dst,a,b',n,text,r0,r1,r2,r3,r4,r5,to_,els⟩ R Fr L)=bb at *
      have hlb:b < wr.heap.size:=World.block_lt_of_cell? wr ⟨b,_,none⟩ x0
      have hlf:w.heap.size < wr.heap.size:=World.block_lt_of_cell? wr ⟨w.heap.size,_,none⟩ y0
      have hbox:=Below.one wr (Ins.obj ⟨k,op,dst,a,b',n,text,r0,r1,r2,r3,r4,r5,to_,els⟩)
      simp only [Ins.obj] at hbox
      have hv1:=hv (wr.alloc (.cells #[.int .i64 k,.int .i64 op,.int .i64 dst,.int .i64 a,.int .i64 b',.int .i64 n,.string text,.int .i64 r0,.int .i64 r1,.int .i64 r2,.int .i64 r3,.int .i64 r4,.int .i64 r5,.int .i64 to_,.int .i64 els] 31))
      clear hv
      cases bb
      all_goals
        go_wp2_with (first
          | (go_at_call 51; refine hv1.mono ?_; rintro e w3 ⟨rfl,hbr⟩; have hb3:=hb.trans ((hbox.trans (hbr.mono hbox.size)).mono hb.size)))
      · go_returns
        exact ⟨Tru.no (fun h:OkF ⟨nm,ps,R,Fr,l⟩=>HO.out.2 (by trivial) (by have:=h.ok _ (List.mem_of_getElem? hi); simp only at this; rw [HL.out] at this; exact this)),hB.trans (hb3.mono hB.size)⟩
      · exact ⟨⟨m + 1,by omega,by simp,hb3,fun j i' hj hi'=>by
          by_cases hjm:j=m
          · subst hjm
            rw [hi] at hi'
            injection hi' with hi'
            subst hi'
            exact HO.out.1 (by trivial)
          · exact hno j i' (by omega) hi'⟩,by simp [intOf]; omega⟩
    · have hall:∀ i ∈ l,Ok i R Fr L:=fun i hi=>by
        obtain ⟨j,hj⟩:=List.mem_iff_getElem?.1 hi
        exact hno j i (by have h1:=(List.getElem?_eq_some_iff.1 hj).1; rw [HL.out] at h1; omega) hj
      have HA:=Lib.hid hall
      have hmL:m=L:=by omega
      subst hmL
      have hM:=HM.out
      have hla:l[M]? = some (l[M]'(by rw [HL.out]; omega)):=by simp
      generalize l[M]'(by rw [HL.out]; omega)=i at hla
      obtain ⟨b,o,rfl,_,hcs⟩:=(hC.below hBw) M i hla
      have xk:=(RdI.load hcs).1
      rw [show M=m - 1 by omega] at xk
      have qM:M < m:=by omega
      have HLA:=Lib.hid hla
      clear hcs hla hno hall hlt
      have hfin:∀ bb:Bool,bb=decide (11≤i.kind)→Tru (OkF ⟨nm,ps,R,Fr,l⟩) (.returned (.bool bb)):=fun bb hbb=>⟨bb,rfl,by
        rw [hbb,decide_eq_true_eq]
        have hc:=HC.out
        have hl:=HL.out
        constructor
        · intro h11
          exact ⟨HN.out,⟨hc.1,hc.2.1⟩,⟨hc.2.2.1,hc.2.2.2.1⟩,⟨hc.2.2.2.2.1,hc.2.2.2.2.2.1⟩,by simp only; omega,fun i hi=>by simp only at hi ⊢; rw [hl]; exact HA.out i hi,fun i' hi'=>by
            simp only at hi'
            rw [hl,show m - 1=M by omega,HLA.out] at hi'
            injection hi' with hi'
            rw [← hi']
            exact h11⟩
        · intro h
          refine h.last i ?_
          simp only
          rw [hl,show m - 1=M by omega]
          exact HLA.out⟩
      generalize i.kind=kk at *
      cases h11:decide (11≤kk)
      · have q11:decide (kk ≥ 11)=false:=h11
        have HF:=Lib.hid (hfin false h11.symm)
        clear hfin hM
        go_wp2
        go_returns
        exact ⟨HF.out,hBw⟩
      · have q11:decide (kk ≥ 11)=true:=h11
        have HF:=Lib.hid (hfin true h11.symm)
        clear hfin hM
        go_wp2
        go_returns
        exact ⟨HF.out,hBw⟩
end Go.Proofs.Ythbcdckonaljiaa

