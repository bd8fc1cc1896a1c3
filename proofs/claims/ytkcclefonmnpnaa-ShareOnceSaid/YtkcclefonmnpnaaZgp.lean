import Derived.Test.YtkcclefonmnpnaaZw2
namespace Go.Proofs.Ytkcclefonmnpnaa
open Go.RowKit Go.BigFrame
theorem le.anti {a b:Vl}(h1:le a b)(h2:le b a):a=b:=by
  rcases h1 with rfl | rfl | rfl
  · rcases h2 with rfl | rfl | h
    · rfl
    · rfl
    · cases h
  · rfl
  · rcases h2 with h | rfl | rfl
    · cases h
    · rfl
    · rfl
theorem row_ext {R:Nat}{u v:List Vl}(hu:u.length=R)(hv:v.length=R)(h:∀ r,r < R→at_ u r=at_ v r):u=v:=by
  apply List.ext_getElem (by omega)
  intro r h1 h2
  have:=h r (by omega)
  rwa [at_in h1,at_in h2] at this
theorem rle.anti {R:Nat}{u v:List Vl}(hu:u.length=R)(hv:v.length=R)(h1:rle u v)(h2:rle v u):u=v:=row_ext hu hv fun r _=>(h1 r).anti (h2 r)
theorem wrd_bd (n:Int):-2147483648≤wrd n∧wrd n≤2147483647:=by unfold wrd; omega
def BdW (x:Int × Bool):Prop:=-2147483648≤x.1∧x.1≤2147483647
theorem ite_bd {c:Prop}[Decidable c]{x y:Int × Bool}(hx:BdW x)(hy:BdW y):BdW (if c then x else y):=by
  split
  · exact hx
  · exact hy
theorem dov_bd (op a b:Int):-2147483648≤(dov op a b).1∧(dov op a b).1≤2147483647:=by
  show BdW (dov op a b)
  unfold dov
  repeat refine ite_bd (wrd_bd _) ?_
  exact ⟨by decide,by decide⟩
structure Ans (f:Fn7)(M:List (List Vl)):Prop where
  holds:Holds f M
  least:∀ N,Holds f N→mle M N
theorem Ans.unique {f:Fn7}{M N:List (List Vl)}(h1:Ans f M)(h2:Ans f N):M=N:=by
  have a:=h1.least N h2.holds
  have b:=h2.least M h1.holds
  apply List.ext_getElem? 
  intro p
  by_cases hp:p < f.code.length
  · rw [row_in (by rw [h1.holds.shp.len]; exact hp),row_in (by rw [h2.holds.shp.len]; exact hp)]
    exact congrArg some (rle.anti (h1.holds.shp.at_ hp).1 (h2.holds.shp.at_ hp).1 (a p) (b p))
  · rw [List.getElem?_eq_none (by rw [h1.holds.shp.len]; omega),List.getElem?_eq_none (by rw [h2.holds.shp.len]; omega)]
end Go.Proofs.Ytkcclefonmnpnaa
namespace Go.Proofs.Ytkcclefonmnpnaa
open Go.RowKit Go.BigFrame
theorem cm_lt {C:List Bool}{p:Nat}(h:cm C p=true):p < C.length:=by
  by_cases hp:p < C.length
  · exact hp
  · simp [cm,List.getD,List.getElem?_eq_none (Nat.le_of_not_lt hp)] at h
theorem Head.ans {f:Fn7} {M:List (List Vl)} {C:List Bool} (h:Head f M C []):Ans f M :=
  ⟨⟨h.way.shp,h.way.start,fun p n u he=>by
    cases hc:cm C p
    · obtain ⟨i,v,h1,h2,h3,_,_,rfl⟩:=he
      have hp:p < f.code.length:=(List.getElem?_eq_some_iff.1 h1).1
      have hv:=h.way.shp.at_ hp
      rw [row_some h2] at hv
      have hg:=h.way.gone p hc
      rw [row_some h2] at hg
      intro r
      by_cases hr:r < v.length
      · have:=h3.at_ hr
        rw [hg r] at this
        rcases this with e | e <;> cases e
      · rw [at_out (by rw [upd_len]; omega)]
        exact Or.inl rfl
    · rcases h.q p hc with hq | hq
      · cases hq
      · exact hq n u he⟩,h.way.least⟩
theorem Head.mid {f:Fn7}{M:List (List Vl)}{C:List Bool}{p:Nat}{T:List Nat}{i:Ins}(hf:OkF f)(h:Head f M C (p::T))(hi:f.code[p]? = some i)(ho:(setV i (row M p)).2=true):Mid f p i (row M p) [] M C T :=
  ⟨h.way.tail,hi,by have h1:=hf.ok _ (List.mem_of_getElem? hi); have h2:=hf.ps; have h3:=hf.R; rwa [show ((f.R.toNat:Nat):Int)=f.R by omega],h.way.shp.at_ (List.getElem?_eq_some_iff.1 hi).1,h.way.come p (h.way.tin p (by simp)),rle.refl _,ho,fun p' hp'=>by
    rcases h.q p' hp' with hq | hq
    · rcases List.mem_cons.1 hq with rfl | hq
      · exact Or.inr (Or.inl rfl)
      · exact Or.inl hq
    · exact Or.inr (Or.inr hq),Or.inr rfl,h.way.tin p (by simp),fun n hn=>by simp at hn⟩
end Go.Proofs.Ytkcclefonmnpnaa
namespace Go.Proofs.Ytkcclefonmnpnaa
open Go.RowKit Go.BigFrame
theorem sVal:(Try.prog.info? 66).map (·.size)=some 2:=by kernel_rfl
theorem val_one (x y:Int):(#[Value.int .i64 x,.int .i64 y].all (·.oneCell'))=true:=by simp [Value.oneCell']
theorem fields_val:(Try.prog.fieldsOf 66).toList.map (fun f=>(f.name != "_", f.type,f.offset))=[(true,3,0),(true,3,1)]:=by kernel_rfl
theorem equalIn_val (x y:Vl)(w:World):(Op.equalIn 10000 66 x.agg y.agg).run Try.prog w = .ok (decide (x=y)) w:=by
  rw [run_equalIn_struct w 9999 66 _ _ (by kernel_rfl) (by kernel_rfl)]
  have h:=run_eqFields (P:=Try.prog) 9999 #[.int .i64 x.k,.int .i64 x.n] #[.int .i64 y.k,.int .i64 y.n] w
    [⟨3,0,.int .i64 x.k,.int .i64 y.k,x.k == y.k⟩,⟨3,1,.int .i64 x.n,.int .i64 y.n,x.n == y.n⟩]
    _ fields_val (fun r hr=>by
      simp only [List.mem_cons,List.not_mem_nil,or_false] at hr
      rcases hr with rfl | rfl
      · exact ⟨by kernel_rfl,by kernel_rfl,run_equalIn_int w 9998 3 .i64 .i64 _ _ (by kernel_rfl)⟩
      · exact ⟨by kernel_rfl,by kernel_rfl,run_equalIn_int w 9998 3 .i64 .i64 _ _ (by kernel_rfl)⟩)
  rw [h]
  have e:[FEq.mk 3 0 (.int .i64 x.k) (.int .i64 y.k) (x.k == y.k),⟨3,1,.int .i64 x.n,.int .i64 y.n,x.n == y.n⟩].all (·.r)=decide (x=y):=by
    cases x; cases y
    rw [Bool.eq_iff_iff]
    simp
  rw [e]
theorem eql_val (x y:Vl)(w:World):(binOp .eql 66 x.agg y.agg).run Try.prog w = .ok (.bool (decide (x=y))) w:=by
  simp only [binOp,Op.equal,Op.maxDepth,Sem.run_bind,equalIn_val,Result.andThen_ok,Sem.run_pure]
theorem neq_val (x y:Vl)(w:World):(binOp .neq 66 x.agg y.agg).run Try.prog w = .ok (.bool (!decide (x=y))) w:=by
  simp only [binOp,Op.equal,Op.maxDepth,Sem.run_bind,equalIn_val,Result.andThen_ok,Sem.run_pure]
set_option maxRecDepth 1000000 in
theorem join_any (a b:Vl)(w:World):Calls Try.prog 79 #[a.agg,b.agg] w fun e w'=>e = .returned (join a b).agg∧Below w.heap.size w w':=by
  have hB:=(box3 w a.obj b.obj (join a b).obj).2.2.2.2
  have he:=fun w=>eql_val a b w
  obtain ⟨ak,an⟩:=a
  obtain ⟨bk,bn⟩:=b
  simp only [Vl.agg,Vl.obj,join] at hB he ⊢
  have hc:((ak == 0)=true∧ak=0)∨((ak == 0)=false∧¬ ak=0∧(bk == 0)=true∧bk=0)∨((ak == 0)=false∧¬ ak=0∧(bk == 0)=false∧¬ bk=0):=by simp; omega
  rcases hc with ⟨q1,q2⟩ | ⟨q1,q2,q3,q4⟩ | ⟨q1,q2,q3,q4⟩
  · rw [if_pos q2] at hB ⊢
    clear q2 he
    go_enter Try.func79,Try.ntmps79
    go_wp2
    (try simp only [Exit.inBlock,Exit.then])
    refine bodyPost_ret (by simp [results,Try.results79,go_sem]; try rfl) rfl ?_
    exact ⟨rfl,hB⟩
  · rw [if_neg q2,if_pos (Or.inl q4)] at hB ⊢
    clear q2 q4 he
    go_enter Try.func79,Try.ntmps79
    go_wp2
    (try simp only [Exit.inBlock,Exit.then])
    refine bodyPost_ret (by simp [results,Try.results79,go_sem]; try rfl) rfl ?_
    exact ⟨rfl,hB⟩
  · rw [if_neg q2] at hB ⊢
    by_cases hab:Vl.mk ak an=⟨bk,bn⟩
    · rw [if_pos (Or.inr hab)] at hB ⊢
      rw [show decide (Vl.mk ak an=⟨bk,bn⟩)=true by simp [hab]] at he
      clear q2 q4 hab
      go_enter Try.func79,Try.ntmps79
      go_wp2
      (try simp only [Exit.inBlock,Exit.then])
      refine bodyPost_ret (by simp [results,Try.results79,go_sem]; try rfl) rfl ?_
      exact ⟨rfl,hB⟩
    · rw [if_neg (by rintro (h | h); exact q4 h; exact hab h)] at hB ⊢
      rw [show decide (Vl.mk ak an=⟨bk,bn⟩)=false by simp [hab]] at he
      clear q2 q4 hab
      go_enter Try.func79,Try.ntmps79
      go_wp2
      (try simp only [Exit.inBlock,Exit.then])
      refine bodyPost_ret (by simp [results,Try.results79,go_sem]; try rfl) rfl ?_
      exact ⟨rfl,hB⟩
def SetT (i:Ins)(v:List Vl)(e:Ending):Prop:=e = .returned (.tuple #[(setV i v).1.agg,.bool (setV i v).2])
set_option maxRecDepth 1000000 in
set_option maxHeartbeats 4000000 in
theorem set_any (i:Ins) (v:List Vl) {R:Nat} {Fr:Int} {L:Nat} (hi:Ok i R Fr L) (hl:v.length=R) (A:Option Addr) (cap:Nat) (w:World) (hA:RdV w A v):Calls Try.prog 68 #[i.agg,.slice A R cap] w fun e w'=>SetT i v e∧Below w.heap.size w w':=by
  have hB:=(Below.one w i.obj).alloc (by simp) (setV i v).1.obj
  have hBn:=(Below.one w i.obj).alloc (by simp) nv.obj
  have ha:=hi.a_in
  have hb:=hi.b_in
  have hat:∀ r:Nat,r < R→∃ b o x,at_ v r=x∧A=some ⟨b,o,none⟩∧b < w.heap.size∧w.cell? ⟨b,o + r * 2,none⟩=some (.int .i64 x.k)∧w.cell? ⟨b,o + r * 2 + 1,none⟩=some (.int .i64 x.n):=fun r hr=>by
    obtain ⟨b,o,h1,h2,h3,h4⟩:=hA r (at_ v r) (by rw [at_in (by omega)]; simp)
    exact ⟨b,o,_,rfl,h1,h2,h3,h4⟩
  unfold SetT
  obtain ⟨k,op,dst,a,b,n,text,r0,r1,r2,r3,r4,r5,to_,els⟩:=i
  simp only [Ins.agg,Ins.obj,Vl.obj,Vl.agg] at hB hBn ha hb ⊢
  simp only [setV] at hB ⊢
  by_cases h1:k=1
  · subst h1
    clear ha hb hat hi hBn
    go_enter Try.func68,Try.ntmps68
    go_wp2
    (try simp only [Exit.inBlock,Exit.then])
    refine bodyPost_ret (by simp [results,Try.results68,go_sem]; try rfl) rfl ?_
    exact ⟨rfl,hB⟩
  rw [if_neg h1] at hB ⊢
  by_cases h4:k=4
  · subst h4
    obtain ⟨ha0,ha1⟩:=ha rfl
    obtain ⟨m,rfl⟩:∃ m:Nat,a=m:=⟨a.toNat,by omega⟩
    simp only [Int.toNat_natCast] at hB ⊢
    obtain ⟨bb,o,x,hx,rfl,hlt,c0,c1⟩:=hat m (by omega)
    rw [hx] at hB ⊢
    have q1:m < R:=by omega
    clear hb hat hi h1 hx hA hBn ha ha0 ha1
    go_enter Try.func68,Try.ntmps68
    go_wp2
    (try simp only [Exit.inBlock,Exit.then])
    refine bodyPost_ret (by simp [results,Try.results68,go_sem]; try rfl) rfl ?_
    exact ⟨rfl,hB⟩
  rw [if_neg h4] at hB ⊢
  by_cases h2:k=2
  · subst h2
    obtain ⟨ha0,ha1⟩:=ha rfl
    obtain ⟨m,rfl⟩:∃ m:Nat,a=m:=⟨a.toNat,by omega⟩
    simp only [Int.toNat_natCast] at hB ⊢
    obtain ⟨bb,o,x,hx,rfl,hlt,c0,c1⟩:=hat m (by omega)
    obtain ⟨y,hy⟩:∃ y:Vl,y=⟨1,0⟩:=⟨_,rfl⟩
    have hbv:bval ⟨2,op,dst,(m:Int),b,n,text,r0,r1,r2,r3,r4,r5,to_,els⟩ v=y:=by simp only [bval]; rw [hy]; exact if_neg (by decide)
    rw [hx,hbv,if_pos (by decide)] at hB ⊢
    have q1:m < R:=by omega
    have hB3:=hBn.alloc (by simp; omega) y.obj
    have hB2:=hB.alloc (by simp; omega) y.obj
    simp only [Vl.obj] at hB3 hB2
    obtain ⟨xk,xn⟩:=x
    obtain ⟨yk,yn⟩:=y
    injection hy with hy1 hy2
    subst hy1 hy2
    simp only at c0 c1 hB hB2 hB3 ⊢
    clear hbv hx hA hat hi ha hb ha0 ha1 h1 h4
    clear hB hB2 hB3
    have hbb0:=heap_alloc_new (w.alloc (Ins.obj ⟨2,op,dst,(m:Int),b,n,text,r0,r1,r2,r3,r4,r5,to_,els⟩)) nv.obj
    have hbx0:=heap_alloc_new w (Ins.obj ⟨2,op,dst,(m:Int),b,n,text,r0,r1,r2,r3,r4,r5,to_,els⟩)
    have hbx:=alloc_keeps hbx0 nv.obj
    rw [show (w.alloc (Ins.obj ⟨2,op,dst,(m:Int),b,n,text,r0,r1,r2,r3,r4,r5,to_,els⟩)).heap.size=w.heap.size + 1 by simp] at hbb0
    have ec0:=(hBn.cell (p:=⟨bb,_,none⟩) hlt).trans c0
    have ec1:=(hBn.cell (p:=⟨bb,_,none⟩) hlt).trans c1
    have hs0:((w.alloc (Ins.obj ⟨2,op,dst,(m:Int),b,n,text,r0,r1,r2,r3,r4,r5,to_,els⟩)).alloc nv.obj).heap.size=w.heap.size + 2:=by simp
    obtain ⟨W0,hW⟩:∃ W0,(w.alloc (Ins.obj ⟨2,op,dst,(m:Int),b,n,text,r0,r1,r2,r3,r4,r5,to_,els⟩)).alloc nv.obj=W0:=⟨_,rfl⟩
    simp only [Ins.obj,Vl.obj] at hW hbx hbb0 hBn hs0
    rw [hW] at hbx hbb0 hBn hs0 ec0 ec1
    clear c0 c1 hbx0
    have hlt2:bb < W0.heap.size:=by omega
    have hltw:w.heap.size + 1 < W0.heap.size:=by omega
    have hltx:w.heap.size < W0.heap.size:=by omega
    clear hs0
    have x0:=cell_of_heap hbx 0 (.int .i64 2) rfl
    have x1:=cell_of_heap hbx 1 (.int .i64 op) rfl
    have x3:=cell_of_heap hbx 3 (.int .i64 m) rfl
    have hB1:=Below.one W0 (.cells #[.int .i64 1,.int .i64 0] 66)
    have hbb:=alloc_keeps hbb0 (.cells #[.int .i64 1,.int .i64 0] 66)
    have hBA:=hBn.trans (hB1.mono hBn.size)
    by_cases hany:xk=2∨(1:Int)=2
    · rw [if_pos hany]
      have q3:(xk == 2)=true:=by simp; omega
      all_goals
        clear hany
        have hR:=setRow_heap _ _ _ #[.int .i64 2,.int .i64 0] _ _ hbb
        have z0:=cell_of_heap hR 0 (.int .i64 2) rfl
        have z1:=cell_of_heap hR 1 (.int .i64 0) rfl
        clear hR
        go_enter Try.func68,Try.ntmps68
        go_wp2_with (first
          | (show wpList Try.prog _ _ (⟨none,.store _ (.tmp 4) _,_,_,_,_⟩::_) _ _; refine wpList_store_row rfl 66 (.tmp 4) (.tmp 47) rfl (w.heap.size + 1) #[.int .i64 2,.int .i64 0] rfl rfl 66 _ hbb sVal rfl (val_one _ _) ?_))
        (try simp only [Exit.inBlock,Exit.then])
        refine bodyPost_ret (by simp [results,Try.results68,go_sem,z0,z1]; try rfl) rfl ?_
        exact ⟨rfl,below_setRow hBA (by omega) _⟩
    · rw [if_neg hany]
      have q3:(xk == 2)=false:=by simp; omega
      clear hany
      have hdo:=fun w=>do_any op xn 0 w
      generalize dov op xn 0=dd at *
      obtain ⟨dn,db⟩:=dd
      simp only at hdo ⊢
      have hby:=heap_alloc_new W0 (.cells #[.int .i64 1,.int .i64 0] 66)
      have y1:=cell_of_heap hby 1 (.int .i64 0) rfl
      clear hby
      go_enter Try.func68,Try.ntmps68
      go_wp2
      clear hW
      have x1:=(hB1.cell (p:=⟨w.heap.size,_,none⟩) hltx).trans x1
      have x3:=(hB1.cell (p:=⟨w.heap.size,_,none⟩) hltx).trans x3
      have ec0:=(hB1.cell (p:=⟨bb,_,none⟩) hlt2).trans ec0
      have ec1:=(hB1.cell (p:=⟨bb,_,none⟩) hlt2).trans ec1
      generalize W0.alloc (.cells #[.int .i64 1,.int .i64 0] 66)=W at *
      have lx1:=fun s:Later W=>Later.cell x1 s
      have lx3:=fun s:Later W=>Later.cell x3 s
      have ly1:=fun s:Later W=>Later.cell y1 s
      have lec0:=fun s:Later W=>Later.cell ec0 s
      have lec1:=fun s:Later W=>Later.cell ec1 s
      have lc:=fun s:Later W=>hdo s.w
      refine wp_region_later (by kernel_rfl) (by kernel_rfl) ?_
      repeat (go_big_quiet_step ((go_at_call 88; exact Calls.later (lc _))))
      refine wpQuiet_nil ?_
      rintro w3 ⟨s',rfl⟩
      have hb3:=hBA.trans (s'.h.mono hBA.size)
      have hbb3:=(s'.h.block _ (Array.getElem?_eq_some_iff.1 hbb).1).trans hbb
      generalize s'.w=w3 at *
      have hR:=setRow_heap _ _ _ #[.int .i64 1,.int .i64 dn] _ _ hbb3
      have z0:=cell_of_heap hR 0 (.int .i64 1) rfl
      have z1:=cell_of_heap hR 1 (.int .i64 dn) rfl
      clear hR
      go_wp2_with (first
        | (show wpList Try.prog _ _ (⟨none,.store _ (.tmp 4) _,_,_,_,_⟩::_) _ _; refine wpList_store_row rfl 66 (.tmp 4) (.tmp 63) rfl (w.heap.size + 1) #[.int .i64 1,.int .i64 dn] rfl rfl 66 _ hbb3 sVal rfl (val_one _ _) ?_))
      (try simp only [Exit.inBlock,Exit.then])
      refine bodyPost_ret (by simp [results,Try.results68,go_sem,z0,z1]; try rfl) rfl ?_
      exact ⟨rfl,below_setRow hb3 (by omega) _⟩
  by_cases h3:k=3
  · subst h3
    obtain ⟨ha0,ha1⟩:=ha rfl
    obtain ⟨m,rfl⟩:∃ m:Nat,a=m:=⟨a.toNat,by omega⟩
    obtain ⟨hb0,hb1⟩:=hb rfl
    obtain ⟨m',rfl⟩:∃ m':Nat,b=m':=⟨b.toNat,by omega⟩
    simp only [Int.toNat_natCast] at hB ⊢
    obtain ⟨bb,o,x,hx,rfl,hlt,c0,c1⟩:=hat m (by omega)
    obtain ⟨bb',o',y,hy,e1,_,d0,d1⟩:=hat m' (by omega)
    injection e1 with e1
    injection e1 with e2 e3
    subst e2 e3
    have hbv:bval ⟨3,op,dst,(m:Int),(m':Int),n,text,r0,r1,r2,r3,r4,r5,to_,els⟩ v=y:=by simp only [bval,Int.toNat_natCast]; rw [if_pos trivial]; exact hy
    rw [hx,hbv,if_pos (by decide)] at hB ⊢
    have q1:m < R:=by omega
    have q2:m' < R:=by omega
    have hB3:=hBn.alloc (by simp; omega) y.obj
    have hB2:=hB.alloc (by simp; omega) y.obj
    simp only [Vl.obj] at hB3 hB2
    obtain ⟨xk,xn⟩:=x
    obtain ⟨yk,yn⟩:=y
    simp only at c0 c1 hB hB2 hB3 ⊢ d0 d1
    clear hbv hx hA hat hi ha hb ha0 ha1 h1 h4 hy hb0 hb1 h2
    clear hB hB2 hB3
    have hbb0:=heap_alloc_new (w.alloc (Ins.obj ⟨3,op,dst,(m:Int),(m':Int),n,text,r0,r1,r2,r3,r4,r5,to_,els⟩)) nv.obj
    have hbx0:=heap_alloc_new w (Ins.obj ⟨3,op,dst,(m:Int),(m':Int),n,text,r0,r1,r2,r3,r4,r5,to_,els⟩)
    have hbx:=alloc_keeps hbx0 nv.obj
    rw [show (w.alloc (Ins.obj ⟨3,op,dst,(m:Int),(m':Int),n,text,r0,r1,r2,r3,r4,r5,to_,els⟩)).heap.size=w.heap.size + 1 by simp] at hbb0
    have ec0:=(hBn.cell (p:=⟨bb,_,none⟩) hlt).trans c0
    have ec1:=(hBn.cell (p:=⟨bb,_,none⟩) hlt).trans c1
    have ed0:=(hBn.cell (p:=⟨bb,_,none⟩) hlt).trans d0
    have ed1:=(hBn.cell (p:=⟨bb,_,none⟩) hlt).trans d1
    have hs0:((w.alloc (Ins.obj ⟨3,op,dst,(m:Int),(m':Int),n,text,r0,r1,r2,r3,r4,r5,to_,els⟩)).alloc nv.obj).heap.size=w.heap.size + 2:=by simp
    obtain ⟨W0,hW⟩:∃ W0,(w.alloc (Ins.obj ⟨3,op,dst,(m:Int),(m':Int),n,text,r0,r1,r2,r3,r4,r5,to_,els⟩)).alloc nv.obj=W0:=⟨_,rfl⟩
    simp only [Ins.obj,Vl.obj] at hW hbx hbb0 hBn hs0
    rw [hW] at hbx hbb0 hBn hs0 ec0 ec1 ed0 ed1
    clear c0 c1 hbx0 d0 d1
    have hlt2:bb < W0.heap.size:=by omega
    have hltw:w.heap.size + 1 < W0.heap.size:=by omega
    have hltx:w.heap.size < W0.heap.size:=by omega
    clear hs0
    have x0:=cell_of_heap hbx 0 (.int .i64 3) rfl
    have x1:=cell_of_heap hbx 1 (.int .i64 op) rfl
    have x3:=cell_of_heap hbx 3 (.int .i64 m) rfl
    have x4:=cell_of_heap hbx 4 (.int .i64 m') rfl
    have hB1:=Below.one W0 (.cells #[.int .i64 yk,.int .i64 yn] 66)
    have hbb:=alloc_keeps hbb0 (.cells #[.int .i64 yk,.int .i64 yn] 66)
    have hBA:=hBn.trans (hB1.mono hBn.size)
    by_cases hany:xk=2∨yk=2
    · rw [if_pos hany]
      have hc:((xk == 2)=true)∨((xk == 2)=false∧(yk == 2)=true):=by simp; omega
      rcases hc with q3 | ⟨q3,q4⟩
      all_goals
        clear hany
        have hR:=setRow_heap _ _ _ #[.int .i64 2,.int .i64 0] _ _ hbb
        have z0:=cell_of_heap hR 0 (.int .i64 2) rfl
        have z1:=cell_of_heap hR 1 (.int .i64 0) rfl
        clear hR
        go_enter Try.func68,Try.ntmps68
        go_wp2_with (first
          | (show wpList Try.prog _ _ (⟨none,.store _ (.tmp 4) _,_,_,_,_⟩::_) _ _; refine wpList_store_row rfl 66 (.tmp 4) (.tmp 47) rfl (w.heap.size + 1) #[.int .i64 2,.int .i64 0] rfl rfl 66 _ hbb sVal rfl (val_one _ _) ?_))
        (try simp only [Exit.inBlock,Exit.then])
        refine bodyPost_ret (by simp [results,Try.results68,go_sem,z0,z1]; try rfl) rfl ?_
        exact ⟨rfl,below_setRow hBA (by omega) _⟩
    · rw [if_neg hany]
      have q3:(xk == 2)=false:=by simp; omega
      have q4:(yk == 2)=false:=by simp; omega
      clear hany
      have hdo:=fun w=>do_any op xn yn w
      generalize dov op xn yn=dd at *
      obtain ⟨dn,db⟩:=dd
      simp only at hdo ⊢
      have hby:=heap_alloc_new W0 (.cells #[.int .i64 yk,.int .i64 yn] 66)
      have y1:=cell_of_heap hby 1 (.int .i64 yn) rfl
      clear hby
      go_enter Try.func68,Try.ntmps68
      go_wp2
      clear hW
      have x1:=(hB1.cell (p:=⟨w.heap.size,_,none⟩) hltx).trans x1
      have x3:=(hB1.cell (p:=⟨w.heap.size,_,none⟩) hltx).trans x3
      have ec0:=(hB1.cell (p:=⟨bb,_,none⟩) hlt2).trans ec0
      have ec1:=(hB1.cell (p:=⟨bb,_,none⟩) hlt2).trans ec1
      generalize W0.alloc (.cells #[.int .i64 yk,.int .i64 yn] 66)=W at *
      have lx1:=fun s:Later W=>Later.cell x1 s
      have lx3:=fun s:Later W=>Later.cell x3 s
      have ly1:=fun s:Later W=>Later.cell y1 s
      have lec0:=fun s:Later W=>Later.cell ec0 s
      have lec1:=fun s:Later W=>Later.cell ec1 s
      have lc:=fun s:Later W=>hdo s.w
      refine wp_region_later (by kernel_rfl) (by kernel_rfl) ?_
      repeat (go_big_quiet_step ((go_at_call 88; exact Calls.later (lc _))))
      refine wpQuiet_nil ?_
      rintro w3 ⟨s',rfl⟩
      have hb3:=hBA.trans (s'.h.mono hBA.size)
      have hbb3:=(s'.h.block _ (Array.getElem?_eq_some_iff.1 hbb).1).trans hbb
      generalize s'.w=w3 at *
      have hR:=setRow_heap _ _ _ #[.int .i64 1,.int .i64 dn] _ _ hbb3
      have z0:=cell_of_heap hR 0 (.int .i64 1) rfl
      have z1:=cell_of_heap hR 1 (.int .i64 dn) rfl
      clear hR
      go_wp2_with (first
        | (show wpList Try.prog _ _ (⟨none,.store _ (.tmp 4) _,_,_,_,_⟩::_) _ _; refine wpList_store_row rfl 66 (.tmp 4) (.tmp 63) rfl (w.heap.size + 1) #[.int .i64 1,.int .i64 dn] rfl rfl 66 _ hbb3 sVal rfl (val_one _ _) ?_))
      (try simp only [Exit.inBlock,Exit.then])
      refine bodyPost_ret (by simp [results,Try.results68,go_sem,z0,z1]; try rfl) rfl ?_
      exact ⟨rfl,below_setRow hb3 (by omega) _⟩
  rw [if_neg (by omega)] at hB ⊢
  have n1:(k == 1)=false:=by simp; omega
  have n4:(k == 4)=false:=by simp; omega
  have n2:(k == 2)=false:=by simp; omega
  have n3:(k == 3)=false:=by simp; omega
  clear ha hb hat hi hBn h1 h2 h3 h4
  go_enter Try.func68,Try.ntmps68
  go_wp2
  (try simp only [Exit.inBlock,Exit.then])
  refine bodyPost_ret (by simp [results,Try.results68,go_sem]; try rfl) rfl ?_
  exact ⟨rfl,hB⟩
end Go.Proofs.Ytkcclefonmnpnaa
namespace Go.Proofs.Ytkcclefonmnpnaa
open Go.RowKit Go.BigFrame
def Two12 (base:Nat)(x y:Int)(e:Ending)(w:World):Prop:=∃ b,e = .returned (.slice (some ⟨b,0,none⟩) 2 2)∧base≤b∧b < w.heap.size∧w.cell? ⟨b,0,none⟩=some (.int .i64 x)∧w.cell? ⟨b,1,none⟩=some (.int .i64 y)
set_option maxRecDepth 1000000 in
theorem Next12 (op dst a b n:Int)(text:ByteArray)(r0 r1 r2 r3 r4 r5 to_ els:Int)(p:Int)(w:World):Calls Try.prog 49 #[Ins.agg ⟨12,op,dst,a,b,n,text,r0,r1,r2,r3,r4,r5,to_,els⟩,.int .i64 p] w fun e w'=>Two12 w.heap.size to_ els e w'∧Below w.heap.size w w':=by
  have hb0:=Below.one w (Ins.obj ⟨12,op,dst,a,b,n,text,r0,r1,r2,r3,r4,r5,to_,els⟩)
  have hn:=heap_alloc_new (w.alloc (Ins.obj ⟨12,op,dst,a,b,n,text,r0,r1,r2,r3,r4,r5,to_,els⟩)) (.cells #[.int .i64 to_,.int .i64 els] 3)
  have hT:Two12 w.heap.size to_ els (.returned (.slice (some ⟨w.heap.size + 1,0,none⟩) 2 2)) ((w.alloc (Ins.obj ⟨12,op,dst,a,b,n,text,r0,r1,r2,r3,r4,r5,to_,els⟩)).alloc (.cells #[.int .i64 to_,.int .i64 els] 3)) :=
    ⟨w.heap.size + 1,rfl,by omega,by simp,by rw [show (w.alloc (Ins.obj ⟨12,op,dst,a,b,n,text,r0,r1,r2,r3,r4,r5,to_,els⟩)).heap.size=w.heap.size + 1 by simp] at hn; exact cell_of_heap hn 0 _ rfl,by rw [show (w.alloc (Ins.obj ⟨12,op,dst,a,b,n,text,r0,r1,r2,r3,r4,r5,to_,els⟩)).heap.size=w.heap.size + 1 by simp] at hn; exact cell_of_heap hn 1 _ rfl⟩
  simp only [Ins.obj,Ins.agg] at hb0 hT ⊢
  have HT:=Lib.hid hT
  clear hT hn
  go_enter Try.func49,Try.ntmps49
  go_wp2
  go_returns
  exact ⟨HT.out,hb0.alloc hb0.size _⟩
set_option maxRecDepth 1000000 in
set_option maxHeartbeats 4000000 in
theorem Next_fr (i:Ins) (p:Int) (hp:0≤p∧p≤100000) (w:World):Calls Try.prog 49 #[i.agg,.int .i64 p] w fun e w'=>SlF w.heap.size (i.next p) e w'∧Below w.heap.size w w':=by
  obtain ⟨k,op,dst,a,b,n,text,r0,r1,r2,r3,r4,r5,to_,els⟩:=i
  have hb0:=Below.one w (Ins.obj ⟨k,op,dst,a,b,n,text,r0,r1,r2,r3,r4,r5,to_,els⟩)
  have bx:=heap_alloc_new w (Ins.obj ⟨k,op,dst,a,b,n,text,r0,r1,r2,r3,r4,r5,to_,els⟩)
  simp only [Ins.obj,Ins.agg,Ins.next] at hb0 bx ⊢
  have hwr:wrap64 (p + 1)=p + 1:=by unfold wrap64; omega
  have hone:∀ (W:World) (x:Int),RdN (W.alloc (.cells #[.int .i64 x] 3)) (some ⟨W.heap.size,0,none⟩) [x]:=fun W x j y hj=>by
    cases j with
    | succ j=>simp at hj
    | zero =>
      simp at hj
      subst hj
      exact ⟨W.heap.size,0,rfl,by simp,cell_of_heap (heap_alloc_new W (.cells #[.int .i64 x] 3)) 0 _ rfl⟩
  have htwo:∀ (W:World) (x y:Int),RdN (W.alloc (.cells #[.int .i64 x,.int .i64 y] 3)) (some ⟨W.heap.size,0,none⟩) [x,y]:=fun W x y j z hj=>by
    have hn:=heap_alloc_new W (.cells #[.int .i64 x,.int .i64 y] 3)
    match j with
    | 0=>simp at hj; subst hj; exact ⟨W.heap.size,0,rfl,by simp,cell_of_heap hn 0 _ rfl⟩
    | 1=>simp at hj; subst hj; exact ⟨W.heap.size,0,rfl,by simp,cell_of_heap hn 1 _ rfl⟩
    | j + 2=>simp at hj
  have h1:=hone (w.alloc (Ins.obj ⟨k,op,dst,a,b,n,text,r0,r1,r2,r3,r4,r5,to_,els⟩))
  have h2:=htwo (w.alloc (Ins.obj ⟨k,op,dst,a,b,n,text,r0,r1,r2,r3,r4,r5,to_,els⟩))
  simp only [Ins.obj] at h1 h2
  rw [show (w.alloc (Ins.obj ⟨k,op,dst,a,b,n,text,r0,r1,r2,r3,r4,r5,to_,els⟩)).heap.size=w.heap.size + 1 by simp] at h1 h2
  by_cases e11:k=11
  · subst e11
    go_enter Try.func49,Try.ntmps49
    go_wp2
    go_returns
    exact ⟨⟨_,1,rfl,h1 _,fun b o h=>by injection h with h; injection h with h; omega⟩,hb0.alloc hb0.size _⟩
  · rw [if_neg e11]
    have q1:(k == 11)=false:=by simpa using e11
    by_cases e12:k=12
    · subst e12
      go_enter Try.func49,Try.ntmps49
      go_wp2
      go_returns
      exact ⟨⟨_,2,rfl,h2 _ _,fun b o h=>by injection h with h; injection h with h; omega⟩,hb0.alloc hb0.size _⟩
    · rw [if_neg e12]
      have q2:(k == 12)=false:=by simpa using e12
      by_cases e13:k=13
      · subst e13
        go_enter Try.func49,Try.ntmps49
        go_wp2
        go_returns
        exact ⟨⟨none,0,rfl,fun j y hj=>by simp at hj,fun b o h=>by cases h⟩,hb0⟩
      · rw [if_neg e13]
        have q3:(k == 13)=false:=by simpa using e13
        clear e11 e12 e13
        go_enter Try.func49,Try.ntmps49
        go_wp2
        go_returns
        exact ⟨⟨_,1,rfl,h1 _,fun b o h=>by injection h with h; injection h with h; omega⟩,hb0.alloc hb0.size _⟩
set_option maxRecDepth 1000000 in
set_option maxHeartbeats 4000000 in
theorem next_any (i:Ins) (v:List Vl) {R:Nat} {Fr:Int} {L:Nat} (hi:Ok i R Fr L) (hl:v.length=R) (A:Option Addr) (cap:Nat) (p:Nat) (hp:p≤100000) (w:World) (hA:RdV w A v):Calls Try.prog 69 #[i.agg,.int .i64 p,.slice A R cap] w fun e w'=>SlF w.heap.size (nextV i p v) e w'∧Below w.heap.size w w':=by
  have hB:=Below.one w i.obj
  have bx:=heap_alloc_new w i.obj
  have ha:=hi.a_in
  have hnx:=fun w=>Next_fr i p (by omega) w
  have hat:∀ r:Nat,r < R→∃ b o x,at_ v r=x∧A=some ⟨b,o,none⟩∧b < w.heap.size∧w.cell? ⟨b,o + r * 2,none⟩=some (.int .i64 x.k)∧w.cell? ⟨b,o + r * 2 + 1,none⟩=some (.int .i64 x.n):=fun r hr=>by
    obtain ⟨b,o,h1,h2,h3,h4⟩:=hA r (at_ v r) (by rw [at_in (by omega)]; simp)
    exact ⟨b,o,_,rfl,h1,h2,h3,h4⟩
  obtain ⟨W,hW⟩:∃ W,w.alloc i.obj=W:=⟨_,rfl⟩
  rw [hW] at hB bx
  obtain ⟨x0,x1,x2,x3,x4,x5,x6,x7,x8,x9,x10,x11,x12,x13,x14⟩:=Ins.cells bx
  obtain ⟨k,op,dst,a,b,n,text,r0,r1,r2,r3,r4,r5,to_,els⟩:=i
  by_cases h12:k=12
  · subst h12
    simp only [Ins.agg,Ins.obj,nextV] at hW bx hB ha hnx x0 x1 x2 x3 x4 x5 x6 x7 x8 x9 x10 x11 x12 x13 x14 ⊢
    obtain ⟨ha0,ha1⟩:=ha rfl
    obtain ⟨m,rfl⟩:∃ m:Nat,a=m:=⟨a.toNat,by omega⟩
    obtain ⟨bb,o,x,hx,rfl,hlt,c0,c1⟩:=hat m (by omega)
    simp only [Int.toNat_natCast,if_pos,hx]
    obtain ⟨xk,xn⟩:=x
    simp only at c0 c1 ⊢
    have q1:m < R:=by omega
    have c0:=(hB.cell (p:=⟨bb,_,none⟩) hlt).trans c0
    have c1:=(hB.cell (p:=⟨bb,_,none⟩) hlt).trans c1
    have hlt:=Nat.lt_of_lt_of_le hlt hB.size
    have hn12:=fun w=>Next12 op dst (m:Int) b n text r0 r1 r2 r3 r4 r5 to_ els (p:Int) w
    simp only [Ins.agg] at hn12
    have hbs:=(Array.getElem?_eq_some_iff.1 bx).1
    clear hat hi hA hnx hx ha ha0 ha1
    have hc:((xk == 1)=false∧¬ xk=1)∨((xk == 1)=true∧xk=1∧(xn != 0)=true∧¬ xn=0)∨((xk == 1)=true∧xk=1∧(xn != 0)=false∧xn=0):=by simp; omega
    rcases hc with ⟨q3,q4⟩ | ⟨q3,q4,q5,q6⟩ | ⟨q3,q4,q5,q6⟩
    · rw [if_neg q4]
      clear q4
      go_enter Try.func69,Try.ntmps69
      go_wp2_with (first
        | (go_at_call 49; refine (hn12 _).mono ?_; rintro e w1 ⟨⟨nb,rfl,hnB,hnb,n0,n1⟩,hb1⟩; have hBB:=hB.trans (hb1.mono hB.size); have y0:=(hb1.cell (p:=⟨w.heap.size,0,none⟩) hbs).trans x0; have y3:=(hb1.cell (p:=⟨w.heap.size,3,none⟩) hbs).trans x3; have d0:=(hb1.cell (p:=⟨bb,_,none⟩) hlt).trans c0; have d1:=(hb1.cell (p:=⟨bb,_,none⟩) hlt).trans c1; have HS:=Lib.hid (SlF.two (base:=w.heap.size) (cap:=2) (Nat.le_trans hB.size hnB) hnb n0 n1)))
      go_returns
      exact ⟨HS.out,hBB⟩
    · rw [if_pos q4,if_neg q6]
      clear q4 q6
      go_enter Try.func69,Try.ntmps69
      go_wp2_with (first
        | (go_at_call 49; refine (hn12 _).mono ?_; rintro e w1 ⟨⟨nb,rfl,hnB,hnb,n0,n1⟩,hb1⟩; have hBB:=hB.trans (hb1.mono hB.size); have y0:=(hb1.cell (p:=⟨w.heap.size,0,none⟩) hbs).trans x0; have y3:=(hb1.cell (p:=⟨w.heap.size,3,none⟩) hbs).trans x3; have d0:=(hb1.cell (p:=⟨bb,_,none⟩) hlt).trans c0; have d1:=(hb1.cell (p:=⟨bb,_,none⟩) hlt).trans c1; have HS:=Lib.hid (SlF.one (base:=w.heap.size) (o:=0) (cap:=2) (Nat.le_trans hB.size hnB) hnb n0)))
      go_returns
      exact ⟨HS.out,hBB⟩
    · rw [if_pos q4,if_pos q6]
      clear q4 q6
      go_enter Try.func69,Try.ntmps69
      go_wp2_with (first
        | (go_at_call 49; refine (hn12 _).mono ?_; rintro e w1 ⟨⟨nb,rfl,hnB,hnb,n0,n1⟩,hb1⟩; have hBB:=hB.trans (hb1.mono hB.size); have y0:=(hb1.cell (p:=⟨w.heap.size,0,none⟩) hbs).trans x0; have y3:=(hb1.cell (p:=⟨w.heap.size,3,none⟩) hbs).trans x3; have d0:=(hb1.cell (p:=⟨bb,_,none⟩) hlt).trans c0; have d1:=(hb1.cell (p:=⟨bb,_,none⟩) hlt).trans c1; have HS:=Lib.hid (SlF.one (base:=w.heap.size) (o:=1) (cap:=1) (Nat.le_trans hB.size hnB) hnb n1)))
      go_returns
      exact ⟨HS.out,hBB⟩
  · simp only [Ins.agg,Ins.obj,nextV] at hW bx hB hnx x0 x1 x2 x3 x4 x5 x6 x7 x8 x9 x10 x11 x12 x13 x14 ⊢
    rw [if_neg h12]
    have q3:(k == 12)=false:=by simpa using h12
    have hbs:=(Array.getElem?_eq_some_iff.1 bx).1
    clear hat hi hA ha h12
    generalize Ins.next ⟨k,op,dst,a,b,n,text,r0,r1,r2,r3,r4,r5,to_,els⟩ (p:Int)=nl at *
    go_enter Try.func69,Try.ntmps69
    go_wp2_with (first
      | (go_at_call 49; refine (hnx _).mono ?_; rintro e w1 ⟨⟨NA,ncap,rfl,hNR,hNF⟩,hb1⟩; have hBB:=hB.trans (hb1.mono hB.size); have y0:=(hb1.cell (p:=⟨w.heap.size,0,none⟩) hbs).trans x0))
    go_returns
    exact ⟨⟨NA,ncap,rfl,hNR,fun b o h=>Nat.le_trans hB.size (hNF b o h)⟩,hBB⟩
end Go.Proofs.Ytkcclefonmnpnaa
namespace Go.Proofs.Ytkcclefonmnpnaa
open Go.RowKit Go.BigFrame
section
variable {α:Type} {g:α→List Value} {d:Nat} {t:TypeId} {W W':World} {b:Nat} {l:List α}
end
theorem info_v:(Try.prog.info? 66).map (fun i=>(i.zero,i.size,i.bytes))=some (some (.agg #[.int .i64 0,.int .i64 0]),2,16):=by kernel_rfl
theorem info_vs:(Try.prog.info? 67).map (fun i=>(i.zero,i.size,i.bytes))=some (some (.slice none 0 0),1,24):=by kernel_rfl
theorem make_rows (L:Nat)(hL:L≤100000)(W:World):(Instr.makeSlice 63 (.int .i64 L) (.int .i64 L)).run Try.prog W = .ok (.slice (some ⟨W.heap.size,0,none⟩) L L) (W.alloc (.cells (madeCells #[.slice none 0 0] L) 67)):=by
  obtain ⟨i0,hi,hz0,hz1,hz2⟩:=info_parts info_vs
  have:=run_make (P:=Try.prog) W 63 67 i0 (.slice none 0 0) (by kernel_rfl) hi hz0 .i64 .i64 L L (by omega) (by omega) (by rw [hz2]; omega) (by omega)
  simpa [hz1,Value.cells] using this
theorem make_vals (R:Nat)(hR:R≤100000)(W:World):(Instr.makeSlice 67 (.int .i64 R) (.int .i64 R)).run Try.prog W = .ok (.slice (some ⟨W.heap.size,0,none⟩) R R) (W.alloc (.cells (madeCells #[.int .i64 0,.int .i64 0] (R * 2)) 66)):=by
  obtain ⟨i0,hi,hz0,hz1,hz2⟩:=info_parts info_v
  have:=run_make (P:=Try.prog) W 67 66 i0 (.agg #[.int .i64 0,.int .i64 0]) (by kernel_rfl) hi hz0 .i64 .i64 R R (by omega) (by omega) (by rw [hz2]; omega) (by omega)
  simpa [hz1,Value.cells] using this
theorem run_append_que (W:World) (base:Nat) (hbase:base≤W.heap.size) (V:Value) (T:List Nat) (h:Que W base V T) (ty:TypeId) (g:Nat) (x:Nat) (hg:W.heap[g]? = some (.cells #[.int .i64 (x:Int)] 3 (0,0))) (hn:T.length≤1000000) :
    ∃ V' W',(Builtin.append_ #[33,33] ty #[V,.slice (some ⟨g,0,none⟩) 1 1]).run Try.prog W = .ok V' W'∧Que W' base V' (T++[x])∧Below base W W'∧(∀ q,q < W.heap.size→V.ownBlock≠some q→W'.heap[q]? = W.heap[q]?)∧(V'.ownBlock=V.ownBlock∨V'.ownBlock=some W.heap.size):=by
  obtain ⟨b,o,cap,cs,rfl,e2,e3,e4,e5,e6,e7⟩:=h
  obtain ⟨i0,hi,hz0,hz1,hz2⟩:=info_parts info_n
  have hnews:∀ j u,[Value.int .i64 (x:Int)][j]? = some u→W.cell? ((⟨g,0,none⟩:Addr).add j)=some u:=fun j u hu=>by
    cases j with
    | succ j=>simp at hu
    | zero =>
      simp at hu
      subst hu
      exact cell_of_heap hg 0 _ rfl
  have hone:∀ u ∈ [Value.int .i64 (x:Int)],u.oneCell'=true:=fun u hu=>by simp at hu; subst hu; rfl
  by_cases hroom:T.length + 1≤cap
  · have hf:=run_firstCells_some (P:=Try.prog) W i0.size 1 ⟨g,0,none⟩ 1 1 [.int .i64 (x:Int)] (by rw [hz1]; rfl) hnews
    have hadd:(⟨b,o,none⟩:Addr).add (T.length * i0.size)=⟨b,o + T.length,none⟩:=by
      rw [hz1,Nat.mul_one]
      unfold Addr.add; split
      · rename_i h0; rw [h0,Nat.add_zero]
      · rfl
    have hst:=run_storeCells_at Try.prog b (o + T.length) 3 [.int .i64 (x:Int)] 0 cs W e5 (by simp; omega) hone
    simp only [Nat.add_zero,List.length_singleton] at hst
    refine ⟨.slice (some ⟨b,o,none⟩) (T.length + 1) cap,W.setRow b (cs.toList.take (o + T.length)++[Value.int .i64 (x:Int)]++cs.toList.drop (o + T.length + 1)).toArray,?_,⟨b,o,cap,(cs.toList.take (o + T.length)++[Value.int .i64 (x:Int)]++cs.toList.drop (o + T.length + 1)).toArray,by simp,by simpa using hroom,e3,e4,setRow_heap W b cs _ _ _ e5,?_,fun j y hj=>?_⟩,below_setRow (Below.refl _ _) e4 _,fun q hq hne=>setRow_other W b q _ (fun e=>hne (by simp [Value.ownBlock,e])),Or.inl rfl⟩
    · simp [Builtin.append_,run_underlying (P:=Try.prog) (show Try.prog.underlying 33=some (.slice 3) by kernel_rfl),sizeOf,typeInfo,hi,Builtin.lenOf,hroom,hf,hadd,hst]
    · simp
      omega
    · simp only [List.getElem?_toArray,List.append_assoc]
      have hcs:o + T.length < cs.toList.length:=by simp; omega
      by_cases hjT:j < T.length
      · rw [List.getElem?_append_left hjT] at hj
        rw [List.getElem?_append_left (by simp; omega),List.getElem?_take,if_pos (by omega)]
        simpa using e7 j y hj
      · rw [List.getElem?_append_right (by omega)] at hj
        have hjj:j=T.length:=by
          have:=(List.getElem?_eq_some_iff.1 hj).1
          simp at this
          omega
        subst hjj
        simp at hj
        subst hj
        rw [List.getElem?_append_right (by simp; omega)]
        simp only [List.length_take]
        rw [show o + T.length - min (o + T.length) cs.toList.length=0 by omega]
        rfl
  · have hr := run_append_grow (P:=Try.prog) W 33 ty 3 i0 (.int .i64 0) (by kernel_rfl) hi hz0 ⟨b,o,none⟩ T.length cap (T.map fun x:Nat=>Value.int .i64 (x:Int)) (by rw [hz1]; simp)
      (fun j v hj=>by
        rw [List.getElem?_map] at hj
        cases hx:T[j]? with
        | none=>rw [hx] at hj; cases hj
        | some y =>
          rw [hx] at hj
          simp only [Option.map_some,Option.some.injEq] at hj
          subst hj
          have hadd:(⟨b,o,none⟩:Addr).add j=⟨b,o + j,none⟩:=by
            unfold Addr.add; split
            · rename_i h0; rw [h0,Nat.add_zero]
            · rfl
          rw [hadd]
          exact cell_of_heap e5 _ _ (e7 j y hx)) ⟨g,0,none⟩ 1 1 [.int .i64 (x:Int)] (by rw [hz1]; rfl) hnews (by omega) (by omega) (growslice_fits (by omega) (by rw [hz2]; omega))
    refine ⟨_,_,hr,⟨W.heap.size,0,_,_,by simp,by simpa using grownCap_ge W (T.length + 1) cap 3,grownCap_le_maxLen W (T.length + 1) cap 3 (by simp only [maxLen]; omega),hbase,heap_alloc_new W.drew _,?_,fun j y hj=>?_⟩,((Below.refl _ _).drew).alloc (by simpa using hbase) _,fun q hq _=>(Below.one W.drew _).block q hq,Or.inr rfl⟩
    · have:=grownCap_ge W (T.length + 1) cap 3
      simp [size_zeroCells,Value.cells]
      omega
    · simp only [Nat.zero_add]
      have hjl:=(List.getElem?_eq_some_iff.1 hj).1
      simp at hjl
      rw [Array.getElem?_append_left (by simp; omega)]
      by_cases hjT:j < T.length
      · rw [List.getElem?_append_left hjT] at hj
        rw [Array.getElem?_append_left (by simpa using hjT),List.getElem?_toArray,List.getElem?_map,hj]
        rfl
      · rw [List.getElem?_append_right (by omega)] at hj
        have hjj:j=T.length:=by omega
        subst hjj
        simp at hj
        subst hj
        rw [Array.getElem?_append_right (by simp)]
        simp
def ClonedV (base R:Nat)(v:List Vl)(e:Ending)(w:World):Prop:=∃ nb cap,e = .returned (.slice (some ⟨nb,0,none⟩) R cap)∧base≤nb∧PreV w nb v
theorem flatV_get:∀ (v:List Vl) (j k:Nat),k < 2→(v.flatMap gV)[j * 2 + k]? = (v[j]?).bind fun x=>(gV x)[k]?
  | [],j,k,_=>by simp
  | x::v,0,k,hk=>by
    rw [List.flatMap_cons,List.getElem?_append_left (by simp [gV]; omega)]
    simp
  | x::v,j + 1,k,hk=>by
    rw [List.flatMap_cons,List.getElem?_append_right (by simp [gV]; omega)]
    have h:=flatV_get v j k hk
    rw [show (j + 1) * 2 + k - (gV x).length=j * 2 + k by simp [gV]; omega,h]
    simp
theorem flatV_len (v:List Vl):(v.flatMap gV).length=v.length * 2:=by
  induction v with
  | nil=>rfl
  | cons x v ih=>simp [gV,ih]; omega
theorem flatV_one (v:List Vl):∀ u ∈ v.flatMap gV,u.oneCell'=true:=fun u hu=>by
  obtain ⟨x,_,hx⟩:=List.mem_flatMap.1 hu
  simp only [gV,List.mem_cons,List.not_mem_nil,or_false] at hx
  rcases hx with rfl | rfl <;> rfl
theorem flatV_src {W:World}{b:Nat}{v:List Vl}(h:PreV W b v):∀ j u,(v.flatMap gV)[j]? = some u→W.cell? ((⟨b,0,none⟩:Addr).add j)=some u:=fun j u hu=>by
  have hadd:(⟨b,0,none⟩:Addr).add j=⟨b,j,none⟩:=by
    unfold Addr.add; split
    · rename_i h0; rw [h0]
    · simp
  rw [hadd]
  have hj:j / 2 * 2 + j % 2=j:=by omega
  rw [← hj,flatV_get v (j / 2) (j % 2) (Nat.mod_lt _ (by decide))] at hu
  cases hx:v[j / 2]? with
  | none=>rw [hx] at hu; cases hu
  | some x =>
    rw [hx] at hu
    have:=Pre.cell h hx (k:=j % 2) (Nat.mod_lt _ (by decide)) (v:=u) hu
    rwa [hj] at this
set_option maxRecDepth 1000000 in
theorem clone_vals (v:List Vl)(R:Nat)(hR:v.length=R)(hR4:R≤4096)(b cap:Nat)(w:World)(h:PreV w b v):Calls Try.prog 78 #[.slice (some ⟨b,0,none⟩) R cap] w fun e w'=>ClonedV w.heap.size R v e w'∧Below w.heap.size w w':=by
  have hB:=Below.one w (.cells #[] 66)
  have h1:=Pre.later h hB
  obtain ⟨i0,hi,hz0,hz1,hz2⟩:=info_parts info_v
  have hown:(w.alloc (.cells #[] 66)).ownsRow w.heap.size 66 2 (.slice (some ⟨w.heap.size,0,none⟩) 0 0) 0 []:=World.ownsRow_made w #[] 0 (Nat.le_refl _) (by decide) rfl
  obtain ⟨V',w',hr,h2,h3,h4,h5⟩:=run_append_own_at (P:=Try.prog) (w.alloc (.cells #[] 66)) w.heap.size 67 67 66 i0 (.agg #[.int .i64 0,.int .i64 0]) 2 16 (by kernel_rfl) hi hz0 hz1 hz2 rfl (by decide) _ 0 [] hown ⟨b,0,none⟩ R cap (v.flatMap gV) (by rw [flatV_len,hR]) (flatV_src h1) (flatV_one v) (by simp only [maxLen]; omega) (by omega) hB.size
  have hB2:Below w.heap.size w w':=hB.grown h3 hB.size (fun k hk=>by simp [Value.ownBlock] at hk; omega)
  have hT:ClonedV w.heap.size R v (.returned V') w':=by
    obtain ⟨_,h7⟩:=h2
    rcases h7 with ⟨rfl,hn⟩ | ⟨g,cap',cur,rfl,hBg,hg,hnc,_,hsz,htake⟩
    · have:=(h4.1 rfl).1
      cases this
    · refine ⟨g,cap',by rw [Nat.zero_add],hBg,cur,hg,fun j x hx k hk=>?_⟩
      have hf:=flatV_get v j k hk
      rw [hx] at hf
      simp only [Option.bind_some] at hf
      rw [List.nil_append,Nat.zero_add] at htake
      rw [← hf,← htake]
      have hjl:=(List.getElem?_eq_some_iff.1 hx).1
      rw [List.getElem?_take,if_pos (by omega)]
      simp
  have HT:=Lib.hid hT
  clear hT h5 h4 h3 h2 hown h1 h hR
  have he:∀ W:World,(binOp .eql 67 (.slice (some ⟨b,0,none⟩) R cap) (.slice none 0 0)).run Try.prog W = .ok (.bool false) W:=fun W=>Lib.run_eql_slice_nil W 67 66 (some ⟨b,0,none⟩) R cap 0 0 (by kernel_rfl)
  go_enter Try.func78,Try.ntmps78
  go_wp2_with (first
    | (at_builtin; go_must (refine append_ran rfl (.tmp 5) (.tmp 6) rfl rfl rfl hr ?_)))
  go_returns
  exact ⟨HT.out,hB2⟩
end Go.Proofs.Ytkcclefonmnpnaa
namespace Go.Proofs.Ytkcclefonmnpnaa
open Go.RowKit Go.BigFrame
theorem fst_set {R k:Nat}{ps:Int}(hk:k < R):(fst R ps k).set k (if (k:Int) < ps then av else ⟨1,0⟩)=fst R ps (k + 1):=by
  apply List.ext_getElem?
  intro j
  by_cases hj:j < R
  · rw [List.getElem?_set,fst_get hj,fst_get hj]
    by_cases h1:k=j
    · subst h1; rw [if_pos rfl,if_pos (by simp [fst,hk]),if_pos (Nat.lt_succ_self k)]
    · rw [if_neg h1]
      by_cases h2:j < k
      · rw [if_pos h2,if_pos (show j < k + 1 by omega)]
      · rw [if_neg h2,if_neg (show ¬ j < k + 1 by omega)]
  · rw [List.getElem?_eq_none (by simp [fst]; omega),List.getElem?_eq_none (by simp [fst]; omega)]
theorem Lp2.next0 {W3 W:World}{fo R k:Nat}{ps:Int}(h:Lp2 W3 W fo R ps k)(hk:k < R)(hp:¬ (k:Int) < ps):Lp2 W3 ((W.setCell ⟨fo,k * 2,none⟩ (.int .i64 1)).setCell ⟨fo,k * 2 + 1,none⟩ (.int .i64 0)) fo R ps (k + 1):=by
  have h1:=PreV.set h.h (fst_get hk) (if (k:Int) < ps then av else ⟨1,0⟩)
  rw [fst_set hk,if_neg hp] at h1
  exact ⟨h1,by simpa using h.s,(h.b.setCell (Nat.le_refl _) _).setCell (Nat.le_refl _) _⟩
theorem Lp2.next1 {W3 W:World}{fo R k:Nat}{ps:Int}(h:Lp2 W3 W fo R ps k)(hk:k < R)(hp:(k:Int) < ps):Lp2 W3 (((W.setCell ⟨fo,k * 2,none⟩ (.int .i64 1)).setCell ⟨fo,k * 2 + 1,none⟩ (.int .i64 0)).setCell ⟨fo,k * 2,none⟩ (.int .i64 2)) fo R ps (k + 1):=by
  have h1:=PreV.set h.h (fst_get hk) ⟨1,0⟩
  have hl:k < (fst R ps k).length:=by simp [fst,hk]
  have h2:=Pre.store (y:=av) h1 (List.getElem?_set_self hl) (k:=0) (v:=.int .i64 2) (by omega) rfl rfl (fun k' hk'=>by
    match k' with
    | 0=>exact absurd rfl hk'
    | 1=>rfl
    | k' + 2=>rfl)
  rw [List.set_set] at h2
  have h3:=fst_set (ps:=ps) hk
  rw [if_pos hp] at h3
  rw [h3,Nat.add_zero] at h2
  exact ⟨h2,by simpa using h.s,((h.b.setCell (Nat.le_refl _) _).setCell (Nat.le_refl _) _).setCell (Nat.le_refl _) _⟩
theorem Mem.setC {W1 W:World}{ob L R:Nat}{M:List (List Vl)}{Cm:List Bool}(h:Mem W1 W ob L R M Cm){n:Nat}(hn:n < Cm.length)(v:Bool):Mem W1 (W.setCell ⟨ob + 1 + L,n,none⟩ (.bool v)) ob L R M (Cm.set n v) :=
  ⟨h.b.setCell (by simp only; omega) _,h.h.other (by simp only; omega) _,fun p v' hv=>Pre.other (h.r p v' hv) (by have:=(List.getElem?_eq_some_iff.1 hv).1; have:=h.l; simp only; omega) _,PreB.set h.c hn v,by simpa using h.s,h.l⟩
theorem Mem.setR {W1 W W':World}{ob L R:Nat}{M:List (List Vl)}{Cm:List Bool}(h:Mem W1 W ob L R M Cm){n:Nat}(hn:n < L){u:List Vl}(hu:PreV W' (ob + 1 + n) u)(ho:∀ b,b≠ob + 1 + n→W'.heap[b]? = W.heap[b]?)(hs:W'.heap.size=W.heap.size)(hb:Below (ob + 1 + n) W W'):Mem W1 W' ob L R (M.set n u) Cm :=
  ⟨h.b.trans (hb.mono (by omega)),h.h.of_heap (ho _ (by omega)),fun p v' hv=>by
    by_cases hp:n=p
    · subst hp
      rw [List.getElem?_set_self (by rw [h.l]; exact hn)] at hv
      injection hv with hv
      subst hv
      exact hu
    · rw [List.getElem?_set_ne hp] at hv
      exact Pre.of_heap (h.r p v' hv) (ho _ (by omega)),h.c.of_heap (ho _ (by omega)),by rw [hs]; exact h.s,by simpa using h.l⟩
end Go.Proofs.Ytkcclefonmnpnaa
namespace Go.Proofs.Ytkcclefonmnpnaa
open Go.RowKit Go.BigFrame
theorem que_tail {W:World}{base:Nat}{V:Value}{p:Nat}{T:List Nat}(h:Que W base V (p::T)) :
    ∃ b o cap V',V = .slice (some ⟨b,o,none⟩) (T.length + 1) cap∧T.length + 1≤cap∧W.cell? ⟨b,o,none⟩=some (.int .i64 p)∧Que W base V' T∧(∃ A c,V' = .slice A T.length c) ∧
      ∀ W2:World,(Instr.slice 33 (.slice (some ⟨b,o,none⟩) (T.length + 1) cap) (some (.int .i64 1)) none none).run Try.prog W2 = .ok V' W2:=by
  obtain ⟨b,o,cap,cs,e1,e2,e3,e4,e5,e6,e7⟩:=h
  obtain ⟨i0,hi,hz0,hz1,hz2⟩:=info_parts info_n
  simp only [List.length_cons] at e1 e2
  have hc:=e7 0 p rfl
  have hu:Try.prog.underlying 33=some (.slice 3):=by kernel_rfl
  refine ⟨b,o,cap,.slice (if cap=1 then some ⟨b,o,none⟩ else some ⟨b,o + 1,none⟩) T.length (cap - 1),e1,e2,cell_of_heap e5 o _ (by simpa using hc),?_,⟨_,_,rfl⟩,fun W2=>?_⟩
  · by_cases h1:cap=1
    · rw [if_pos h1]
      have hT:T.length=0:=by omega
      exact ⟨b,o,cap - 1,cs,rfl,by omega,by omega,e4,e5,by omega,fun j x hj=>by have:=(List.getElem?_eq_some_iff.1 hj).1; omega⟩
    · rw [if_neg h1]
      exact ⟨b,o + 1,cap - 1,cs,rfl,by omega,by omega,e4,e5,by omega,fun j x hj=>by have:=e7 (j + 1) x hj; rwa [show o + 1 + j=o + (j + 1) by omega]⟩
  · have hadd:(⟨b,o,none⟩:Addr).add 1=⟨b,o + 1,none⟩:=rfl
    simp [Instr.slice,run_underlying hu,Instr.sliceBounds,Instr.sliceBound,asIntOf,sizeOf,typeInfo,hi,hz1]
    rw [if_pos (by omega),hadd]
theorem flatV_pre {cs:Array Value}{W:World}{b:Nat}{v:List Vl}{rest:List Value}(hg:W.heap[b]? = some (.cells cs 66 (0,0)))(hc:cs.toList=v.flatMap gV++rest):PreV W b v :=
  ⟨cs,hg,fun j x hx k hk=>by
    have hf:=flatV_get v j k hk
    rw [hx] at hf
    simp only [Option.bind_some] at hf
    rw [← hf,← Array.getElem?_toList,hc,List.getElem?_append_left]
    rw [flatV_len]
    have:=(List.getElem?_eq_some_iff.1 hx).1
    omega⟩
theorem PreV.room {W:World}{b:Nat}{v:List Vl}(h:PreV W b v):∃ cs,W.heap[b]? = some (.cells cs 66 (0,0))∧v.length * 2≤cs.size:=by
  obtain ⟨cs,h1,h2⟩:=h
  refine ⟨cs,h1,?_⟩
  by_cases h0:v.length=0
  · omega
  · have h3:=h2 (v.length - 1) (v[v.length - 1]'(by omega)) (by simp) 1 (by omega)
    have h4:(gV (v[v.length - 1]'(by omega)))[1]? = some (.int .i64 (v[v.length - 1]'(by omega)).n):=rfl
    rw [h4] at h3
    have:=(Array.getElem?_eq_some_iff.1 h3).1
    omega
theorem copy_vals {W:World}{g fo R:Nat}{v u:List Vl}(h:PreV W g v)(hu:PreV W fo u)(hv:v.length=R)(hul:u.length=R)(ty:TypeId) :
    ∃ W',(Builtin.copy_ #[67,67] ty #[.slice (some ⟨g,0,none⟩) R R,.slice (some ⟨fo,0,none⟩) R R]).run Try.prog W = .ok (goInt R) W'∧PreV W' g u∧(∀ b,b≠g→W'.heap[b]? = W.heap[b]?)∧W'.heap.size=W.heap.size∧Below g W W':=by
  obtain ⟨cs,h1,h2⟩:=PreV.room h
  have hr:=run_copy_any (P:=Try.prog) W 67 67 ty 66 g 0 R R ⟨fo,0,none⟩ R R cs 66 (u.flatMap gV) 2 R (by kernel_rfl) sVal h1 (Nat.min_self R).symm (by rw [flatV_len,hul]) (flatV_src hu) (by rw [flatV_len]; omega) (flatV_one u)
  refine ⟨_,hr,flatV_pre (rest:=cs.toList.drop (0 + (u.flatMap gV).length)) (setRow_heap W g cs _ _ _ h1) (by simp),fun b hb=>setRow_other W g b _ hb,by simp,below_setRow (Below.refl _ _) (Nat.le_refl _) _⟩
theorem cell_below {W W':World}{a:Addr}{v:Value}(hb:Below W.heap.size W W')(h:W.cell? a=some v):W'.cell? a=some v:=(hb.cell (World.block_lt_of_cell? W a h)).trans h
theorem zero_kept {W w6:World}(hb:Below (W.alloc zeroI.obj).drew.heap.size (W.alloc zeroI.obj).drew w6):Below W.heap.size W w6∧w6.heap[W.heap.size]? = some zeroI.obj∧(w6.cell? ⟨W.heap.size,0,none⟩=some (.int .i64 0)∧w6.cell? ⟨W.heap.size,1,none⟩=some (.int .i64 0)∧w6.cell? ⟨W.heap.size,2,none⟩=some (.int .i64 0)∧w6.cell? ⟨W.heap.size,3,none⟩=some (.int .i64 0)∧w6.cell? ⟨W.heap.size,4,none⟩=some (.int .i64 0)∧w6.cell? ⟨W.heap.size,5,none⟩=some (.int .i64 0)∧w6.cell? ⟨W.heap.size,6,none⟩=some (.string ⟨#[]⟩)∧w6.cell? ⟨W.heap.size,7,none⟩=some (.int .i64 0)∧w6.cell? ⟨W.heap.size,8,none⟩=some (.int .i64 0)∧w6.cell? ⟨W.heap.size,9,none⟩=some (.int .i64 0)∧w6.cell? ⟨W.heap.size,10,none⟩=some (.int .i64 0)∧w6.cell? ⟨W.heap.size,11,none⟩=some (.int .i64 0)∧w6.cell? ⟨W.heap.size,12,none⟩=some (.int .i64 0)∧w6.cell? ⟨W.heap.size,13,none⟩=some (.int .i64 0)∧w6.cell? ⟨W.heap.size,14,none⟩=some (.int .i64 0))∧∀ j,w6.frozen? ⟨W.heap.size,j,none⟩=false:=by
  have hz:w6.heap[W.heap.size]? = some zeroI.obj:=(hb.block W.heap.size (by show W.heap.size < (W.alloc zeroI.obj).heap.size; simp)).trans (heap_alloc_new W zeroI.obj)
  exact ⟨((Below.one W zeroI.obj).drew).trans (hb.mono (by show W.heap.size≤(W.alloc zeroI.obj).heap.size; simp)),hz,Ins.cells hz,fun j=>free_of_heap hz j⟩
theorem Cut24.apart {W:World}{ib nb:Nat}{i:Ins}{v:List Vl}(h1:W.heap[ib]? = some i.obj)(h2:PreV W nb v):ib≠nb:=by
  rintro rfl
  obtain ⟨cs,h3,_⟩:=h2
  rw [h1] at h3
  injection h3 with h3
  injection h3 with _ h4
  exact absurd h4 (by decide)
end Go.Proofs.Ytkcclefonmnpnaa
namespace Go.Proofs.Ytkcclefonmnpnaa
open Go.RowKit Go.BigFrame
end Go.Proofs.Ytkcclefonmnpnaa

