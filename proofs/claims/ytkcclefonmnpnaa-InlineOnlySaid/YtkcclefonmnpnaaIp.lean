import Derived.Test.YtkcclefonmnpnaaIn
namespace Go.Proofs.Ytkcclefonmnpnaa
open Go.RowKit Go.BigFrame
def awR:Ins:=⟨13,0,-1,0,0,0,⟨#[]⟩,0,0,0,0,0,0,0,-1⟩
def awC:Ins:=⟨8,0,0,0,0,1,⟨#[102]⟩,0,0,0,0,0,0,0,-1⟩
def aw0:Fn7:=⟨⟨#[102]⟩,1,1,0,[awR]⟩
def aw1:Fn7:=⟨⟨#[109,97,105,110]⟩,0,1,0,[awC,awR]⟩
def awU:Un7:=⟨[aw0,aw1],[],1⟩
theorem awR_ok {R:Int}{L:Nat}(hR:0 < R):Ok awR R 0 L where
  kind:=by decide
  uses:=by intro r hr; simp [awR,Ins.uses,kA,kB] at hr; all_goals omega
  dst:=by intro h; simp [awR,kS] at h
  word:=by intro h; simp [awR] at h
  fr:=by intro h; simp [awR] at h
  call:=by intro h; simp [awR] at h
  one:=by intro h; simp [awR] at h
  two:=by intro h; simp [awR] at h
  to_:=by intro h; simp [awR] at h
  els:=by intro h; simp [awR] at h
  mask:=by simp [awR,Ins.mask,kA,kB,kS]
theorem awC_ok:Ok awC 1 0 2 where
  kind:=by decide
  uses:=by intro r hr; simp [awC,Ins.uses,Ins.args,kA,kB] at hr; subst hr; decide
  dst:=by intro h; left; simp [awC]
  word:=by intro h; simp [awC] at h
  fr:=by intro h; simp [awC] at h
  call:=by intro h; simp [awC]
  one:=by intro h; simp [awC] at h
  two:=by intro h; simp [awC] at h
  to_:=by intro h; simp [awC] at h
  els:=by intro h; simp [awC] at h
  mask:=by simp [awC,Ins.mask,kA,kB,kS]
theorem aw0_ok:OkF aw0 where
  nm:=by decide
  ps:=by decide
  R:=by decide
  Fr:=by decide
  len:=by decide
  ok:=by intro i hi; simp [aw0] at hi; subst hi; exact awR_ok (by decide)
  last:=by intro i hi; simp [aw0] at hi; subst hi; decide
theorem aw1_ok:OkF aw1 where
  nm:=by decide
  ps:=by decide
  R:=by decide
  Fr:=by decide
  len:=by decide
  ok:=by
    intro i hi
    simp [aw1] at hi
    rcases hi with rfl | rfl
    · exact awC_ok
    · exact awR_ok (by decide)
  last:=by intro i hi; simp [aw1] at hi; subst hi; decide
theorem aw0_small:SmallF aw0 where
  ok:=aw0_ok
  fr:=rfl
  len:=by decide
  calls:=by intro i hi; simp [aw0] at hi; subst hi; decide
  next:=by
    intro p i hi n hn
    match p,hi with
    | 0,hi=>injection hi with hi; subst hi; simp [awR,Ins.next] at hn
    | p + 1,hi=>simp [aw0] at hi
theorem awU_ok:OkU awU where
  len:=by decide
  top:=by decide
  gl:=by intro g hg; simp [awU] at hg
  ok:=by
    intro f hf
    simp [awU] at hf
    rcases hf with rfl | rfl
    · exact aw0_ok
    · exact aw1_ok
  one:=by
    intro k f hk
    match k,hk with
    | 0,hk=>injection hk with hk; subst hk; decide
    | 1,hk=>injection hk with hk; subst hk; decide
    | k + 2,hk=>simp [awU] at hk
  calls:=by
    intro f hf i hi h8
    simp [awU] at hf
    rcases hf with rfl | rfl
    · simp [aw0] at hi; subst hi; simp [awR] at h8
    · simp [aw1] at hi
      rcases hi with rfl | rfl
      · exact ⟨0,aw0,by decide,rfl,rfl⟩
      · simp [awR] at h8
theorem awU_sm:∀ f ∈ awU.funcs,Sm f:=by
  intro f hf
  simp [awU] at hf
  rcases hf with rfl | rfl
  · exact ⟨by decide,by decide,by decide,by intro i hi; simp [aw0] at hi; subst hi; decide⟩
  · exact ⟨by decide,by decide,by decide,by intro i hi; simp [aw1] at hi; rcases hi with rfl | rfl <;> decide⟩
theorem one_nm {u:Un7}(hU:OkU u):∀ (i j:Nat) a b,u.funcs[i]? = some a→u.funcs[j]? = some b→a.nm=b.nm→i=j:=fun i j a b h1 h2 h3=>by
  have h4:=hU.one i a h1
  have h5:=hU.one j b h2
  rw [h3,h5] at h4
  injection h4 with h4
  exact h4.symm
theorem aw_sm:smTo awU.funcs 1 2 ⟨#[102]⟩=some aw0:=smTo_in (f:=aw0) (one_nm awU_ok) (j:=0) (by decide) rfl (by decide) aw0_small
theorem awBody:bodyL aw0 awC 1=[cpI 1 0,cpI 0 1,jmpI 3]:=by decide
theorem inStep_none {sm:ByteArray→Option Fn7}{s:InS}{c:Ins}(hc:s.C[s.p]? = some c)(h:smOf sm c=none):inStep sm s={ s with p:=s.p + 1 }:=by
  unfold inStep
  rw [hc]
  simp only [h]
theorem inStep_some {sm:ByteArray→Option Fn7}{s:InS}{c:Ins}{g:Fn7}(hc:s.C[s.p]? = some c)(h:smOf sm c=some g)(hn:¬ (8192 < s.C.length + (bodyL g c s.R).length∨4096 < s.R + g.R)):inStep sm s=⟨placeL s.C s.p (bodyL g c s.R),s.p + (bodyL g c s.R).length,s.R + g.R,s.n + 1⟩:=by
  unfold inStep
  rw [hc]
  simp only [h]
  rw [if_neg hn]
theorem aw_ofS:ofS awU 1 aw1=⟨[upI 0 (cpI 1 0),upI 0 (cpI 0 1),upI 0 (jmpI 3),shI 0 3 awR],4,2,1⟩:=by
  have e1:smOf (smTo awU.funcs 1 2) awC=some aw0:=by
    show (if (8:Int)=8 then smTo awU.funcs 1 2 ⟨#[102]⟩ else none)=_
    rw [if_pos rfl,aw_sm]
  have e2:smOf (smTo awU.funcs 1 2) (shI 0 3 awR)=none:=rfl
  have s1:inStep (smTo awU.funcs 1 2) ⟨[awC,awR],0,1,0⟩=⟨[upI 0 (cpI 1 0),upI 0 (cpI 0 1),upI 0 (jmpI 3),shI 0 3 awR],3,2,1⟩:=by
    rw [inStep_some (c:=awC) rfl e1 (by rw [show (⟨[awC,awR],0,1,0⟩:InS).R=1 from rfl,awBody]; decide)]
    simp only [awBody]
    rfl
  show inStep (smTo awU.funcs 1 2) (inStep (smTo awU.funcs 1 2) ⟨[awC,awR],0,1,0⟩)=_
  rw [s1,inStep_none (c:=shI 0 3 awR) rfl e2]
theorem aw_six (w:World)(a b c d e f:Obj):((((((w.alloc a).alloc b).alloc c).alloc d).alloc e).alloc f).heap[w.heap.size + 1 + 1]? = some c∧((((((w.alloc a).alloc b).alloc c).alloc d).alloc e).alloc f).heap[w.heap.size + 1 + 1 + 1]? = some d ∧
    ((((((w.alloc a).alloc b).alloc c).alloc d).alloc e).alloc f).heap[w.heap.size + 1 + 1 + 1 + 1]? = some e∧((((((w.alloc a).alloc b).alloc c).alloc d).alloc e).alloc f).heap[w.heap.size + 1 + 1 + 1 + 1 + 1]? = some f∧Below w.heap.size w ((((((w.alloc a).alloc b).alloc c).alloc d).alloc e).alloc f):=by
  have h1:=heap_alloc_new ((w.alloc a).alloc b) c
  have h2:=heap_alloc_new (((w.alloc a).alloc b).alloc c) d
  have h3:=heap_alloc_new ((((w.alloc a).alloc b).alloc c).alloc d) e
  have h4:=heap_alloc_new (((((w.alloc a).alloc b).alloc c).alloc d).alloc e) f
  have hsz:∀ (w:World) (o:Obj),(w.alloc o).heap.size=w.heap.size + 1:=fun _ _=>by simp
  simp only [hsz] at h1 h2 h3 h4
  exact ⟨alloc_keeps (alloc_keeps (alloc_keeps h1 _) _) _,alloc_keeps (alloc_keeps h2 _) _,alloc_keeps h3 _,h4,(((((Below.one w a).alloc (by simp) b).alloc (by simp; omega) c).alloc (by simp; omega) d).alloc (by simp; omega) e).alloc (by simp; omega) f⟩
theorem aw_rdI {W:World} {b:Nat} {l:List Ins} (h:W.heap[b]? = some (.cells (l.flatMap Ins.l).toArray 32 (0,0))):RdI W (some ⟨b,0,none⟩) l:=fun j x hx=>⟨b,0,rfl,(Array.getElem?_eq_some_iff.1 h).1,fun k hk=>by
  rw [cell_of_row W b _ _ _ _ h,Nat.zero_add,List.getElem?_toArray]
  have key:∀ (l:List Ins) (j:Nat),l[j]? = some x→(l.flatMap Ins.l)[j * 15 + k]? = x.l[k]?:=by
    intro l
    induction l with
    | nil=>intro j hj; simp at hj
    | cons y l ih =>
      intro j hj
      have hy:y.l.length=15:=rfl
      cases j with
      | zero =>
        simp at hj
        subst hj
        rw [List.flatMap_cons,Nat.zero_mul,Nat.zero_add,List.getElem?_append_left (by omega)]
      | succ j =>
        rw [List.flatMap_cons,List.getElem?_append_right (by omega),hy,show (j + 1) * 15 + k - 15=j * 15 + k by omega]
        exact ih j hj
  exact key l j hx⟩
theorem aw_rdU (w:World):RdU ((((((w.alloc (.cells #[.int .i64 8,.int .i64 0,.int .i64 0,.int .i64 0,.int .i64 0,.int .i64 1,.string ⟨#[102]⟩,.int .i64 0,.int .i64 0,.int .i64 0,.int .i64 0,.int .i64 0,.int .i64 0,.int .i64 0,.int .i64 (-1)] 32)).alloc (.cells #[.int .i64 13,.int .i64 0,.int .i64 (-1),.int .i64 0,.int .i64 0,.int .i64 0,.string ⟨#[]⟩,.int .i64 0,.int .i64 0,.int .i64 0,.int .i64 0,.int .i64 0,.int .i64 0,.int .i64 0,.int .i64 (-1)] 32)).alloc (.cells #[.int .i64 13,.int .i64 0,.int .i64 (-1),.int .i64 0,.int .i64 0,.int .i64 0,.string ⟨#[]⟩,.int .i64 0,.int .i64 0,.int .i64 0,.int .i64 0,.int .i64 0,.int .i64 0,.int .i64 0,.int .i64 (-1)] 32)).alloc (.cells #[.int .i64 8,.int .i64 0,.int .i64 0,.int .i64 0,.int .i64 0,.int .i64 1,.string ⟨#[102]⟩,.int .i64 0,.int .i64 0,.int .i64 0,.int .i64 0,.int .i64 0,.int .i64 0,.int .i64 0,.int .i64 (-1),.int .i64 13,.int .i64 0,.int .i64 (-1),.int .i64 0,.int .i64 0,.int .i64 0,.string ⟨#[]⟩,.int .i64 0,.int .i64 0,.int .i64 0,.int .i64 0,.int .i64 0,.int .i64 0,.int .i64 0,.int .i64 (-1)] 32)).alloc (.cells #[.string ⟨#[102]⟩,.int .i64 1,.int .i64 1,.int .i64 0,.slice (some ⟨w.heap.size + 1 + 1,0,none⟩) 1 1,.string ⟨#[109,97,105,110]⟩,.int .i64 0,.int .i64 1,.int .i64 0,.slice (some ⟨w.heap.size + 1 + 1 + 1,0,none⟩) 2 2] 24)).alloc (.cells #[.slice (some ⟨w.heap.size + 1 + 1 + 1 + 1,0,none⟩) 2 2,.slice none 0 0,.int .i64 1] 43)) (some ⟨w.heap.size + 1 + 1 + 1 + 1,0,none⟩) none awU:=by
  obtain ⟨h1,h2,h3,h4,h5⟩:=aw_six w (.cells #[.int .i64 8,.int .i64 0,.int .i64 0,.int .i64 0,.int .i64 0,.int .i64 1,.string ⟨#[102]⟩,.int .i64 0,.int .i64 0,.int .i64 0,.int .i64 0,.int .i64 0,.int .i64 0,.int .i64 0,.int .i64 (-1)] 32) (.cells #[.int .i64 13,.int .i64 0,.int .i64 (-1),.int .i64 0,.int .i64 0,.int .i64 0,.string ⟨#[]⟩,.int .i64 0,.int .i64 0,.int .i64 0,.int .i64 0,.int .i64 0,.int .i64 0,.int .i64 0,.int .i64 (-1)] 32) (.cells #[.int .i64 13,.int .i64 0,.int .i64 (-1),.int .i64 0,.int .i64 0,.int .i64 0,.string ⟨#[]⟩,.int .i64 0,.int .i64 0,.int .i64 0,.int .i64 0,.int .i64 0,.int .i64 0,.int .i64 0,.int .i64 (-1)] 32) (.cells #[.int .i64 8,.int .i64 0,.int .i64 0,.int .i64 0,.int .i64 0,.int .i64 1,.string ⟨#[102]⟩,.int .i64 0,.int .i64 0,.int .i64 0,.int .i64 0,.int .i64 0,.int .i64 0,.int .i64 0,.int .i64 (-1),.int .i64 13,.int .i64 0,.int .i64 (-1),.int .i64 0,.int .i64 0,.int .i64 0,.string ⟨#[]⟩,.int .i64 0,.int .i64 0,.int .i64 0,.int .i64 0,.int .i64 0,.int .i64 0,.int .i64 0,.int .i64 (-1)] 32) (.cells #[.string ⟨#[102]⟩,.int .i64 1,.int .i64 1,.int .i64 0,.slice (some ⟨w.heap.size + 1 + 1,0,none⟩) 1 1,.string ⟨#[109,97,105,110]⟩,.int .i64 0,.int .i64 1,.int .i64 0,.slice (some ⟨w.heap.size + 1 + 1 + 1,0,none⟩) 2 2] 24) (.cells #[.slice (some ⟨w.heap.size + 1 + 1 + 1 + 1,0,none⟩) 2 2,.slice none 0 0,.int .i64 1] 43)
  obtain ⟨W,hW⟩:∃ W,((((((w.alloc (.cells #[.int .i64 8,.int .i64 0,.int .i64 0,.int .i64 0,.int .i64 0,.int .i64 1,.string ⟨#[102]⟩,.int .i64 0,.int .i64 0,.int .i64 0,.int .i64 0,.int .i64 0,.int .i64 0,.int .i64 0,.int .i64 (-1)] 32)).alloc (.cells #[.int .i64 13,.int .i64 0,.int .i64 (-1),.int .i64 0,.int .i64 0,.int .i64 0,.string ⟨#[]⟩,.int .i64 0,.int .i64 0,.int .i64 0,.int .i64 0,.int .i64 0,.int .i64 0,.int .i64 0,.int .i64 (-1)] 32)).alloc (.cells #[.int .i64 13,.int .i64 0,.int .i64 (-1),.int .i64 0,.int .i64 0,.int .i64 0,.string ⟨#[]⟩,.int .i64 0,.int .i64 0,.int .i64 0,.int .i64 0,.int .i64 0,.int .i64 0,.int .i64 0,.int .i64 (-1)] 32)).alloc (.cells #[.int .i64 8,.int .i64 0,.int .i64 0,.int .i64 0,.int .i64 0,.int .i64 1,.string ⟨#[102]⟩,.int .i64 0,.int .i64 0,.int .i64 0,.int .i64 0,.int .i64 0,.int .i64 0,.int .i64 0,.int .i64 (-1),.int .i64 13,.int .i64 0,.int .i64 (-1),.int .i64 0,.int .i64 0,.int .i64 0,.string ⟨#[]⟩,.int .i64 0,.int .i64 0,.int .i64 0,.int .i64 0,.int .i64 0,.int .i64 0,.int .i64 0,.int .i64 (-1)] 32)).alloc (.cells #[.string ⟨#[102]⟩,.int .i64 1,.int .i64 1,.int .i64 0,.slice (some ⟨w.heap.size + 1 + 1,0,none⟩) 1 1,.string ⟨#[109,97,105,110]⟩,.int .i64 0,.int .i64 1,.int .i64 0,.slice (some ⟨w.heap.size + 1 + 1 + 1,0,none⟩) 2 2] 24)).alloc (.cells #[.slice (some ⟨w.heap.size + 1 + 1 + 1 + 1,0,none⟩) 2 2,.slice none 0 0,.int .i64 1] 43))=W:=⟨_,rfl⟩
  rw [hW] at h1 h2 h3 h4 h5 ⊢
  have i0:RdI W (some ⟨w.heap.size + 1 + 1,0,none⟩) [awR]:=aw_rdI h1
  have i1:RdI W (some ⟨w.heap.size + 1 + 1 + 1,0,none⟩) [awC,awR]:=aw_rdI h2
  refine ⟨fun k f hk=>?_,fun k g hk=>by simp [awU] at hk⟩
  match k,hk with
  | 0,hk =>
    injection hk with hk
    subst hk
    refine ⟨_,0,_,1,rfl,(Array.getElem?_eq_some_iff.1 h3).1,fun j hj=>?_,i0⟩
    rw [cell_of_row W _ _ _ _ _ h3]
    match j,hj with
    | 0,_ | 1,_ | 2,_ | 3,_ | 4,_=>rfl
    | j + 5,hj=>omega
  | 1,hk =>
    injection hk with hk
    subst hk
    refine ⟨_,0,_,2,rfl,(Array.getElem?_eq_some_iff.1 h3).1,fun j hj=>?_,i1⟩
    rw [cell_of_row W _ _ _ _ _ h3]
    match j,hj with
    | 0,_ | 1,_ | 2,_ | 3,_ | 4,_=>rfl
    | j + 5,hj=>omega
  | k + 2,hk=>simp [awU] at hk
theorem awOf_any (W:World)(F:Option Addr)(h:RdU W F none awU):Calls Try.prog 42 #[.agg #[.slice F 2 2,.slice none 0 0,.int .i64 1],.int .i64 1] W fun e w' =>
    (∃ nb cp,e = .returned (.tuple #[.agg #[.string ⟨#[109,97,105,110]⟩,.int .i64 0,.int .i64 2,.int .i64 0,.slice (some ⟨nb,0,none⟩) 4 cp],.int .i64 1])∧nb < w'.heap.size∧w'.cell? ⟨nb,0,none⟩=some (.int .i64 4))∧Below W.heap.size W w':=by
  refine (Of_yes awU F none 2 0 1 aw1 awU_ok awU_sm rfl (by decide) W h).mono fun e w' hh=>?_
  obtain ⟨⟨nb,cp,he,hnb,hp⟩,hb⟩:=hh
  rw [aw_ofS] at he hp
  exact ⟨⟨nb,cp,he,Pre.lt hp,(PreI.cells hp (p:=0) rfl).1⟩,hb⟩
set_option maxRecDepth 1000000 in
set_option maxHeartbeats 8000000 in
theorem awake13_any (w:World):Calls Try.prog 39 #[] w fun e w'=>e = .returned (.bool true)∧Below w.heap.size w w':=by
  have hpla:=fun k W=>Plain_any k W
  simp only [Ins.agg] at hpla
  go_enter Try.func39,Try.ntmps39
  go_wp2_with fail
  refine (hpla _ _).mono ?_
  rintro e w1 ⟨rfl,hb1⟩
  go_wp2_with fail
  refine (hpla _ _).mono ?_
  rintro e w2 ⟨rfl,hb2⟩
  have hb12:=hb1.trans (hb2.mono hb1.size)
  have HB12:=Lib.hid hb12
  clear hb1 hb2 hb12
  go_wp2_with fail
  obtain ⟨h1,h2,h3,h4,h5⟩:=aw_six w2 (.cells #[.int .i64 8,.int .i64 0,.int .i64 0,.int .i64 0,.int .i64 0,.int .i64 1,.string ⟨#[102]⟩,.int .i64 0,.int .i64 0,.int .i64 0,.int .i64 0,.int .i64 0,.int .i64 0,.int .i64 0,.int .i64 (-1)] 32) (.cells #[.int .i64 13,.int .i64 0,.int .i64 (-1),.int .i64 0,.int .i64 0,.int .i64 0,.string ⟨#[]⟩,.int .i64 0,.int .i64 0,.int .i64 0,.int .i64 0,.int .i64 0,.int .i64 0,.int .i64 0,.int .i64 (-1)] 32) (.cells #[.int .i64 13,.int .i64 0,.int .i64 (-1),.int .i64 0,.int .i64 0,.int .i64 0,.string ⟨#[]⟩,.int .i64 0,.int .i64 0,.int .i64 0,.int .i64 0,.int .i64 0,.int .i64 0,.int .i64 0,.int .i64 (-1)] 32) (.cells #[.int .i64 8,.int .i64 0,.int .i64 0,.int .i64 0,.int .i64 0,.int .i64 1,.string ⟨#[102]⟩,.int .i64 0,.int .i64 0,.int .i64 0,.int .i64 0,.int .i64 0,.int .i64 0,.int .i64 0,.int .i64 (-1),.int .i64 13,.int .i64 0,.int .i64 (-1),.int .i64 0,.int .i64 0,.int .i64 0,.string ⟨#[]⟩,.int .i64 0,.int .i64 0,.int .i64 0,.int .i64 0,.int .i64 0,.int .i64 0,.int .i64 0,.int .i64 (-1)] 32) (.cells #[.string ⟨#[102]⟩,.int .i64 1,.int .i64 1,.int .i64 0,.slice (some ⟨w2.heap.size + 1 + 1,0,none⟩) 1 1,.string ⟨#[109,97,105,110]⟩,.int .i64 0,.int .i64 1,.int .i64 0,.slice (some ⟨w2.heap.size + 1 + 1 + 1,0,none⟩) 2 2] 24) (.cells #[.slice (some ⟨w2.heap.size + 1 + 1 + 1 + 1,0,none⟩) 2 2,.slice none 0 0,.int .i64 1] 43)
  have hU:=aw_rdU w2
  obtain ⟨W,hW⟩:∃ W,((((((w2.alloc (.cells #[.int .i64 8,.int .i64 0,.int .i64 0,.int .i64 0,.int .i64 0,.int .i64 1,.string ⟨#[102]⟩,.int .i64 0,.int .i64 0,.int .i64 0,.int .i64 0,.int .i64 0,.int .i64 0,.int .i64 0,.int .i64 (-1)] 32)).alloc (.cells #[.int .i64 13,.int .i64 0,.int .i64 (-1),.int .i64 0,.int .i64 0,.int .i64 0,.string ⟨#[]⟩,.int .i64 0,.int .i64 0,.int .i64 0,.int .i64 0,.int .i64 0,.int .i64 0,.int .i64 0,.int .i64 (-1)] 32)).alloc (.cells #[.int .i64 13,.int .i64 0,.int .i64 (-1),.int .i64 0,.int .i64 0,.int .i64 0,.string ⟨#[]⟩,.int .i64 0,.int .i64 0,.int .i64 0,.int .i64 0,.int .i64 0,.int .i64 0,.int .i64 0,.int .i64 (-1)] 32)).alloc (.cells #[.int .i64 8,.int .i64 0,.int .i64 0,.int .i64 0,.int .i64 0,.int .i64 1,.string ⟨#[102]⟩,.int .i64 0,.int .i64 0,.int .i64 0,.int .i64 0,.int .i64 0,.int .i64 0,.int .i64 0,.int .i64 (-1),.int .i64 13,.int .i64 0,.int .i64 (-1),.int .i64 0,.int .i64 0,.int .i64 0,.string ⟨#[]⟩,.int .i64 0,.int .i64 0,.int .i64 0,.int .i64 0,.int .i64 0,.int .i64 0,.int .i64 0,.int .i64 (-1)] 32)).alloc (.cells #[.string ⟨#[102]⟩,.int .i64 1,.int .i64 1,.int .i64 0,.slice (some ⟨w2.heap.size + 1 + 1,0,none⟩) 1 1,.string ⟨#[109,97,105,110]⟩,.int .i64 0,.int .i64 1,.int .i64 0,.slice (some ⟨w2.heap.size + 1 + 1 + 1,0,none⟩) 2 2] 24)).alloc (.cells #[.slice (some ⟨w2.heap.size + 1 + 1 + 1 + 1,0,none⟩) 2 2,.slice none 0 0,.int .i64 1] 43))=W:=⟨_,rfl⟩
  rw [hW] at h1 h2 h3 h4 h5 hU ⊢
  have HBW:=Lib.hid (HB12.out.trans (h5.mono HB12.out.size))
  have HI0:=Lib.hid (aw_rdI (l:=[awR]) h1)
  have H3:=Lib.hid h3
  have H4:=Lib.hid h4
  clear hW h1 h2 h3 h4 h5
  refine (awOf_any W _ hU).mono ?_
  rintro e w3 ⟨⟨nb,cp,rfl,hnb,hc0⟩,hb3⟩
  dsimp only
  have hw4:Below w3.heap.size w3 (w3.alloc (.cells #[.string ⟨#[109,97,105,110]⟩,.int .i64 0,.int .i64 2,.int .i64 0,.slice (some ⟨nb,0,none⟩) 4 cp] 24)):=Below.one _ _
  have hx4:=heap_alloc_new w3 (.cells #[.string ⟨#[109,97,105,110]⟩,.int .i64 0,.int .i64 2,.int .i64 0,.slice (some ⟨nb,0,none⟩) 4 cp] 24)
  have hu4:=(hw4.block _ (Nat.lt_of_lt_of_le (Array.getElem?_eq_some_iff.1 H4.out).1 hb3.size)).trans ((hb3.block _ (Array.getElem?_eq_some_iff.1 H4.out).1).trans H4.out)
  have hf4:=(hw4.block _ (Nat.lt_of_lt_of_le (Array.getElem?_eq_some_iff.1 H3.out).1 hb3.size)).trans ((hb3.block _ (Array.getElem?_eq_some_iff.1 H3.out).1).trans H3.out)
  have hc4:=(hw4.cell (p:=⟨nb,0,none⟩) hnb).trans hc0
  have HI4:=Lib.hid ((HI0.out.below hb3).below hw4)
  have HB4:=Lib.hid (HBW.out.trans ((hb3.trans (hw4.mono hb3.size)).mono HBW.out.size))
  go_upto_region 5 with fail
  obtain ⟨w4,hw4e⟩:∃ w4,w3.alloc (.cells #[.string ⟨#[109,97,105,110]⟩,.int .i64 0,.int .i64 2,.int .i64 0,.slice (some ⟨nb,0,none⟩) 4 cp] 24)=w4:=⟨_,rfl⟩
  rw [hw4e] at hx4 hu4 hf4 hc4 HI4 HB4 ⊢
  have u0:=cell_of_heap hu4 0 (.slice (some ⟨w2.heap.size + 1 + 1 + 1 + 1,0,none⟩) 2 2) rfl
  have f0:=cell_of_heap hf4 0 (.string ⟨#[102]⟩) rfl
  have f1:=cell_of_heap hf4 1 (.int .i64 1) rfl
  have f2:=cell_of_heap hf4 2 (.int .i64 1) rfl
  have f3:=cell_of_heap hf4 3 (.int .i64 0) rfl
  have f4:=cell_of_heap hf4 4 (.slice (some ⟨w2.heap.size + 1 + 1,0,none⟩) 1 1) rfl
  have x2:=cell_of_heap hx4 2 (.int .i64 2) rfl
  have x4:=cell_of_heap hx4 4 (.slice (some ⟨nb,0,none⟩) 4 cp) rfl
  have hsm:=(small_any aw0 (some ⟨w2.heap.size + 1 + 1,0,none⟩) 1 w4 HI4.out).mono fun e w' h=>(⟨by obtain ⟨⟨bv,h1,h2⟩,_⟩:=h; rw [h1,h2.2 aw0_small],h.2⟩:e = .returned (.bool true)∧Below w4.heap.size w4 w')
  simp only [funcAgg] at hsm
  have HSM:=Lib.hid hsm
  clear hw4 hx4 hu4 hf4 hc0 hb3 hnb hw4e hsm H3 H4 HI0 hU hpla
  go_wp2_with fail
  refine HSM.out.mono ?_
  rintro e w5 ⟨rfl,hb5⟩
  dsimp only
  have HB5:=Lib.hid (HB4.out.trans (hb5.mono HB4.out.size))
  clear hb5 u0 f0 f1 f2 f3 f4 x2 x4 hc4
  go_wp2
  go_returns
  exact ⟨rfl,HB5.out⟩
end Go.Proofs.Ytkcclefonmnpnaa

