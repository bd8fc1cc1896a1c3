import Derived.Test.YthbcdckonaljiaaZg
namespace Go.Proofs.Ythbcdckonaljiaa
open Go.RowKit Go.BigFrame
abbrev PreI (W:World)(b:Nat)(l:List Ins):Prop:=Pre Ins.l 15 31 W b l
theorem ins_len (i:Ins):(Ins.l i).length=15:=rfl
theorem flatI_get:∀ (v:List Ins) (j k:Nat),k < 15→(v.flatMap Ins.l)[j * 15 + k]? = (v[j]?).bind fun x=>(Ins.l x)[k]?
  | [],j,k,_=>by simp
  | x::v,0,k,hk=>by
    rw [List.flatMap_cons,List.getElem?_append_left (by rw [ins_len]; omega)]
    simp
  | x::v,j + 1,k,hk=>by
    rw [List.flatMap_cons,List.getElem?_append_right (by rw [ins_len]; omega)]
    have h:=flatI_get v j k hk
    rw [show (j + 1) * 15 + k - (Ins.l x).length=j * 15 + k by rw [ins_len]; omega,h]
    simp
theorem flatI_len (v:List Ins):(v.flatMap Ins.l).length=v.length * 15:=by
  induction v with
  | nil=>rfl
  | cons x v ih=>rw [List.flatMap_cons,List.length_append,ih,ins_len,List.length_cons]; omega
theorem flatI_one (v:List Ins):∀ u ∈ v.flatMap Ins.l,u.oneCell'=true:=fun u hu=>by
  obtain ⟨x,_,hx⟩:=List.mem_flatMap.1 hu
  simp only [List.mem_cons,List.not_mem_nil,or_false] at hx
  rcases hx with rfl | rfl | rfl | rfl | rfl | rfl | rfl | rfl | rfl | rfl | rfl | rfl | rfl | rfl | rfl <;> rfl
theorem flatI_src {W:World}{b o:Nat}{v:List Ins}(h:RdI W (some ⟨b,o,none⟩) v):∀ j u,(v.flatMap Ins.l)[j]? = some u→W.cell? ((⟨b,o,none⟩:Addr).add j)=some u:=fun j u hu=>by
  have hadd:(⟨b,o,none⟩:Addr).add j=⟨b,o + j,none⟩:=by
    unfold Addr.add; split
    · rename_i h0; rw [h0,Nat.add_zero]
    · rfl
  rw [hadd]
  have hj:j / 15 * 15 + j % 15=j:=by omega
  rw [← hj,flatI_get v (j / 15) (j % 15) (Nat.mod_lt _ (by decide))] at hu
  cases hx:v[j / 15]? with
  | none=>rw [hx] at hu; cases hu
  | some x =>
    rw [hx] at hu
    obtain ⟨b',o',e1,_,e3⟩:=h (j / 15) x hx
    injection e1 with e1
    injection e1 with e2 e4
    subst e2 e4
    have:=e3 (j % 15) (Nat.mod_lt _ (by decide))
    rw [hj] at this
    rw [this]
    exact hu
theorem info_i:(Try.prog.info? 31).map (fun i=>(i.zero,i.size,i.bytes))=some (some zeroI.agg,15,128):=by kernel_rfl
theorem make_ins (L:Nat)(hL:L≤100000)(W:World):(Instr.makeSlice 24 (.int .i64 L) (.int .i64 L)).run Try.prog W = .ok (.slice (some ⟨W.heap.size,0,none⟩) L L) (W.alloc (.cells (madeCells zeroI.l.toArray (L * 15)) 31)):=by
  obtain ⟨i0,hi,hz0,hz1,hz2⟩:=info_parts info_i
  have:=run_make (P:=Try.prog) W 24 31 i0 zeroI.agg (by kernel_rfl) hi hz0 .i64 .i64 L L (by omega) (by omega) (by rw [hz2]; omega) (by omega)
  simpa [hz1,Value.cells] using this
theorem copy_ins {W:World}{b o L cap:Nat}{v:List Ins}(h:RdI W (some ⟨b,o,none⟩) v)(hv:v.length=L)(ty:TypeId) :
    ∃ W',(Builtin.copy_ #[24,24] ty #[.slice (some ⟨W.heap.size,0,none⟩) L L,.slice (some ⟨b,o,none⟩) L cap]).run Try.prog (W.alloc (.cells (madeCells zeroI.l.toArray (L * 15)) 31)) = .ok (goInt L) W'∧PreI W' W.heap.size v∧Below W.heap.size W W'∧W'.heap.size=W.heap.size + 1:=by
  have hb:=Below.one W (.cells (madeCells zeroI.l.toArray (L * 15)) 31)
  have hn:=heap_alloc_new W (.cells (madeCells zeroI.l.toArray (L * 15)) 31)
  have hs:(madeCells zeroI.l.toArray (L * 15)).size=L * 15:=by simp [madeCells]
  have hr:=run_copy_any (P:=Try.prog) _ 24 24 ty 31 W.heap.size 0 L L ⟨b,o,none⟩ L cap _ 31 (v.flatMap Ins.l) 15 L (by kernel_rfl) sI hn (Nat.min_self L).symm (by rw [flatI_len,hv]) (flatI_src (h.below hb)) (by rw [flatI_len,hv,hs]; omega) (flatI_one v)
  refine ⟨_,hr,⟨_,setRow_heap _ W.heap.size _ _ _ _ hn,fun j x hx k hk=>?_⟩,below_setRow hb (Nat.le_refl _) _,by simp⟩
  have hf:=flatI_get v j k hk
  rw [hx] at hf
  simp only [Option.bind_some] at hf
  rw [← hf,List.getElem?_toArray,List.take_zero,List.nil_append,List.getElem?_append_left]
  rw [flatI_len]
  have:=(List.getElem?_eq_some_iff.1 hx).1
  omega
theorem sF:(Try.prog.info? 26).map (·.size)=some 5:=by kernel_rfl
theorem func_one (nm:ByteArray)(ps R Fr:Int)(A:Option Addr)(n c:Nat):(#[Value.string nm,.int .i64 ps,.int .i64 R,.int .i64 Fr,.slice A n c].all (·.oneCell'))=true:=by simp [Value.oneCell']
def ClonedF (base:Nat)(f:Fn7)(e:Ending)(w:World):Prop:=∃ nb,e = .returned (funcAgg f.nm f.ps f.R f.Fr (some ⟨nb,0,none⟩) f.code.length f.code.length)∧base≤nb∧PreI w nb f.code
set_option maxRecDepth 1000000 in
set_option maxHeartbeats 4000000 in
theorem clone_code (f:Fn7)(hL0:1≤f.code.length∧f.code.length≤8192)(C:Option Addr)(cap:Nat)(w:World)(hC:RdI w C f.code) :
    Calls Try.prog 21 #[funcAgg f.nm f.ps f.R f.Fr C f.code.length cap] w fun e w'=>ClonedF w.heap.size f e w'∧Below w.heap.size w w':=by
  have hi0:f.code[0]? = some (f.code[0]'(by omega)):=by simp
  obtain ⟨b,o,rfl,hbl,_⟩:=hC 0 _ hi0
  clear hi0
  obtain ⟨L,hL⟩:∃ L,f.code.length=L:=⟨_,rfl⟩
  have HL:=Lib.hid hL
  rw [hL] at hL0
  simp only [funcAgg,hL]
  clear hL
  have b0:=heap_alloc_new w (.cells #[.string f.nm,.int .i64 f.ps,.int .i64 f.R,.int .i64 f.Fr,.slice (some ⟨b,o,none⟩) L cap] 26)
  have b1:=heap_alloc_new (w.alloc (.cells #[.string f.nm,.int .i64 f.ps,.int .i64 f.R,.int .i64 f.Fr,.slice (some ⟨b,o,none⟩) L cap] 26)) (.cells #[.string ⟨#[]⟩,.int .i64 0,.int .i64 0,.int .i64 0,.slice none 0 0] 26)
  rw [show (w.alloc (.cells #[.string f.nm,.int .i64 f.ps,.int .i64 f.R,.int .i64 f.Fr,.slice (some ⟨b,o,none⟩) L cap] 26)).heap.size=w.heap.size + 1 by simp] at b1
  have b0:=alloc_keeps b0 (.cells #[.string ⟨#[]⟩,.int .i64 0,.int .i64 0,.int .i64 0,.slice none 0 0] 26)
  have hB:=(Below.one w (.cells #[.string f.nm,.int .i64 f.ps,.int .i64 f.R,.int .i64 f.Fr,.slice (some ⟨b,o,none⟩) L cap] 26)).alloc (by simp) (.cells #[.string ⟨#[]⟩,.int .i64 0,.int .i64 0,.int .i64 0,.slice none 0 0] 26)
  obtain ⟨W,hW⟩:∃ W,(w.alloc (.cells #[.string f.nm,.int .i64 f.ps,.int .i64 f.R,.int .i64 f.Fr,.slice (some ⟨b,o,none⟩) L cap] 26)).alloc (.cells #[.string ⟨#[]⟩,.int .i64 0,.int .i64 0,.int .i64 0,.slice none 0 0] 26)=W:=⟨_,rfl⟩
  have hsW:w.heap.size + 2≤W.heap.size:=by rw [← hW]; simp
  rw [hW] at b0 b1 hB
  have y4:=cell_of_heap b0 4 (.slice (some ⟨b,o,none⟩) L cap) rfl
  have hl0:=(Array.getElem?_eq_some_iff.1 b0).1
  obtain ⟨W2,hcp,hP,hB2,hs2⟩:=copy_ins (cap:=cap) (hC.below hB) HL.out 3
  have hmk:=fun W=>make_ins L (by omega) W
  have c0:=(hB2.block _ hl0).trans b0
  have c1:=(hB2.block _ (Array.getElem?_eq_some_iff.1 b1).1).trans b1
  have hBB:=hB.trans (hB2.mono hB.size)
  have z0:=cell_of_heap c0 0 (.string f.nm) rfl
  have z1:=cell_of_heap c0 1 (.int .i64 f.ps) rfl
  have z2:=cell_of_heap c0 2 (.int .i64 f.R) rfl
  have z3:=cell_of_heap c0 3 (.int .i64 f.Fr) rfl
  have z4:=cell_of_heap c0 4 (.slice (some ⟨b,o,none⟩) L cap) rfl
  have zf:=free_of_heap c0
  have HP:=Lib.hid hP
  have HS2:=Lib.hid hs2
  clear hC hP hs2 b0 b1
  have d1:=(heap_setCell_other W2 ⟨w.heap.size,4,none⟩ (w.heap.size + 1) (.slice (some ⟨W.heap.size,0,none⟩) L L) (by simp only; omega)).trans c1
  have hR:=setRow_heap _ _ _ #[.string f.nm,.int .i64 f.ps,.int .i64 f.R,.int .i64 f.Fr,.slice (some ⟨W.heap.size,0,none⟩) L L] _ _ d1
  have r0:=cell_of_heap hR 0 (.string f.nm) rfl
  have r1:=cell_of_heap hR 1 (.int .i64 f.ps) rfl
  have r2:=cell_of_heap hR 2 (.int .i64 f.R) rfl
  have r3:=cell_of_heap hR 3 (.int .i64 f.Fr) rfl
  have r4:=cell_of_heap hR 4 (.slice (some ⟨W.heap.size,0,none⟩) L L) rfl
  have HPF:Hid (PreI ((W2.setCell ⟨w.heap.size,4,none⟩ (.slice (some ⟨W.heap.size,0,none⟩) L L)).setRow (w.heap.size + 1) #[.string f.nm,.int .i64 f.ps,.int .i64 f.R,.int .i64 f.Fr,.slice (some ⟨W.heap.size,0,none⟩) L L]) W.heap.size f.code):=Lib.hid (Pre.of_heap (Pre.other HP.out (by simp only; omega) _) (setRow_other _ _ _ _ (by omega)))
  have HBF:Hid (Below w.heap.size w ((W2.setCell ⟨w.heap.size,4,none⟩ (.slice (some ⟨W.heap.size,0,none⟩) L L)).setRow (w.heap.size + 1) #[.string f.nm,.int .i64 f.ps,.int .i64 f.R,.int .i64 f.Fr,.slice (some ⟨W.heap.size,0,none⟩) L L])):=Lib.hid (below_setRow (hBB.setCell (Nat.le_refl _) _) (by omega) _)
  have HSW:=Lib.hid hsW
  clear hR hsW c0 c1 hB hBB hB2 hbl
  go_enter Try.func21,Try.ntmps21
  go_wp2_with (first
    | (refine copy_ran (o:=⟨some 11,_,_,_,_,_⟩) rfl (.tmp 8) (.tmp 10) rfl rfl rfl hcp ?_)
    | (show wpList Try.prog _ _ (⟨none,.store _ (.tmp 2) _,_,_,_,_⟩::_) _ _; refine wpList_store_row rfl 26 (.tmp 2) (.tmp 14) rfl (w.heap.size + 1) #[.string f.nm,.int .i64 f.ps,.int .i64 f.R,.int .i64 f.Fr,.slice (some ⟨W.heap.size,0,none⟩) L L] rfl rfl 26 _ d1 sF rfl (func_one _ _ _ _ _ _ _) ?_))
  (try simp only [Exit.inBlock,Exit.then])
  refine bodyPost_ret (by simp [results,Try.results21,go_sem,r0,r1,r2,r3,r4]; try rfl) rfl ?_
  exact ⟨⟨W.heap.size,by rw [HL.out],by have:=HSW.out; omega,HPF.out⟩,HBF.out⟩
def OwnI (w:World)(base:Nat)(V:Value)(l:List Ins):Prop:=w.ownsRow base 31 15 V l.length (l.flatMap Ins.l)
theorem OwnI.nil (w:World)(base:Nat):OwnI w base (.slice none 0 0) []:=World.ownsRow_nil w base 31 15
end Go.Proofs.Ythbcdckonaljiaa

