import Derived.Deep.RegionLaw
import Derived.Deep.CutRange
import Derived.Test.YtkcclefonmnpnaaXe
import Derived.Test.YtkcclefonmnpnaaZg2
namespace Go.Proofs.Ytkcclefonmnpnaa
open Go.RowKit Go.BigFrame
abbrev wcF (f:Fn7)(l:List Ins):Fn7:=⟨f.nm,f.ps,f.R,f.Fr,l⟩
abbrev fxL (x:Fn7 × Nat × Nat):List Value:=fnL x.1 (some ⟨x.2.1,0,none⟩) x.2.2
theorem flatFx_len:∀ (v:List (Fn7 × Nat × Nat)),(v.flatMap fxL).length=v.length * 5
  | []=>rfl
  | x::v=>by rw [List.flatMap_cons,List.length_append,flatFx_len v,List.length_cons]; simp only [List.length_cons,List.length_nil]; omega
theorem flatFx_one (v:List (Fn7 × Nat × Nat)):∀ u ∈ v.flatMap fxL,u.oneCell'=true:=fun u hu=>by
  obtain ⟨x,_,hx⟩:=List.mem_flatMap.1 hu
  simp only [List.mem_cons,List.not_mem_nil,or_false] at hx
  rcases hx with rfl | rfl | rfl | rfl | rfl <;> rfl
theorem info_fu:(Try.prog.info? 24).map (fun i=>(i.zero,i.size,i.bytes))=some (some (.agg #[.string ⟨#[]⟩,.int .i64 0,.int .i64 0,.int .i64 0,.slice none 0 0]),5,64):=by kernel_rfl
theorem step_append_fn {ops:Array Oper} {o:Oper} {a:Act} {w:World} {K:Act→World→Prop} {Q:Exit→Act→World→Prop} {E:Prop} (hw:Region.wanted o (yielded ops a.tmps)=true) (s x:Operand)
    (ho:o.op = .call { callee:=.builtin .append,args:=#[s,x],argTypes:=#[40,40] }) (base:Nat) (V:Value) (k:List (Fn7 × Nat × Nat)) (hs:a.eval s=V) (hown:w.ownsRow base 24 5 V k.length (k.flatMap fxL))
    (g:Nat) (y:Fn7 × Nat × Nat) (hx:a.eval x = .slice (some ⟨g,0,none⟩) 1 1) (hg:w.heap[g]? = some (.cells (fxL y).toArray 24 (0,0))) (hn:k.length≤90000) (hb:base≤w.heap.size)
    (h:∀ V' w',w'.ownsRow base 24 5 V' (k++[y]).length ((k++[y]).flatMap fxL)→w.grownBy w' V.ownBlock→K (a.put o.dst V') w') :
    if Region.wanted o (yielded ops a.tmps)=true then Oper.wp Try.prog o a w K Q else E:=by
  rw [if_pos hw]
  obtain ⟨i0,hi,hz0,hz1,hz2⟩:=info_parts info_fu
  obtain ⟨V',w',hr,h1,h2,_,h4⟩:=run_append_own_at (P:=Try.prog) w base 40 o.type 24 i0 (.agg #[.string ⟨#[]⟩,.int .i64 0,.int .i64 0,.int .i64 0,.slice none 0 0]) 5 64 (by kernel_rfl) hi hz0 hz1 hz2 rfl (by decide) V k.length (k.flatMap fxL) hown ⟨g,0,none⟩ 1 1 (fxL y) (by rfl)
    (fun j u hu=>by
      have hadd:(⟨g,0,none⟩:Addr).add j=⟨g,j,none⟩:=by
        unfold Addr.add; split
        · rename_i h0; rw [h0]
        · simp
      rw [hadd]
      exact cell_of_heap hg j u (by simpa using hu)) (fun u hu=>flatFx_one [y] u (by simpa using hu)) (by simp only [maxLen]; omega) (by omega) hb
  have hfl:(k++[y]).flatMap fxL=k.flatMap fxL++fxL y:=by simp
  unfold Oper.wp execOp
  simp only [ho,resolve,invoke,builtin,Sem.run_bind,Sem.run_pure,Result.andThen_ok,List.map_toArray,List.map_cons,List.map_nil,hs,hx,hr]
  exact h V' w' (by rw [List.length_append,hfl]; exact h1) h2
structure SwS (w0 w:World)(u:Un7)(F G:Option Addr)(cF cG:Nat)(L:List (Fn7 × Nat × Nat))(V:Value)(ub rb ob:Nat):Prop where
  b:Below w0.heap.size w0 w
  ux:w.heap[ub]? = some (unObj u F G cF cG)
  rx:∃ cs,w.heap[rb]? = some (.cells cs 43 (0,0))∧cs.size=3
  ox:w.heap[ob]? = some (.cells #[V,.slice G u.globs.length cG,.int .i64 u.top] 43 (0,0))
  own:w.ownsRow w0.heap.size 24 5 V L.length (L.flatMap fxL)
  rd:∀ x ∈ L,PreI w x.2.1 x.1.code
theorem SwS.later {w0 w w':World}{u:Un7}{F G:Option Addr}{cF cG:Nat}{L:List (Fn7 × Nat × Nat)}{V:Value}{ub rb ob:Nat}(h:SwS w0 w u F G cF cG L V ub rb ob)(hb:Below w.heap.size w w'):SwS w0 w' u F G cF cG L V ub rb ob where
  b:=h.b.trans (hb.mono h.b.size)
  ux:=(hb.block _ (Array.getElem?_eq_some_iff.1 h.ux).1).trans h.ux
  rx:=by
    obtain ⟨cs,h1,h2⟩:=h.rx
    exact ⟨cs,(hb.block _ (Array.getElem?_eq_some_iff.1 h1).1).trans h1,h2⟩
  ox:=(hb.block _ (Array.getElem?_eq_some_iff.1 h.ox).1).trans h.ox
  own:=ownsRow_keep h.own fun g _ _ cur hc=>hb.block _ (Array.getElem?_eq_some_iff.1 hc).1
  rd:=fun x hx=>Pre.later (h.rd x hx) hb
theorem SwS.push {w0 w w':World} {u:Un7} {F G:Option Addr} {cF cG:Nat} {L:List (Fn7 × Nat × Nat)} {V V':Value} {ub rb ob:Nat} (h:SwS w0 w u F G cF cG L V ub rb ob) (y:Fn7 × Nat × Nat) (hy:PreI w y.2.1 y.1.code) (hob:w0.heap.size≤ob) (hro:rb≠ob) (huo:ub≠ob)
    (hg:w.grownBy w' V.ownBlock) (ho:w'.ownsRow w0.heap.size 24 5 V' (L++[y]).length ((L++[y]).flatMap fxL)):SwS w0 (w'.setCell ⟨ob,0,none⟩ V') u F G cF cG (L++[y]) V' ub rb ob:=by
  have hk:∀ (k:Nat) (cs:Array Value) (ty:TypeId),w.heap[k]? = some (.cells cs ty (0,0))→24≠ty→w'.heap[k]? = some (.cells cs ty (0,0)):=fun k cs ty hc ht=>(hg.block k (Array.getElem?_eq_some_iff.1 hc).1 (Ne.symm (own_ne h.own hc ht))).trans hc
  have hox:=hk _ _ _ h.ox (by decide)
  have hp:∀ x ∈ L++[y],PreI (w'.setCell ⟨ob,0,none⟩ V') x.2.1 x.1.code:=fun x hx=>by
    have h0:PreI w x.2.1 x.1.code:=by
      rcases List.mem_append.1 hx with hx | hx
      · exact h.rd x hx
      · obtain rfl:=List.mem_singleton.1 hx
        exact hy
    obtain ⟨cs,h1,h2⟩:=h0
    have h3:=hk _ _ _ h1 (by decide)
    exact ⟨cs,(heap_setCell_other w' ⟨ob,0,none⟩ x.2.1 _ (ty_ne h3 hox (by decide))).trans h3,h2⟩
  exact {
    b:=(h.b.grown hg h.b.size (fun k hk=>by
      obtain ⟨_,h2⟩:=h.own
      rcases h2 with ⟨rfl,_⟩ | ⟨g,cap,cur,rfl,hB,_⟩
      · simp [Value.ownBlock] at hk
      · simp [Value.ownBlock] at hk
        omega)).setCell hob _
    ux:=(heap_setCell_other w' ⟨ob,0,none⟩ ub _ huo).trans (hk _ _ _ h.ux (by decide))
    rx:=by
      obtain ⟨cs,h1,h2⟩:=h.rx
      exact ⟨cs,(heap_setCell_other w' ⟨ob,0,none⟩ rb _ hro).trans (hk _ _ _ h1 (by decide)),h2⟩
    ox:=by
      have:=heap_setCell (j:=0) hox V'
      exact this
    own:=ownsRow_keep ho fun g _ hg' cur hc=>heap_setCell_other w' ⟨ob,0,none⟩ g _ (ty_ne hc hox (by decide))
    rd:=hp }
theorem SwS.told {w0 w:World}{u:Un7}{F G:Option Addr}{cF cG:Nat}{L:List (Fn7 × Nat × Nat)}{V:Value}{ub rb ob:Nat}(h:SwS w0 w u F G cF cG L V ub rb ob)(hrb:w0.heap.size≤rb)(hro:rb≠ob)(huo:ub≠rb)(row:Array Value)(hrow:row.size=3):SwS w0 (w.setRow rb row) u F G cF cG L V ub rb ob:=by
  obtain ⟨cs,hr,_⟩:=h.rx
  exact {
    b:=below_setRow h.b hrb _
    ux:=(setRow_other _ _ _ _ huo).trans h.ux
    rx:=⟨row,setRow_heap _ _ _ _ _ _ hr,hrow⟩
    ox:=(setRow_other _ _ _ _ (Ne.symm hro)).trans h.ox
    own:=ownsRow_keep h.own fun g _ _ cur hc=>setRow_other _ _ _ _ (ty_ne hc hr (by decide))
    rd:=fun x hx=>by
      obtain ⟨c,h1,h2⟩:=h.rd x hx
      exact ⟨c,(setRow_other _ _ _ _ (ty_ne h1 hr (by decide))).trans h1,h2⟩ }
theorem SwS.read {w0 w:World}{u:Un7}{F G:Option Addr}{cF cG:Nat}{L:List (Fn7 × Nat × Nat)}{V:Value}{ub rb ob:Nat}(h:SwS w0 w u F G cF cG L V ub rb ob):∃ A cap,V = .slice A L.length cap∧RdF w A (L.map (·.1)):=by
  have h0:=h.own
  obtain ⟨_,h2⟩:=h.own
  rcases h2 with ⟨rfl,hn⟩ | ⟨g,cap,cur,rfl,hB,hg,_⟩
  · refine ⟨none,0,by rw [hn],fun k f hk=>?_⟩
    have:=(List.getElem?_eq_some_iff.1 hk).1
    simp at this
    omega
  · refine ⟨_,_,rfl,fun k f hk=>?_⟩
    rw [List.getElem?_map] at hk
    obtain ⟨x,hx,rfl⟩:=Option.map_eq_some_iff.1 hk
    have hlt:=(List.getElem?_eq_some_iff.1 hx).1
    refine ⟨g,0,some ⟨x.2.1,0,none⟩,x.2.2,rfl,(Array.getElem?_eq_some_iff.1 hg).1,fun j hj=>?_,PreI.read (h.rd x (List.mem_of_getElem? hx))⟩
    rw [Nat.zero_add,World.ownsRow.cellAt h0 (k * 5 + j) (by omega)]
    have hs:=(List.getElem?_eq_some_iff.1 hx).2
    have hd:L=L.take k++x::L.drop (k + 1):=by rw [← hs]; simp
    have hl:((L.take k).flatMap fxL).length=k * 5:=by rw [flatFx_len,List.length_take]; omega
    conv=>lhs; rw [hd,List.flatMap_append,List.flatMap_cons]
    rw [List.getElem?_append_right (by omega),hl,show k * 5 + j - k * 5=j by omega,List.getElem?_append_left (by simp only [List.length_cons,List.length_nil]; omega)]
end Go.Proofs.Ytkcclefonmnpnaa

