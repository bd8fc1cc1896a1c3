import Derived.Test.YtkcclefonmnpnaaZj
namespace Go.Proofs.Ytkcclefonmnpnaa
open Go.RowKit Go.BigFrame
abbrev aw10a:Ins:=⟨1,0,0,0,0,0,⟨#[]⟩,0,0,0,0,0,0,0,-1⟩
abbrev aw10b:Ins:=⟨1,0,1,0,0,0,⟨#[]⟩,0,0,0,0,0,0,0,-1⟩
abbrev aw10r:Ins:=⟨13,0,-1,1,0,0,⟨#[]⟩,0,0,0,0,0,0,0,-1⟩
def aw10F:Fn7:=⟨⟨#[102]⟩,0,2,0,[aw10a,aw10b,aw10r]⟩
theorem aw10F_ok:OkF aw10F:=by
  refine ⟨by decide,by decide,by decide,by decide,by decide,fun i hi=>?_,fun i hi=>?_⟩
  · have hi:i=aw10a∨i=aw10b∨i=aw10r:=by simpa [aw10F] using hi
    rcases hi with rfl | rfl | rfl
    · exact ⟨by decide,by decide,by decide,by decide,by decide,by decide,by decide,by decide,by decide,by decide,by decide⟩
    · exact ⟨by decide,by decide,by decide,by decide,by decide,by decide,by decide,by decide,by decide,by decide,by decide⟩
    · exact ⟨by decide,by decide,by decide,by decide,by decide,by decide,by decide,by decide,by decide,by decide,by decide⟩
  · obtain rfl:aw10r=i:=by simpa [aw10F] using hi
    decide
theorem aw10_dead:deadL aw10F.code=[0]:=by
  have g0:aw10F.code[0]? = some aw10a:=rfl
  have g1:aw10F.code[1]? = some aw10b:=rfl
  have g2:aw10F.code[2]? = some aw10r:=rfl
  have v20:¬ Lv aw10F.code 2 0:=by
    rw [Lv.iff g2]
    rintro (h | ⟨_,n,h,_⟩)
    · simp [Ins.uses,kA,kB] at h
    · simp [Ins.next] at h
  have v10:¬ Lv aw10F.code 1 0:=by
    rw [Lv.iff g1]
    rintro (h | ⟨_,n,h,h2⟩)
    · simp [Ins.uses,kA,kB] at h
    · have h:n=2:=by simpa [Ins.next] using h
      subst h
      exact v20 h2
  have v21:Lv aw10F.code 2 1:=Lv.use g2 (by simp [Ins.uses,kA,kB])
  have b0:deadB aw10F.code 0=true:=(deadB_iff g0).2 ⟨by decide,fun ⟨i,h1,n,h2,h3⟩=>by
    rw [g0] at h1
    injection h1 with h1
    subst h1
    have h2:n=1:=by simpa [Ins.next] using h2
    subst h2
    exact v10 h3⟩
  have b1:deadB aw10F.code 1=false:=by
    rw [Bool.eq_false_iff]
    intro h
    exact ((deadB_iff g1).1 h).2 ⟨_,g1,2,by simp [Ins.next],v21⟩
  have b2:deadB aw10F.code 2=false:=by
    rw [Bool.eq_false_iff]
    intro h
    exact absurd ((deadB_iff g2).1 h).1 (by decide)
  show deadK aw10F.code 3=[0]
  rw [deadK_succ,deadK_succ,deadK_succ,b2,b1,b0]
  rfl
theorem alloc4 (w:World)(a b c d:Obj):((((w.alloc a).alloc b).alloc c).alloc d).heap[w.heap.size + 1 + 1 + 1]? = some d:=by
  have h:=heap_alloc_new (((w.alloc a).alloc b).alloc c) d
  rwa [show (((w.alloc a).alloc b).alloc c).heap.size=w.heap.size + 1 + 1 + 1 by simp] at h
theorem aw10Dead_any (W:World)(b:Nat)(h:W.heap[b]? = some (.cells #[.int .i64 1,.int .i64 0,.int .i64 0,.int .i64 0,.int .i64 0,.int .i64 0,.string ⟨#[]⟩,.int .i64 0,.int .i64 0,.int .i64 0,.int .i64 0,.int .i64 0,.int .i64 0,.int .i64 0,.int .i64 (-1),.int .i64 1,.int .i64 0,.int .i64 1,.int .i64 0,.int .i64 0,.int .i64 0,.string ⟨#[]⟩,.int .i64 0,.int .i64 0,.int .i64 0,.int .i64 0,.int .i64 0,.int .i64 0,.int .i64 0,.int .i64 (-1),.int .i64 13,.int .i64 0,.int .i64 (-1),.int .i64 1,.int .i64 0,.int .i64 0,.string ⟨#[]⟩,.int .i64 0,.int .i64 0,.int .i64 0,.int .i64 0,.int .i64 0,.int .i64 0,.int .i64 0,.int .i64 (-1)] 32 (0,0))) :
    Calls Try.prog 60 #[.agg #[.string ⟨#[102]⟩,.int .i64 0,.int .i64 2,.int .i64 0,.slice (some ⟨b,0,none⟩) 3 3]] W fun e w'=>(∃ b' o' c',e = .returned (.slice (some ⟨b',o',none⟩) 1 c')∧w'.cell? ⟨b',o',none⟩=some (.int .i64 0))∧Below W.heap.size W w':=by
  have hp:RdI W (some ⟨b,0,none⟩) aw10F.code:=fun j x hx=>⟨b,0,rfl,(Array.getElem?_eq_some_iff.1 h).1,fun k hk=>by
    rw [cell_of_row W b _ _ _ _ h]
    match j,hx with
    | 0,hx=>injection hx with hx; subst hx; match k,hk with
      | 0,_ | 1,_ | 2,_ | 3,_ | 4,_ | 5,_ | 6,_ | 7,_ | 8,_ | 9,_ | 10,_ | 11,_ | 12,_ | 13,_ | 14,_=>rfl
      | k + 15,hk=>omega
    | 1,hx=>injection hx with hx; subst hx; match k,hk with
      | 0,_ | 1,_ | 2,_ | 3,_ | 4,_ | 5,_ | 6,_ | 7,_ | 8,_ | 9,_ | 10,_ | 11,_ | 12,_ | 13,_ | 14,_=>rfl
      | k + 15,hk=>omega
    | 2,hx=>injection hx with hx; subst hx; match k,hk with
      | 0,_ | 1,_ | 2,_ | 3,_ | 4,_ | 5,_ | 6,_ | 7,_ | 8,_ | 9,_ | 10,_ | 11,_ | 12,_ | 13,_ | 14,_=>rfl
      | k + 15,hk=>omega
    | j + 3,hx=>simp [aw10F] at hx⟩
  refine (Dead_yes aw10F aw10F_ok (some ⟨b,0,none⟩) 3 W hp).mono fun e w' ⟨⟨A,c,h1,h2⟩,hb⟩=>⟨?_,hb⟩
  rw [aw10_dead] at h1 h2
  obtain ⟨b',o',e1,_,e3⟩:=h2 0 0 rfl
  exact ⟨b',o',c,by rw [h1,e1]; rfl,by simpa using e3⟩
set_option maxRecDepth 1000000 in
set_option maxHeartbeats 8000000 in
theorem awake10_any (w:World):Calls Try.prog 32 #[] w fun e w'=>e = .returned (.bool true)∧Below w.heap.size w w':=by
  have hpla:=fun k W=>Plain_any k W
  simp only [Ins.agg] at hpla
  have hpu:=fun W=>Pure_any aw10a W
  simp only [Ins.agg] at hpu
  rw [show pur aw10a=true from by decide] at hpu
  go_enter Try.func32,Try.ntmps32
  go_wp2_with fail
  refine (hpla _ _).mono ?_
  rintro e w1 ⟨rfl,hb1⟩
  go_wp2_with fail
  refine (hpla _ _).mono ?_
  rintro e w2 ⟨rfl,hb2⟩
  go_wp2_with fail
  refine (hpla _ _).mono ?_
  rintro e w3 ⟨rfl,hb3⟩
  go_wp2_with fail
  refine (aw10Dead_any _ _ (alloc4 _ _ _ _ _)).mono ?_
  rintro e w5 ⟨⟨b',o',c',rfl,c0⟩,hb5⟩
  have ka:=(hb5.block w3.heap.size (by simp; omega)).trans (alloc_keeps (alloc_keeps (alloc_keeps (heap_alloc_new w3 _) _) _) _)
  have ⟨d0,d1,d2,d3,d4,d5,d6,d7,d8,d9,d10,d11,d12,d13,d14⟩:=Ins.cells (i:=aw10a) ka
  simp only at d0 d1 d2 d3 d4 d5 d6 d7 d8 d9 d10 d11 d12 d13 d14
  have hb13:=(hb1.trans (hb2.mono hb1.size)).trans (hb3.mono (Nat.le_trans hb1.size hb2.size))
  have hb35:=(((((Below.refl w3.heap.size w3).alloc (Nat.le_refl _) _).alloc (by simp) _).alloc (by simp; omega) _).alloc (by simp; omega) _).trans (hb5.mono (by simp; omega))
  have HB:=Lib.hid (hb13.trans (hb35.mono hb13.size))
  clear hb1 hb2 hb3 hb5 ka hpla hb13 hb35
  go_wp2_with (first
    | (refine (hpu _).mono ?_; rintro e w6 ⟨rfl,hb6⟩))
  go_returns
  exact ⟨rfl,HB.out.trans (hb6.mono HB.out.size)⟩
end Go.Proofs.Ytkcclefonmnpnaa

