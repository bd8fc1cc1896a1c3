import Derived.Test.YtkcclefonmnpnaaZp2
import Derived.Test.YtkcclefonmnpnaaZkcp
namespace Go.Proofs.Ytkcclefonmnpnaa
open Go.RowKit Go.BigFrame
abbrev awI0:Ins:=⟨1,0,0,0,0,2,⟨#[]⟩,0,0,0,0,0,0,0,-1⟩
abbrev awI1:Ins:=⟨1,0,1,0,0,3,⟨#[]⟩,0,0,0,0,0,0,0,-1⟩
abbrev awI2:Ins:=⟨3,1,2,0,1,0,⟨#[]⟩,0,0,0,0,0,0,0,-1⟩
abbrev awI3:Ins:=⟨13,0,-1,2,0,0,⟨#[]⟩,0,0,0,0,0,0,0,-1⟩
def awF:Fn7:=⟨⟨#[102]⟩,0,3,0,[awI0,awI1,awI2,awI3]⟩
theorem awF_ok:OkF awF:=by
  refine ⟨by decide,by decide,by decide,by decide,by decide,fun i hi=>?_,fun i hi=>?_⟩
  · have hi:i=awI0∨i=awI1∨i=awI2∨i=awI3:=by simpa [awF] using hi
    rcases hi with rfl | rfl | rfl | rfl
    · exact ⟨by decide,by decide,by decide,by decide,by decide,by decide,by decide,by decide,by decide,by decide,by decide⟩
    · exact ⟨by decide,by decide,by decide,by decide,by decide,by decide,by decide,by decide,by decide,by decide,by decide⟩
    · exact ⟨by decide,by decide,by decide,by decide,by decide,by decide,by decide,by decide,by decide,by decide,by decide⟩
    · exact ⟨by decide,by decide,by decide,by decide,by decide,by decide,by decide,by decide,by decide,by decide,by decide⟩
  · obtain rfl:awI3=i:=by simpa [awF] using hi
    decide
theorem awF_get {p:Nat}{i:Ins}(h:awF.code[p]? = some i):(p=0∧i=awI0)∨(p=1∧i=awI1)∨(p=2∧i=awI2)∨(p=3∧i=awI3):=by
  match p,h with
  | 0,h=>exact Or.inl ⟨rfl,by simpa [awF] using h.symm⟩
  | 1,h=>exact Or.inr (Or.inl ⟨rfl,by simpa [awF] using h.symm⟩)
  | 2,h=>exact Or.inr (Or.inr (Or.inl ⟨rfl,by simpa [awF] using h.symm⟩))
  | 3,h=>exact Or.inr (Or.inr (Or.inr ⟨rfl,by simpa [awF] using h.symm⟩))
  | p + 4,h=>simp [awF] at h
theorem awF_strt:Strt awF:=by
  refine ⟨awF_ok,rfl,fun p i h=>?_,fun p i h h13=>?_,fun p i h h3 a b=>?_⟩
  · rcases awF_get h with ⟨_,rfl⟩ | ⟨_,rfl⟩ | ⟨_,rfl⟩ | ⟨_,rfl⟩ <;> simp
  · rcases awF_get h with ⟨_,rfl⟩ | ⟨_,rfl⟩ | ⟨_,rfl⟩ | ⟨rfl,rfl⟩
    · cases h13
    · cases h13
    · cases h13
    · rfl
  · rcases awF_get h with ⟨_,rfl⟩ | ⟨_,rfl⟩ | ⟨_,rfl⟩ | ⟨rfl,rfl⟩
    · cases h3
    · cases h3
    · rfl
    · cases h3
theorem awF_fold {M:List (List Vl)}(h:Ans awF M):foldN awF M awF.code.length=1∧(foldL awF M)[2]? = some ⟨1,0,2,0,0,5,⟨#[]⟩,0,0,0,0,0,0,0,-1⟩:=by
  obtain rfl:=h.unique (sM_ans awF_strt)
  exact ⟨by kernel_rfl,by kernel_rfl⟩
theorem PreI.flat {W:World}{b:Nat}(l:List Ins)(h:W.heap[b]? = some (.cells (l.flatMap Ins.l).toArray 32 (0,0))):PreI W b l :=
  ⟨_,h,fun j x hx k hk=>by
    have:=flatI_get l j k hk
    rw [hx] at this
    simpa using this⟩
theorem alloc5 (w:World)(a b c d e:Obj):(((((w.alloc a).alloc b).alloc c).alloc d).alloc e).heap[w.heap.size + 1 + 1 + 1 + 1]? = some e:=by
  have h:=heap_alloc_new ((((w.alloc a).alloc b).alloc c).alloc d) e
  rwa [show ((((w.alloc a).alloc b).alloc c).alloc d).heap.size=w.heap.size + 1 + 1 + 1 + 1 by simp] at h
def AwT (e:Ending)(w:World):Prop:=∃ nb,e = .returned (.tuple #[.agg #[.string ⟨#[102]⟩,.int .i64 0,.int .i64 3,.int .i64 0,.slice (some ⟨nb,0,none⟩) 4 4],.int .i64 1])∧nb < w.heap.size∧w.cell? ⟨nb,30,none⟩=some (.int .i64 1)∧w.cell? ⟨nb,35,none⟩=some (.int .i64 5)
theorem awFold_any (W:World)(b:Nat)(h:W.heap[b]? = some (.cells #[.int .i64 1,.int .i64 0,.int .i64 0,.int .i64 0,.int .i64 0,.int .i64 2,.string ⟨#[]⟩,.int .i64 0,.int .i64 0,.int .i64 0,.int .i64 0,.int .i64 0,.int .i64 0,.int .i64 0,.int .i64 (-1),.int .i64 1,.int .i64 0,.int .i64 1,.int .i64 0,.int .i64 0,.int .i64 3,.string ⟨#[]⟩,.int .i64 0,.int .i64 0,.int .i64 0,.int .i64 0,.int .i64 0,.int .i64 0,.int .i64 0,.int .i64 (-1),.int .i64 3,.int .i64 1,.int .i64 2,.int .i64 0,.int .i64 1,.int .i64 0,.string ⟨#[]⟩,.int .i64 0,.int .i64 0,.int .i64 0,.int .i64 0,.int .i64 0,.int .i64 0,.int .i64 0,.int .i64 (-1),.int .i64 13,.int .i64 0,.int .i64 (-1),.int .i64 2,.int .i64 0,.int .i64 0,.string ⟨#[]⟩,.int .i64 0,.int .i64 0,.int .i64 0,.int .i64 0,.int .i64 0,.int .i64 0,.int .i64 0,.int .i64 (-1)] 32 (0,0))) :
    Calls Try.prog 37 #[.agg #[.string ⟨#[102]⟩,.int .i64 0,.int .i64 3,.int .i64 0,.slice (some ⟨b,0,none⟩) 4 4]] W fun e w'=>AwT e w'∧Below W.heap.size W w':=by
  have hp:PreI W b awF.code:=PreI.flat awF.code h
  refine (fold_yes awF awF_ok (by decide) (some ⟨b,0,none⟩) 4 W hp.read).mono fun e w' ⟨⟨nb,M,hA,he,_,hP⟩,hb⟩=>⟨⟨nb,?_,Pre.lt hP,?_,?_⟩,hb⟩
  · rw [he,(awF_fold hA).1]
    rfl
  · exact (PreI.cells hP (awF_fold hA).2).1
  · exact (PreI.cells hP (awF_fold hA).2).2.2.2.2.2.1
set_option maxRecDepth 1000000 in
set_option maxHeartbeats 8000000 in
theorem awake11_any (w:World):Calls Try.prog 35 #[] w fun e w'=>e = .returned (.bool true)∧Below w.heap.size w w':=by
  have hpla:=fun k W=>Plain_any k W
  simp only [Ins.agg] at hpla
  go_enter Try.func35,Try.ntmps35
  go_wp2_with fail
  refine (hpla _ _).mono ?_
  rintro e w1 ⟨rfl,hb1⟩
  go_wp2_with fail
  refine (hpla _ _).mono ?_
  rintro e w2 ⟨rfl,hb2⟩
  go_wp2_with fail
  refine (hpla _ _).mono ?_
  rintro e w3 ⟨rfl,hb3⟩
  go_wp2_with fail
  refine (hpla _ _).mono ?_
  rintro e w4 ⟨rfl,hb4⟩
  have hb:=((hb1.trans (hb2.mono hb1.size)).trans (hb3.mono (Nat.le_trans hb1.size hb2.size))).trans (hb4.mono (Nat.le_trans (Nat.le_trans hb1.size hb2.size) hb3.size))
  clear hb1 hb2 hb3 hb4
  go_wp2_with fail
  refine (awFold_any _ _ (alloc5 _ _ _ _ _ _)).mono ?_
  rintro e w5 ⟨⟨nb,rfl,hnb,c0,c5⟩,hb5⟩
  clear hpla
  go_wp2
  go_returns
  exact ⟨rfl,(hb.trans (((((((Below.refl _ _).alloc (Nat.le_refl _) _).alloc (by simp) _).alloc (by simp; omega) _).alloc (by simp; omega) _).alloc (by simp; omega) _).mono hb.size)).trans ((hb5.alloc hb5.size _).mono (by have:=hb.size; simp; omega))⟩
end Go.Proofs.Ytkcclefonmnpnaa

