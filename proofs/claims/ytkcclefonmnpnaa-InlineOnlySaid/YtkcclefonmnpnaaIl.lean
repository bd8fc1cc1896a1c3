import Derived.Deep.CutBlock
import Derived.Test.YtkcclefonmnpnaaIb
import Derived.Test.YtkcclefonmnpnaaZl
namespace Go.Proofs.Ytkcclefonmnpnaa
open Go.MapKept Go.RowKit
theorem under_str:Try.prog.underlying 9=some .string:=by kernel_rfl
theorem kvStr:KeyV Try.prog 9 (fun s:ByteArray=>.string s) where
  inj:=fun x y h=>by injection h
  check:=fun w em x=>run_checkKey (w:=w) under_str (d:=.string) (k:=.string x) trivial em 9999
  find:=fun w x es hes=>by
    have hks:∀ y ∈ es,IsKey .string y.key:=fun y hy=>by
      obtain ⟨s,e⟩:=hes y hy
      rw [e]; trivial
    rcases findNow_spec (d:=.string) (k:=.string x) trivial es 0 hks with ⟨ha,hn⟩ | ⟨j,e0,ha,hj,hk⟩
    · exact Or.inl ⟨run_findKey (w:=w) under_str ha,hn⟩
    · exact Or.inr ⟨j,e0,by have:=run_findKey (w:=w) under_str ha; simpa using this,hj,hk⟩
  stays:=fun w x=>run_keyThatStays (d:=.string) trivial
open Classical in
noncomputable def smTo (l:List Fn7)(k:Int):Nat→ByteArray→Option Fn7
  | 0,_=>none
  | n + 1,nm=>match l[n]? with
    | some f=>if ((n:Int)≠k∧SmallF f)∧nm=f.nm then some f else smTo l k n nm
    | none=>smTo l k n nm
theorem smTo_mem {l:List Fn7} {k:Int} {f:Fn7} {nm:ByteArray}:∀ {n:Nat},smTo l k n nm=some f→f.nm=nm∧SmallF f∧∃ j:Nat,j < n∧l[j]? = some f∧(j:Int)≠k
  | 0,h=>by cases h
  | n + 1,h=>by
    unfold smTo at h
    cases hl:l[n]? with
    | none =>
      rw [hl] at h
      obtain ⟨h1,h2,j,hj,h3⟩:=smTo_mem (n:=n) h
      exact ⟨h1,h2,j,by omega,h3⟩
    | some g =>
      rw [hl] at h
      simp only at h
      split at h
      · rename_i hc
        injection h with h
        subst h
        exact ⟨hc.2.symm,hc.1.2,n,by omega,hl,hc.1.1⟩
      · obtain ⟨h1,h2,j,hj,h3⟩:=smTo_mem (n:=n) h
        exact ⟨h1,h2,j,by omega,h3⟩
theorem smTo_in {l:List Fn7} {k:Int} {f:Fn7} (hu:∀ (i j:Nat) a b,l[i]? = some a→l[j]? = some b→a.nm=b.nm→i=j):∀ {n j:Nat},j < n→l[j]? = some f→(j:Int)≠k→SmallF f→smTo l k n f.nm=some f
  | 0,j,h,_,_,_=>absurd h (Nat.not_lt_zero j)
  | n + 1,j,h,hj,hk,hs=>by
    unfold smTo
    by_cases hjn:j=n
    · subst hjn
      rw [hj]
      simp only
      rw [if_pos ⟨⟨hk,hs⟩,rfl⟩]
    · have ih:=smTo_in hu (n:=n) (by omega) hj hk hs
      cases hl:l[n]? with
      | none=>exact ih
      | some g =>
        simp only
        rw [if_neg (fun hc=>hjn (hu j n f g hj hl hc.2))]
        exact ih
def SmM (w0 w:World)(mb:Nat)(sm:ByteArray→Option Fn7):Prop :=
  ∃ gv:ByteArray→Option Value,MapK (fun s:ByteArray=>.string s) w mb gv∧(∀ nm,sm nm=none→gv nm=none)∧∀ nm f,sm nm=some f→∃ C cap,gv nm=some (funcAgg f.nm f.ps f.R f.Fr C f.code.length cap)∧RdI w0 C f.code
theorem SmM.of_block {w0 w w':World}{mb:Nat}{sm:ByteArray→Option Fn7}(h:SmM w0 w mb sm)(hb:w'.heap[mb]? = w.heap[mb]?):SmM w0 w' mb sm:=by
  obtain ⟨gv,h1,h2⟩:=h
  exact ⟨gv,h1.of_block hb,h2⟩
theorem SmM.lt {w0 w:World}{mb:Nat}{sm:ByteArray→Option Fn7}(h:SmM w0 w mb sm):mb < w.heap.size:=by
  obtain ⟨gv,h1,h2⟩:=h
  exact h1.lt
theorem SmM.later {w0 w w':World}{mb:Nat}{sm:ByteArray→Option Fn7}(h:SmM w0 w mb sm)(hb:Below w.heap.size w w'):SmM w0 w' mb sm:=h.of_block (hb.block _ h.lt)
theorem SmM.start (w0 w:World)(l:List Fn7)(k:Int):SmM w0 (w.alloc (.map #[] 0)) w.heap.size (smTo l k 0) :=
  ⟨fun _=>none,MapK.made w,fun _ _=>rfl,fun nm f h=>by cases h⟩
theorem SmM.skip {w0 w:World}{mb:Nat}{l:List Fn7}{k:Int}{n:Nat}{f:Fn7}(h:SmM w0 w mb (smTo l k n))(hf:l[n]? = some f)(hn:¬ ((n:Int)≠k∧SmallF f)):SmM w0 w mb (smTo l k (n + 1)):=by
  have e:smTo l k (n + 1)=smTo l k n:=by
    funext nm
    show (match l[n]? with | some f=>_ | none=>_)=_
    rw [hf]
    simp only
    rw [if_neg (fun hc=>hn hc.1)]
  rw [e]; exact h
theorem SmM.put {w0 w':World}{mb:Nat}{l:List Fn7}{k:Int}{n:Nat}{f:Fn7}{gv:ByteArray→Option Value}(h2:∀ nm,smTo l k n nm=none→gv nm=none)(h3:∀ nm f,smTo l k n nm=some f→∃ C cap,gv nm=some (funcAgg f.nm f.ps f.R f.Fr C f.code.length cap)∧RdI w0 C f.code)
    (hf:l[n]? = some f) (hn:(n:Int)≠k∧SmallF f) {C:Option Addr} {cap:Nat} (hC:RdI w0 C f.code) (hm:MapK (fun s:ByteArray=>.string s) w' mb (updK gv f.nm (some (funcAgg f.nm f.ps f.R f.Fr C f.code.length cap)))):SmM w0 w' mb (smTo l k (n + 1)):=by
  have e:∀ nm,smTo l k (n + 1) nm=if nm=f.nm then some f else smTo l k n nm:=fun nm=>by
    show (match l[n]? with | some f=>_ | none=>_)=_
    rw [hf]
    simp only
    by_cases hc:nm=f.nm
    · rw [if_pos ⟨hn,hc⟩,if_pos hc]
    · rw [if_neg (fun h=>hc h.2),if_neg hc]
  refine ⟨_,hm,fun nm h=>?_,fun nm g h=>?_⟩
  · rw [e] at h
    unfold updK
    split at h
    · cases h
    · rename_i hc
      rw [if_neg hc]
      exact h2 nm h
  · rw [e] at h
    unfold updK
    split at h
    · rename_i hc
      injection h with h
      subst h
      rw [if_pos hc]
      exact ⟨C,cap,rfl,hC⟩
    · rename_i hc
      rw [if_neg hc]
      exact h3 nm g h
theorem InI.room {sm:ByteArray→Option Fn7}{f:Fn7}{k:Nat}{s:InS}(h:InI sm f k s)(hk:k < f.code.length)(h60:f.code.length≤60)(h40:f.R≤40)(hsm:∀ i ∈ f.code,∀ g,smOf sm i=some g→SmallF g∧g.ps=i.n∧g.R≤40)
    {c:Ins} {g:Fn7} (hc:s.C[s.p]? = some c) (hg:smOf sm c=some g):s.C.length + (bodyL g c s.R).length≤8192∧s.R + g.R≤4096∧SmallF g∧g.ps=c.n∧c.kind=8:=by
  obtain ⟨i,hi⟩:∃ i,f.code[k]? = some i:=⟨_,List.getElem?_eq_getElem hk⟩
  have hce:erI c=erI i:=by
    have:=h.sim 0
    simpa [hc,hi] using this
  have hsi:smOf sm i=some g:=by rw [← smOf_er hce]; exact hg
  obtain ⟨h1,h2,h3⟩:=hsm i (List.mem_of_getElem? hi) g hsi
  obtain ⟨k1,k2,k3,k4⟩:=erI_kind hce
  have h4:=atL_small h1 h3 c.dst
  have hmem:∀ j ∈ f.code.take k,j ∈ f.code:=fun j hj=>List.mem_of_mem_take hj
  have e1:=h.len
  have e2:=h.R
  have b1:linS sm (f.code.take k)≤(f.code.take k).length * 64:=sum_le _ 64 _ fun j hj=>by
    split
    · rename_i g' hg'
      obtain ⟨q1,_,q3⟩:=hsm j (hmem j hj) g' hg'
      have:=atL_small q1 q3 j.dst
      show atL g' j.dst g'.code.length - 1≤64
      omega
    · omega
  have b2:regS' sm (f.code.take k)≤(f.code.take k).length * 40:=sum_le _ 40 _ fun j hj=>by
    split
    · rename_i g' hg'
      obtain ⟨q1,_,q3⟩:=hsm j (hmem j hj) g' hg'
      show g'.R.toNat≤40
      omega
    · omega
  have b3:(f.code.take k).length≤60:=by simp; omega
  have b4:(f.code.take k).length * 64≤60 * 64:=Nat.mul_le_mul_right _ b3
  have b5:(f.code.take k).length * 40≤60 * 40:=Nat.mul_le_mul_right _ b3
  have hbl:=bodyL_len g c s.R
  refine ⟨by omega,by omega,h1,by rw [h2,k3],?_⟩
  unfold smOf at hg
  split at hg
  · assumption
  · cases hg
end Go.Proofs.Ytkcclefonmnpnaa

