import Derived.Test.YthbcdckonaljiaaZh
namespace Go.Proofs.Ythbcdckonaljiaa
open Go.RowKit Go.BigFrame
def Wd (x:Vl):Prop:=x.k=1→-2147483648≤x.n∧x.n≤2147483647
instance (x:Vl):Decidable (Wd x):=by unfold Wd; infer_instance
theorem inil_len (f:Fn7):(ini f).length=f.R.toNat:=by simp [ini]
theorem ini_at {f:Fn7}{r:Nat}(h:r < f.R.toNat):at_ (ini f) r=if (r:Int) < f.ps then av else ⟨1,0⟩:=by
  simp [ini,h]
theorem OkF.at_ {f:Fn7}(hf:OkF f){p:Nat}{i:Ins}(h:f.code[p]? = some i):Ok i (f.R.toNat:Int) f.Fr f.code.length:=by
  have h1:=hf.ok _ (List.mem_of_getElem? h)
  have h2:=hf.ps
  have h3:=hf.R
  rwa [show ((f.R.toNat:Nat):Int)=f.R by omega]
theorem row_nil {M:List (List Vl)}{p:Nat}(h:M.length≤p):row M p=[]:=by simp [row,List.getD,h]
end Go.Proofs.Ythbcdckonaljiaa
namespace Go.Proofs.Ythbcdckonaljiaa
open Go.RowKit Go.BigFrame
def skip (i:Ins)(u:List Vl)(k:Nat):Bool:=decide (i.kind=12) && (decide ((at_ u i.a.toNat).k=1) && (decide ((at_ u i.a.toNat).n≠0) != decide (k=0)))
theorem nextL_in {f:Fn7} (hf:OkF f) {p:Nat} {i:Ins} (hi:f.code[p]? = some i) {n:Int} (hn:n ∈ i.next p):0≤n∧n < f.code.length:=by
  have hp:p < f.code.length:=(List.getElem?_eq_some_iff.1 hi).1
  have h:=hf.ok _ (List.mem_of_getElem? hi)
  unfold Ins.next at hn
  split at hn
  · rename_i h11; simp at hn; subst hn; exact h.to_ (Or.inl h11)
  · split at hn
    · rename_i h12
      simp at hn
      rcases hn with rfl | rfl
      · exact h.to_ (Or.inr h12)
      · exact h.els h12
    · split at hn
      · simp at hn
      · rename_i h1 h2 h3
        simp at hn
        subst hn
        have hk:=h.kind
        have:p≠f.code.length - 1:=fun e=>by
          have:=hf.last i (by rw [← e]; exact hi)
          omega
        omega
def cedge (i:Ins)(p:Nat)(u:List Vl)(C:List (List Vl))(k:Nat):List (List Vl) :=
  match (i.next p)[k]? with
  | some n=>if skip i u k then C else C.set n.toNat (jrow (row C n.toNat) u)
  | none=>C
def cedges (i:Ins)(p:Nat)(u:List Vl)(C:List (List Vl)):Nat→List (List Vl)
  | 0=>C
  | k + 1=>cedge i p u (cedges i p u C k) k
def goes (f:Fn7)(M:List (List Vl))(p:Nat):Bool:=!(row M p).any (fun x=>x.k == 0) && (setV (insAt f.code p) (row M p)).2
def cstep (f:Fn7)(M C:List (List Vl))(p:Nat):List (List Vl) :=
  if goes f M p then cedges (insAt f.code p) p (upd (insAt f.code p) (row M p)) C ((insAt f.code p).next p).length else C
def cinit (f:Fn7):List (List Vl):=(List.replicate f.code.length (List.replicate f.R.toNat nv)).set 0 (ini f)
def call (f:Fn7)(M:List (List Vl)):Nat→List (List Vl)
  | 0=>cinit f
  | p + 1=>cstep f M (call f M p) p
theorem any_of_rok {v:List Vl}(h:rok v):v.any (fun x=>x.k == 0)=false:=by
  rw [List.any_eq_false]
  intro x hx
  rcases h x hx with e | e
  · simp [e]
  · simp [e]
theorem mle.trans {A B C:List (List Vl)}(h1:mle A B)(h2:mle B C):mle A C:=fun p=>(h1 p).trans (h2 p)
end Go.Proofs.Ythbcdckonaljiaa
namespace Go.Proofs.Ythbcdckonaljiaa
open Go.RowKit Go.BigFrame
structure Strt (f:Fn7):Prop where
  okf:OkF f
  ps:f.ps=0
  kinds:∀ (p:Nat) (i:Ins),f.code[p]? = some i→(i.kind=1∨i.kind=3∨i.kind=13)
  last:∀ (p:Nat) (i:Ins),f.code[p]? = some i→i.kind=13→p + 1=f.code.length
  steady:∀ (p:Nat) (i:Ins),f.code[p]? = some i→i.kind=3→∀ a b,(dov i.op a b).2=true
def srow (f:Fn7):Nat→List Vl
  | 0=>ini f
  | p + 1=>upd (insAt f.code p) (srow f p)
def sM (f:Fn7):List (List Vl):=(List.range f.code.length).map (srow f)
theorem sM_at {f:Fn7}{p:Nat}(h:p < f.code.length):(sM f)[p]? = some (srow f p):=by simp [sM,h]
theorem sM_row {f:Fn7}{p:Nat}(h:p < f.code.length):row (sM f) p=srow f p:=row_some (sM_at h)
theorem srow_len (f:Fn7):∀ p,(srow f p).length=f.R.toNat
  | 0=>inil_len f
  | p + 1=>by show (upd _ _).length=_; rw [upd_len]; exact srow_len f p
def kn (v:List Vl):Prop:=∀ x ∈ v,x.k=1
theorem kn.at_ {v:List Vl}(h:kn v){r:Nat}(hr:r < v.length):(at_ v r).k=1:=by rw [at_in hr]; exact h _ (List.getElem_mem hr)
theorem kn.ok {v:List Vl}(h:kn v):rok v:=fun x hx=>Or.inl (h x hx)
theorem setV_kn {f:Fn7}(hs:Strt f){p:Nat}{i:Ins}(hi:f.code[p]? = some i){v:List Vl}(hv:kn v)(hl:v.length=f.R.toNat):(setV i v).2=true∧(i.kind≠13→(setV i v).1.k=1):=by
  have hok:=hs.okf.at_ hi
  rcases hs.kinds p i hi with e | e | e
  · unfold setV; rw [if_pos e]; exact ⟨rfl,fun _=>rfl⟩
  · have ha:=hok.a_in (by rw [e]; rfl)
    have hb:=hok.b_in (by rw [e]; rfl)
    have h1:=hv.at_ (r:=i.a.toNat) (by omega)
    have h2:=hv.at_ (r:=i.b.toNat) (by omega)
    have h3:(bval i v).k=1:=by unfold bval; rw [if_pos e]; exact h2
    unfold setV
    rw [if_neg (by omega),if_neg (by omega),if_pos (Or.inr e),if_neg (by omega)]
    exact ⟨hs.steady p i hi e _ _,fun _=>rfl⟩
  · unfold setV; rw [if_neg (by omega),if_neg (by omega),if_neg (by omega)]; exact ⟨rfl,fun h=>absurd e h⟩
theorem upd_kn {f:Fn7}(hs:Strt f){p:Nat}{i:Ins}(hi:f.code[p]? = some i){v:List Vl}(hv:kn v)(hl:v.length=f.R.toNat):kn (upd i v):=by
  unfold upd
  split
  · rename_i h0
    intro x hx
    rcases List.mem_or_eq_of_mem_set hx with hx | rfl
    · exact hv x hx
    · exact (setV_kn hs hi hv hl).2 (fun e=>by simp [Ins.sets,kS,e] at h0)
  · exact hv
theorem srow_kn {f:Fn7}(hs:Strt f):∀ p,p≤f.code.length→kn (srow f p)
  | 0,_=>fun x hx=>by
    obtain ⟨r,hr,rfl⟩:=List.mem_iff_getElem.1 hx
    have hr':r < f.R.toNat:=by rwa [show (srow f 0).length=_ from srow_len f 0] at hr
    have h:=ini_at hr'
    rw [at_in (by rw [inil_len]; exact hr')] at h
    rw [show (srow f 0)[r]=_ from h,if_neg (by rw [hs.ps]; omega)]
  | p + 1,h=>upd_kn hs (insAt_in (by omega)) (srow_kn hs p (by omega)) (srow_len f p)
theorem next_strt {f:Fn7}(hs:Strt f){p:Nat}{i:Ins}(hi:f.code[p]? = some i)(v:List Vl):nextV i p v=if i.kind=13 then [] else [(p:Int) + 1]:=by
  unfold nextV Ins.next
  rcases hs.kinds p i hi with e | e | e
  · rw [if_neg (by omega),if_neg (by omega),if_neg (by omega),if_neg (by omega)]
  · rw [if_neg (by omega),if_neg (by omega),if_neg (by omega),if_neg (by omega)]
  · rw [if_neg (by omega),if_neg (by omega),if_neg (by omega),if_pos e]
theorem sM_holds {f:Fn7} (hs:Strt f):Holds f (sM f):=by
  have h0:=hs.okf.len
  refine ⟨⟨by simp [sM],fun v hv=>?_⟩,by rw [sM_row (by omega)]; exact rle.refl _,fun p n u hE=>?_⟩
  · obtain ⟨p,hp,rfl⟩:=List.mem_map.1 hv
    have hp:p < f.code.length:=by simpa using hp
    exact ⟨srow_len f p,fun x hx=>(srow_kn hs p (by omega)).ok x hx |>.wf⟩
  · obtain ⟨i,v,h1,h2,h3,h4,h5,rfl⟩:=hE
    have hp:p < f.code.length:=(List.getElem?_eq_some_iff.1 h1).1
    rw [sM_at hp] at h2
    injection h2 with h2
    subst h2
    have e:insAt f.code p=i:=by have:=insAt_in hp; rw [h1] at this; injection this with this; exact this.symm
    have hin:=h5
    rw [next_strt hs h1] at h5
    split at h5
    · simp at h5
    · have hn:n=p + 1:=by simp at h5; omega
      subst hn
      have hlt:p + 1 < f.code.length:=by
        have hx:((p + 1:Nat):Int) ∈ i.next p:=by
          unfold nextV at hin
          rw [if_neg (by rcases hs.kinds p i h1 with e | e | e <;> omega)] at hin
          exact hin
        have:=nextL_in hs.okf h1 hx
        omega
      rw [sM_row hlt]
      show rle _ (upd (insAt f.code p) (srow f p))
      rw [e]
      exact rle.refl _
theorem sM_ans {f:Fn7} (hs:Strt f):Ans f (sM f):=by
  refine ⟨sM_holds hs,fun N hN=>?_⟩
  have key:∀ p,p < f.code.length→rle (srow f p) (row N p):=by
    intro p
    induction p with
    | zero=>exact fun _=>hN.start
    | succ p ih =>
      intro hp
      have hle:=ih (by omega)
      have hi:=insAt_in (l:=f.code) (p:=p) (by omega)
      have hok:=hs.okf.at_ hi
      have hk:=srow_kn hs p (by omega)
      have l2:=(hN.shp.at_ (p:=p) (by omega)).1
      have hs1:=(setV_kn hs hi hk (srow_len f p)).1
      have hm:=setV_mono hok hk.ok (srow_len f p) hle hs1
      have okN:=hle.rok hk.ok (by rw [srow_len,l2])
      by_cases h13:(insAt f.code p).kind=13
      · exact absurd (hs.last p _ hi h13) (by omega)
      · have hn:((p + 1:Nat):Int) ∈ nextV (insAt f.code p) p (upd (insAt f.code p) (row N p)):=by
          rw [next_strt hs hi,if_neg h13]; simp
        exact (upd_mono hok hk.ok (srow_len f p) l2 hle hs1).trans (hN.edge p (p + 1) _ ⟨_,row N p,hi,row_in (by rw [hN.shp.len]; omega),okN,hm.1,hn,rfl⟩)
  intro p
  by_cases hp:p < f.code.length
  · rw [sM_row hp]; exact key p hp
  · rw [row_nil (by simp [sM]; omega)]
    intro r
    have h0:at_ ([]:List Vl) r=nv:=at_out (by simp)
    rw [h0]; exact Or.inl rfl
theorem not_any {v:List Vl}(h:rok v):¬ v.any (fun x=>x.k == 0)=true:=by rw [any_of_rok h]; decide
theorem foldI_strt3 {f:Fn7}(hs:Strt f){p:Nat}{i:Ins}(hi:f.code[p]? = some i)(h3:i.kind=3):foldI i p (srow f p)≠i:=by
  have hp:p < f.code.length:=(List.getElem?_eq_some_iff.1 hi).1
  have hk:=srow_kn hs p (by omega)
  have hv:=setV_kn hs hi hk (srow_len f p)
  unfold foldI
  rw [if_neg (not_any hk.ok),if_pos (Or.inr (Or.inr h3)),if_pos ⟨hv.1,hv.2 (by omega)⟩]
  intro e
  have:(1:Int)=i.kind:=congrArg Ins.kind e
  omega
theorem foldI_strt1 {f:Fn7}(hs:Strt f){p:Nat}{i:Ins}(hi:f.code[p]? = some i)(h3:i.kind≠3)(v:List Vl):foldI i p v=i:=by
  unfold foldI
  split
  · rfl
  · rw [if_neg (by rcases hs.kinds p i hi with e | e | e <;> omega),if_neg (by rcases hs.kinds p i hi with e | e | e <;> omega)]
theorem foldN_strt {f:Fn7}(hs:Strt f):∀ p,p≤f.code.length→foldN f (sM f) p=((f.code.take p).filter fun i=>i.kind == 3).length
  | 0,_=>rfl
  | p + 1,h=>by
    have hi:=insAt_in (l:=f.code) (p:=p) (by omega)
    unfold foldN
    rw [foldN_strt hs p (by omega),sM_row (by omega),List.take_add_one,hi,Option.toList_some,List.filter_append,List.length_append]
    by_cases h3:(insAt f.code p).kind=3
    · rw [if_neg (foldI_strt3 hs hi h3)]; simp [h3]
    · rw [if_pos (foldI_strt1 hs hi h3 _)]; simp [h3]
end Go.Proofs.Ythbcdckonaljiaa
namespace Go.Proofs.Ythbcdckonaljiaa
open Go.RowKit Go.BigFrame
structure B4 where
  x0:Int
  x1:Int
  x2:Int
  x3:Int
def B4.ok (x:B4):Prop:=(0≤x.x0∧x.x0≤255)∧(0≤x.x1∧x.x1≤255)∧(0≤x.x2∧x.x2≤255)∧(0≤x.x3∧x.x3≤255)
def opS (x:B4):Int:=if 4≤1 + x.x0 % 19∧1 + x.x0 % 19≤7 then 1 + x.x0 % 19 + 4 else 1 + x.x0 % 19
abbrev insS (x:B4):Ins:=⟨3,opS x,x.x1 % 10,x.x2 % 10,x.x3 % 10,0,⟨#[]⟩,0,0,0,0,0,0,0,-1⟩
abbrev conS (k:Nat):Ins:=⟨1,0,k,0,0,3 * (k:Int) - 5,⟨#[]⟩,0,0,0,0,0,0,0,-1⟩
abbrev retS:Ins:=⟨13,0,-1,0,0,0,⟨#[]⟩,0,0,0,0,0,0,0,-1⟩
def codeS (l:List B4):List Ins:=(List.range 5).map conS++l.map insS
def funS (l:List B4):Fn7:=⟨⟨#[102]⟩,0,10,0,codeS l++[retS]⟩
def reg0:List Int:=[-5,-2,1,4,7,0,0,0,0,0]
def rgAt (rg:List Int)(j:Int):Int:=rg.getD j.toNat 0
def stepS (rg:List Int)(x:B4):List Int:=rg.set (x.x1 % 10).toNat (dov (opS x) (rgAt rg (x.x2 % 10)) (rgAt rg (x.x3 % 10))).1
def regS (l:List B4):List Int:=l.foldl stepS reg0
theorem opS_bd {x:B4}(h:x.ok):1≤opS x∧opS x≤19∧¬ (4≤opS x∧opS x≤7):=by
  have h0:=h.1
  unfold opS
  split <;> omega
theorem regS_len:∀ (l:List B4) (rg:List Int),rg.length=10→(l.foldl stepS rg).length=10
  | [],_,h=>h
  | x::l,rg,h=>regS_len l _ (by unfold stepS; simp [h])
theorem codeS_len (l:List B4):(codeS l).length=5 + l.length:=by simp [codeS]
theorem funS_len (l:List B4):(funS l).code.length=5 + l.length + 1:=by show (codeS l++[retS]).length=_; simp [codeS_len]
theorem funS_get {l:List B4} {p:Nat} {i:Ins} (h:(funS l).code[p]? = some i):(p < 5∧i=conS p)∨(∃ k x,p=5 + k∧l[k]? = some x∧i=insS x)∨(p=5 + l.length∧i=retS):=by
  have h:(codeS l++[retS])[p]? = some i:=h
  by_cases h1:p < 5 + l.length
  · rw [List.getElem?_append_left (by rw [codeS_len]; exact h1)] at h
    unfold codeS at h
    by_cases h2:p < 5
    · rw [List.getElem?_append_left (by simp; exact h2)] at h
      rw [List.getElem?_map,List.getElem?_range h2] at h
      injection h with h
      exact Or.inl ⟨h2,h.symm⟩
    · rw [List.getElem?_append_right (by simp; omega)] at h
      rw [List.getElem?_map] at h
      simp only [List.length_map,List.length_range] at h
      cases hx:l[p - 5]? with
      | none=>rw [hx] at h; cases h
      | some x =>
        rw [hx] at h
        injection h with h
        exact Or.inr (Or.inl ⟨p - 5,x,by omega,hx,h.symm⟩)
  · rw [List.getElem?_append_right (by rw [codeS_len]; omega),codeS_len] at h
    have hp:p - (5 + l.length)=0:=by
      have:=(List.getElem?_eq_some_iff.1 h).1
      simp at this
      omega
    rw [hp] at h
    injection h with h
    exact Or.inr (Or.inr ⟨by omega,h.symm⟩)
theorem conS_ok (k:Nat)(hk:k < 5)(L:Nat):Ok (conS k) 10 0 L:=by
  refine ⟨⟨by show (1:Int)≤1; decide,by show (1:Int)≤13; decide⟩,fun r hr=>?_,fun _=>Or.inl ⟨by show (0:Int)≤k; omega,by show (k:Int) < 10; omega⟩,fun _=>⟨by show (-2147483648:Int)≤3 * k - 5; omega,by show 3 * (k:Int) - 5≤2147483647; omega⟩,fun e=>?_,fun e=>?_,fun e=>?_,fun e=>?_,fun e=>?_,fun e=>?_,?_⟩
  · simp [Ins.uses,kA,kB] at hr
  · simp at e
  · simp at e
  · simp at e
  · simp at e
  · simp at e
  · simp at e
  · simp [Ins.mask,kA,kB,kS]
theorem insS_ok {x:B4}(h:x.ok)(L:Nat):Ok (insS x) 10 0 L:=by
  have ho:=opS_bd h
  obtain ⟨_,h1,h2,h3⟩:=h
  refine ⟨⟨by show (1:Int)≤3; decide,by show (3:Int)≤13; decide⟩,fun r hr=>?_,fun _=>Or.inl ⟨by show (0:Int)≤x.x1 % 10; omega,by show x.x1 % 10 < 10; omega⟩,fun e=>?_,fun e=>?_,fun e=>?_,fun e=>?_,fun _=>⟨ho.1,ho.2.1⟩,fun e=>?_,fun e=>?_,?_⟩
  · have hr:r=x.x2 % 10∨r=x.x3 % 10:=by simpa [Ins.uses,kA,kB] using hr
    rcases hr with rfl | rfl <;> omega
  · simp at e
  · simp at e
  · simp at e
  · simp at e
  · simp at e
  · simp at e
  · simp [Ins.mask,kA,kB,kS]
theorem retS_ok (L:Nat):Ok retS 10 0 L:=by
  refine ⟨⟨by decide,by decide⟩,fun r hr=>?_,fun e=>?_,fun e=>?_,fun e=>?_,fun e=>?_,fun e=>?_,fun e=>?_,fun e=>?_,fun e=>?_,?_⟩
  · have hr:r=0:=by simpa [Ins.uses,kA,kB] using hr
    omega
  · simp [kS] at e
  · simp at e
  · simp at e
  · simp at e
  · simp at e
  · simp at e
  · simp at e
  · simp at e
  · simp [Ins.mask,kA,kB,kS]
theorem dov_steady {op:Int}(h1:1≤op)(h2:op≤19)(h3:¬ (4≤op∧op≤7))(a b:Int):(dov op a b).2=true:=by
  have:op=1∨op=2∨op=3∨op=8∨op=9∨op=10∨op=11∨op=12∨op=13∨op=14∨op=15∨op=16∨op=17∨op=18∨op=19:=by omega
  rcases this with rfl | rfl | rfl | rfl | rfl | rfl | rfl | rfl | rfl | rfl | rfl | rfl | rfl | rfl | rfl <;> rfl
theorem funS_strt {l:List B4}(hl:l.length≤20)(hx:∀ x ∈ l,x.ok):Strt (funS l):=by
  have hok:∀ (p:Nat) (i:Ins),(funS l).code[p]? = some i→Ok i 10 0 (funS l).code.length:=fun p i h=>by
    rcases funS_get h with ⟨h1,rfl⟩ | ⟨k,x,_,h2,rfl⟩ | ⟨_,rfl⟩
    · exact conS_ok p h1 _
    · exact insS_ok (hx x (List.mem_of_getElem? h2)) _
    · exact retS_ok _
  refine ⟨⟨by show (⟨#[102]⟩:ByteArray).size≠0; decide,by show (0:Int)≤0∧(0:Int)≤6; decide,by show (0:Int)≤10∧(10:Int)≤4096; decide,by show (0:Int)≤0∧(0:Int)≤4096; decide,by rw [funS_len]; omega,fun i hi=>?_,fun i hi=>?_⟩,rfl,fun p i h=>?_,fun p i h h13=>?_,fun p i h h3 a b=>?_⟩
  · obtain ⟨p,hp⟩:=List.mem_iff_getElem?.1 hi
    exact hok p i hp
  · rw [funS_len] at hi
    rcases funS_get hi with ⟨h1,_⟩ | ⟨k,x,h1,h2,_⟩ | ⟨_,rfl⟩
    · omega
    · have:=(List.getElem?_eq_some_iff.1 h2).1
      omega
    · decide
  · rcases funS_get h with ⟨_,rfl⟩ | ⟨_,_,_,_,rfl⟩ | ⟨_,rfl⟩
    · exact Or.inl rfl
    · exact Or.inr (Or.inl rfl)
    · exact Or.inr (Or.inr rfl)
  · rcases funS_get h with ⟨_,rfl⟩ | ⟨_,_,_,_,rfl⟩ | ⟨h1,rfl⟩
    · cases h13
    · cases h13
    · rw [funS_len]; omega
  · rcases funS_get h with ⟨_,rfl⟩ | ⟨k,x,_,h2,rfl⟩ | ⟨h1,rfl⟩
    · cases h3
    · have ho:=opS_bd (hx x (List.mem_of_getElem? h2))
      exact dov_steady ho.1 ho.2.1 ho.2.2 a b
    · cases h3
def knl (rg:List Int):List Vl:=rg.map fun n=>⟨1,n⟩
theorem knl_at {rg:List Int}(h:rg.length=10){j:Int}(h0:0≤j∧j < 10):at_ (knl rg) j.toNat=⟨1,rgAt rg j⟩:=by
  have hj:j.toNat < rg.length:=by omega
  simp [at_,knl,rgAt,List.getD,hj]
theorem insAt_some {l:List Ins}{p:Nat}{i:Ins}(h:l[p]? = some i):insAt l p=i:=by simp [insAt,List.getD,h]
theorem funS_row {l:List B4}(hx:∀ x ∈ l,x.ok):∀ k,k≤l.length→srow (funS l) (5 + k)=knl (regS (l.take k))
  | 0,_=>by
    have h:∀ p,p < 5→insAt (funS l).code p=conS p:=fun p hp=>insAt_some (by
      show (codeS l++[retS])[p]? = _
      rw [List.getElem?_append_left (by rw [codeS_len]; omega)]
      unfold codeS
      rw [List.getElem?_append_left (by simp; exact hp),List.getElem?_map,List.getElem?_range hp]
      rfl)
    show upd (insAt (funS l).code 4) (upd (insAt (funS l).code 3) (upd (insAt (funS l).code 2) (upd (insAt (funS l).code 1) (upd (insAt (funS l).code 0) (ini (funS l))))))=knl reg0
    rw [h 0 (by omega),h 1 (by omega),h 2 (by omega),h 3 (by omega),h 4 (by omega)]
    rfl
  | k + 1,hk=>by
    have ih:=funS_row hx k (by omega)
    obtain ⟨x,hxk⟩:∃ x,l[k]? = some x:=⟨_,List.getElem?_eq_getElem (by omega)⟩
    have hxo:=hx x (List.mem_of_getElem? hxk)
    have hi:insAt (funS l).code (5 + k)=insS x:=insAt_some (by
      show (codeS l++[retS])[5 + k]? = _
      rw [List.getElem?_append_left (by rw [codeS_len]; omega)]
      unfold codeS
      rw [List.getElem?_append_right (by simp),List.getElem?_map]
      simp [hxk])
    show upd (insAt (funS l).code (5 + k)) (srow (funS l) (5 + k))=_
    rw [hi,ih,List.take_add_one,hxk,Option.toList_some]
    have hrl:(regS (l.take k)).length=10:=regS_len _ _ rfl
    unfold regS at hrl ⊢
    rw [List.foldl_append]
    generalize (l.take k).foldl stepS reg0=rg at *
    obtain ⟨_,h1,h2,h3⟩:=hxo
    show upd (insS x) (knl rg)=knl (stepS rg x)
    have hs:(insS x).sets=x.x1 % 10:=rfl
    unfold upd
    rw [hs,if_pos (by omega)]
    have ha:=knl_at hrl (j:=x.x2 % 10) (by omega)
    have hb:=knl_at hrl (j:=x.x3 % 10) (by omega)
    have hsv:(setV (insS x) (knl rg)).1=⟨1,(dov (opS x) (rgAt rg (x.x2 % 10)) (rgAt rg (x.x3 % 10))).1⟩:=by
      unfold setV bval
      rw [if_neg (by simp),if_neg (by simp),if_pos (Or.inr rfl),if_pos rfl]
      rw [show (insS x).a=x.x2 % 10 from rfl,show (insS x).b=x.x3 % 10 from rfl,ha,hb]
      rw [if_neg (by simp)]
    rw [hsv]
    simp [knl,stepS,List.map_set]
theorem funS_fold {l:List B4}(hl:l.length≤20)(hx:∀ x ∈ l,x.ok):foldN (funS l) (sM (funS l)) (funS l).code.length=l.length:=by
  rw [foldN_strt (funS_strt hl hx) _ (Nat.le_refl _),List.take_of_length_le (Nat.le_refl _)]
  show ((codeS l++[retS]).filter fun i=>i.kind == 3).length=_
  unfold codeS
  rw [List.filter_append,List.filter_append]
  have h1:((List.range 5).map conS).filter (fun i=>i.kind == 3)=[]:=by decide
  have h2:(l.map insS).filter (fun i=>i.kind == 3)=l.map insS:=by
    rw [List.filter_eq_self]
    intro i hi
    obtain ⟨x,_,rfl⟩:=List.mem_map.1 hi
    rfl
  rw [h1,h2]
  simp
end Go.Proofs.Ythbcdckonaljiaa

