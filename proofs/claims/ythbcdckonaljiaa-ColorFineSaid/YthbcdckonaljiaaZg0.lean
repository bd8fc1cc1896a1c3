import Derived.Test.YthbcdckonaljiaaZe1
namespace Go.Proofs.Ythbcdckonaljiaa
open Go.RowKit Go.BigFrame
structure Vl where
  k:Int
  n:Int
instance:DecidableEq Vl:=fun x y=>decidable_of_iff (x.k=y.k∧x.n=y.n) ⟨fun h=>by cases x; cases y; simp_all,fun h=>by subst h; simp⟩
abbrev nv:Vl:=⟨0,0⟩
abbrev av:Vl:=⟨2,0⟩
def Vl.wf (v:Vl):Prop:=v=nv∨v.k=1∨v=av
def Vl.ok (v:Vl):Prop:=v.k=1∨v=av
theorem Vl.ok.wf {v:Vl}(h:v.ok):v.wf:=Or.inr h
theorem Vl.wf.ok {v:Vl}(h:v.wf)(h0:v.k≠0):v.ok:=by
  rcases h with rfl | h
  · exact absurd rfl h0
  · exact h
def join (a b:Vl):Vl:=if a.k=0 then b else if b.k=0∨a=b then a else av
def le (a b:Vl):Prop:=a=nv∨a=b∨b=av
theorem le.refl (a:Vl):le a a:=Or.inr (Or.inl rfl)
theorem le.trans {a b c:Vl}(h1:le a b)(h2:le b c):le a c:=by
  rcases h1 with rfl | rfl | rfl
  · exact Or.inl rfl
  · exact h2
  · rcases h2 with h2 | rfl | rfl
    · cases h2
    · exact Or.inr (Or.inr rfl)
    · exact Or.inr (Or.inr rfl)
theorem join.wf {a b:Vl}(ha:a.wf)(hb:b.wf):(join a b).wf:=by
  unfold join
  split
  · exact hb
  · split
    · exact ha
    · exact Or.inr (Or.inr rfl)
theorem join.left {a b:Vl}(ha:a.wf):le a (join a b):=by
  unfold join
  rcases ha with rfl | ha | rfl
  · exact Or.inl rfl
  · rw [if_neg (by omega)]
    split
    · exact le.refl _
    · exact Or.inr (Or.inr rfl)
  · rw [if_neg (by decide)]
    split
    · exact le.refl _
    · exact Or.inr (Or.inr rfl)
theorem join.right {a b:Vl} (hb:b.wf):le b (join a b):=by
  unfold join
  split
  · exact le.refl _
  · split
    · rename_i h
      rcases h with h | h
      · rcases hb with rfl | hb | rfl
        · exact Or.inl rfl
        · omega
        · cases h
      · rw [h]; exact le.refl _
    · exact Or.inr (Or.inr rfl)
theorem join.least {a b c:Vl} (h1:le a c) (h2:le b c):le (join a b) c:=by
  unfold join
  split
  · exact h2
  · split
    · exact h1
    · rename_i h h'
      rcases h1 with rfl | rfl | rfl
      · exact absurd rfl h
      · rcases h2 with rfl | rfl | rfl
        · simp at h'
        · simp at h'
        · exact Or.inr (Or.inr rfl)
      · exact Or.inr (Or.inr rfl)
theorem join.ok {a b:Vl}(ha:a.wf)(hb:b.ok):(join a b).ok:=by
  unfold join
  split
  · exact hb
  · rename_i h
    split
    · exact ha.ok h
    · exact Or.inr rfl
theorem le.ok {a b:Vl}(h:le a b)(ha:a.ok):b.ok:=by
  rcases h with rfl | rfl | rfl
  · rcases ha with h | h <;> cases h
  · exact ha
  · exact Or.inr rfl
theorem le.known {a b:Vl}(h:le a b)(ha:a.ok)(hb:b.k≠2):a=b:=by
  rcases h with rfl | rfl | rfl
  · rcases ha with h | h <;> cases h
  · rfl
  · exact absurd rfl hb
theorem le.any {a b:Vl}(h:le a b)(ha:a.k=2):b.k=2:=by
  rcases h with rfl | rfl | rfl
  · cases ha
  · exact ha
  · rfl
abbrev at_ (v:List Vl)(r:Nat):Vl:=v.getD r nv
def Rw (R:Nat)(v:List Vl):Prop:=v.length=R∧∀ x ∈ v,x.wf
def rok (v:List Vl):Prop:=∀ x ∈ v,x.ok
def rle (u v:List Vl):Prop:=∀ r,le (at_ u r) (at_ v r)
theorem rle.refl (v:List Vl):rle v v:=fun _=>le.refl _
theorem rle.trans {u v w:List Vl}(h1:rle u v)(h2:rle v w):rle u w:=fun r=>(h1 r).trans (h2 r)
theorem at_in {v:List Vl}{r:Nat}(h:r < v.length):at_ v r=v[r]:=by simp [at_,List.getD,h]
theorem at_out {v:List Vl}{r:Nat}(h:v.length≤r):at_ v r=nv:=by simp [at_,List.getD,h]
theorem Rw.at_ {R:Nat}{v:List Vl}(h:Rw R v)(r:Nat):(at_ v r).wf:=by
  by_cases hr:r < v.length
  · rw [at_in hr]; exact h.2 _ (List.getElem_mem hr)
  · rw [at_out (by omega)]; exact Or.inl rfl
theorem rok.at_ {v:List Vl}(h:rok v){r:Nat}(hr:r < v.length):(at_ v r).ok:=by rw [at_in hr]; exact h _ (List.getElem_mem hr)
theorem rle.rok {u v:List Vl}(h:rle u v)(hu:rok u)(hl:u.length=v.length):rok v:=fun x hx=>by
  obtain ⟨r,hr,rfl⟩:=List.mem_iff_getElem.1 hx
  have:=(h r).ok (hu.at_ (by omega))
  rwa [at_in hr] at this
def wrd (n:Int):Int:=(n + 2147483648) % 4294967296 - 2147483648
def pln (n:Int):Int:=n % 4294967296
def tvl (b:Bool):Int:=if b then 1 else 0
def dvl (a b:Int):Int:=if b=0 then 0 else a.tdiv b
def mdl (a b:Int):Int:=if b=0 then 0 else a.tmod b
def dov (op a b:Int):Int × Bool :=
  if op=1 then (wrd (wrd a + wrd b),true)
  else if op=2 then (wrd (wrd a - wrd b),true)
  else if op=3 then (wrd (wrd a * wrd b),true)
  else if op=4 then (wrd (dvl (wrd a) (wrd b)),!decide (wrd b=0))
  else if op=5 then (wrd (mdl (wrd a) (wrd b)),!decide (wrd b=0))
  else if op=6 then (wrd (dvl (pln (wrd a)) (pln (wrd b))),!decide (pln (wrd b)=0))
  else if op=7 then (wrd (mdl (pln (wrd a)) (pln (wrd b))),!decide (pln (wrd b)=0))
  else if op=8 then (wrd (bits .and .i64 (wrd a) (wrd b)),true)
  else if op=9 then (wrd (bits .or .i64 (wrd a) (wrd b)),true)
  else if op=10 then (wrd (bits .xor .i64 (wrd a) (wrd b)),true)
  else if op=11 then (wrd (wrd a * 2 ^ (wrd b % 32).toNat),true)
  else if op=12 then (wrd (wrd a / 2 ^ (wrd b % 32).toNat),true)
  else if op=13 then (wrd (pln (wrd a) / 2 ^ (wrd b % 32).toNat),true)
  else if op=14 then (wrd (tvl (wrd a == wrd b)),true)
  else if op=15 then (wrd (tvl (wrd a != wrd b)),true)
  else if op=16 then (wrd (tvl (decide (wrd a < wrd b))),true)
  else if op=17 then (wrd (tvl (decide (wrd a≤wrd b))),true)
  else if op=18 then (wrd (tvl (decide (pln (wrd a) < pln (wrd b)))),true)
  else if op=19 then (wrd (tvl (decide (pln (wrd a)≤pln (wrd b)))),true)
  else if op=20 then (wrd (-wrd a),true)
  else if op=21 then (wrd (bits .xor .i64 (-1) (wrd a)),true)
  else if op=22 then (wrd (bits .and .i64 (wrd a) 255),true)
  else if op=23 then (wrd (tvl (wrd a == 0)),true)
  else (0,false)
def bval (i:Ins)(v:List Vl):Vl:=if i.kind=3 then at_ v i.b.toNat else ⟨1,0⟩
def setV (i:Ins) (v:List Vl):Vl × Bool :=
  if i.kind=1 then (⟨1,i.n⟩,true)
  else if i.kind=4 then (at_ v i.a.toNat,true)
  else if i.kind=2∨i.kind=3 then
    if (at_ v i.a.toNat).k=2∨(bval i v).k=2 then (av,true)
    else (⟨1,(dov i.op (at_ v i.a.toNat).n (bval i v).n).1⟩,(dov i.op (at_ v i.a.toNat).n (bval i v).n).2)
  else (av,true)
def upd (i:Ins)(v:List Vl):List Vl:=if 0≤i.sets then v.set i.sets.toNat (setV i v).1 else v
def nextV (i:Ins)(p:Nat)(v:List Vl):List Int :=
  if i.kind=12 then (if (at_ v i.a.toNat).k=1 then (if (at_ v i.a.toNat).n=0 then [i.els] else [i.to_]) else [i.to_,i.els]) else i.next p
theorem Ok.a_in {i:Ins}{R Fr:Int}{L:Nat}(h:Ok i R Fr L)(hk:kA i.kind=true):0≤i.a∧i.a < R:=h.uses _ (by simp [Ins.uses,hk])
theorem Ok.b_in {i:Ins}{R Fr:Int}{L:Nat}(h:Ok i R Fr L)(hk:kB i.kind=true):0≤i.b∧i.b < R:=h.uses _ (by simp [Ins.uses,hk])
theorem setV_mono {i:Ins} {R:Nat} {Fr:Int} {L:Nat} (h:Ok i R Fr L) {v v':List Vl} (hv:rok v) (hl:v.length=R) (hle:rle v v') (hs:(setV i v).2=true):(setV i v').2=true∧le (setV i v).1 (setV i v').1:=by
  unfold setV at hs ⊢
  by_cases h1:i.kind=1
  · simp only [if_pos h1] at hs ⊢; exact ⟨by trivial,le.refl _⟩
  simp only [if_neg h1] at hs ⊢
  by_cases h4:i.kind=4
  · simp only [if_pos h4] at hs ⊢; exact ⟨by trivial,hle _⟩
  simp only [if_neg h4] at hs ⊢
  by_cases h2:i.kind=2∨i.kind=3
  · simp only [if_pos h2] at hs ⊢
    have ha:=h.a_in (by rcases h2 with e | e <;> rw [e] <;> rfl)
    have hao:=hv.at_ (r:=i.a.toNat) (by omega)
    have hbo:(bval i v).ok:=by
      unfold bval
      split
      · rename_i e
        have hb:=h.b_in (by rw [e]; rfl)
        exact hv.at_ (by omega)
      · exact Or.inl rfl
    have hbl:le (bval i v) (bval i v'):=by
      unfold bval
      split
      · exact hle _
      · exact le.refl _
    have hal:=hle i.a.toNat
    by_cases h5:(at_ v' i.a.toNat).k=2∨(bval i v').k=2
    · simp only [if_pos h5]; exact ⟨by trivial,Or.inr (Or.inr rfl)⟩
    · have e1:=hal.known hao (fun e=>h5 (Or.inl e))
      have e2:=hbl.known hbo (fun e=>h5 (Or.inr e))
      rw [e1,e2] at hs ⊢
      simp only [if_neg h5] at hs ⊢
      exact ⟨hs,le.refl _⟩
  · simp only [if_neg h2] at hs ⊢; exact ⟨by trivial,le.refl _⟩
theorem setV_ok {i:Ins} {R:Nat} {Fr:Int} {L:Nat} (h:Ok i R Fr L) {v:List Vl} (hv:rok v) (hl:v.length=R):(setV i v).1.ok:=by
  unfold setV
  split
  · exact Or.inl rfl
  · split
    · rename_i e
      have ha:=h.a_in (by rw [e]; rfl)
      exact hv.at_ (by omega)
    · split
      · split
        · exact Or.inr rfl
        · exact Or.inl rfl
      · exact Or.inr rfl
theorem upd_len (i:Ins)(v:List Vl):(upd i v).length=v.length:=by unfold upd; split <;> simp
theorem at_set (v:List Vl)(j r:Nat)(x:Vl):at_ (v.set j x) r=if j=r∧r < v.length then x else at_ v r:=by
  simp only [at_,List.getD,List.getElem?_set]
  by_cases h:j=r
  · subst h
    by_cases h2:j < v.length
    · simp [h2]
    · simp [h2]
  · simp [h]
theorem upd_at (i:Ins)(v:List Vl)(r:Nat):at_ (upd i v) r=if 0≤i.sets∧i.sets.toNat=r∧r < v.length then (setV i v).1 else at_ v r:=by
  unfold upd
  split
  · rename_i h
    rw [at_set]; simp [h]
  · rename_i h
    simp [h]
theorem upd_mono {i:Ins}{R:Nat}{Fr:Int}{L:Nat}(h:Ok i R Fr L){v v':List Vl}(hv:rok v)(hl:v.length=R)(hl':v'.length=R)(hle:rle v v')(hs:(setV i v).2=true):rle (upd i v) (upd i v'):=fun r=>by
  rw [upd_at,upd_at,hl,hl']
  split
  · exact (setV_mono h hv hl hle hs).2
  · exact hle r
theorem upd_ok {i:Ins}{R:Nat}{Fr:Int}{L:Nat}(h:Ok i R Fr L){v:List Vl}(hv:rok v)(hl:v.length=R):rok (upd i v):=by
  unfold upd
  split
  · intro x hx
    rcases List.mem_or_eq_of_mem_set hx with hx | rfl
    · exact hv x hx
    · exact setV_ok h hv hl
  · exact hv
theorem kS_not12 {i:Ins}(h:i.kind=12):¬ 0≤i.sets:=by simp [Ins.sets,kS,h]
theorem nextV_mono {i:Ins} {R:Nat} {Fr:Int} {L:Nat} (h:Ok i R Fr L) {v v':List Vl} (hv:rok v) (hl:v.length=R) (hle:rle v v') (p:Nat):∀ n ∈ nextV i p (upd i v),n ∈ nextV i p (upd i v'):=by
  intro n hn
  unfold nextV at hn ⊢
  by_cases h12:i.kind=12
  · simp only [if_pos h12] at hn ⊢
    have e1:upd i v=v:=by unfold upd; rw [if_neg (kS_not12 h12)]
    have e2:upd i v'=v':=by unfold upd; rw [if_neg (kS_not12 h12)]
    rw [e1] at hn
    rw [e2]
    have ha:=h.a_in (by rw [h12]; rfl)
    have hao:=hv.at_ (r:=i.a.toNat) (by omega)
    have hal:=hle i.a.toNat
    by_cases h5:(at_ v' i.a.toNat).k=2
    · rw [if_neg (by omega)]
      split at hn
      · split at hn
        · simp at hn; simp [hn]
        · simp at hn; simp [hn]
      · exact hn
    · rw [← hal.known hao h5]; exact hn
  · simp only [if_neg h12] at hn ⊢; exact hn
def Edge (f:Fn7)(M:List (List Vl))(p n:Nat)(u:List Vl):Prop :=
  ∃ i v,f.code[p]? = some i∧M[p]? = some v∧rok v∧(setV i v).2=true∧(n:Int) ∈ nextV i p (upd i v)∧u=upd i v
def ini (f:Fn7):List Vl:=(List.range f.R.toNat).map fun (r:Nat)=>if (r:Int) < f.ps then av else ⟨1,0⟩
structure Shp (f:Fn7)(M:List (List Vl)):Prop where
  len:M.length=f.code.length
  rows:∀ v ∈ M,Rw f.R.toNat v
def row (M:List (List Vl))(p:Nat):List Vl:=M.getD p []
theorem row_some {M:List (List Vl)}{p:Nat}{v:List Vl}(h:M[p]? = some v):row M p=v:=by simp [row,List.getD,h]
theorem row_in {M:List (List Vl)}{p:Nat}(h:p < M.length):M[p]? = some (row M p):=by simp [row,List.getD,h]
theorem Shp.at_ {f:Fn7}{M:List (List Vl)}(h:Shp f M){p:Nat}(hp:p < f.code.length):Rw f.R.toNat (row M p):=h.rows _ (List.mem_of_getElem? (row_in (by rw [h.len]; exact hp)))
structure Holds (f:Fn7)(M:List (List Vl)):Prop where
  shp:Shp f M
  start:rle (ini f) (row M 0)
  edge:∀ p n u,Edge f M p n u→rle u (row M n)
def mle (M N:List (List Vl)):Prop:=∀ p,rle (row M p) (row N p)
end Go.Proofs.Ythbcdckonaljiaa
namespace Go.Proofs.Ythbcdckonaljiaa
open Go.RowKit Go.BigFrame
def jrow (a b:List Vl):List Vl:=List.zipWith join a b
theorem jrow_len {a b:List Vl}{R:Nat}(ha:a.length=R)(hb:b.length=R):(jrow a b).length=R:=by simp [jrow,ha,hb]
theorem jrow_at {a b:List Vl}{R:Nat}(ha:a.length=R)(hb:b.length=R)(r:Nat):at_ (jrow a b) r=join (at_ a r) (at_ b r):=by
  by_cases hr:r < R
  · rw [at_in (by rw [jrow_len ha hb]; exact hr),at_in (by omega),at_in (by omega)]
    simp [jrow]
  · rw [at_out (by rw [jrow_len ha hb]; omega),at_out (by omega),at_out (by omega)]
    rfl
theorem jrow_rw {a b:List Vl}{R:Nat}(ha:Rw R a)(hb:Rw R b):Rw R (jrow a b) :=
  ⟨jrow_len ha.1 hb.1,fun x hx=>by
    obtain ⟨r,hr,rfl⟩:=List.mem_iff_getElem.1 hx
    have h:=jrow_at ha.1 hb.1 r
    rw [at_in hr] at h
    rw [h]
    exact join.wf (ha.at_ r) (hb.at_ r)⟩
theorem jrow_left {a b:List Vl}{R:Nat}(ha:Rw R a)(hb:Rw R b):rle a (jrow a b):=fun r=>by rw [jrow_at ha.1 hb.1]; exact join.left (ha.at_ r)
theorem jrow_right {a b:List Vl}{R:Nat}(ha:Rw R a)(hb:Rw R b):rle b (jrow a b):=fun r=>by rw [jrow_at ha.1 hb.1]; exact join.right (hb.at_ r)
theorem jrow_least {a b c:List Vl}{R:Nat}(ha:Rw R a)(hb:Rw R b)(h1:rle a c)(h2:rle b c):rle (jrow a b) c:=fun r=>by rw [jrow_at ha.1 hb.1]; exact join.least (h1 r) (h2 r)
theorem jrow_ok {a b:List Vl}{R:Nat}(ha:Rw R a)(hb:Rw R b)(ho:rok b):rok (jrow a b):=fun x hx=>by
  obtain ⟨r,hr,rfl⟩:=List.mem_iff_getElem.1 hx
  have h:=jrow_at ha.1 hb.1 r
  rw [at_in hr] at h
  rw [h]
  have hr':r < b.length:=by have:=jrow_len ha.1 hb.1; have:=hb.1; omega
  exact join.ok (ha.at_ r) (ho.at_ hr')
def rk (v:Vl):Nat:=if v.k=0 then 2 else if v.k=1 then 1 else 0
def rpot (v:List Vl):Nat:=(v.map rk).sum
def cw (b:Bool):Nat:=if b then 0 else 1
def pot (M:List (List Vl))(C:List Bool):Nat:=(M.map rpot).sum + (C.map cw).sum
theorem rk_le {a b:Vl}(ha:a.wf)(hb:b.wf)(h:le a b):rk b≤rk a∧(a≠b→rk b < rk a):=by
  rcases h with rfl | rfl | rfl
  · rcases hb with rfl | hb | rfl
    · simp
    · simp [rk,hb]
    · simp [rk]
  · simp
  · rcases ha with rfl | ha | rfl
    · simp [rk]
    · simp [rk,ha]
    · simp
theorem rpot_le:∀ {a b:List Vl},a.length=b.length→(∀ x ∈ a,x.wf)→(∀ x ∈ b,x.wf)→rle a b→rpot b≤rpot a∧(a≠b→rpot b < rpot a)
  | [],[],_,_,_,_=>by simp [rpot]
  | x::a,y::b,hl,ha,hb,h=>by
    have h0:=rk_le (ha x (by simp)) (hb y (by simp)) (by simpa [at_] using h 0)
    have h1:=rpot_le (a:=a) (b:=b) (by simpa using hl) (fun z hz=>ha z (by simp [hz])) (fun z hz=>hb z (by simp [hz])) (fun r=>by simpa [at_] using h (r + 1))
    simp only [rpot,List.map_cons,List.sum_cons] at h1 ⊢
    refine ⟨by omega,fun hne=>?_⟩
    by_cases e:x=y
    · subst e
      have:=h1.2 (fun e=>hne (by rw [e]))
      omega
    · have:=h0.2 e
      omega
  | [],_::_,hl,_,_,_=>by simp at hl
  | _::_,[],hl,_,_,_=>by simp at hl
theorem sum_set {α:Type}(g:α→Nat):∀ (l:List α) (p:Nat) (x y:α),l[p]? = some x→((l.set p y).map g).sum + g x=(l.map g).sum + g y
  | [],p,x,y,h=>by simp at h
  | a::l,0,x,y,h=>by
    simp at h
    subst h
    simp
    omega
  | a::l,p + 1,x,y,h=>by
    have:=sum_set g l p x y (by simpa using h)
    simp only [List.set_cons_succ,List.map_cons,List.sum_cons]
    omega
theorem row_set (M:List (List Vl))(n p:Nat)(v:List Vl):row (M.set n v) p=if n=p∧p < M.length then v else row M p:=by
  simp only [row,List.getD,List.getElem?_set]
  by_cases h:n=p
  · subst h
    by_cases h2:n < M.length
    · simp [h2]
    · simp [h2]
  · simp [h]
abbrev cm (C:List Bool)(p:Nat):Bool:=C.getD p false
theorem cm_set (C:List Bool)(n p:Nat):cm (C.set n true) p=if n=p∧p < C.length then true else cm C p:=by
  simp only [cm,List.getD,List.getElem?_set]
  by_cases h:n=p
  · subst h
    by_cases h2:n < C.length
    · simp [h2]
    · simp [h2]
  · simp [h]
structure Way (f:Fn7)(M:List (List Vl))(C:List Bool)(T:List Nat):Prop where
  shp:Shp f M
  clen:C.length=f.code.length
  least:∀ N,Holds f N→mle M N
  start:rle (ini f) (row M 0)
  come:∀ p,cm C p=true→rok (row M p)
  gone:∀ p,cm C p=false→∀ r,at_ (row M p) r=nv
  c0:cm C 0=true
  tin:∀ p ∈ T,cm C p=true
def Met (f:Fn7)(M:List (List Vl))(p:Nat):Prop:=∀ n u,Edge f M p n u→rle u (row M n)
structure Head (f:Fn7)(M:List (List Vl))(C:List Bool)(T:List Nat):Prop where
  way:Way f M C T
  q:∀ p,cm C p=true→p ∈ T∨Met f M p
structure Mid (f:Fn7)(p:Nat)(i:Ins)(v:List Vl)(D:List Int)(M:List (List Vl))(C:List Bool)(T:List Nat):Prop where
  way:Way f M C T
  ip:f.code[p]? = some i
  okf:Ok i (f.R.toNat:Int) f.Fr f.code.length
  vrw:Rw f.R.toNat v
  vok:rok v
  vle:rle v (row M p)
  on:(setV i v).2=true
  q:∀ p',cm C p'=true→p' ∈ T∨p'=p∨Met f M p'
  mine:p ∈ T∨row M p=v
  cp:cm C p=true
  done:∀ n:Nat,(n:Int) ∈ D→rle (upd i v) (row M n)
theorem Way.tail {f:Fn7}{M:List (List Vl)}{C:List Bool}{p:Nat}{T:List Nat}(h:Way f M C (p::T)):Way f M C T :=
  ⟨h.shp,h.clen,h.least,h.start,h.come,h.gone,h.c0,fun p hp=>h.tin p (by simp [hp])⟩
theorem Head.skip {f:Fn7} {M:List (List Vl)} {C:List Bool} {p:Nat} {T:List Nat} {i:Ins} (h:Head f M C (p::T)) (hi:f.code[p]? = some i) (ho:(setV i (row M p)).2=false):Head f M C T :=
  ⟨h.way.tail,fun p' hp'=>by
    rcases h.q p' hp' with hq | hq
    · rcases List.mem_cons.1 hq with rfl | hq
      · right
        rintro n u ⟨i',v,h1,h2,_,h4,_,_⟩
        rw [hi] at h1
        injection h1 with h1
        subst h1
        rw [row_some h2] at ho
        rw [ho] at h4
        cases h4
      · exact Or.inl hq
    · exact Or.inr hq⟩
theorem Mid.head {f:Fn7} {M:List (List Vl)} {C:List Bool} {p:Nat} {T:List Nat} {i:Ins} {v:List Vl} {D:List Int} (h:Mid f p i v D M C T) (hD:D=nextV i p (upd i v)):Head f M C T :=
  ⟨h.way,fun p' hp'=>by
    rcases h.q p' hp' with hq | rfl | hq
    · exact Or.inl hq
    · rcases h.mine with hm | hm
      · exact Or.inl hm
      · right
        rintro n u ⟨i',v',h1,h2,_,_,h5,rfl⟩
        rw [h.ip] at h1
        injection h1 with h1
        subst h1
        have e:=row_some h2
        rw [hm] at e
        subst e
        exact h.done n (by rw [hD]; exact h5)
    · exact Or.inr hq⟩
theorem Mid.step {f:Fn7} {M:List (List Vl)} {C:List Bool} {p n:Nat} {T:List Nat} {i:Ins} {v:List Vl} {D:List Int} (h:Mid f p i v D M C T) (hn:n < f.code.length) (hin:(n:Int) ∈ nextV i p (upd i v))
    (ch:Bool) (hch:ch=(!cm C n || decide (jrow (row M n) (upd i v)≠row M n))) :
    Mid f p i v (D++[(n:Int)]) (M.set n (jrow (row M n) (upd i v))) (C.set n true) (if ch then T++[n] else T) ∧
      (if ch then T++[n] else T).length + 2 * pot (M.set n (jrow (row M n) (upd i v))) (C.set n true)≤T.length + 2 * pot M C:=by
  have hnM:n < M.length:=by rw [h.way.shp.len]; exact hn
  have hnC:n < C.length:=by rw [h.way.clen]; exact hn
  have hrn:=h.way.shp.at_ hn
  have hur:Rw f.R.toNat (upd i v):=⟨by rw [upd_len]; exact h.vrw.1,fun x hx=>(upd_ok h.okf h.vok h.vrw.1 x hx).wf⟩
  have huo:=upd_ok h.okf h.vok h.vrw.1
  have hj:=jrow_rw hrn hur
  obtain ⟨J,hJ⟩:∃ J,jrow (row M n) (upd i v)=J:=⟨_,rfl⟩
  have hJl:rle (row M n) J:=hJ ▸ jrow_left hrn hur
  have hJr:rle (upd i v) J:=hJ ▸ jrow_right hrn hur
  have hJo:rok J:=hJ ▸ jrow_ok hrn hur huo
  have hJle:∀ c,rle (row M n) c→rle (upd i v) c→rle J c:=fun c=>hJ ▸ jrow_least hrn hur
  rw [hJ] at hj hch ⊢
  have hup:∀ q,rle (row M q) (row (M.set n J) q):=fun q=>by
    rw [row_set]
    split
    · rename_i e; rw [← e.1]; exact hJl
    · exact rle.refl _
  have hsame:ch=false→J=row M n∧cm C n=true:=fun e=>by
    rw [e] at hch
    cases hc:cm C n
    · rw [hc] at hch; simp at hch
    · rw [hc] at hch; simp at hch; exact ⟨hch,rfl⟩
  have hT:∀ q,q ∈ T→q ∈ (if ch then T++[n] else T):=fun q hq=>by split <;> simp [hq]
  have hshp:Shp f (M.set n J):=⟨by simp [h.way.shp.len],fun x hx=>by
    rcases List.mem_or_eq_of_mem_set hx with hx | rfl
    · exact h.way.shp.rows x hx
    · exact hj⟩
  have hleast:∀ N,Holds f N→mle (M.set n J) N:=fun N hN q=>by
    rw [row_set]
    split
    · rename_i e
      have hMN:=h.way.least N hN
      have hpN:=hN.shp.at_ (List.getElem?_eq_some_iff.1 h.ip).1
      have hle:=h.vle.trans (hMN p)
      have hokN:=hle.rok h.vok (by rw [h.vrw.1,hpN.1])
      have hm:=setV_mono h.okf h.vok h.vrw.1 hle h.on
      have he:Edge f N p n (upd i (row N p)):=⟨i,row N p,h.ip,row_in (by rw [hN.shp.len]; exact (List.getElem?_eq_some_iff.1 h.ip).1),hokN,hm.1,nextV_mono h.okf h.vok h.vrw.1 hle p _ hin,rfl⟩
      rw [← e.1]
      exact hJle _ (hMN n) ((upd_mono h.okf h.vok h.vrw.1 hpN.1 hle h.on).trans (hN.edge _ _ _ he))
    · exact h.way.least N hN q
  have hway : Way f (M.set n J) (C.set n true) (if ch then T++[n] else T):=⟨hshp,by simp [h.way.clen],hleast,h.way.start.trans (hup 0),fun q hq=>by
      rw [row_set]
      split
      · exact hJo
      · rename_i e
        rw [cm_set] at hq
        by_cases hnq:n=q
        · subst hnq; exact absurd ⟨rfl,hnM⟩ e
        · rw [if_neg (fun e=>hnq e.1)] at hq; exact h.way.come q hq,
    fun q hq r=>by
      rw [cm_set] at hq
      by_cases hnq:n=q
      · subst hnq; rw [if_pos ⟨rfl,hnC⟩] at hq; cases hq
      · rw [if_neg (fun e=>hnq e.1)] at hq
        rw [row_set,if_neg (fun e=>hnq e.1)]
        exact h.way.gone q hq r,
    by rw [cm_set]; split; rfl; exact h.way.c0,
    fun q hq=>by
      rw [cm_set]
      split
      · rfl
      · rename_i e
        have:q ∈ T:=by
          split at hq
          · rcases List.mem_append.1 hq with hq | hq
            · exact hq
            · simp at hq; subst hq; exact absurd ⟨rfl,hnC⟩ e
          · exact hq
        exact h.way.tin q this⟩
  have hmet:∀ q,(n≠q∨ch=false)→Met f M q→Met f (M.set n J) q:=fun q hq hm k u he=>by
    have he':Edge f M q k u:=by
      obtain ⟨i',v',h1,h2,h3⟩:=he
      refine ⟨i',v',h1,?_,h3⟩
      rcases hq with hq | hq
      · rwa [List.getElem?_set_ne hq] at h2
      · by_cases hnq:n=q
        · subst hnq
          rw [List.getElem?_set_self hnM,(hsame hq).1] at h2
          rw [row_in hnM]
          exact h2
        · rwa [List.getElem?_set_ne hnq] at h2
    exact (hm k u he').trans (hup k)
  refine ⟨⟨hway,h.ip,h.okf,h.vrw,h.vok,h.vle.trans (hup p),h.on,fun q hq=>?_,?_,by rw [cm_set]; split; rfl; exact h.cp,fun k hk=>?_⟩,?_⟩
  · by_cases hnq:n=q∧ch=true
    · left; rw [if_pos hnq.2]; simp [hnq.1]
    · have hq':cm C q=true:=by
        rw [cm_set] at hq
        by_cases e:n=q
        · have hc:ch=false:=by cases hc:ch; rfl; exact absurd ⟨e,hc⟩ hnq
          rw [← e]; exact (hsame hc).2
        · rwa [if_neg (fun h=>e h.1)] at hq
      rcases h.q q hq' with h1 | h1 | h1
      · exact Or.inl (hT q h1)
      · exact Or.inr (Or.inl h1)
      · refine Or.inr (Or.inr (hmet q ?_ h1))
        by_cases e:n=q
        · right; cases hc:ch; rfl; exact absurd ⟨e,hc⟩ hnq
        · exact Or.inl e
  · rcases h.mine with hm | hm
    · exact Or.inl (hT p hm)
    · by_cases hnp:n=p
      · cases hc:ch
        · right
          rw [row_set,if_pos ⟨hnp,by rw [← hnp]; exact hnM⟩,(hsame hc).1,hnp]
          exact hm
        · left; simp [hnp]
      · right; rw [row_set,if_neg (fun e=>hnp e.1)]; exact hm
  · rcases List.mem_append.1 hk with hk | hk
    · exact (h.done k hk).trans (hup k)
    · obtain rfl:k=n:=by have:=List.mem_singleton.1 hk; omega
      rw [row_set,if_pos ⟨rfl,hnM⟩]
      exact hJr
  · have hp1:=rpot_le (a:=row M n) (b:=J) (by rw [hrn.1,hj.1]) hrn.2 hj.2 hJl
    have hs1:=sum_set rpot M n (row M n) J (row_in hnM)
    have hcn:C[n]? = some (cm C n):=by simp [cm,List.getD,hnC]
    have hs2:=sum_set cw C n (cm C n) true hcn
    have hw1:cw true=0:=rfl
    have hw0:cw false=1:=rfl
    unfold pot
    generalize ((M.set n J).map rpot).sum=a1 at *
    generalize ((C.set n true).map cw).sum=a2 at *
    generalize (M.map rpot).sum=a3 at *
    generalize (C.map cw).sum=a4 at *
    cases hc:ch
    · have h0:=hsame hc
      rw [h0.1] at hs1
      rw [h0.2] at hs2
      rw [if_neg (by decide)]
      omega
    · rw [hc] at hch
      have hch':=hch.symm
      simp only [Bool.or_eq_true,Bool.not_eq_true',decide_eq_true_eq] at hch'
      rw [if_pos rfl,List.length_append,List.length_singleton]
      have hcw:cw (cm C n)≤1:=by cases cm C n <;> decide
      rcases hch' with e | e
      · rw [e] at hs2
        have:=hp1.1
        omega
      · have:=hp1.2 (Ne.symm e)
        omega
end Go.Proofs.Ythbcdckonaljiaa

