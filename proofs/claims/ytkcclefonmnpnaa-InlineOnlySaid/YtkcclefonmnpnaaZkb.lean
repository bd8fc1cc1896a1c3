import Derived.Test.YtkcclefonmnpnaaZka
import Derived.Test.YtkcclefonmnpnaaZj
namespace Go.Proofs.Ytkcclefonmnpnaa
section
variable (i:Ins) (p:Nat) (base:Int) (ρ:List Int) (E:Env)
theorem ls1 (h:i.kind=1):lstep i p base ρ E = .go (p + 1) (setd i.dst i.n ρ) E:=by unfold lstep; rw [if_pos h]
theorem ls2 (h:i.kind=2∨i.kind=3):lstep i p base ρ E=if (dov i.op (rg ρ i.a) (i.bv ρ)).2=true then .go (p + 1) (setd i.dst (dov i.op (rg ρ i.a) (i.bv ρ)).1 ρ) E else .stop 2:=by unfold lstep; rw [if_neg (by omega),if_pos h]
theorem ls4 (h:i.kind=4):lstep i p base ρ E = .go (p + 1) (setd i.dst (rg ρ i.a) ρ) E:=by unfold lstep; rw [if_neg (by omega),if_neg (by omega),if_pos h]
theorem ls5 (h:i.kind=5):lstep i p base ρ E = .go (p + 1) (setd i.dst (base + i.n) ρ) E:=by unfold lstep; rw [if_neg (by omega),if_neg (by omega),if_neg (by omega),if_pos h]
end
theorem dov_stdy {op:Int}(h:(20≤op∧op≤23)∨stdy op=true)(a b:Int):(dov op a b).2=true:=by
  have h:(20≤op∧op≤23)∨(1≤op∧op≤23∧¬ (4≤op∧op≤7)):=by
    rcases h with h | h
    · exact Or.inl h
    · exact Or.inr (of_decide_eq_true h)
  have:op=1∨op=2∨op=3∨op=8∨op=9∨op=10∨op=11∨op=12∨op=13∨op=14∨op=15∨op=16∨op=17∨op=18∨op=19∨op=20∨op=21∨op=22∨op=23:=by omega
  rcases this with e | e | e | e | e | e | e | e | e | e | e | e | e | e | e | e | e | e | e <;> subst e <;> rfl
theorem rg_other {d r:Int}(v:Int)(ρ:List Int)(hr:0≤r)(h:d≠r):rg (setd d v ρ) r=rg ρ r:=by
  unfold rg setd
  by_cases hd:0≤d
  · rw [if_pos hd,List.getD_eq_getElem?_getD,List.getElem?_set_ne (by omega),← List.getD_eq_getElem?_getD]
  · rw [if_neg hd]
end Go.Proofs.Ytkcclefonmnpnaa
namespace Go.Proofs.Ytkcclefonmnpnaa
structure ShS where
  am:Int→Option Int
  has:Ins→Option Int
def ShS.none:ShS:=⟨fun _=>.none,fun _=>.none⟩
def ShS.thr (x:ShS)(r:Int):Int:=(x.am r).getD r
def ShS.read (x:ShS) (i:Ins):Ins :=
  { i with
    a:=if kA i.kind=true then x.thr i.a else i.a,b:=if kB i.kind=true then x.thr i.b else i.b,
    r0:=if i.kind=8∧0 < i.n then x.thr i.r0 else i.r0,r1:=if i.kind=8∧1 < i.n then x.thr i.r1 else i.r1,r2:=if i.kind=8∧2 < i.n then x.thr i.r2 else i.r2,
    r3:=if i.kind=8∧3 < i.n then x.thr i.r3 else i.r3,r4:=if i.kind=8∧4 < i.n then x.thr i.r4 else i.r4,r5:=if i.kind=8∧5 < i.n then x.thr i.r5 else i.r5 }
def ShS.forget (x:ShS)(r:Int):ShS :=
  ⟨fun k=>if k=r∨x.am k=some r then .none else x.am k,fun i=>if x.has i=some r∨r ∈ i.uses then .none else x.has i⟩
def keyI (i:Ins):Ins:={ i with dst:=0 }
def copyI (d a:Int):Ins:=⟨4,0,d,a,0,0,⟨#[]⟩,0,0,0,0,0,0,0,-1⟩
def more (i:Ins):Bool:=pur i && decide (1 < i.kind) && decide (i.kind≠4)
def ShS.new (x:ShS)(i:Ins):Ins :=
  match x.has (keyI (x.read i)) with
  | some r=>if more (x.read i)=true then copyI i.dst r else x.read i
  | .none=>x.read i
def ShS.step (x:ShS) (i:Ins):ShS :=
  let o:=x.new i
  let r:=o.sets
  if r < 0 then x
  else
    let y:=x.forget r
    if o.kind=4∧o.a≠r then ⟨fun k=>if k=r then some (y.thr o.a) else y.am k,y.has⟩
    else if more o=true∧r ∉ o.uses then ⟨y.am,fun k=>if k=keyI (x.read i) then some r else y.has k⟩
    else y
def first (l:List Ins)(p:Nat):Bool :=
  decide (p=0) || (List.range l.length).any fun q=>decide (11≤(insD l q).kind) && (decide (q + 1=p) || decide ((p:Int) ∈ (insD l q).next q))
structure ShI (R:Int)(x:ShS):Prop where
  am:∀ r a,x.am r=some a→(0≤r∧r < R)∧0≤a∧a < R
  has:∀ k r,x.has k=some r→(0≤r∧r < R)∧more k=true∧∀ u ∈ k.uses,0≤u∧u < R
theorem ShI.none (R:Int):ShI R ShS.none:=⟨fun _ _ h=>(by simp [ShS.none] at h),fun _ _ h=>(by simp [ShS.none] at h)⟩
theorem ShI.thr {R:Int}{x:ShS}(h:ShI R x){r:Int}(h0:0≤r∧r < R):0≤x.thr r∧x.thr r < R:=by
  unfold ShS.thr
  cases ha:x.am r with
  | none=>exact h0
  | some a=>exact (h.am r a ha).2
theorem read_uses {x:ShS}{i:Ins}(hk:i.kind=8→0≤i.n∧i.n≤6):(x.read i).uses=i.uses.map x.thr:=by
  obtain ⟨k,op,dst,a,b,n,text,r0,r1,r2,r3,r4,r5,to_,els⟩:=i
  unfold Ins.uses ShS.read
  simp only [List.map_append]
  by_cases h8:k=8
  · subst h8
    obtain ⟨h0,h6⟩:=hk rfl
    simp only at h0 h6
    have:n=0∨n=1∨n=2∨n=3∨n=4∨n=5∨n=6:=by omega
    rcases this with e | e | e | e | e | e | e <;> subst e <;> simp [Ins.args,kA,kB]
  · simp only [h8,if_false]
    cases hA:kA k <;> cases hB:kB k <;> simp
theorem read_ok {x:ShS}{i:Ins}{R Fr:Int}{L:Nat}(hx:ShI R x)(h:Ok i R Fr L):Ok (x.read i) R Fr L:=by
  have hu:=read_uses (x:=x) (i:=i) (fun hk=>by have:=h.call hk; omega)
  refine ⟨h.kind,fun r hr=>?_,h.dst,h.word,h.fr,h.call,h.one,h.two,h.to_,h.els,?_⟩
  · rw [hu] at hr
    obtain ⟨u,hu',rfl⟩:=List.mem_map.1 hr
    exact hx.thr (h.uses u hu')
  · have hm:=h.mask
    obtain ⟨k,op,dst,a,b,n,text,r0,r1,r2,r3,r4,r5,to_,els⟩:=i
    unfold Ins.mask at hm ⊢
    unfold ShS.read
    simp only [Ins.mk.injEq,true_and] at hm ⊢
    obtain ⟨m1,m2,m3,m4,m5,m6,m7,m8,m9,m10,m11,m12,m13,m14⟩:=hm
    refine ⟨m1,m2,?_,?_,m5,m6,?_,?_,?_,?_,?_,?_,m13,m14⟩
    · cases hA:kA k <;> simp only [hA,if_true,Bool.false_eq_true,if_false] at m3 ⊢
      exact m3
    · cases hB:kB k <;> simp only [hB,if_true,Bool.false_eq_true,if_false] at m4 ⊢
      exact m4
    · by_cases e:k=8∧0 < n <;> simp only [e,if_false] at m7 ⊢; all_goals first | exact m7 | trivial
    · by_cases e:k=8∧1 < n <;> simp only [e,if_false] at m8 ⊢; all_goals first | exact m8 | trivial
    · by_cases e:k=8∧2 < n <;> simp only [e,if_false] at m9 ⊢; all_goals first | exact m9 | trivial
    · by_cases e:k=8∧3 < n <;> simp only [e,if_false] at m10 ⊢; all_goals first | exact m10 | trivial
    · by_cases e:k=8∧4 < n <;> simp only [e,if_false] at m11 ⊢; all_goals first | exact m11 | trivial
    · by_cases e:k=8∧5 < n <;> simp only [e,if_false] at m12 ⊢; all_goals first | exact m12 | trivial
theorem more_kind {i:Ins}(h:more i=true):pur i=true∧1 < i.kind∧i.kind≠4:=by
  unfold more at h
  simpa [Bool.and_eq_true,and_assoc] using h
theorem pur_kind {i:Ins}(h:pur i=true):1≤i.kind∧i.kind≤5:=by
  unfold pur at h
  simp only [Bool.or_eq_true,decide_eq_true_eq,Bool.and_eq_true] at h
  rcases h with (h | h | h | h) | h <;> omega
theorem new_cases (x:ShS)(i:Ins):x.new i=x.read i∨∃ r,x.has (keyI (x.read i))=some r∧more (x.read i)=true∧x.new i=copyI i.dst r:=by
  unfold ShS.new
  cases h:x.has (keyI (x.read i)) with
  | none=>exact Or.inl rfl
  | some r =>
    simp only
    by_cases hm:more (x.read i)=true
    · rw [if_pos hm]; exact Or.inr ⟨r,rfl,hm,rfl⟩
    · rw [if_neg hm]; exact Or.inl rfl
theorem kS_small {k:Int}(h:1≤k∧k≤6):kS k=true:=by unfold kS; simp; omega
theorem new_ok {x:ShS}{i:Ins}{R Fr:Int}{L:Nat}(hx:ShI R x)(h:Ok i R Fr L):Ok (x.new i) R Fr L:=by
  rcases new_cases x i with e | ⟨r,hr,hm,e⟩
  · rw [e]; exact read_ok hx h
  · rw [e]
    obtain ⟨hp,h1,h4⟩:=more_kind hm
    have hk:=pur_kind hp
    have hk:1≤i.kind∧i.kind≤5:=hk
    have hd:=h.dst (kS_small (by omega))
    have hr':=(hx.has _ _ hr).1
    refine ⟨⟨by show (1:Int)≤4; decide,by show (4:Int)≤13; decide⟩,fun u hu=>?_,fun _=>Or.inl ?_,fun e=>(by cases e),fun e=>(by cases e),fun e=>(by cases e),fun e=>(by cases e),fun e=>(by cases e),fun e=>(by rcases e with e | e <;> cases e),fun e=>(by cases e),rfl⟩
    · have:u=r:=by simpa [copyI,Ins.uses,kA,kB] using hu
      rw [this]; exact hr'
    · show 0≤i.dst∧i.dst < R
      rcases hd with hd | hd
      · exact hd
      · omega
theorem new_sets {x:ShS}{i:Ins}:(x.new i).sets=i.sets:=by
  rcases new_cases x i with e | ⟨r,hr,hm,e⟩
  · rw [e]; rfl
  · rw [e]
    have hk:1≤i.kind∧i.kind≤5:=pur_kind (more_kind hm).1
    unfold Ins.sets
    rw [kS_small (k:=i.kind) (by omega)]
    rfl
def lval (i:Ins)(base:Int)(ρ:List Int):Int :=
  if i.kind=1 then i.n else if i.kind=2∨i.kind=3 then (dov i.op (rg ρ i.a) (i.bv ρ)).1 else if i.kind=4 then rg ρ i.a else base + i.n
theorem pur_val {i:Ins}{R Fr:Int}{L:Nat}(hok:Ok i R Fr L)(hp:pur i=true)(p:Nat)(base:Int)(ρ:List Int)(E:Env):lstep i p base ρ E = .go (p + 1) (setd i.dst (lval i base ρ) ρ) E:=by
  have hp0:=hp
  unfold pur at hp
  simp only [Bool.or_eq_true,decide_eq_true_eq,Bool.and_eq_true] at hp
  have cases:i.kind=1∨i.kind=2∨(i.kind=3∧stdy i.op=true)∨i.kind=4∨i.kind=5:=by
    rcases hp with (h | h | h | h) | h
    · exact Or.inl h
    · exact Or.inr (Or.inl h)
    · exact Or.inr (Or.inr (Or.inr (Or.inl h)))
    · exact Or.inr (Or.inr (Or.inr (Or.inr h)))
    · exact Or.inr (Or.inr (Or.inl h))
  unfold lval
  rcases cases with k | k | ⟨k,hs⟩ | k | k
  · rw [if_pos k,ls1 i p base ρ E k]
  · rw [if_neg (by omega),if_pos (Or.inl k),ls2 i p base ρ E (Or.inl k),if_pos (dov_stdy (Or.inl (hok.one k)) _ _)]
  · rw [if_neg (by omega),if_pos (Or.inr k),ls2 i p base ρ E (Or.inr k),if_pos (dov_stdy (Or.inr hs) _ _)]
  · rw [if_neg (by omega),if_neg (by omega),if_pos k,ls4 i p base ρ E k]
  · rw [if_neg (by omega),if_neg (by omega),if_neg (by omega),ls5 i p base ρ E k]
theorem lval_congr {i j:Ins}(hk:i.kind=j.kind)(ho:i.op=j.op)(hn:i.n=j.n)(base:Int)(ρ ρ':List Int)(ha:kA i.kind=true→rg ρ i.a=rg ρ' j.a)(hb:kB i.kind=true→rg ρ i.b=rg ρ' j.b):lval i base ρ=lval j base ρ':=by
  unfold lval Ins.bv
  rw [← hk,← ho,← hn]
  by_cases h1:i.kind=1
  · rw [if_pos h1,if_pos h1]
  rw [if_neg h1,if_neg h1]
  by_cases h2:i.kind=2∨i.kind=3
  · rw [if_pos h2,if_pos h2,ha (by rcases h2 with e | e <;> rw [e] <;> decide)]
    by_cases h3:i.kind=3
    · rw [if_pos h3,if_pos h3,hb (by rw [h3]; decide)]
    · rw [if_neg h3,if_neg h3]
  rw [if_neg h2,if_neg h2]
  by_cases h4:i.kind=4
  · rw [if_pos h4,if_pos h4,ha (by rw [h4]; decide)]
  rw [if_neg h4,if_neg h4]
structure ShV (base:Int)(x:ShS)(ρ:List Int):Prop where
  am:∀ r a,x.am r=some a→rg ρ r=rg ρ a
  has:∀ k r,x.has k=some r→lval k base ρ=rg ρ r
theorem ShV.none (base:Int)(ρ:List Int):ShV base ShS.none ρ:=⟨fun _ _ h=>(by simp [ShS.none] at h),fun _ _ h=>(by simp [ShS.none] at h)⟩
theorem ShV.thr {base:Int}{x:ShS}{ρ:List Int}(h:ShV base x ρ)(r:Int):rg ρ (x.thr r)=rg ρ r:=by
  unfold ShS.thr
  cases ha:x.am r with
  | none=>rfl
  | some a=>exact (h.am r a ha).symm
theorem ShV.read {base:Int}{x:ShS}{ρ:List Int}(h:ShV base x ρ)(i:Ins)(p:Nat)(E:Env):lstep (x.read i) p base ρ E=lstep i p base ρ E:=by
  have ha:rg ρ (x.read i).a=rg ρ i.a:=by
    show rg ρ (if kA i.kind=true then x.thr i.a else i.a)=_
    split
    · exact h.thr _
    · rfl
  have hb:rg ρ (x.read i).b=rg ρ i.b:=by
    show rg ρ (if kB i.kind=true then x.thr i.b else i.b)=_
    split
    · exact h.thr _
    · rfl
  have hargs:((x.read i).args.take i.n.toNat).map (rg ρ)=(i.args.take i.n.toNat).map (rg ρ):=by
    have e:∀ (c:Prop) [Decidable c] (r:Int),rg ρ (if c then x.thr r else r)=rg ρ r:=fun c _ r=>by
      split
      · exact h.thr _
      · rfl
    rw [List.map_take,List.map_take]
    congr 1
    unfold Ins.args ShS.read
    simp only [List.map_cons,List.map_nil,e]
  unfold lstep Ins.bv
  rw [ha,hb,show (x.read i).kind=i.kind from rfl,show (x.read i).n=i.n from rfl,hargs]
  rfl
theorem ShV.new {base:Int}{x:ShS}{ρ:List Int}(h:ShV base x ρ){i:Ins}{R Fr:Int}{L:Nat}(hx:ShI R x)(hok:Ok i R Fr L)(p:Nat)(E:Env):lstep (x.new i) p base ρ E=lstep i p base ρ E:=by
  rcases new_cases x i with e | ⟨r,hr,hm,e⟩
  · rw [e]; exact h.read i p E
  · rw [e,← h.read i p E,pur_val (read_ok hx hok) (more_kind hm).1 p base ρ E]
    rw [ls4 (copyI i.dst r) p base ρ E rfl]
    show Deed.go (p + 1) (setd i.dst (rg ρ r) ρ) E=Deed.go (p + 1) (setd i.dst (lval (x.read i) base ρ) ρ) E
    rw [← h.has _ _ hr]
    rw [lval_congr (i:=keyI (x.read i)) (j:=x.read i) rfl rfl rfl base ρ ρ (fun _=>rfl) (fun _=>rfl)]
theorem ShV.step {base:Int} {x:ShS} {ρ:List Int} (h:ShV base x ρ) {i:Ins} {R Fr:Int} {L:Nat} (hx:ShI R x) (hok:Ok i R Fr L) (hl:ρ.length=R.toNat) (v:Int)
    (hv:pur i=true→v=lval (x.read i) base ρ):ShV base (x.step i) (if kS i.kind=true then setd i.dst v ρ else ρ):=by
  have ho:=new_ok hx hok
  unfold ShS.step
  simp only
  have hse:(x.new i).sets=i.sets:=new_sets
  by_cases hr:(x.new i).sets < 0
  · rw [if_pos hr]
    rw [hse] at hr
    have:(if kS i.kind=true then setd i.dst v ρ else ρ)=ρ:=by
      split
      · rename_i hs
        have:i.sets=i.dst:=by unfold Ins.sets; rw [if_pos hs]
        unfold setd
        rw [if_neg (by omega)]
      · rfl
    rw [this]
    exact h
  rw [if_neg hr]
  have hs:kS i.kind=true:=by
    cases e:kS i.kind with
    | true=>rfl
    | false =>
      exfalso
      apply hr
      rw [hse]
      unfold Ins.sets
      rw [e]
      simp
  have hd:i.sets=i.dst:=by unfold Ins.sets; rw [if_pos hs]
  rw [if_pos hs]
  rw [hse,hd] at hr ⊢
  have hdR:0≤i.dst∧i.dst < R:=by rcases hok.dst hs with e | e <;> omega
  generalize hrr:i.dst=r at *
  have hval:rg (setd r v ρ) r=v:=by
    unfold rg setd
    rw [if_pos hdR.1,List.getD_eq_getElem?_getD,List.getElem?_set_self (by omega)]
    rfl
  have hoth:∀ q,0≤q→q≠r→rg (setd r v ρ) q=rg ρ q:=fun q hq hne=>rg_other v ρ hq (Ne.symm hne)
  have hlv:∀ k,(∀ u ∈ k.uses,0≤u∧u < R)→r ∉ k.uses→lval k base (setd r v ρ)=lval k base ρ:=fun k hku hnr =>
    lval_congr rfl rfl rfl base _ _ (fun hA=>hoth _ (hku _ (by simp [Ins.uses,hA])).1 (fun e=>hnr (by simp [Ins.uses,hA,e]))) (fun hB=>hoth _ (hku _ (by simp [Ins.uses,hB])).1 (fun e=>hnr (by simp [Ins.uses,hB,e])))
  have hy:ShV base (x.forget r) (setd r v ρ):=by
    refine ⟨fun k a ha=>?_,fun k q hq=>?_⟩
    · unfold ShS.forget at ha
      simp only at ha
      split at ha
      · cases ha
      · rename_i hn
        have hi:=hx.am k a ha
        rw [hoth k hi.1.1 (fun e=>hn (Or.inl e)),hoth a hi.2.1 (fun e=>hn (Or.inr (by rw [ha,e])))]
        exact h.am k a ha
    · unfold ShS.forget at hq
      simp only at hq
      split at hq
      · cases hq
      · rename_i hn
        have hi:=hx.has k q hq
        rw [hoth q hi.1.1 (fun e=>hn (Or.inl (by rw [hq,e]))),hlv k hi.2.2 (fun e=>hn (Or.inr e))]
        exact h.has k q hq
  split
  · rename_i h4
    refine ⟨fun k a ha=>?_,hy.has⟩
    simp only at ha
    split at ha
    · rename_i hk
      injection ha with ha
      subst ha
      rw [hk,hval,hy.thr]
      have hoa:=ho.uses (x.new i).a (by unfold Ins.uses; rw [h4.1]; simp [kA])
      rw [hoth _ hoa.1 h4.2]
      -- a copy's value
      have e0:=pur_val ho (show pur (x.new i)=true by unfold pur; simp [h4.1]) 0 base ρ ⟨[],[],[]⟩
      rcases new_cases x i with e | ⟨q,hq,hm,e⟩
      · have hpi:pur i=true:=by
          have:(x.read i).kind=4:=by rw [← e]; exact h4.1
          have:i.kind=4:=this
          unfold pur; simp [this]
        rw [hv hpi,e]
        have hk4:(x.read i).kind=4:=by rw [← e]; exact h4.1
        unfold lval
        rw [if_neg (by omega),if_neg (by omega),if_pos hk4]
      · have hpi:pur i=true:=by
          have:=(more_kind hm).1
          exact this
        rw [hv hpi,e]
        show lval (x.read i) base ρ=rg ρ q
        rw [← h.has _ _ hq]
        exact (lval_congr (i:=keyI (x.read i)) (j:=x.read i) rfl rfl rfl base ρ ρ (fun _=>rfl) (fun _=>rfl)).symm
    · exact hy.am k a ha
  · split
    · rename_i h4 hm
      refine ⟨hy.am,fun k q hq=>?_⟩
      simp only at hq
      split at hq
      · rename_i hk
        injection hq with hq
        subst hq
        have e:x.new i=x.read i:=by
          rcases new_cases x i with e | ⟨r',hr',hm',e⟩
          · exact e
          · rw [e] at hm
            have:=more_kind hm.1
            exact absurd rfl this.2.2
        rw [e] at hm
        have hor:=read_ok hx hok
        rw [hk,hval,hlv (keyI (x.read i)) hor.uses hm.2]
        have hpi:pur i=true:=(more_kind hm.1).1
        rw [hv hpi]
        exact lval_congr (i:=keyI (x.read i)) (j:=x.read i) rfl rfl rfl base ρ ρ (fun _=>rfl) (fun _=>rfl)
      · exact hy.has k q hq
    · exact hy
end Go.Proofs.Ytkcclefonmnpnaa
/- What is shared, or swept, stands for a function (plain). -/
