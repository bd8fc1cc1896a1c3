import Derived.StillTail
import Derived.Laws.Rows
import Derived.Laws.Tables
import Derived.ProofKit
import Derived.Test.YtkcclefonmnpnaaProg
namespace Go.Proofs.Ytkcclefonmnpnaa
open Go
section
def whoT (l:List Oper)(n:Nat)(t:Tmp):Option Nat:=(List.range n).find? fun j=>decide ((l[j]?.bind (·.dst))=some t)
def evalT (a0:Act)(l:List Oper)(n:Nat)(s:Nat→Option Value):Operand→Value
  | .tmp t=>((whoT l n t).bind s).getD (a0.eval (.tmp t))
  | x=>a0.eval x
def updT (s:Nat→Option Value)(i:Nat)(v:Value):Nat→Option Value:=fun j=>if j=i then some v else s j
def putsT:List Oper→(Nat→Option Value)→Nat→Act→Act
  | [],_,_,a=>a
  | o::l,s,k,a=>putsT l s (k + 1) (a.put o.dst ((s k).getD undef))
def fullB (m n:Nat):Array Bool:=(Array.range m).map fun i=>decide (i < n)
def StepT (P:Program)(W0:Act)(l:List Oper)(n:Nat)(I:(Nat→Option Value)→World→Prop)(i:Nat)(o:Oper)(s:Nat→Option Value)(w:World):Prop :=
  (∃ v w',(execOp (evalT W0 l n s) o).run P w = .ok (.value v) w'∧I (updT s i v) w') ∨
  (∃ f args,(execOp (evalT W0 l n s) o).run P w = .ok (.enter f args) w∧Calls P f args w fun e w'=>∃ v,e = .returned v∧I (updT s i v) w')
variable {P:Program} {l:List Oper} {n:Nat} {I:(Nat→Option Value)→World→Prop} {a0:Act}
structure AsT (a0:Act)(l:List Oper)(n:Nat)(s:Nat→Option Value)(a:Act):Prop where
  size:a.tmps.size=a0.tmps.size
  defers:a.defers=a0.defers
  val:∀ t,t < a0.tmps.size→a.tmps.getD t undef=((whoT l n t).bind s).getD (a0.tmps.getD t undef)
theorem AsT.eval {s:Nat→Option Value} {a:Act} (h:AsT a0 l n s a) (hd:∀ t j,whoT l n t=some j→t < a0.tmps.size) (x:Operand):a.eval x=evalT a0 l n s x:=by
  cases x with
  | tmp t =>
    show a.tmps.getD t undef=((whoT l n t).bind s).getD (a0.tmps.getD t undef)
    rcases Nat.lt_or_ge t a0.tmps.size with ht | ht
    · exact h.val t ht
    · have h1:whoT l n t=none:=by
        cases hw:whoT l n t with
        | none=>rfl
        | some j=>exact absurd (hd t j hw) (Nat.not_lt.2 ht)
      have h2:t ≥ a.tmps.size:=by rw [h.size]; exact ht
      simp [h1,Array.getD,Nat.not_lt.2 ht,Nat.not_lt.2 h2]
  | _=>rfl
theorem whoT_spec {t:Tmp}{j:Nat}(h:whoT l n t=some j):j < n∧(l[j]?.bind (·.dst))=some t:=by
  unfold whoT at h
  have h1:=List.find?_some h
  have h2:=List.mem_of_find?_eq_some h
  exact ⟨List.mem_range.1 h2,by simpa using h1⟩
theorem AsT.put {s:Nat→Option Value} {a:Act} (h:AsT a0 l n s a) {i:Nat} {o:Oper} {d:Tmp} (ho:l[i]? = some o) (hd:o.dst=some d) (hw:whoT l n d=some i) (v:Value):AsT a0 l n (updT s i v) (a.put o.dst v):=by
  rw [hd]
  refine ⟨by simp [Act.put,h.size],h.defers,fun t ht=>?_⟩
  by_cases htd:d=t
  · subst htd
    have:d < a.tmps.size:=by rw [h.size]; exact ht
    simp [Act.put,hw,updT,this]
  · have h1:=h.val t ht
    have h2:(a.put (some d) v).tmps.getD t undef=a.tmps.getD t undef:=by simp [Act.put,Array.getElem?_setIfInBounds_ne htd]
    rw [h2,h1]
    cases hwt:whoT l n t with
    | none=>rfl
    | some j =>
      have hj:=whoT_spec hwt
      have hne:j≠i:=by
        rintro rfl
        rw [ho] at hj
        simp only [Option.bind_some,hd,Option.some.injEq] at hj
        exact htd hj.2
      simp [updT,hne]
theorem AsT.eq {s:Nat→Option Value}{a b:Act}(h:AsT a0 l n s a)(h':AsT a0 l n s b):a=b:=by
  obtain ⟨ta,da⟩:=a
  obtain ⟨tb,db⟩:=b
  have hd:da=db:=h.defers.trans h'.defers.symm
  have hsz:ta.size=tb.size:=h.size.trans h'.size.symm
  have ht:ta=tb:=by
    apply Array.ext hsz
    intro t h1 h2
    have e1:=h.val t (by rw [← h.size]; exact h1)
    have e2:=h'.val t (by rw [← h.size]; exact h1)
    have e:=e1.trans e2.symm
    simpa [h1,h2] using e
  rw [hd,ht]
structure ListedT (l:List Oper)(n:Nat)(s:Nat→Option Value)(listed:Array Bool):Prop where
  inv:HeadInv .any l.toArray n listed
  told:∀ i,i < n→(listed.getD i false=true↔(s i).isSome=true)
end
end Go.Proofs.Ytkcclefonmnpnaa
namespace Go.Proofs.Ytkcclefonmnpnaa
open Go
section
variable {P:Program} {ρ:Operand→Value} {o:Oper} {w:World}
theorem runT_move (x:Operand)(ho:o.op = .move x):(execOp ρ o).run P w = .ok (.value (ρ x)) w:=by
  unfold execOp
  simp only [ho,Sem.run_pure]
end
end Go.Proofs.Ytkcclefonmnpnaa
namespace Go.Proofs.Ytkcclefonmnpnaa
open Go
theorem evalT_told {a0:Act}{l:List Oper}{n:Nat}{s:Nat→Option Value}{t:Tmp}{v:Value}(j:Nat)(h:whoT l n t=some j)(hs:s j=some v):evalT a0 l n s (.tmp t)=v:=by
  simp [evalT,h,hs]
end Go.Proofs.Ytkcclefonmnpnaa

