import Derived.Test.YtgdbkoncaojmoaaZg
namespace Go.Proofs.Ytgdbkoncaojmoaa
open Go.RowKit Go.BigFrame
abbrev PreI (W:World)(b:Nat)(l:List Ins):Prop:=Pre Ins.l 15 44 W b l
theorem ins_len (i:Ins):(Ins.l i).length=15:=rfl
theorem flatI_get:∀ (v:List Ins) (j k:Nat),k < 15→(v.flatMap Ins.l)[j * 15 + k]? = (v[j]?).bind fun x=>(Ins.l x)[k]?
  | [],j,k,_=>by simp
  | x::v,0,k,hk=>by
    rw [List.flatMap_cons,List.getElem?_append_left (by rw [ins_len]; omega)]
    simp
  | x::v,j + 1,k,hk=>by
    rw [List.flatMap_cons,List.getElem?_append_right (by rw [ins_len]; omega)]
    have h:=flatI_get v j k hk
    rw [show (j + 1) * 15 + k - (Ins.l x).length=j * 15 + k by rw [ins_len]; omega,h]
    simp
def OwnI (w:World)(base:Nat)(V:Value)(l:List Ins):Prop:=w.ownsRow base 44 15 V l.length (l.flatMap Ins.l)
theorem OwnI.nil (w:World)(base:Nat):OwnI w base (.slice none 0 0) []:=World.ownsRow_nil w base 44 15
end Go.Proofs.Ytgdbkoncaojmoaa

