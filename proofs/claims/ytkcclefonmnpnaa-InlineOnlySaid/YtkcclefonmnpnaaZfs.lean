import Derived.Test.YtkcclefonmnpnaaZe1
namespace Go.Proofs.Ytkcclefonmnpnaa
open Go.RowKit Go.BigFrame
def Sm (f:Fn7):Prop:=f.nm.size≤50∧f.code.length≤60∧¬ (40 < f.R∧f.R≤4096)∧∀ i ∈ f.code,i.text.size≤50
end Go.Proofs.Ytkcclefonmnpnaa
/- code.Same: are two functions the same? -/
