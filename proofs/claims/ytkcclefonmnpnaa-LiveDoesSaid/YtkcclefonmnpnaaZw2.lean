import Derived.Test.YtkcclefonmnpnaaZwq
import Derived.Test.YtkcclefonmnpnaaZg
namespace Go.Proofs.Ytkcclefonmnpnaa
open Go.RowKit Go.BigFrame
end Go.Proofs.Ytkcclefonmnpnaa
namespace Go.Proofs.Ytkcclefonmnpnaa
open Go.RowKit Go.BigFrame
set_option maxRecDepth 1000000 in
set_option maxHeartbeats 2000000 in
theorem do_out (op a b:Int)(h:op < 1∨23 < op)(w:World):Calls Try.prog 88 #[.int .i64 op,.int .i64 a,.int .i64 b] w fun e w'=>e = .returned (.tuple #[.int .i64 0,.bool false])∧w=w':=by
  have hn:∀ k:Int,1≤k→k≤23→(op == k)=false:=fun k h1 h2=>beq_eq_false_iff_ne.2 (by omega)
  have n1:=hn 1 (by decide) (by decide); have n2:=hn 2 (by decide) (by decide); have n3:=hn 3 (by decide) (by decide); have n4:=hn 4 (by decide) (by decide)
  have n5:=hn 5 (by decide) (by decide); have n6:=hn 6 (by decide) (by decide); have n7:=hn 7 (by decide) (by decide); have n8:=hn 8 (by decide) (by decide)
  have n9:=hn 9 (by decide) (by decide); have n10:=hn 10 (by decide) (by decide); have n11:=hn 11 (by decide) (by decide); have n12:=hn 12 (by decide) (by decide)
  have n13:=hn 13 (by decide) (by decide); have n14:=hn 14 (by decide) (by decide); have n15:=hn 15 (by decide) (by decide); have n16:=hn 16 (by decide) (by decide)
  have n17:=hn 17 (by decide) (by decide); have n18:=hn 18 (by decide) (by decide); have n19:=hn 19 (by decide) (by decide); have n20:=hn 20 (by decide) (by decide)
  have n21:=hn 21 (by decide) (by decide); have n22:=hn 22 (by decide) (by decide); have n23:=hn 23 (by decide) (by decide)
  clear hn h
  go_enter Try.func88,Try.ntmps88
  go_wp2_with (go_at_call 104; refine (wrap_any _ _).mono ?_; rintro e w' ⟨rfl,rfl⟩)
  go_returns
  exact ⟨rfl,rfl⟩
theorem same_below {f:FuncId}{args:Array Value}{v:Ending}{w:World}(h:Calls Try.prog f args w fun e w'=>e=v∧w=w'):Calls Try.prog f args w fun e w'=>e=v∧Below w.heap.size w w' :=
  h.mono fun _ _ ⟨he,hw⟩=>⟨he,by subst hw; exact Below.refl _ _⟩
theorem do_any (op a b:Int)(w:World):Calls Try.prog 88 #[.int .i64 op,.int .i64 a,.int .i64 b] w fun e w'=>e = .returned (.tuple #[.int .i64 (dov op a b).1,.bool (dov op a b).2])∧Below w.heap.size w w':=by
  by_cases ho:op < 1∨23 < op
  · have e:dov op a b=(0,false):=by
      unfold dov
      repeat rw [if_neg (by omega)]
    rw [e]
    exact same_below (do_out op a b ho w)
  · have hc:op=1∨op=2∨op=3∨op=4∨op=5∨op=6∨op=7∨op=8∨op=9∨op=10∨op=11∨op=12∨op=13∨op=14∨op=15∨op=16∨op=17∨op=18∨op=19∨op=20∨op=21∨op=22∨op=23:=by omega
    rcases hc with rfl | rfl | rfl | rfl | rfl | rfl | rfl | rfl | rfl | rfl | rfl | rfl | rfl | rfl | rfl | rfl | rfl | rfl | rfl | rfl | rfl | rfl | rfl
    · exact same_below (do_1 a b w)
    · exact same_below (do_2 a b w)
    · exact same_below (do_3 a b w)
    · exact do_4 a b w
    · exact do_5 a b w
    · exact do_6 a b w
    · exact do_7 a b w
    · exact same_below (do_8 a b w)
    · exact same_below (do_9 a b w)
    · exact same_below (do_10 a b w)
    · exact same_below (do_11 a b w)
    · exact same_below (do_12 a b w)
    · exact same_below (do_13 a b w)
    · exact same_below (do_14 a b w)
    · exact same_below (do_15 a b w)
    · exact same_below (do_16 a b w)
    · exact same_below (do_17 a b w)
    · exact same_below (do_18 a b w)
    · exact same_below (do_19 a b w)
    · exact same_below (do_20 a b w)
    · exact same_below (do_21 a b w)
    · exact same_below (do_22 a b w)
    · exact same_below (do_23 a b w)
end Go.Proofs.Ytkcclefonmnpnaa

