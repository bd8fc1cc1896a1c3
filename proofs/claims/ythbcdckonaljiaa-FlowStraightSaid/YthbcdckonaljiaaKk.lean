import Derived.Test.YthbcdckonaljiaaKe
import Derived.Test.YthbcdckonaljiaaKf
import Derived.Test.YthbcdckonaljiaaKi
import Derived.Test.YthbcdckonaljiaaKj
import Derived.Test.YthbcdckonaljiaaZr
import Derived.Test.YthbcdckonaljiaaZp2
import Derived.Test.YthbcdckonaljiaaKa
/- FlowStraight: the law. -/
namespace Go.Proofs.Ythbcdckonaljiaa
open Go.RowKit Go.BigFrame

set_option maxRecDepth 1000000 in
set_option maxHeartbeats 16000000 in
theorem straight_long (l : List B4) (hl9 : l.length ≤ 9223372036854775807) (h20 : ¬ l.length ≤ 20) (A : Option Addr) (cap : Nat) (w : World) :
    Calls Try.prog 3 #[.slice A l.length cap] w fun e w' => e = .returned (.bool true) ∧ Below w.heap.size w w' := by
  obtain ⟨L, hL⟩ : ∃ L, l.length = L := ⟨_, rfl⟩
  rw [hL] at hl9 h20 ⊢
  clear hL
  have HAW := Lib.hid awake11_any
  have q1 : decide ((L : Int) > 20) = true := by simp; omega
  have q2 : decide (20 < L) = true := by simp; omega
  clear h20
  go_enter Try.func3, Try.ntmps3
  go_wp2_with (first
    | (go_at_call 6; refine (HAW.out _).mono ?_; rintro e w2 ⟨rfl, hb2⟩))
  go_returns
  exact ⟨rfl, hb2⟩
set_option maxRecDepth 1000000 in
set_option maxHeartbeats 16000000 in
theorem straight_short (l : List B4) (h20 : l.length ≤ 20) (hx : ∀ x ∈ l, x.ok) (A : Option Addr) (cap : Nat) (w : World) (hA : RdB4 w A l) :
    Calls Try.prog 3 #[.slice A l.length cap] w fun e w' => e = .returned (.bool true) ∧ Below w.heap.size w w' := by
  have hst := funS_strt h20 hx
  have hfl := funS_len l
  have hrow : srow (funS l) (5 + l.length) = knl (regS l) := by have := funS_row hx l.length (Nat.le_refl _); rwa [List.take_length] at this
  have hrl : (regS l).length = 10 := regS_len _ _ rfl
  have hfn := funS_fold h20 hx
  have hcl : (codeS l).length = 5 + l.length := codeS_len l
  have hsz : (funS l).code.length * ((funS l).R.toNat + 1) ≤ 65536 := by rw [hfl]; show (5 + l.length + 1) * 11 ≤ 65536; omega
  have hcd : (funS l).code = codeS l ++ [retS] := rfl
  have HAH : Hid (∀ (g cp : Nat) X, RdI X (some ⟨g, 0, none⟩) (funS l).code → Calls Try.prog 9 #[.agg #[.string ⟨#[102]⟩, .int .i64 0, .int .i64 10, .int .i64 0, .slice (some ⟨g, 0, none⟩) (5 + l.length + 1) cp]] X fun e w' => (∃ ob pb, e = .returned (.slice (some ⟨ob, 0, none⟩) (5 + l.length + 1) (5 + l.length + 1)) ∧ w'.cell? ⟨ob, 5 + l.length, none⟩ = some (.slice (some ⟨pb, 0, none⟩) 10 10) ∧ PreV w' pb (knl (regS l))) ∧ Below X.heap.size X w') := Lib.hid fun g cp X hX => by
    have := ahead_yes (funS l) hst.okf hsz (some ⟨g, 0, none⟩) cp X hX (fun W h => RightFunc_any (funS l) (some ⟨g, 0, none⟩) cp W h)
    rw [hfl] at this
    refine this.mono fun e w' ⟨⟨ob, M, h1, h2, h3, _⟩, h4⟩ => ⟨?_, h4⟩
    obtain rfl := h2.unique (sM_ans hst)
    obtain ⟨pb, h5⟩ := h3
    have h6 := h5 (5 + l.length) _ (sM_at (by rw [hfl]; omega))
    rw [hrow] at h6
    exact ⟨ob, pb (5 + l.length), by rw [h1, hfl], h6.1, h6.2⟩
  have HFO : Hid (∀ (g cp : Nat) X, RdI X (some ⟨g, 0, none⟩) (funS l).code → Calls Try.prog 10 #[.agg #[.string ⟨#[102]⟩, .int .i64 0, .int .i64 10, .int .i64 0, .slice (some ⟨g, 0, none⟩) (5 + l.length + 1) cp]] X fun e w' => (∃ nb : Nat, e = .returned (.tuple #[.agg #[.string ⟨#[102]⟩, .int .i64 0, .int .i64 10, .int .i64 0, .slice (some ⟨nb, 0, none⟩) (5 + l.length + 1) (5 + l.length + 1)], .int .i64 (l.length : Int)])) ∧ Below X.heap.size X w') := Lib.hid fun g cp X hX => by
    have := fold_yes (funS l) hst.okf hsz (some ⟨g, 0, none⟩) cp X hX
    rw [hfl] at this
    refine this.mono fun e w' ⟨⟨nb, M, h1, h2, _, _⟩, h4⟩ => ⟨⟨nb, ?_⟩, h4⟩
    obtain rfl := h1.unique (sM_ans hst)
    rw [h2, hfl, ← hfl, hfn, hfl]
    rfl
  rw [hcd] at HAH HFO
  clear hst hfl hrow hfn hsz hcd
  obtain ⟨L, hL⟩ : ∃ L, l.length = L := ⟨_, rfl⟩
  have HL := Lib.hid hL
  rw [hL] at h20 hcl HAH HFO ⊢
  clear hL
  have HAW := Lib.hid awake11_any
  have HX := Lib.hid hx
  have HA := Lib.hid hA
  have HCL := Lib.hid hcl
  have HRL := Lib.hid hrl
  clear hx hA hcl hrl
  have q1 : decide ((L : Int) > 20) = false := by simp; omega
  have q2 : decide (20 < L) = false := by simp; omega
  obtain ⟨k0, k1, hB0⟩ := two_boxes w (.cells #[.string ⟨#[102]⟩, .int .i64 0, .int .i64 10, .int .i64 0, .slice none 0 0] 26) (.cells #[.int .i64 0, .int .i64 0, .int .i64 0, .int .i64 0, .int .i64 0, .int .i64 0, .int .i64 0, .int .i64 0, .int .i64 0, .int .i64 0] 27)
  have HS : Hid (Sg w _ w.heap.size (.slice none 0 0) ((List.range 0).map conS) (regc 0)) := Lib.hid ⟨k0, OwnI.nil _ _, k1, hB0, by simp⟩
  clear k0 k1 hB0
  go_enter Try.func3, Try.ntmps3
  go_wp2_with fail
  generalize (w.alloc (.cells #[.string ⟨#[102]⟩, .int .i64 0, .int .i64 10, .int .i64 0, .slice none 0 0] 26)).alloc (.cells #[.int .i64 0, .int .i64 0, .int .i64 0, .int .i64 0, .int .i64 0, .int .i64 0, .int .i64 0, .int .i64 0, .int .i64 0, .int .i64 0] 27) = w0 at *
  refine sloop1_any w w0 w.heap.size _ HS.out _ _ _ _ _ _ _ _ _ _ _ _ _ _ _ _ _ _ _ _ _ _ _ _ _ _ _ _ _ _ _ _ _ _ _ _ _ _ _ _ _ _ _ _ _ _ _ _ _ _ _ _ _ _ _ _ _ _ _ _ _ _ _ _ _ _ _ _ _ _ _ _ _ _ _ _ _ _ _ _ _ _ _ _ _ _ _ _ _ _ _ _ _ _ _ _ _ _ _ _ _ _ _ _ _ _ _ _ _ _ _ _ _ _ _ _ _ _ _ _ _ _ _ _ _ _ _ _ _ _ _ _ _ _ _ _ _ _ _ _ _ _ _ _ _ _ _ _ _ _ _ _ _ ?_
  intro p5 p6 p22 p23 p24 p25 p26 p27 p28 p29 p30 p31 p32 p33 p34 p35 p36 p37 p38 p39 p40 p41 w1 V1 hS1
  have HS1 : Hid (Sg w w1 w.heap.size V1 (codeS (l.take 0)) (regS (l.take 0))) := Lib.hid (by
    rw [regc_five] at hS1
    have e : codeS (l.take 0) = (List.range 5).map conS := by simp [codeS]
    rw [e]; exact hS1)
  clear hS1 HS
  go_wp2_with fail
  refine sloop2_any l L cap A HL.out h20 HX.out w w1 w.heap.size V1 HA.out HS1.out (Nat.le_refl _) _ _ _ _ _ _ _ _ _ _ _ _ _ _ _ _ _ _ _ _ _ _ _ _ _ _ _ _ _ _ _ _ _ _ _ _ _ _ _ _ _ _ _ _ _ _ _ _ _ _ _ _ _ _ _ _ _ _ _ _ _ _ _ _ _ _ _ _ _ _ _ _ _ _ _ _ _ _ _ _ _ _ _ _ _ _ _ _ _ _ _ _ _ _ _ _ _ _ _ _ _ _ _ _ _ _ _ _ _ _ _ _ _ _ _ _ _ _ _ _ _ _ _ _ _ _ _ _ _ _ _ _ _ _ _ _ _ _ _ _ _ _ _ _ _ _ _ _ _ _ ?_
  intro q8 q9 q10 q45 q46 q47 q48 q49 q50 q51 q52 q53 q54 q55 q56 q57 q58 q59 q60 q61 q62 q63 q64 q65 q66 q67 q68 q69 q70 q71 q72 q73 q74 q75 q76 q77 q78 q79 q80 q81 q82 q83 q84 q85 q86 q87 q88 q89 q90 q91 q92 q93 q94 q95 q96 q97 q98 q99 q100 q101 w2 V2 hS2
  have HS2 := Lib.hid hS2
  clear hS2 HS1
  go_upto_region 24 with fail
  rename_i K24 hK24
  refine st_24 w.heap.size V2 (codeS l) (regS l) w w2 HS2.out (by rw [HCL.out]; omega) _ _ _ _ _ _ _ _ _ _ _ _ _ _ _ _ _ _ _ _ _ _ _ _ _ _ _ _ _ _ _ _ _ _ _ _ _ _ _ _ _ _ _ _ _ _ _ _ _ _ _ _ _ _ _ _ _ _ _ _ _ _ _ _ _ _ _ _ _ _ _ _ _ _ _ _ _ _ _ _ _ _ _ _ _ _ _ _ _ _ _ _ _ _ _ _ _ _ _ _ _ _ _ _ _ _ _ _ _ _ _ _ _ _ _ _ _ _ _ _ _ _ _ _ _ _ _ _ _ _ _ _ _ _ _ _ _ _ _ _ _ _ _ _ _ _ _ _ _ _ _ _ _ _ _ _ ?_
  intro r102 r103 r104 r105 r106 r107 w3 g cp hS3 hP3
  rw [HCL.out] at hS3
  have HR3 : Hid (RdI w3 (some ⟨g, 0, none⟩) (codeS l ++ [retS])) := Lib.hid (PreI.read hP3)
  have HS3 := Lib.hid hS3
  have HBX3 := Lib.hid hS3.fb
  have hl3 := (Array.getElem?_eq_some_iff.1 hS3.fb).1
  have c30 := cell_of_heap hS3.fb 0 _ rfl; have c31 := cell_of_heap hS3.fb 1 _ rfl; have c32 := cell_of_heap hS3.fb 2 _ rfl; have c33 := cell_of_heap hS3.fb 3 _ rfl; have c34 := cell_of_heap hS3.fb 4 _ rfl
  clear hS3 hP3 HS2
  refine hK24 _ _ ?_
  go_wp2_with fail
  refine (HAH.out g cp w3 HR3.out).mono ?_
  rintro e w4 ⟨⟨ob, pb, rfl, hrow, hV⟩, hb4⟩
  have HB4 := Lib.hid hb4
  have HROW := Lib.hid hrow
  have HV := Lib.hid hV
  have hx4 := (hb4.block _ hl3).trans HBX3.out
  have hl4 := (Array.getElem?_eq_some_iff.1 hx4).1
  have c40 := cell_of_heap hx4 0 _ rfl; have c41 := cell_of_heap hx4 1 _ rfl; have c42 := cell_of_heap hx4 2 _ rfl; have c43 := cell_of_heap hx4 3 _ rfl; have c44 := cell_of_heap hx4 4 _ rfl
  have HBX4 := Lib.hid hx4
  clear hb4 hrow hV hx4 c30 c31 c32 c33 c34
  go_wp2_with fail
  refine (HFO.out g cp w4 (HR3.out.below HB4.out)).mono ?_
  rintro e w5 ⟨⟨nb, rfl⟩, hb5⟩
  have HB5 := Lib.hid hb5
  have hx5 := (hb5.block _ hl4).trans HBX4.out
  have hl5 := (Array.getElem?_eq_some_iff.1 hx5).1
  have c50 := cell_of_heap hx5 0 _ rfl; have c51 := cell_of_heap hx5 1 _ rfl; have c52 := cell_of_heap hx5 2 _ rfl; have c53 := cell_of_heap hx5 3 _ rfl; have c54 := cell_of_heap hx5 4 _ rfl
  have HBX5 := Lib.hid hx5
  clear hb5 hx5 c40 c41 c42 c43 c44
  go_wp2_with fail
  have hr3 := HS3.out.rb
  have hr3l := (Array.getElem?_eq_some_iff.1 hr3).1
  have HR4 := Lib.hid ((HB4.out.block _ hr3l).trans hr3)
  have hr4l := (Array.getElem?_eq_some_iff.1 HR4.out).1
  have HR5 := Lib.hid ((HB5.out.block _ hr4l).trans HR4.out)
  have hr5l := (Array.getElem?_eq_some_iff.1 HR5.out).1
  have hrowl := World.block_lt_of_cell? _ _ HROW.out
  have HROW5 := Lib.hid ((HB5.out.cell (p := ⟨ob, 5 + L, none⟩) hrowl).trans HROW.out)
  have hrowl5 := World.block_lt_of_cell? _ _ HROW5.out
  have HV5 := Lib.hid (Pre.later HV.out HB5.out)
  have HBW := Lib.hid (HS3.out.b.trans ((HB4.out.trans (HB5.out.mono HB4.out.size)).mono HS3.out.b.size))
  clear hr3 hr3l hr4l hrowl
  refine sloop3_any (5 + L) ob (w.heap.size + 1) pb (regS l) _ HRL.out (by omega) (by exact ((Below.one w5 _).block _ hr5l).trans HR5.out) (by exact ((Below.one w5 _).cell (p := ⟨ob, 5 + L, none⟩) hrowl5).trans HROW5.out) (by exact Pre.later HV5.out (Below.one w5 _)) _ _ _ _ _ _ _ _ _ _ _ _ _ _ _ _ _ _ _ _ _ _ _ _ _ _ _ _ _ _ _ _ _ _ _ _ _ _ _ _ _ _ _ _ _ _ _ _ _ _ _ _ _ _ _ _ _ _ _ _ _ _ _ _ _ _ _ _ _ _ _ _ _ _ _ _ _ _ _ _ _ _ _ _ _ _ _ _ _ _ _ _ _ _ _ _ _ _ _ _ _ _ _ _ _ _ _ _ _ _ _ _ _ _ _ _ _ _ _ _ _ _ _ _ _ _ _ _ _ _ _ _ _ _ _ _ _ _ _ _ _ _ _ _ _ _ _ _ _ _ _ _ _ ?_
  intro t2 t14 t137 t138 t139 t140 t141 t142 t143 t144 t145 t146 t147 t148 t149 t150 t151 t152 t153 w7 hb7
  have HB7 := Lib.hid (HBW.out.trans (((Below.one w5 _).trans (hb7.mono (Below.one w5 _).size)).mono HBW.out.size))
  clear hb7
  go_wp2_with (first
    | (go_at_call 6; refine (HAW.out _).mono ?_; rintro e w8 ⟨rfl, hb8⟩))
  go_returns
  exact ⟨rfl, HB7.out.trans (hb8.mono HB7.out.size)⟩
theorem FlowStraight_any (l : List B4) (hl9 : l.length ≤ 9223372036854775807) (hx : ∀ x ∈ l, x.ok) (A : Option Addr) (cap : Nat) (w : World) (hA : RdB4 w A l) :
    Calls Try.prog 3 #[.slice A l.length cap] w fun e w' => e = .returned (.bool true) ∧ Below w.heap.size w w' := by
  by_cases h20 : l.length ≤ 20
  · exact straight_short l h20 hx A cap w hA
  · exact straight_long l hl9 h20 A cap w
end Go.Proofs.Ythbcdckonaljiaa
