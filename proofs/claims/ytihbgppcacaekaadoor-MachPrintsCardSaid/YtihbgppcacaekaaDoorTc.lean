import Derived.Test.YtihbgppcacaekaaDoorTa
import Derived.Lib.ItoaLen
import Derived.Test.YtihbgppcacaekaaDoorRj
import Derived.Test.YtihbgppcacaekaaDoorTb
/- PLAIN: how long a printed object is. -/
namespace Go.Proofs.YtihbgppcacaekaaDoor
open Go Go.Lib

theorem bytes_len2 (a : ByteArray) : a.size = a.data.toList.length := by rw [Array.length_toList]; rfl
theorem flat_le {α : Type} {f : α → List UInt8} {c : Nat} : ∀ l : List α, (∀ x ∈ l, (f x).length ≤ c) → (l.flatMap f).length ≤ l.length * c
  | [], _ => by simp
  | x :: t, h => by
    have h1 := h x (by simp)
    have h2 := flat_le t (fun y hy => h y (by simp [hy]))
    rw [List.flatMap_cons, List.length_append, List.length_cons, Nat.add_mul]
    omega
theorem nm_len_all : (List.range 23).all (fun i => decide ((nm i).data.toList.length ≤ 10)) = true := by decide +kernel
theorem shp_len_all : (List.range 18).all (fun k => decide ((shp (k + 1)).1.length ≤ 10)) = true := by decide +kernel
theorem line_len {l : Ln} {o : Ob} (h : rightL l o = true) (hh : headOk o = true) (ht : l.text.size ≤ 50) : (lineL l).length ≤ 300 := by
  have hb := line_bd h hh
  have h1 : (shp l.op).1.length ≤ 10 := by
    by_cases hop : 1 ≤ l.op ∧ l.op ≤ 18
    · obtain ⟨k, hk⟩ : ∃ k : Nat, l.op = (k : Int) + 1 := ⟨(l.op - 1).toNat, by omega⟩
      rw [hk]
      exact of_decide_eq_true (List.all_eq_true.1 shp_len_all k (List.mem_range.2 (by omega)))
    · rw [shp_out hop]
      simp
  have h2 : ((shp l.op).2.flatMap (fun p => 32 :: partL l p)).length ≤ (shp l.op).2.length * 60 := by
    refine flat_le _ fun p hp => ?_
    rw [List.length_cons]
    unfold partL
    split
    · have : l.text.data.toList.length = l.text.size := (bytes_len2 _).symm
      omega
    · split
      · rename_i h116 h111
        have hn := (hb p hp).1 h111
        have := of_decide_eq_true (List.all_eq_true.1 nm_len_all (l.n - 1).toNat (List.mem_range.2 (by omega)))
        omega
      · rename_i h116 h111
        have hn := (hb p hp).2 h111 h116
        have := itoa_length_le (l.get p) (by omega) (by omega)
        omega
  have h3 := shp_len l.op
  unfold lineL
  rw [List.length_append]
  omega
theorem print_len {o : Ob} (h : rightO o = true) (hn : o.name.size ≤ 50) (hl : o.lines.length ≤ 80) (ht : ∀ l ∈ o.lines, l.text.size ≤ 50) : (printL o).length ≤ 1000000 := by
  obtain ⟨hh, hr⟩ := rightO_prt h
  obtain ⟨_, hs, hf, _⟩ := head_parts hh
  have h1 : (o.lines.flatMap (fun l => lineL l ++ [10])).length ≤ o.lines.length * 301 := flat_le _ fun l hm => by
    rw [List.length_append]
    have := line_len (hr l hm) hh (ht l hm)
    simp
    omega
  have h2 := itoa_length_le o.slots (by omega) (by omega)
  have h3 := itoa_length_le o.frame (by omega) (by omega)
  have h4 : o.name.data.toList.length = o.name.size := (bytes_len2 _).symm
  have ob6 : objectB.data.toList.length = 6 := rfl
  unfold printL headL
  simp only [List.length_append, List.length_cons, ob6]
  omega
end Go.Proofs.YtihbgppcacaekaaDoor
/- MachPrints. -/
namespace Go.Proofs.YtihbgppcacaekaaDoor
open Go.RowKit Go.BigFrame

set_option maxRecDepth 1000000 in
set_option maxHeartbeats 16000000 in
theorem machPrints_any (o : Ob) (C : Option Addr) (cap : Nat) (w : World) (hT : Tabs w) (hR : RdL w C o.lines) (hl : o.lines.length ≤ 9223372036854775807) :
    Calls Tryd.prog 9 #[obAgg o C cap] w fun e w' => e = .returned (.bool true) ∧ Below w.heap.size w w' := by
  have HT := Lib.hid hT
  obtain ⟨n, hn⟩ : ∃ n, o.lines.length = n := ⟨_, rfl⟩
  have hb0 := Below.one w (obObj o C cap)
  have hb1 := hb0.trans ((Below.one (w.alloc (obObj o C cap)) (obObj o C cap)).mono hb0.size)
  have h0 := heap_alloc_new w (obObj o C cap)
  have h0' := alloc_keeps h0 (obObj o C cap)
  have h1 := heap_alloc_new (w.alloc (obObj o C cap)) (obObj o C cap)
  rw [show (w.alloc (obObj o C cap)).heap.size = w.heap.size + 1 by simp] at h1
  have hfew := Few_any ⟨[o], [], 0⟩ (some ⟨w.heap.size + 1, 0, none⟩) none 1 0 ((w.alloc (obObj o C cap)).alloc (obObj o C cap)) ⟨rdO_one h1 (hR.below hb1), fun k g hk => by simp at hk⟩
  have hfew : Calls Tryd.prog 11 #[.agg #[.slice (some ⟨w.heap.size + 1, 0, none⟩) 1 1, .slice none 0 0, .int .i64 0]] ((w.alloc (obObj o C cap)).alloc (obObj o C cap)) fun e w' => Tru (FewM ⟨[o], [], 0⟩) e ∧ Below ((w.alloc (obObj o C cap)).alloc (obObj o C cap)).heap.size ((w.alloc (obObj o C cap)).alloc (obObj o C cap)) w' := hfew
  simp only [obObj, hn] at hb1 h0 h0' hfew
  simp only [obAgg, hn]
  have HN := Lib.hid hn
  have HL := Lib.hid hl
  have HR := Lib.hid hR
  have HB1 := Lib.hid hb1
  have HO1 := Lib.hid h0'
  obtain ⟨c0, c1, c2, c3⟩ := ob_cells4' h0
  clear hT hb0 hb1 h0 h0' h1 hl hR hn
  go_enter Tryd.func9, Tryd.ntmps9
  go_wp2_with fail
  refine hfew.mono ?_
  rintro e w1 ⟨⟨ok, rfl, hok⟩, hb2⟩
  have HB2 := Lib.hid (HB1.out.trans (hb2.mono HB1.out.size))
  have HO2 := Lib.hid (keepB hb2 HO1.out)
  have HOK := Lib.hid hok
  have hT2 := HT.out.below HB2.out
  clear hfew hok hb2 c0 c1 c2 c3
  cases ok
  case false =>
    go_wp2_with fail
    refine (awake_any _ hT2).mono ?_
    rintro e w7 ⟨rfl, hb7⟩
    go_wp2
    go_returns
    exact ⟨rfl, HB2.out.trans (hb7.mono HB2.out.size)⟩
  have hfo : FewO o := (HOK.out.1 rfl).2.2 o (by simp)
  have hpl : rightO o = true → (printL o).length ≤ 1000000 := fun h => print_len h hfo.1 hfo.2.1 hfo.2.2
  have HPL := Lib.hid hpl
  have hpr := Print_any o C cap w1 hT2 HL.out (HR.out.below HB2.out) hpl
  obtain ⟨c0, c1, c2, c3⟩ := ob_cells4' HO2.out
  obtain ⟨rr, hrr⟩ : ∃ rr, rightO o = rr := ⟨_, rfl⟩
  obtain ⟨S, hS⟩ : ∃ S : ByteArray, (if rightO o then bA (printL o) else ⟨#[]⟩) = S := ⟨_, rfl⟩
  rw [hS] at hpr
  simp only [obAgg, HN.out] at hpr
  have HS := Lib.hid hS
  have HRR := Lib.hid hrr
  clear hfo hpl hrr hS
  go_wp2_with fail
  refine hpr.mono ?_
  rintro e w2 ⟨rfl, hb3⟩
  have HB3 := Lib.hid (HB2.out.trans (hb3.mono HB2.out.size))
  have HO3 := Lib.hid (keepB hb3 HO2.out)
  have hT3 := HT.out.below HB3.out
  have hro := RightObject_any o C cap w2 hT3 HL.out (HR.out.below HB3.out)
  rw [HRR.out] at hro
  simp only [obAgg, HN.out] at hro
  clear hpr hb3 c0 c1 c2 c3
  obtain ⟨c0, c1, c2, c3⟩ := ob_cells4' HO3.out
  go_wp2_with fail
  refine hro.mono ?_
  rintro e w3 ⟨rfl, hb4⟩
  have HB4 := Lib.hid (HB3.out.trans (hb4.mono HB3.out.size))
  have HO4 := Lib.hid (keepB hb4 HO3.out)
  have hT4 := HT.out.below HB4.out
  clear hro hb4 c0 c1 c2 c3
  cases rr
  case false =>
    have hS0 : S = ⟨#[]⟩ := by rw [← HS.out, HRR.out]; rfl
    clear HS
    subst hS0
    go_wp2_with fail
    refine (awake_any _ hT4).mono ?_
    rintro e w7 ⟨rfl, hb7⟩
    go_wp2
    go_returns
    exact ⟨rfl, HB4.out.trans (hb7.mono HB4.out.size)⟩
  have hSe : S = bA (printL o) := by rw [← HS.out, HRR.out]; rfl
  have hrd := Read_any S (by rw [hSe, bytes_len]; exact HPL.out HRR.out) w3 hT4
  rw [show readF S = (o, 0, 0) by rw [hSe]; exact print_read HRR.out] at hrd
  simp only [obAgg, HN.out] at hrd
  clear hSe HS
  go_wp2_with fail
  refine hrd.mono ?_
  rintro e w4 ⟨C2, cap2, rfl, hR2, hb5⟩
  have hb5a := Below.one w4 (.cells #[.string o.name, .int .i64 o.slots, .int .i64 o.frame, .slice C2 n cap2] 39 (0, 0))
  have hB5 := HB4.out.trans (hb5.mono HB4.out.size)
  have HB5 : Hid (Below w.heap.size w (w4.alloc (.cells #[.string o.name, .int .i64 o.slots, .int .i64 o.frame, .slice C2 n cap2] 39 (0, 0)))) := Lib.hid (hB5.trans (hb5a.mono hB5.size))
  have hO5 := alloc_keeps (keepB hb5 HO4.out) (.cells #[.string o.name, .int .i64 o.slots, .int .i64 o.frame, .slice C2 n cap2] 39 (0, 0))
  have hsm := Same_eq o C C2 cap cap2 (w4.alloc (.cells #[.string o.name, .int .i64 o.slots, .int .i64 o.frame, .slice C2 n cap2] 39 (0, 0))) (HR.out.below HB5.out) (hR2.below hb5a) HL.out
  simp only [obAgg, HN.out] at hsm
  obtain ⟨c0, c1, c2, c3⟩ := ob_cells4' hO5
  obtain ⟨d0, d1, d2, d3⟩ := ob_cells4' (heap_alloc_new w4 (.cells #[.string o.name, .int .i64 o.slots, .int .i64 o.frame, .slice C2 n cap2] 39 (0, 0)))
  clear hrd hb5 hb5a hB5 hO5 hR2
  go_wp2_with fail
  refine hsm.mono ?_
  rintro e w5 ⟨rfl, hb6⟩
  have HB6 := Lib.hid (HB5.out.trans (hb6.mono HB5.out.size))
  have hT6 := HT.out.below HB6.out
  clear hsm hb6 c0 c1 c2 c3 d0 d1 d2 d3
  go_wp2_with fail
  refine (awake_any _ hT6).mono ?_
  rintro e w7 ⟨rfl, hb7⟩
  go_wp2
  go_returns
  exact ⟨rfl, HB6.out.trans (hb7.mono HB6.out.size)⟩
end Go.Proofs.YtihbgppcacaekaaDoor
