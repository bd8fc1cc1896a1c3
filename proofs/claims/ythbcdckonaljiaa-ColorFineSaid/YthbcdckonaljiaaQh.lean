import Derived.Test.YthbcdckonaljiaaQg
namespace Go.Proofs.Ythbcdckonaljiaa
open Go.RowKit Go.BigFrame

theorem Mm.self {W1 W0 w : World} {sb N : Nat} {S : Sets} (h : Mm W1 W0 w sb N S) : Mm W1 w w sb N S :=
  ⟨⟨h.m.h, h.m.bx, h.m.b, fun _ _ _ => rfl, Nat.le_refl _, Nat.le_trans h.m.l h.m.z⟩, h.r⟩
theorem Mm.trans {W1 W0 w w' : World} {sb N : Nat} {S S' : Sets} (h : Mm W1 W0 w sb N S) (h' : Mm W1 w w' sb N S') : Mm W1 W0 w' sb N S' :=
  ⟨⟨h'.m.h, h'.m.bx, h'.m.b, fun r hr ho => (h'.m.k r (Nat.lt_of_lt_of_le hr h.m.z) ho).trans (h.m.k r hr ho), Nat.le_trans h.m.z h'.m.z, h.m.l⟩, h'.r⟩
theorem Mm.later {W1 W0 w w' : World} {sb N : Nat} {S : Sets} (h : Mm W1 W0 w sb N S) (hb : Below w.heap.size w w') : Mm W1 W0 w' sb N S := by
  have hl := h.m.l
  have hz := h.m.z
  exact ⟨⟨Pre.later h.m.h hb, (hb.block _ (by omega)).trans h.m.bx, h.m.b.trans (hb.mono (by omega)), fun r hr ho => (hb.block r (by omega)).trans (h.m.k r hr ho), Nat.le_trans hz hb.size, hl⟩, fun p hp => (h.r p hp).below hb (h.r p hp).lt⟩
theorem RowsC.mm {W1 w wr : World} {sb R ob N : Nat} {S S' : Sets} {P : Nat → Int → Prop} (h : RowsC w ob N P) (hm : Mm W1 w wr sb R S') (h0 : Mm W1 w w sb R S) : RowsC wr ob N P := ⟨Nat.lt_of_lt_of_le h.1 hm.m.z, fun p hp => by
  obtain ⟨A, l, cap, hc, h1, h2, h3⟩ := h.2 p hp
  exact ⟨A, l, cap, hm.cellk h0 hc, hm.rd h0 h1, h2, h3⟩⟩
theorem RdI.mm {W1 w wr : World} {sb R : Nat} {S S' : Sets} {C : Option Addr} {code : List Ins} (h : RdI w C code) (hm : Mm W1 w wr sb R S') (h0 : Mm W1 w w sb R S) : RdI wr C code := fun j i hi => by
  obtain ⟨b, o, e1, e2, e3⟩ := h j i hi
  refine ⟨b, o, e1, Nat.lt_of_lt_of_le e2 hm.m.z, fun k hk => ?_⟩
  have h4 := e3 k hk
  obtain ⟨v, hv⟩ : ∃ v, i.l[k]? = some v := ⟨_, List.getElem?_eq_getElem (by simpa [Ins.l] using hk)⟩
  rw [hv] at h4 ⊢
  exact hm.cellk h0 h4
def EdJ (i : Ins) (l : List Int) (p : Nat) (r : Int) : Prop := 0 ≤ i.sets ∧ (p : Int) ≠ r ∧ ((i.sets = p ∧ r ∈ l ∧ ¬ (i.kind = 4 ∧ r = i.a)) ∨ (i.sets = r ∧ (p : Int) ∈ l ∧ ¬ (i.kind = 4 ∧ (p : Int) = i.a)))
theorem EdJ.more {i : Ins} {l : List Int} {a y j : Nat} (hs : i.sets = (a : Int)) (hy : l[j]? = some (y : Int)) (p : Nat) (r : Int) : EdJ i (l.take (j + 1)) p r ↔ EdJ i (l.take j) p r ∨ (¬ (i.kind = 4 ∧ (y : Int) = i.a) ∧ a ≠ y ∧ ((p = a ∧ r = y) ∨ (p = y ∧ r = a))) := by
  unfold EdJ
  rw [take_more hy, hs]
  simp only [List.mem_append, List.mem_singleton]
  constructor
  · rintro ⟨h0, h1, ⟨h2, h3 | h3, h4⟩ | ⟨h2, h3 | h3, h4⟩⟩
    · exact Or.inl ⟨h0, h1, Or.inl ⟨h2, h3, h4⟩⟩
    · subst h3; exact Or.inr ⟨h4, by omega, Or.inl ⟨by omega, rfl⟩⟩
    · exact Or.inl ⟨h0, h1, Or.inr ⟨h2, h3, h4⟩⟩
    · rw [h3] at h4; exact Or.inr ⟨h4, by omega, Or.inr ⟨by omega, by omega⟩⟩
  · rintro (⟨h0, h1, ⟨h2, h3, h4⟩ | ⟨h2, h3, h4⟩⟩ | ⟨h4, h5, ⟨h2, h3⟩ | ⟨h2, h3⟩⟩)
    · exact ⟨h0, h1, Or.inl ⟨h2, Or.inl h3, h4⟩⟩
    · exact ⟨h0, h1, Or.inr ⟨h2, Or.inl h3, h4⟩⟩
    · subst h2; subst h3; exact ⟨by omega, by omega, Or.inl ⟨rfl, Or.inr rfl, h4⟩⟩
    · subst h2; subst h3; exact ⟨by omega, by omega, Or.inr ⟨rfl, Or.inr rfl, h4⟩⟩
def EdM (W1 w wr : World) (sb N : Nat) (S : Sets) (E : Nat → Int → Prop) (S' : Sets) : Prop := Mm W1 w wr sb N S' ∧ ∀ p r, S' p r = true ↔ S p r = true ∨ E p r
noncomputable def ml2 : Code := ((((Try.f19.body).map loopsOf).getD [])[1]?).getD .skip
noncomputable def ml4 : Code := ((loopsOf (inLoop ml2))[0]?).getD .skip
set_option maxRecDepth 1000000 in
set_option maxHeartbeats 16000000 in
theorem ml4_any (W1 w : World) (sb N pb ib a : Nat) (S : Sets) (i : Ins) (l : List Int) (A : Option Addr) (Ln cap : Nat) (hLn : l.length = Ln) (hLn2 : Ln ≤ 10000) (hin : ∀ x ∈ l, 0 ≤ x ∧ x < (N : Int)) (hR : RdN w A l)
    (hpb : w.cell? ⟨pb, 0, none⟩ = some (.func (.func 45) #[] #[.pointer (some ⟨sb + 1, 0, none⟩)])) (hib : w.heap[ib]? = some i.obj) (haN : a < N) (hs : i.sets = (a : Int)) (hm : Mm W1 w w sb N S)
    (x0 x1 x2 x3 x4 x6 x7 x10 x11 x12 x13 x14 x15 x16 x17 x18 x19 x20 x21 x22 x23 x24 x25 x26 x27 x28 x29 x30 x31 x32 x33 x34 x35 x36 x37 x38 x39 x40 x41 x42 x43 x44 x45 x46 x47 x48 x49 x50 x51 x52 x56 x57 x58 x59 x60 x61 x62 x63 x64 x65 x66 x67 x68 x69 x70 x71 x72 x73 x74 x75 x76 x77 x78 x79 x80 x81 x82 x83 x84 x85 x86 x87 x88 x89 x90 x91 x92 x93 x94 x95 x96 x97 x98 x99 x100 x101 x102 x103 x104 x105 x106 x107 x108 x109 x110 x111 x112 x113 x114 x115 x116 x117 x118 x119 x120 x121 x122 x123 x124 x125 x126 : Value) (Q : Exit → Act → World → Prop)
    (hQ : ∀ (y11 y55 y56 y57 y58 y59 y60 y61 y62 y63 y64 y65 y66 y67 y68 y69 y70 y71 y72 : Value) (w' : World) (S' : Sets), EdM W1 w w' sb N S (EdJ i l) S' → Q (.exit 4) ⟨(x0::x1::x2::x3::x4::.pointer (some ⟨pb, 0, none⟩)::x6::x7::.pointer (some ⟨ib, 0, none⟩)::.int .i64 (a : Int)::x10::y11::x12::x13::x14::x15::x16::x17::x18::x19::x20::x21::x22::x23::x24::x25::x26::x27::x28::x29::x30::x31::x32::x33::x34::x35::x36::x37::x38::x39::x40::x41::x42::x43::x44::x45::x46::x47::x48::x49::x50::x51::x52::.slice A Ln cap::.int .i64 (Ln : Int)::y55::y56::y57::y58::y59::y60::y61::y62::y63::y64::y65::y66::y67::y68::y69::y70::y71::y72::x73::x74::x75::x76::x77::x78::x79::x80::x81::x82::x83::x84::x85::x86::x87::x88::x89::x90::x91::x92::x93::x94::x95::x96::x97::x98::x99::x100::x101::x102::x103::x104::x105::x106::x107::x108::x109::x110::x111::x112::x113::x114::x115::x116::x117::x118::x119::x120::x121::x122::x123::x124::x125::x126::[]).toArray, []⟩ w') :
    Code.wp Try.prog ml4 Q ⟨(x0::x1::x2::x3::x4::.pointer (some ⟨pb, 0, none⟩)::x6::x7::.pointer (some ⟨ib, 0, none⟩)::.int .i64 (a : Int)::x10::x11::x12::x13::x14::x15::x16::x17::x18::x19::x20::x21::x22::x23::x24::x25::x26::x27::x28::x29::x30::x31::x32::x33::x34::x35::x36::x37::x38::x39::x40::x41::x42::x43::x44::x45::x46::x47::x48::x49::x50::x51::x52::.slice A Ln cap::.int .i64 (Ln : Int)::.int .i64 (0)::x56::x57::x58::x59::x60::x61::x62::x63::x64::x65::x66::x67::x68::x69::x70::x71::x72::x73::x74::x75::x76::x77::x78::x79::x80::x81::x82::x83::x84::x85::x86::x87::x88::x89::x90::x91::x92::x93::x94::x95::x96::x97::x98::x99::x100::x101::x102::x103::x104::x105::x106::x107::x108::x109::x110::x111::x112::x113::x114::x115::x116::x117::x118::x119::x120::x121::x122::x123::x124::x125::x126::[]).toArray, []⟩ w := by
  conv => arg 2; whnf
  have HQ := Lib.hid hQ
  have HM := Lib.hid hm
  have HR := Lib.hid hR
  have HPB := Lib.hid hpb
  have HI := Lib.hid hin
  have HLN := Lib.hid hLn
  have HS := Lib.hid hs
  have i0 : w.cell? ⟨ib, 0, none⟩ = some (.int .i64 i.kind) := cell_of_heap hib 0 _ rfl
  have i3 : w.cell? ⟨ib, 3, none⟩ = some (.int .i64 i.a) := cell_of_heap hib 3 _ rfl
  have HI0 := Lib.hid i0
  have HI3 := Lib.hid i3
  clear hQ hm hR hpb hin hLn hs hib i0 i3
  go_loopw [55] (fun ix wr => ∃ (j : Nat) (S' : Sets), j ≤ Ln ∧ ix = .int .i64 j ∧ EdM W1 w wr sb N S (EdJ i (l.take j)) S') (fun ix _ => Ln - (intOf ix).toNat)
  case atStart => exact ⟨0, S, by omega, rfl, HM.out, fun p r => ⟨Or.inl, fun h => h.elim id fun h => by unfold EdJ at h; simp at h⟩⟩
  case round =>
    obtain ⟨j, S', hj, rfl, ht⟩ := hrel
    have HT := Lib.hid ht
    by_cases hlt : j < Ln
    · have hji : (j : Int) < Ln := by omega
      obtain ⟨x, hx⟩ : ∃ x, l[j]? = some x := ⟨_, List.getElem?_eq_getElem (by rw [HLN.out]; exact hlt)⟩
      have hxb := HI.out x (List.mem_of_getElem? hx)
      obtain ⟨y, rfl⟩ : ∃ y : Nat, x = y := ⟨x.toNat, by omega⟩
      have hyN : y < N := by omega
      obtain ⟨b, o, rfl, hbl, hc⟩ := (ht.1.rd HM.out HR.out) j _ hx
      have c0 := ht.1.cellk HM.out HI0.out
      have c3 := ht.1.cellk HM.out HI3.out
      have hpc := ht.1.cellk HM.out HPB.out
      have HPR := Lib.hid (pair_any W1 w sb N a y S' haN hyN wr ht.1)
      have HE : Hid (¬ (i.kind = 4 ∧ (y : Int) = i.a) → ∀ w', Mm W1 w w' sb N (prS S' a y) → EdM W1 w w' sb N S (EdJ i (l.take (j + 1))) (prS S' a y)) := Lib.hid fun hn w' h => ⟨h, fun p r => by
        rw [prS_iff, HT.out.2, EdJ.more HS.out hx, or_assoc]
        constructor
        · rintro (h | h | h)
          · exact Or.inl h
          · exact Or.inr (Or.inl h)
          · exact Or.inr (Or.inr ⟨hn, h⟩)
        · rintro (h | h | h)
          · exact Or.inl h
          · exact Or.inr (Or.inl h)
          · exact Or.inr (Or.inr h.2)⟩
      have HN : Hid ((i.kind = 4 ∧ (y : Int) = i.a) → EdM W1 w wr sb N S (EdJ i (l.take (j + 1))) S') := Lib.hid fun hn => ⟨HT.out.1, fun p r => by
        rw [HT.out.2, EdJ.more HS.out hx]
        constructor
        · rintro (h | h)
          · exact Or.inl h
          · exact Or.inr (Or.inl h)
        · rintro (h | h | h)
          · exact Or.inl h
          · exact Or.inr h
          · exact absurd hn h.1⟩
      have HLT := Lib.hid hlt
      obtain ⟨kd, hkd⟩ : ∃ kd, i.kind = kd := ⟨_, rfl⟩
      obtain ⟨ia, hia⟩ : ∃ ia, i.a = ia := ⟨_, rfl⟩
      rw [hkd] at c0
      rw [hia] at c3
      rw [hkd, hia] at HE HN
      clear ht hxb hx hlt hj hkd hia
      by_cases h4 : kd = 4
      · by_cases hya : (y : Int) = ia
        · have HN2 := Lib.hid (HN.out ⟨h4, hya⟩)
          have hye : ((y : Int) == ia) = true := by rw [beq_iff_eq]; exact hya
          subst h4
          subst hya
          go_wp2
          have := HLT.out
          exact ⟨⟨j + 1, S', by omega, by go_num, HN2.out⟩, by simp [intOf]; omega⟩
        · have HE2 := Lib.hid (HE.out fun h => hya h.2)
          have hye : ((y : Int) == ia) = false := by rw [beq_eq_false_iff_ne]; exact hya
          subst h4
          go_wp2_with (go_at_call 45; refine HPR.out.mono ?_; rintro e w3 ⟨rfl, hm3⟩; have HM3 := Lib.hid (HE2.out w3 hm3); clear hm3)
          have := HLT.out
          exact ⟨⟨j + 1, _, by omega, by go_num, HM3.out⟩, by simp [intOf]; omega⟩
      · have HE2 := Lib.hid (HE.out fun h => h4 h.1)
        have h4b : (kd == 4) = false := by rw [beq_eq_false_iff_ne]; exact h4
        go_wp2_with (go_at_call 45; refine HPR.out.mono ?_; rintro e w3 ⟨rfl, hm3⟩; have HM3 := Lib.hid (HE2.out w3 hm3); clear hm3)
        have := HLT.out
        exact ⟨⟨j + 1, _, by omega, by go_num, HM3.out⟩, by simp [intOf]; omega⟩
    · obtain rfl : j = Ln := by omega
      have hji : ¬ (j : Int) < (j : Int) := by omega
      have HE : Hid (EdM W1 w wr sb N S (EdJ i l) S') := Lib.hid (by rw [List.take_of_length_le (by rw [HLN.out]; exact Nat.le_refl _)] at ht; exact ht)
      clear ht hlt hj
      go_wp2
      exact HQ.out _ _ _ _ _ _ _ _ _ _ _ _ _ _ _ _ _ _ _ wr S' HE.out
def EdB (f : Fn7) (q : Nat) (i : Ins) (p : Nat) (r : Int) : Prop := 0 ≤ i.sets ∧ (p : Int) ≠ r ∧ ((i.sets = p ∧ Bh f.code q r ∧ ¬ (i.kind = 4 ∧ r = i.a)) ∨ (i.sets = r ∧ Bh f.code q (p : Int) ∧ ¬ (i.kind = 4 ∧ (p : Int) = i.a)))
def EdK (f : Fn7) (k : Nat) (p : Nat) (r : Int) : Prop := ∃ q i, q < k ∧ f.code[q]? = some i ∧ EdB f q i p r
theorem EdK.more {f : Fn7} {k : Nat} {i : Ins} (hi : f.code[k]? = some i) (p : Nat) (r : Int) : EdK f (k + 1) p r ↔ EdK f k p r ∨ EdB f k i p r := by
  constructor
  · rintro ⟨q, j, h1, h2, h3⟩
    by_cases hq : q = k
    · subst hq
      rw [hi] at h2
      injection h2 with h2
      subst h2
      exact Or.inr h3
    · exact Or.inl ⟨q, j, by omega, h2, h3⟩
  · rintro (⟨q, j, h1, h2, h3⟩ | h)
    · exact ⟨q, j, by omega, h2, h3⟩
    · exact ⟨k, i, by omega, hi, h⟩
theorem EdJ.b {f : Fn7} {q : Nat} {i : Ins} {l : List Int} (h : ∀ x, x ∈ l ↔ Bh f.code q x) (p : Nat) (r : Int) : EdJ i l p r ↔ EdB f q i p r := by
  unfold EdJ EdB
  rw [h, h]
open Go.RowKit Go.BigFrame

set_option maxRecDepth 1000000 in
set_option maxHeartbeats 16000000 in
theorem ml2_any (f : Fn7) (hf : OkF f) (W1 w : World) (sb N pb ob M B c0 : Nat) (C : Option Addr) (S : Sets) (hM : f.code.length = M) (hN : f.R.toNat = N) (hpb : w.cell? ⟨pb, 0, none⟩ = some (.func (.func 45) #[] #[.pointer (some ⟨sb + 1, 0, none⟩)]))
    (hRC : RowsC w ob M (Bh f.code)) (hC : RdI w C f.code) (hm : Mm W1 w w sb N S)
    (x0 x2 x3 x4 x7 x8 x9 x10 x11 x12 x13 x14 x15 x16 x17 x18 x19 x20 x21 x22 x23 x24 x25 x26 x27 x28 x29 x30 x31 x32 x33 x34 x35 x36 x37 x38 x42 x43 x44 x45 x46 x47 x48 x49 x50 x51 x52 x53 x54 x55 x56 x57 x58 x59 x60 x61 x62 x63 x64 x65 x66 x67 x68 x69 x70 x71 x72 x73 x74 x75 x76 x77 x78 x79 x80 x81 x82 x83 x84 x85 x86 x87 x88 x89 x90 x91 x92 x93 x94 x95 x96 x97 x98 x99 x100 x101 x102 x103 x104 x105 x106 x107 x108 x109 x110 x111 x112 x113 x114 x115 x116 x117 x118 x119 x120 x121 x122 x123 x124 x125 x126 : Value) (Q : Exit → Act → World → Prop)
    (hQ : ∀ (y7 y8 y9 y11 y41 y42 y43 y44 y45 y46 y47 y48 y49 y50 y51 y52 y53 y54 y55 y56 y57 y58 y59 y60 y61 y62 y63 y64 y65 y66 y67 y68 y69 y70 y71 y72 y73 : Value) (w' : World) (S' : Sets), EdM W1 w w' sb N S (EdK f M) S' → Q (.exit 2) ⟨(x0::.pointer (some ⟨B, 0, none⟩)::x2::x3::x4::.pointer (some ⟨pb, 0, none⟩)::.slice (some ⟨ob, 0, none⟩) M M::y7::y8::y9::x10::y11::x12::x13::x14::x15::x16::x17::x18::x19::x20::x21::x22::x23::x24::x25::x26::x27::x28::x29::x30::x31::x32::x33::x34::x35::x36::x37::x38::.slice C M c0::.int .i64 (M : Int)::y41::y42::y43::y44::y45::y46::y47::y48::y49::y50::y51::y52::y53::y54::y55::y56::y57::y58::y59::y60::y61::y62::y63::y64::y65::y66::y67::y68::y69::y70::y71::y72::y73::x74::x75::x76::x77::x78::x79::x80::x81::x82::x83::x84::x85::x86::x87::x88::x89::x90::x91::x92::x93::x94::x95::x96::x97::x98::x99::x100::x101::x102::x103::x104::x105::x106::x107::x108::x109::x110::x111::x112::x113::x114::x115::x116::x117::x118::x119::x120::x121::x122::x123::x124::x125::x126::[]).toArray, []⟩ w') :
    Code.wp Try.prog ml2 Q ⟨(x0::.pointer (some ⟨B, 0, none⟩)::x2::x3::x4::.pointer (some ⟨pb, 0, none⟩)::.slice (some ⟨ob, 0, none⟩) M M::x7::x8::x9::x10::x11::x12::x13::x14::x15::x16::x17::x18::x19::x20::x21::x22::x23::x24::x25::x26::x27::x28::x29::x30::x31::x32::x33::x34::x35::x36::x37::x38::.slice C M c0::.int .i64 (M : Int)::.int .i64 (0)::x42::x43::x44::x45::x46::x47::x48::x49::x50::x51::x52::x53::x54::x55::x56::x57::x58::x59::x60::x61::x62::x63::x64::x65::x66::x67::x68::x69::x70::x71::x72::x73::x74::x75::x76::x77::x78::x79::x80::x81::x82::x83::x84::x85::x86::x87::x88::x89::x90::x91::x92::x93::x94::x95::x96::x97::x98::x99::x100::x101::x102::x103::x104::x105::x106::x107::x108::x109::x110::x111::x112::x113::x114::x115::x116::x117::x118::x119::x120::x121::x122::x123::x124::x125::x126::[]).toArray, []⟩ w := by
  conv => arg 2; whnf
  have HQ := Lib.hid hQ
  have HM := Lib.hid hm
  have HPB := Lib.hid hpb
  have HRC := Lib.hid hRC
  have HC := Lib.hid hC
  have HF := Lib.hid hf
  have HMM := Lib.hid hM
  have HN := Lib.hid hN
  have hM2 : M ≤ 8192 := by rw [← hM]; exact hf.len.2
  have hN2 : N ≤ 4096 := by have := hf.R; omega
  clear hQ hm hpb hRC hC hf hM hN
  go_loopw [41] (fun ix wr => ∃ (k : Nat) (S' : Sets), k ≤ M ∧ ix = .int .i64 k ∧ EdM W1 w wr sb N S (EdK f k) S') (fun ix _ => M - (intOf ix).toNat)
  case atStart => exact ⟨0, S, by omega, rfl, HM.out, fun p r => ⟨Or.inl, fun h => h.elim id fun ⟨q, i, h, _⟩ => absurd h (Nat.not_lt_zero _)⟩⟩
  case round =>
    obtain ⟨k, S', hk, rfl, ht⟩ := hrel
    have HT := Lib.hid ht
    by_cases hlt : k < M
    · have hki : (k : Int) < M := by omega
      obtain ⟨i, hi⟩ : ∃ i, f.code[k]? = some i := ⟨_, List.getElem?_eq_getElem (by rw [HMM.out]; exact hlt)⟩
      obtain ⟨bb, oo, he, hbl, hcs⟩ := (HC.out.mm ht.1 HM.out) k i hi
      subst he
      obtain ⟨x0, x1, x2, x3, x4, x5, x6, x7, x8, x9, x10, x11, x12, x13, x14⟩ := RdI.load hcs
      have kx := heap_alloc_new wr i.obj
      have hOk := HF.out.ok i (List.mem_of_getElem? hi)
      have hS := fun W => Sets_any i W
      have HSB : Hid (0 ≤ i.sets → i.sets < (N : Int)) := Lib.hid fun hs0 => by
        have hR := HN.out
        unfold Ins.sets at hs0 ⊢
        cases hkk : kS i.kind with
        | false => rw [hkk] at hs0; simp at hs0
        | true =>
          rw [hkk] at hs0
          have := hOk.dst hkk
          simp only [if_true] at hs0 ⊢
          omega
      have HII := Lib.hid hi
      have hrc := HRC.out.mm ht.1 HM.out
      have hpc := ht.1.cellk HM.out HPB.out
      have hpl : pb < wr.heap.size := by
        unfold World.cell? at hpc
        cases hb : wr.heap[pb]? with
        | none => rw [hb] at hpc; cases hpc
        | some _ => exact (Array.getElem?_eq_some_iff.1 hb).1
      have HRC2 := Lib.hid hrc
      have HPC := Lib.hid hpc
      obtain ⟨s, hss⟩ : ∃ s, i.sets = s := ⟨_, rfl⟩
      rw [hss] at hS HSB
      have HSS := Lib.hid hss
      have HB0 := Lib.hid (Below.one wr i.obj)
      obtain ⟨kk, op, dst, a, b', n, text, r0, r1, r2, r3, r4, r5, to_, els⟩ := i
      simp only [Ins.obj, Ins.agg] at kx hS HB0
      simp only at x0 x1 x2 x3 x4 x5 x6 x7 x8 x9 x10 x11 x12 x13 x14
      have KX := Lib.hid kx
      have HS := Lib.hid hS
      have HLT := Lib.hid hlt
      clear hlt hk ht hi hcs kx hOk hS hss hrc hpc
      by_cases hs0 : 0 ≤ s
      · obtain ⟨a9, rfl⟩ : ∃ a9 : Nat, s = a9 := ⟨s.toNat, by omega⟩
        have ha9 : a9 < N := by have := HSB.out hs0; omega
        have hs1 : ¬ (a9 : Int) < 0 := by omega
        clear hs0
        go_wp2_with (first
          | (show wpList Try.prog _ _ (⟨some 46, _, _, _, _, _⟩::_) _ _; refine wpList_load_row rfl 31 (.tmp 8) rfl wr.heap.size rfl 31 _ (0, 0) _ KX.out vIns rfl sIns ?_)
          | (go_at_call 31; refine (HS.out _).mono ?_; rintro e w4 ⟨rfl, hb4⟩; have HB4 := Lib.hid (HB0.out.trans (hb4.mono HB0.out.size)); have KX4 := Lib.hid ((hb4.block wr.heap.size (by simp)).trans KX.out); have hrc4 := HRC2.out.below HB4.out; obtain ⟨A, l, cap, hc, hrd, hpw, hmem⟩ := hrc4.2 k HLT.out; have hin : ∀ x ∈ l, 0 ≤ x ∧ x < (N : Int) := fun x hx => (by have := ((hmem x).1 hx).bd HF.out; rw [HN.out] at this; exact this); have hll := up_len hpw hin; obtain ⟨Ln, hLn⟩ : ∃ Ln, l.length = Ln := ⟨_, rfl⟩; rw [hLn] at hc hll; have HLn := Lib.hid hLn; have HIN := Lib.hid hin; have HRD := Lib.hid hrd; have HME := Lib.hid hmem; clear hb4 hrc4 hrd hpw hmem hin hLn))
        have hm4 := HT.out.1.later HB4.out
        refine ml4_any W1 w4 sb N pb wr.heap.size a9 S' ⟨kk, op, dst, a, b', n, text, r0, r1, r2, r3, r4, r5, to_, els⟩ l A Ln cap HLn.out (by omega) HIN.out HRD.out ((HB4.out.cell (p := ⟨pb, 0, none⟩) hpl).trans HPC.out) KX4.out ha9 HSS.out hm4.self _ _ _ _ _ _ _ _ _ _ _ _ _ _ _ _ _ _ _ _ _ _ _ _ _ _ _ _ _ _ _ _ _ _ _ _ _ _ _ _ _ _ _ _ _ _ _ _ _ _ _ _ _ _ _ _ _ _ _ _ _ _ _ _ _ _ _ _ _ _ _ _ _ _ _ _ _ _ _ _ _ _ _ _ _ _ _ _ _ _ _ _ _ _ _ _ _ _ _ _ _ _ _ _ _ _ _ _ _ _ _ _ _ _ _ _ _ _ _ _ _ _ ?_
        intro v11 v55 v56 v57 v58 v59 v60 v61 v62 v63 v64 v65 v66 v67 v68 v69 v70 v71 v72 w6 S6 ht6
        have HT6 : Hid (EdM W1 w w6 sb N S (EdK f (k + 1)) S6) := Lib.hid ⟨hm4.trans ht6.1, fun p r => by
          rw [ht6.2, HT.out.2, EdJ.b HME.out, EdK.more HII.out, or_assoc]⟩
        clear ht6 hm4
        go_wp2
        have := HLT.out
        exact ⟨⟨k + 1, S6, by omega, by go_num, HT6.out⟩, by simp [intOf]; omega⟩
      · have hs1 : s < 0 := by omega
        have HE : Hid (∀ w', Below wr.heap.size wr w' → EdM W1 w w' sb N S (EdK f (k + 1)) S') := Lib.hid fun w' hb => ⟨HT.out.1.later hb, fun p r => by
          rw [HT.out.2, EdK.more HII.out]
          constructor
          · rintro (h | h)
            · exact Or.inl h
            · exact Or.inr (Or.inl h)
          · rintro (h | h | h)
            · exact Or.inl h
            · exact Or.inr h
            · exact absurd h.1 (by rw [HSS.out]; exact hs0)⟩
        clear hs0
        go_wp2_with (first
          | (show wpList Try.prog _ _ (⟨some 46, _, _, _, _, _⟩::_) _ _; refine wpList_load_row rfl 31 (.tmp 8) rfl wr.heap.size rfl 31 _ (0, 0) _ KX.out vIns rfl sIns ?_)
          | (go_at_call 31; refine (HS.out _).mono ?_; rintro e w4 ⟨rfl, hb4⟩; have HB4 := Lib.hid (HB0.out.trans (hb4.mono HB0.out.size)); clear hb4))
        have := HLT.out
        exact ⟨⟨k + 1, S', by omega, by go_num, HE.out _ HB4.out⟩, by simp [intOf]; omega⟩
    · obtain rfl : k = M := by omega
      have hki : ¬ (k : Int) < (k : Int) := by omega
      clear ht hlt hk
      go_wp2
      exact HQ.out _ _ _ _ _ _ _ _ _ _ _ _ _ _ _ _ _ _ _ _ _ _ _ _ _ _ _ _ _ _ _ _ _ _ _ _ _ wr S' HT.out
open Go.RowKit Go.BigFrame

def RowsM (w : World) (ob N k : Nat) (P : Nat → Int → Prop) : Prop := RowsK w ob N k P ∧ ∀ j, k ≤ j → j < N → w.cell? ⟨ob, j, none⟩ = some (.slice none 0 0)
theorem RowsK.heap {w : World} {ob N k : Nat} {P : Nat → Int → Prop} (h : RowsK w ob N k P) : ∃ cs, w.heap[ob]? = some (.cells cs 45 (0, 0)) := by
  obtain ⟨vs, _, ⟨cs, h1, _⟩, _⟩ := h
  exact ⟨cs, h1⟩
theorem RowsM.turn {w w' : World} {ob N k : Nat} {P : Nat → Int → Prop} (h : RowsM w ob N k P) (hk : k < N) {v : Value} (hb : Below w.heap.size (w.setCell ⟨ob, k, none⟩ v) w') (hv : RowV w' v (P k)) : RowsM w' ob N (k + 1) P := by
  have hz : (w.setCell ⟨ob, k, none⟩ v).heap.size = w.heap.size := by simp
  have hob := h.1.lt
  obtain ⟨⟨A, n, c, hc⟩, _⟩ := h.1.cell hk
  obtain ⟨⟨vs, h1, h2, h3, h4⟩, hnil⟩ := h
  have hst : ∀ {u : Value} {Q : Int → Prop}, RowV w u Q → RowV w' u Q := fun ⟨A', l, c', e1, e2, e3⟩ => ⟨A', l, c', e1, (e2.store_other hc (fun n h => by cases h) v).below (by rw [hz]; exact hb), e3⟩
  refine ⟨⟨vs.set k v, by simp [h1], Pre.later (Pre1.set h2 (by omega) v) (by rw [hz]; exact hb), fun j u hu => ?_, fun j hj => ?_⟩, fun j hj hjN => ?_⟩
  · rw [List.getElem?_set] at hu
    split at hu
    · rename_i e
      subst e
      rw [if_pos (by omega)] at hu
      injection hu with hu
      subst hu
      obtain ⟨A', l, c', e1, _⟩ := hv
      exact ⟨A', _, c', e1⟩
    · exact h3 j u hu
  · by_cases e : j = k
    · subst e
      exact ⟨v, by rw [List.getElem?_set_self (by omega)], hv⟩
    · obtain ⟨u, h5, h6⟩ := h4 j (by omega)
      exact ⟨u, by rw [List.getElem?_set_ne (by omega)]; exact h5, hst h6⟩
  · have := hnil j (by omega) hjN
    rw [← this]
    rw [hb.cell (p := ⟨ob, j, none⟩) hob]
    rw [World.cell?_setCell_other]
    intro e
    injection e with _ e2
    omega
theorem bq_store {base : Nat} {w w4 : World} {qb k : Nat} {V V' : Value} {cs : Array Value} {t : TypeId} {fz : Nat × Nat} (h : Below base (w.setCell ⟨qb, k, none⟩ V) w4) (hq : w.heap[qb]? = some (.cells cs t fz)) (hqb : qb < base) : Below base (w.setCell ⟨qb, k, none⟩ V') (w4.setCell ⟨qb, k, none⟩ V') := by
  refine ⟨h.os, h.tape, h.output, by have := h.size; simpa using this, fun r hr => ?_⟩
  by_cases hrq : r = qb
  · subst hrq
    have h1 := (h.block r hr).trans (heap_setCell hq V)
    rw [heap_setCell h1, heap_setCell hq]
    congr 2
    simp
  · rw [heap_setCell_other w4 ⟨qb, k, none⟩ r _ hrq, heap_setCell_other w ⟨qb, k, none⟩ r _ hrq, h.block r hr]
    exact heap_setCell_other w ⟨qb, k, none⟩ r _ hrq
theorem bq_start {w : World} {qb k : Nat} {V : Value} {cs : Array Value} {t : TypeId} {fz : Nat × Nat} (hq : w.heap[qb]? = some (.cells cs t fz)) (hc : w.cell? ⟨qb, k, none⟩ = some V) (o : Obj) : Below w.heap.size (w.setCell ⟨qb, k, none⟩ V) (w.alloc o) := by
  have hb := Below.one w o
  refine ⟨hb.os, hb.tape, hb.output, by simp, fun r hr => ?_⟩
  rw [hb.block r hr]
  by_cases hrq : r = qb
  · subst hrq
    rw [heap_setCell hq, hq]
    have : cs[k]? = some V := by simpa [World.cell?, hq] using hc
    congr 2
    obtain ⟨hl, he⟩ := Array.getElem?_eq_some_iff.1 this
    apply Array.ext
    · simp
    · intro i h1 h2
      rw [Array.getElem_setIfInBounds]
      split
      · rename_i e; subst e; exact he
      · rfl
  · exact (heap_setCell_other w ⟨qb, k, none⟩ r _ hrq).symm
def RwG (w : World) (sb qb k N : Nat) (S : Int → Bool) (g : Nat) (wx : World) : Prop :=
  ∃ (lst acc : List Int) (A : Option Addr) (c : Nat), g = lst.length ∧ RgD wx w.heap.size (sb + 2 + k) S lst ∧ Below w.heap.size (w.setCell ⟨qb, k, none⟩ (.slice A acc.length c)) wx ∧ OwnN wx (.slice A acc.length c) acc ∧ (∀ b, (Value.slice A acc.length c).ownBlock = some b → w.heap.size < b) ∧ acc.Nodup ∧ (∀ x, x ∈ acc ↔ S x = true ∧ x ∉ lst) ∧ acc.length + lst.length ≤ N
noncomputable def ml8 : Code := ((((Try.f19.body).map loopsOf).getD [])[3]?).getD .skip
set_option maxRecDepth 1000000 in
set_option maxHeartbeats 16000000 in
theorem ml8_any (w : World) (sb N qb : Nat) (S : Sets) (hN : N ≤ 5000) (hm : Pre g1 1 73 w sb ((List.range N).map fun p => .map (some (sb + 2 + p)))) (hS : ∀ p, p < N → SetI w (sb + 2 + p) (S p)) (hbd : ∀ p, p < N → ∀ x, S p x = true → 0 ≤ x ∧ x < (N : Int)) (hqb : sb + 2 + N ≤ qb) (hQB : RowsM w qb N 0 (fun p x => S p x = true))
    (x0 x1 x2 x3 x4 x5 x6 x7 x8 x9 x10 x11 x12 x13 x14 x16 x17 x18 x19 x20 x21 x22 x23 x24 x25 x26 x27 x28 x29 x30 x31 x32 x33 x34 x35 x36 x37 x38 x39 x40 x41 x42 x43 x44 x45 x46 x47 x48 x49 x50 x51 x52 x53 x54 x55 x56 x57 x58 x59 x60 x61 x62 x63 x64 x65 x66 x67 x68 x69 x70 x71 x72 x73 x74 x75 x76 x77 x78 x79 x80 x81 x82 x83 x84 x85 x86 x87 x88 x89 x90 x91 x92 x93 x94 x95 x96 x100 x101 x102 x103 x104 x105 x106 x107 x108 x109 x110 x111 x112 x113 x114 x115 x116 x117 x118 x119 x120 x121 x122 x123 x124 x125 x126 : Value) (Q : Exit → Act → World → Prop)
    (hQ : ∀ (y16 y17 y18 y99 y100 y101 y102 y103 y104 y105 y106 y107 y108 y109 y110 y111 y112 y113 y114 y115 y116 y117 y118 y119 y120 y121 y122 y123 y124 y125 : Value) (w' : World), RowsK w' qb N N (fun p x => S p x = true) → Below qb w w' → Q (.exit 8) ⟨(x0::x1::x2::x3::x4::x5::x6::x7::x8::x9::x10::x11::x12::x13::x14::.slice (some ⟨qb, 0, none⟩) N N::y16::y17::y18::x19::x20::x21::x22::x23::x24::x25::x26::x27::x28::x29::x30::x31::x32::x33::x34::x35::x36::x37::x38::x39::x40::x41::x42::x43::x44::x45::x46::x47::x48::x49::x50::x51::x52::x53::x54::x55::x56::x57::x58::x59::x60::x61::x62::x63::x64::x65::x66::x67::x68::x69::x70::x71::x72::x73::x74::x75::x76::x77::x78::x79::x80::x81::x82::x83::x84::x85::x86::x87::x88::x89::x90::x91::x92::x93::x94::x95::x96::.slice (some ⟨sb, 0, none⟩) N N::.int .i64 (N : Int)::y99::y100::y101::y102::y103::y104::y105::y106::y107::y108::y109::y110::y111::y112::y113::y114::y115::y116::y117::y118::y119::y120::y121::y122::y123::y124::y125::x126::[]).toArray, []⟩ w') :
    Code.wp Try.prog ml8 Q ⟨(x0::x1::x2::x3::x4::x5::x6::x7::x8::x9::x10::x11::x12::x13::x14::.slice (some ⟨qb, 0, none⟩) N N::x16::x17::x18::x19::x20::x21::x22::x23::x24::x25::x26::x27::x28::x29::x30::x31::x32::x33::x34::x35::x36::x37::x38::x39::x40::x41::x42::x43::x44::x45::x46::x47::x48::x49::x50::x51::x52::x53::x54::x55::x56::x57::x58::x59::x60::x61::x62::x63::x64::x65::x66::x67::x68::x69::x70::x71::x72::x73::x74::x75::x76::x77::x78::x79::x80::x81::x82::x83::x84::x85::x86::x87::x88::x89::x90::x91::x92::x93::x94::x95::x96::.slice (some ⟨sb, 0, none⟩) N N::.int .i64 (N : Int)::.int .i64 (0)::x100::x101::x102::x103::x104::x105::x106::x107::x108::x109::x110::x111::x112::x113::x114::x115::x116::x117::x118::x119::x120::x121::x122::x123::x124::x125::x126::[]).toArray, []⟩ w := by
  conv => arg 2; whnf
  have HQ := Lib.hid hQ
  have HM := Lib.hid hm
  have HS := Lib.hid hS
  have HBD := Lib.hid hbd
  have H0 := Lib.hid hQB
  clear hQ hm hS hbd hQB
  go_loopw [99] (fun ix wr => ∃ k : Nat, k ≤ N ∧ ix = .int .i64 k ∧ RowsM wr qb N k (fun p x => S p x = true) ∧ Below qb w wr) (fun ix _ => N - (intOf ix).toNat)
  case atStart => exact ⟨0, by omega, rfl, H0.out, Below.refl _ _⟩
  case round =>
    obtain ⟨k, hk, rfl, hr, hb⟩ := hrel
    have HR := Lib.hid hr
    have HB := Lib.hid hb
    by_cases hlt : k < N
    · have hki : (k : Int) < N := by omega
      have hqs := hr.1.lt
      have c0 : wr.cell? ⟨sb, k, none⟩ = some (.map (some (sb + 2 + k))) := (hb.cell (p := ⟨sb, k, none⟩) (by simp only; omega)).trans (Pre1.cell HM.out (by simp [hlt]))
      have hs := (HS.out k hlt).below hb (by omega)
      have HSS := Lib.hid hs
      have HBD2 := Lib.hid (HBD.out k hlt)
      obtain ⟨cs, hcs⟩ := hr.1.heap
      have HCS := Lib.hid hcs
      have HNIL := Lib.hid (hr.2 k (Nat.le_refl _) hlt)
      have HLT := Lib.hid hlt
      clear hr hb hs hcs hlt hk
      go_wp2_with (first
        | (at_range; refine wpList_range_set _ rfl _ 73 rfl umap (sb + 2 + k) (S k) rfl HSS.out ?_; intro lst o' hrg hnd hall))
      go_frame
      have HST : Hid (RwG wr sb qb k N (S k) lst.length (wr.alloc o')) := Lib.hid ⟨lst, [], none, 0, rfl, hrg, bq_start HCS.out HNIL.out o', OwnN.nil _, (fun b hb => by simp [Value.ownBlock] at hb), List.nodup_nil, (fun x => ⟨fun h => (by simp at h), fun ⟨h1, h2⟩ => absurd ((hall x).2 h1) h2⟩), by
        have := nodup_le N lst hnd (fun x hx => HBD2.out x ((hall x).1 hx))
        simpa using this⟩
      clear hrg hnd hall c0
      obtain ⟨w8, rfl⟩ : ∃ w8 : World, w8 = wr := ⟨_, rfl⟩
      go_loopg [18] lst.length (fun g _ wx => RwG w8 sb qb k N (S k) g wx)
      case atStart => exact HST.out
      case round =>
        obtain ⟨lst', acc, A, c, hg, hrg, hbb, hown, hV, hnd, hmem, hlen⟩ := hrel
        have HG := Lib.hid hg
        have HRG := Lib.hid hrg
        have HOWN := Lib.hid hown
        have HV := Lib.hid hV
        have HND := Lib.hid hnd
        have HME := Lib.hid hmem
        have HBB := Lib.hid hbb
        have hsz : w8.heap.size ≤ wr.heap.size := by have := hbb.size; simpa using this
        have hacc : acc.length ≤ 5000 := by omega
        have HLE := Lib.hid hlen
        have cv : wr.cell? ⟨qb, k, none⟩ = some (.slice A acc.length c) := by
          rw [hbb.cell (p := ⟨qb, k, none⟩) hqs]
          have := heap_setCell HCS.out (.slice A acc.length c) (j := k)
          have hkc : k < cs.size := by
            have h1 := HNIL.out
            simp only [World.cell?, HCS.out] at h1
            exact (Array.getElem?_eq_some_iff.1 (by simpa using h1)).1
          exact cell_of_heap this k _ (by simp [hkc])
        clear hg hrg hown hV hnd hmem hbb hlen HST
        go_wp2_with (first
          | (at_next; refine wpList_next_set _ rfl _ rfl w8.heap.size (sb + 2 + k) (S k) lst' rfl HRG.out ?_ ?_))
        · intro hl
          have HL := Lib.hid hl
          clear hl
          have HSO := Lib.hid (sort_own w8.heap.size (w8.setCell ⟨qb, k, none⟩ (.slice A acc.length c)) wr HBB.out hsz (.slice A acc.length c) acc HOWN.out (fun b hb => Nat.le_of_lt (HV.out b hb)) (by omega))
          go_wp2_with (first
            | (go_at_call 49; refine HSO.out.mono ?_; rintro e w3 ⟨rfl, hb3, A3, c3, he3, hrd3⟩; injection he3 with he3 he4 he5; subst he3; subst he5; have HB3 := Lib.hid hb3; have HRD3 := Lib.hid hrd3; clear hb3 hrd3))
          have hlt := HLT.out
          have HRV : Hid (RowV w3 (.slice A acc.length c) (fun x => S k x = true)) := Lib.hid ⟨A, isort acc, c, by rw [isort_len], HRD3.out, isort_lt HND.out, fun x => by
            rw [isort_mem, HME.out, HL.out]
            simp⟩
          have HB9 : Hid (Below qb w w3) := Lib.hid (HB.out.trans (((Below.refl qb w8).setCell (p := ⟨qb, k, none⟩) (Nat.le_refl _) _).trans (HB3.out.mono (by omega))))
          exact ⟨⟨k + 1, by omega, by go_num, HR.out.turn hlt HB3.out HRV.out, HB9.out⟩, by simp [intOf]; omega⟩
        · intro s l' w2 hm hs hmem hlt hrg2 hg2 hz2 hen
          have hlr := HRG.out.lt
          have ho2 : OwnN w2 (.slice A acc.length c) acc := World.ownsRow.kept HOWN.out hg2 (Or.inr fun e => by have := HV.out _ e; omega)
          have hb2 : Below w8.heap.size (w8.setCell ⟨qb, k, none⟩ (.slice A acc.length c)) w2 := Below.grown HBB.out hg2 hsz (fun b hb => by injection hb; omega)
          have HO2 := Lib.hid (OwnN.alloc ho2 (.cells #[.int .i64 s] 3))
          have HG2 := Lib.hid (hrg2.below (Below.one w2 (.cells #[.int .i64 s] 3)))
          have hsz2 : w8.heap.size ≤ w2.heap.size := by omega
          have HB2 := Lib.hid (hb2.alloc (by simpa using hsz2) (.cells #[.int .i64 s] 3))
          have HX := Lib.hid (show s ∉ acc from fun h => ((HME.out s).1 h).2 hm)
          have HS2 := Lib.hid hs
          have HMM := Lib.hid hmem
          have HLTL := Lib.hid hlt
          have cv2 : w2.cell? ⟨qb, k, none⟩ = some (.slice A acc.length c) := by
            unfold World.cell? at cv ⊢
            rw [hg2.block qb (by omega) (fun e => by injection e; omega)]
            exact cv
          have hb2c := hb2.alloc (by simpa using hsz2) (.cells #[.int .i64 s] 3)
          have cv2 : (w2.alloc (.cells #[.int .i64 s] 3)).cell? ⟨qb, k, none⟩ = some (.slice A acc.length c) := ((Below.one w2 (.cells #[.int .i64 s] 3)).cell (p := ⟨qb, k, none⟩) (by simp only; omega)).trans cv2
          clear hm hs hmem hlt hrg2 hg2 hz2 ho2 hb2 cv
          have hal : acc.length ≤ 90000 := by omega
          have hqw2 : qb < w2.heap.size := by omega
          have HNE := Lib.hid (show (Value.slice A acc.length c).ownBlock ≠ some qb from fun e => by have := HV.out _ e; omega)
          go_wp2_with (first
            | (at_builtin; refine append_one rfl (.tmp 115) (.tmp 117) rfl (.slice A acc.length c) acc rfl HO2.out w2.heap.size s rfl (heap_alloc_new _ _) hal ?_; intro V4 w4 ho4 hg4 hb4; obtain ⟨acc4, hacc4⟩ : ∃ acc4, acc ++ [s] = acc4 := ⟨_, rfl⟩; rw [hacc4] at ho4; have HACC := Lib.hid hacc4; clear hacc4; have hBB4 := Below.grown HB2.out hg4 (by simp; omega) (fun b e => by have := HV.out b e; omega); have h4 := (hBB4.block qb hqs).trans (heap_setCell HCS.out (.slice A acc.length c)); have c4 : w4.cell? ⟨qb, k, none⟩ = some (.slice A acc.length c) := (hBB4.cell (p := ⟨qb, k, none⟩) hqs).trans (((hb2c.cell (p := ⟨qb, k, none⟩) hqs).symm).trans cv2); have f4 := free_of_heap h4 k; obtain ⟨A4, n4, hV4, hl4, hr4⟩ := ho4.form; subst hV4; have HO4 := Lib.hid ho4; have HG4 := Lib.hid hg4; have HB4 := Lib.hid hb4; have HBB4 := Lib.hid hBB4; clear ho4 hg4 hb4 hBB4 hl4 hr4 h4))
          go_roundg l'.length
          case measure => rw [HG.out]; exact HLTL.out
          case rel =>
            have hne : ∀ b, (Value.slice A acc.length c).ownBlock = some b → w8.heap.size < b := HV.out
            have hl2 := HG2.out.lt
            have hlb := HBB4.out.size
            have hfr : ∀ b, (Value.slice A4 acc4.length n4).ownBlock = some b → w8.heap.size < b := fun b hb => by
              rcases HB4.out with e | e
              · rw [e] at hb; exact hne b hb
              · rw [e] at hb; injection hb with hb; simp at hb; omega
            have ho : ∀ b, b ≠ qb → (w4.setCell ⟨qb, k, none⟩ (.slice A4 acc4.length n4)).heap[b]? = w4.heap[b]? := fun b hb => heap_setCell_other w4 ⟨qb, k, none⟩ b _ hb
            have hkk : ∀ x, x < (w2.alloc (.cells #[.int .i64 s] 3)).heap.size → x ≤ w8.heap.size → w4.heap[x]? = (w2.alloc (.cells #[.int .i64 s] 3)).heap[x]? := fun x h1 h2 => HG4.out.block x h1 (fun e => by have := hne x e.symm; omega)
            refine ⟨l', acc4, A4, n4, rfl, HG2.out.of_blocks ((ho _ (by omega)).trans (hkk _ hl2.1 (by omega))) ((ho _ (by omega)).trans (hkk _ hl2.2 (Nat.le_refl _))), bq_store HBB4.out HCS.out hqs, HO4.out.keepS fun b hb => ho b (fun e => by have := hfr b hb; omega), hfr, ?_, fun x => ?_, ?_⟩
            · rw [← HACC.out, List.nodup_append]
              exact ⟨HND.out, by simp, fun a ha b' hb' e => by
                simp only [List.mem_singleton] at hb'
                subst hb' e
                exact HX.out ha⟩
            · rw [← HACC.out, List.mem_append, List.mem_singleton, HME.out, HMM.out]
              constructor
              · rintro (⟨h1, h2⟩ | rfl)
                · exact ⟨h1, fun h => h2 h.1⟩
                · exact ⟨HS2.out, fun h => h.2 rfl⟩
              · rintro ⟨h1, h2⟩
                by_cases hxs : x = s
                · exact Or.inr hxs
                · exact Or.inl ⟨h1, fun h => h2 ⟨h, hxs⟩⟩
            · have h1 := HLTL.out
              have h2 := HLE.out
              rw [← HACC.out, List.length_append]
              simp
              omega
    · obtain rfl : k = N := by omega
      have hki : ¬ (k : Int) < (k : Int) := by omega
      clear hr hb hlt hk
      go_wp2
      exact HQ.out _ _ _ _ _ _ _ _ _ _ _ _ _ _ _ _ _ _ _ _ _ _ _ _ _ _ _ _ _ _ wr HR.out.1 HB.out
open Go.RowKit Go.BigFrame

def MeP (f : Fn7) (p : Nat) (r : Int) : Prop := EdK f f.code.length p r ∨ ((p : Int) ≠ r ∧ Lv f.code 0 (p : Int) ∧ Lv f.code 0 r) ∨ ((p : Int) ≠ r ∧ (p : Int) < f.ps ∧ 0 ≤ r ∧ r < f.ps)
theorem MeP.bd {f : Fn7} (hf : OkF f) {p : Nat} {r : Int} (h : MeP f p r) : 0 ≤ r ∧ r < (f.R.toNat : Int) := by
  have hR := hf.R
  have hps := hf.ps
  rcases h with ⟨q, i, _, hi, h0, _, ⟨_, h, _⟩ | ⟨h, _, _⟩⟩ | ⟨_, _, h⟩ | ⟨_, _, h1, h2⟩
  · exact h.bd hf
  · have hOk := hf.ok i (List.mem_of_getElem? hi)
    rw [← h]
    unfold Ins.sets at h0 ⊢
    cases hkk : kS i.kind with
    | false => rw [hkk] at h0; simp at h0
    | true =>
      rw [hkk] at h0
      have := hOk.dst hkk
      simp only [if_true] at h0 ⊢
      omega
  · have := (h.bound hf).1
    omega
  · omega
theorem Lpm.mm {W1 wr : World} {N : Nat} (h : Lpm W1 wr N N) : Mm W1 wr wr W1.heap.size N (fun _ _ => false) := by
  have h1 := h.h
  have hs := h.s
  rw [hdrm_all] at h1
  exact ⟨⟨h1, h.bx, h.b, fun _ _ _ => rfl, Nat.le_refl _, by omega⟩, h.r⟩
def fstL (k : Nat) : List Int := (List.range k).map fun n : Nat => (n : Int)
theorem fstL_more (k : Nat) : fstL (k + 1) = fstL k ++ [(k : Int)] := by simp [fstL, List.range_succ]
theorem fstL_mem {k : Nat} {x : Int} : x ∈ fstL k ↔ 0 ≤ x ∧ x < k := by
  unfold fstL
  rw [List.mem_map]
  constructor
  · rintro ⟨n, h, rfl⟩
    rw [List.mem_range] at h
    omega
  · rintro ⟨h1, h2⟩
    exact ⟨x.toNat, by rw [List.mem_range]; omega, by omega⟩
theorem Meet_no (f : Fn7) (hf : ¬ OkF f) (C : Option Addr) (cap : Nat) (w : World) (hC : RdI w C f.code) :
    Calls Try.prog 19 #[funcAgg f.nm f.ps f.R f.Fr C f.code.length cap] w fun e w' => e = .returned (.slice none 0 0) ∧ Below w.heap.size w w' := by
  have hB := Below.one w (funcObj f.nm f.ps f.R f.Fr C f.code.length cap)
  have bx := heap_alloc_new w (funcObj f.nm f.ps f.R f.Fr C f.code.length cap)
  have hR := Lib.hid (RightFunc_no f hf C cap _ (hC.below hB))
  simp only [funcObj, funcAgg] at hB bx hR ⊢
  clear hf hC
  go_enter Try.func19, Try.ntmps19
  go_wp2_with (first
    | (refine hR.out.mono ?_; rintro e w3 ⟨rfl, hb3⟩))
  go_returns
  exact ⟨rfl, hB.trans (hb3.mono hB.size)⟩
theorem RowsK.iff {w : World} {ob N k : Nat} {P P' : Nat → Int → Prop} (h : RowsK w ob N k P) (hp : ∀ p r, P p r ↔ P' p r) : RowsK w ob N k P' := by
  obtain ⟨vs, h1, h2, h3, h4⟩ := h
  refine ⟨vs, h1, h2, h3, fun j hj => ?_⟩
  obtain ⟨v, h5, A, l, cap, h6, h7, h8, h9⟩ := h4 j hj
  exact ⟨v, h5, A, l, cap, h6, h7, h8, fun x => (h9 x).trans (hp j x)⟩
theorem made_nil (W : World) {N j : Nat} (hj : j < N) : (W.alloc (.cells (madeCells #[.slice none 0 0] N) 45)).cell? ⟨W.heap.size, j, none⟩ = some (.slice none 0 0) := by
  have h := made_pre (g := g1) (d := 1) (t := 45) W #[.slice none 0 0] N (.slice none 0 0) rfl (fun k hk => by
    obtain rfl : k = 0 := by omega
    rfl)
  rw [Nat.mul_one] at h
  exact Pre1.cell h (by simp [hj])
def MeT (base R : Nat) (f : Fn7) (e : Ending) (w : World) : Prop := ∃ qb, e = .returned (.slice (some ⟨qb, 0, none⟩) R R) ∧ base ≤ qb ∧ RowsK w qb R R (MeP f)
set_option maxRecDepth 1000000 in
set_option maxHeartbeats 16000000 in
theorem Meet_yes (f : Fn7) (hf : OkF f) (C : Option Addr) (cap : Nat) (w : World) (hC : RdI w C f.code) :
    Calls Try.prog 19 #[funcAgg f.nm f.ps f.R f.Fr C f.code.length cap] w fun e w' => MeT w.heap.size f.R.toNat f e w' ∧ Below w.heap.size w w' := by
  obtain ⟨M, hM⟩ : ∃ M, f.code.length = M := ⟨_, rfl⟩
  obtain ⟨N, hRR⟩ : ∃ N, f.R.toNat = N := ⟨_, rfl⟩
  obtain ⟨P, hPP⟩ : ∃ P, f.ps.toNat = P := ⟨_, rfl⟩
  have hR0 : f.R = (N : Int) := by have := hf.R; have := hf.ps; omega
  have hP0 : f.ps = (P : Int) := by have := hf.ps; omega
  have hN2 : N ≤ 4096 := by have := hf.R; omega
  have hP2 : P ≤ 6 := by have := hf.ps; omega
  have hPN : P ≤ N := by have := hf.R; omega
  have hM2 : M ≤ 8192 := by rw [← hM]; exact hf.len.2
  have hM1 : 1 ≤ M := by rw [← hM]; exact hf.len.1
  have hB := Below.one w (funcObj f.nm f.ps f.R f.Fr C f.code.length cap)
  have bx := heap_alloc_new w (funcObj f.nm f.ps f.R f.Fr C f.code.length cap)
  have hC1 := hC.below hB
  have hR := RightFunc_yes f hf C cap _ hC1
  have hH := fun W h => Behind_yes f hf C cap W h
  have hA := fun W h => Ahead_yes2 f hf C cap W h
  have hbd : ∀ p r, MeP f p r → 0 ≤ r ∧ r < (N : Int) := fun p r h => by have := h.bd hf; rw [hRR] at this; exact this
  have hlb : ∀ r, Lv f.code 0 r → 0 ≤ r ∧ r < (N : Int) := fun r h => by have := (h.bound hf).1; omega
  have hme : ∀ p r, MeP f p r ↔ EdK f M p r ∨ ((p : Int) ≠ r ∧ Lv f.code 0 (p : Int) ∧ Lv f.code 0 r) ∨ ((p : Int) ≠ r ∧ (p : Int) < (P : Int) ∧ 0 ≤ r ∧ r < (P : Int)) := fun p r => by unfold MeP; rw [hM, hP0]
  rw [hM] at hR hH hA hB bx hC1 ⊢
  rw [hRR]
  simp only [funcObj, funcAgg] at hR hB bx hC1 hH hA ⊢
  rw [hR0, hP0] at hR hB bx hC1 hH hA ⊢
  have HR := Lib.hid hR
  have HH := Lib.hid hH
  have HA := Lib.hid hA
  have HC1 := Lib.hid hC1
  have HB := Lib.hid hB
  have HF := Lib.hid hf
  have HM := Lib.hid hM
  have HRR := Lib.hid hRR
  have HBD := Lib.hid hbd
  have HLB := Lib.hid hlb
  have HME := Lib.hid hme
  obtain ⟨W, hW⟩ : ∃ W, w.alloc (.cells #[.string f.nm, .int .i64 (P : Int), .int .i64 (N : Int), .int .i64 f.Fr, .slice C M cap] 26) = W := ⟨_, rfl⟩
  have hwW : W.heap.size = w.heap.size + 1 := by rw [← hW]; simp
  rw [hW] at bx HR HC1 HB
  have HWW := Lib.hid hwW
  clear hwW
  have HBX := Lib.hid bx
  have hBl := (Array.getElem?_eq_some_iff.1 bx).1
  have hmk := fun W => make_maps N (by omega) W
  have hmi := fun W => make_intss N (by omega) W
  have hmm := @run_makeMap Try.prog
  have g0 := cell_of_heap bx 0 _ rfl
  have g1 := cell_of_heap bx 1 _ rfl
  have g2 := cell_of_heap bx 2 _ rfl
  have g3 := cell_of_heap bx 3 _ rfl
  have g4 := cell_of_heap bx 4 _ rfl
  clear hf hM hC hB hR hH hA hC1 bx hRR hR0 hP0 hPP hbd hlb hme
  go_enter Try.func19, Try.ntmps19
  go_wp2_with (first
    | (refine HR.out.mono ?_; rintro e w3 ⟨rfl, hb3⟩; have hx3 := (hb3.block _ hBl).trans HBX.out; have h2 := cell_of_heap hx3 2 _ rfl; have HX3 := Lib.hid hx3; have HB3 := Lib.hid hb3; clear hx3 hb3 hW g0 g1 g2 g3 g4))
  have H0 := Lib.hid (Lpm.start w3 N)
  have hs3 : w.heap.size < w3.heap.size := by have := HB3.out.size; have := HWW.out; omega
  clear h2 hmk
  go_loopw [27] (fun ix wr => ∃ k : Nat, k ≤ N ∧ ix = .int .i64 k ∧ Lpm w3 wr N k) (fun ix _ => N - (intOf ix).toNat)
  case atStart => exact ⟨0, by omega, rfl, H0.out⟩
  case round =>
    obtain ⟨k, hk, rfl, hl⟩ := hrel
    clear H0
    by_cases hlt : k < N
    · have c0 := cell_of_heap hl.bx 0 _ rfl
      have c1 := hl.cell hlt
      have cf := Pre.free hl.h k
      have hs := hl.s
      have HL : Hid (Lpm w3 ((wr.setCell ⟨w3.heap.size, k, none⟩ (.map (some wr.heap.size))).alloc (.map #[] 0)) N (k + 1)) := Lib.hid (by rw [← World.setCell_alloc_past _ _ _ _ (Pre.lt hl.h)]; exact hl.next hlt)
      have hls : w3.heap.size < wr.heap.size := by omega
      clear hl hs
      go_wp2
      exact ⟨⟨k + 1, by omega, by go_num, HL.out⟩, by simp [intOf]; omega⟩
    · obtain rfl : k = N := by omega
      have HD := Lib.hid hl.mm
      have hx := (hl.b.block w.heap.size (by omega)).trans HX3.out
      have hx5 := alloc_keeps hx (.cells #[.func (.func 45) #[] #[.pointer (some ⟨w3.heap.size + 1, 0, none⟩)]] 78)
      have q0 := cell_of_heap hx5 0 _ rfl
      have q1 := cell_of_heap hx5 1 _ rfl
      have q2 := cell_of_heap hx5 2 _ rfl
      have q3 := cell_of_heap hx5 3 _ rfl
      have q4 := cell_of_heap hx5 4 _ rfl
      have hsw : w.heap.size < wr.heap.size := by have := hl.s; omega
      have hsw3 : w3.heap.size + 2 + k ≤ wr.heap.size := by have := hl.s; omega
      have HX5 := Lib.hid hx5
      have HBW := Lib.hid ((hl.b.alloc (by omega) (.cells #[.func (.func 45) #[] #[.pointer (some ⟨w3.heap.size + 1, 0, none⟩)]] 78)))
      clear hl hx hx5
      go_wp2_with (first
        | (go_at_call 46; refine (HH.out _ (HC1.out.below (HB3.out.trans (HBW.out.mono HB3.out.size)))).mono ?_; rintro e w6 ⟨⟨ob, rfl, hrk⟩, hb6⟩; have HRC := Lib.hid hrk.toC; have hx6 := (hb6.block w.heap.size (by simp; omega)).trans HX5.out; have r4 := cell_of_heap hx6 4 _ rfl; have HX6 := Lib.hid hx6; have HB6 := Lib.hid hb6; clear hrk hx6 hb6 q0 q1 q2 q3 q4))
      obtain ⟨wp, rfl⟩ : ∃ wp : World, wp = wr := ⟨_, rfl⟩
      have hx6 := HX6.out
      have hbl6 := (Array.getElem?_eq_some_iff.1 hx6).1
      have a0 := cell_of_heap hx6 0 _ rfl
      have a1 := cell_of_heap hx6 1 _ rfl
      have a2 := cell_of_heap hx6 2 _ rfl
      have a3 := cell_of_heap hx6 3 _ rfl
      have hpb5 : (wp.alloc (.cells #[.func (.func 45) #[] #[.pointer (some ⟨w3.heap.size + 1, 0, none⟩)]] 78)).cell? ⟨wp.heap.size, 0, none⟩ = some (.func (.func 45) #[] #[.pointer (some ⟨w3.heap.size + 1, 0, none⟩)]) := cell_of_heap (heap_alloc_new wp _) 0 _ rfl
      have hpb6 := (HB6.out.cell (p := ⟨wp.heap.size, 0, none⟩) (by simp)).trans hpb5
      have HM6 := Lib.hid ((HD.out.later (Below.one wp _)).later HB6.out).self
      have HBW6 : Hid (Below w3.heap.size w3 w6) := Lib.hid (HBW.out.trans (HB6.out.mono HBW.out.size))
      have HC6 := Lib.hid (HC1.out.below (HB3.out.trans (HBW6.out.mono HB3.out.size)))
      have HPB6 := Lib.hid hpb6
      have hls6 : wp.heap.size < w6.heap.size := by have := HB6.out.size; simp at this; omega
      refine ml2_any f HF.out w3 w6 w3.heap.size k wp.heap.size ob M w.heap.size cap C (fun _ _ => false) HM.out HRR.out HPB6.out HRC.out HC6.out HM6.out _ _ _ _ _ _ _ _ _ _ _ _ _ _ _ _ _ _ _ _ _ _ _ _ _ _ _ _ _ _ _ _ _ _ _ _ _ _ _ _ _ _ _ _ _ _ _ _ _ _ _ _ _ _ _ _ _ _ _ _ _ _ _ _ _ _ _ _ _ _ _ _ _ _ _ _ _ _ _ _ _ _ _ _ _ _ _ _ _ _ _ _ _ _ _ _ _ _ _ _ _ _ _ _ _ _ _ _ _ _ _ _ _ _ _ _ _ _ _ _ _ _ ?_
      intro v7 v8 v9 v11 v41 v42 v43 v44 v45 v46 v47 v48 v49 v50 v51 v52 v53 v54 v55 v56 v57 v58 v59 v60 v61 v62 v63 v64 v65 v66 v67 v68 v69 v70 v71 v72 v73 w7 S1 ht7
      have s0 := ht7.1.cellk HM6.out a0
      have s1 := ht7.1.cellk HM6.out a1
      have s2 := ht7.1.cellk HM6.out a2
      have s3 := ht7.1.cellk HM6.out a3
      have s4 := ht7.1.cellk HM6.out r4
      have HPB7 := Lib.hid (ht7.1.cellk HM6.out HPB6.out)
      have HA7 := Lib.hid (HA.out w7 (HC6.out.mm ht7.1 HM6.out))
      have HT7 := Lib.hid ht7
      have hz7 : w6.heap.size ≤ w7.heap.size := ht7.1.m.z
      clear ht7 a0 a1 a2 a3 r4 hx6 hpb5 hpb6
      go_wp2_with (first
        | (go_at_call 48; refine HA7.out.mono ?_; rintro e w8 ⟨⟨ob8, rfl, hrk8⟩, hb8⟩; obtain ⟨v8, hc8, A8, l8, c8, rfl, hrd8, hpw8, hmem8, hcp8⟩ := hrk8.done (p := 0) hM1; have hM1i : (0 : Int) < (M : Int) := (by omega); have HL8 := Lib.hid hmem8; have hin8 : ∀ x ∈ l8, 0 ≤ x ∧ x < (k : Int) := fun x hx => HLB.out x ((hmem8 x).1 hx); have hln8 := up_len hpw8 hin8; have HM8 := Lib.hid (HT7.out.1.later hb8).self; have hpb8 := (hb8.cell (p := ⟨wp.heap.size, 0, none⟩) (by simp only; omega)).trans HPB7.out; have HTG8 := Lib.hid (together_any w3 w8 w3.heap.size k wp.heap.size S1 l8 A8 l8.length c8 rfl hcp8 (by omega) hin8 hrd8 hpb8 HM8.out); have t1 := (hb8.cell (p := ⟨w.heap.size, 1, none⟩) (by simp only; omega)).trans s1; have t2 := (hb8.cell (p := ⟨w.heap.size, 2, none⟩) (by simp only; omega)).trans s2; have HPB8 := Lib.hid hpb8; have HB8 := Lib.hid hb8; clear hrk8 hb8 hrd8 hpw8 hmem8 hcp8 hin8 hln8 hpb8 s0 s1 s2 s3 s4)
        | (go_at_call 47; refine HTG8.out.mono ?_; rintro e w9 ⟨rfl, S2, ht9⟩; have u1 := ht9.1.cellk HM8.out t1; have u2 := ht9.1.cellk HM8.out t2; have HPB9 := Lib.hid (ht9.1.cellk HM8.out HPB8.out); have HT9 := Lib.hid ht9; have hz9 : w8.heap.size ≤ w9.heap.size := ht9.1.m.z; clear ht9 t1 t2 hc8))
      have hz8 : w7.heap.size ≤ w8.heap.size := HB8.out.size
      have HU2 : Hid (w9.cell? ⟨w.heap.size, 2, none⟩ = some (.int .i64 (k : Int))) := Lib.hid u2
      have hwl9 : w.heap.size < w9.heap.size := by omega
      have hpl9 : wp.heap.size < w9.heap.size := by omega
      have HS9 := Lib.hid (show OwnN w9 (.slice none 0 0) (fstL 0) from OwnN.nil _)
      clear u2
      go_loopw [13, 83] (fun V ix wx => ∃ j : Nat, j ≤ P ∧ ix = .int .i64 j ∧ OwnN wx V (fstL j) ∧ (∀ b, V.ownBlock = some b → w9.heap.size ≤ b) ∧ Below w9.heap.size w9 wx) (fun V ix _ => P - (intOf ix).toNat)
      case atStart => exact ⟨0, by omega, rfl, HS9.out, fun b hb => by simp [Value.ownBlock] at hb, Below.refl _ _⟩
      case round =>
        obtain ⟨j, hj, rfl, hown, hV, hbb⟩ := hrel
        have HOWN := Lib.hid hown
        have HV := Lib.hid hV
        have HBB := Lib.hid hbb
        have hzz := hbb.size
        by_cases hlt2 : j < P
        · have hji : (j : Int) < P := by omega
          have HO2 := Lib.hid (hown.alloc (.cells #[.int .i64 (j : Int)] 3))
          have hjl : (fstL j).length ≤ 90000 := by simp [fstL]; omega
          have HLT2 := Lib.hid hlt2
          clear hlt2 hj hown hV hbb
          go_wp2_with (first
            | (at_builtin; refine append_one rfl (.tmp 86) (.tmp 88) rfl u13 (fstL j) rfl HO2.out wr.heap.size (j : Int) rfl (heap_alloc_new _ _) hjl ?_; intro V4 w4 ho4 hg4 hb4; rw [← fstL_more] at ho4; have HO4 := Lib.hid ho4; have HB4 := Lib.hid hb4; have HBB4 := Lib.hid (Below.grown (HBB.out.alloc hzz (.cells #[.int .i64 (j : Int)] 3)) hg4 (by simp; omega) HV.out); clear ho4 hg4 hb4))
          have := HLT2.out
          exact ⟨⟨j + 1, by omega, by go_num, HO4.out, fun b hb => by
            rcases HB4.out with e | e
            · rw [e] at hb; exact HV.out b hb
            · rw [e] at hb; injection hb with hb; simp at hb; omega, HBB4.out⟩, by simp [intOf]; omega⟩
        · obtain rfl : j = P := by omega
          have hji : ¬ (j : Int) < (j : Int) := by omega
          have hin10 : ∀ x ∈ fstL j, 0 ≤ x ∧ x < (k : Int) := fun x hx => by have := fstL_mem.1 hx; omega
          obtain ⟨FL, hFL⟩ : ∃ FL, fstL j = FL := ⟨_, rfl⟩
          have hfl : FL.length ≤ 10000 := by rw [← hFL]; simp [fstL]; omega
          have HFM : Hid (∀ x, x ∈ FL ↔ 0 ≤ x ∧ x < (j : Int)) := Lib.hid fun x => by rw [← hFL]; exact fstL_mem
          rw [hFL] at hown hin10
          clear hFL HOWN
          obtain ⟨A10, c10, hV10, hl10, hr10⟩ := hown.form
          subst hV10
          have hroom := hown.room
          have hm10 := (HT9.out.1.later hbb).self
          have hpb10 := (hbb.cell (p := ⟨wp.heap.size, 0, none⟩) hpl9).trans HPB9.out
          have HTG := Lib.hid (together_any w3 wr w3.heap.size k wp.heap.size S2 FL A10 FL.length c10 rfl hroom hfl hin10 hr10 hpb10 hm10)
          have HM10 := Lib.hid hm10
          have HU10 := Lib.hid ((hbb.cell (p := ⟨w.heap.size, 2, none⟩) hwl9).trans HU2.out)
          clear hlt2 hj hown hV hbb hl10 hr10 hroom hfl hin10 hm10 hpb10 HV HS9
          go_wp2_with (first
            | (go_at_call 47; refine HTG.out.mono ?_; rintro e w11 ⟨rfl, S3, ht11⟩; have y2 := ht11.1.cellk HM10.out HU10.out; have y3 := cell_of_heap ((Below.one w11 (.cells (madeCells #[.slice none 0 0] k) 45)).block (w3.heap.size + 1) (by have := (Array.getElem?_eq_some_iff.1 ht11.1.m.bx).1; omega) |>.trans ht11.1.m.bx) 0 _ rfl; have hzl : w11.heap.size ≤ w11.heap.size := Nat.le_refl _; have HT11 := Lib.hid ht11; clear ht11))
          have hz11 : wr.heap.size ≤ w11.heap.size := HT11.out.1.m.z
          have HSEM : Hid (∀ p r, S3 p r = true ↔ MeP f p r) := Lib.hid fun p r => by
            rw [HT11.out.2, HT9.out.2, HT7.out.2, Tg.all, Tg.all, HME.out, HL8.out, HL8.out, HFM.out, HFM.out]
            constructor
            · rintro (((h | h) | h) | ⟨h1, h2, h3⟩)
              · cases h
              · exact Or.inl h
              · exact Or.inr (Or.inl h)
              · exact Or.inr (Or.inr ⟨h1, h2.2, h3⟩)
            · rintro (h | h | ⟨h1, h2, h3⟩)
              · exact Or.inl (Or.inl (Or.inr h))
              · exact Or.inl (Or.inr h)
              · exact Or.inr ⟨h1, ⟨by omega, h2⟩, h3⟩
          have hB12 := Below.one w11 (.cells (madeCells #[.slice none 0 0] k) 45)
          refine ml8_any _ w3.heap.size k w11.heap.size S3 (by omega) (Pre.later HT11.out.1.m.h hB12) (fun p hp => (HT11.out.1.r p hp).below hB12 (HT11.out.1.r p hp).lt) (fun p _ x hx => HBD.out p x ((HSEM.out p x).1 hx)) (by omega) ⟨RowsK.made w11 k _, fun j _ hj => made_nil w11 hj⟩ _ _ _ _ _ _ _ _ _ _ _ _ _ _ _ _ _ _ _ _ _ _ _ _ _ _ _ _ _ _ _ _ _ _ _ _ _ _ _ _ _ _ _ _ _ _ _ _ _ _ _ _ _ _ _ _ _ _ _ _ _ _ _ _ _ _ _ _ _ _ _ _ _ _ _ _ _ _ _ _ _ _ _ _ _ _ _ _ _ _ _ _ _ _ _ _ _ _ _ _ _ _ _ _ _ _ _ _ _ _ _ _ _ _ _ _ _ _ _ _ _ _ _ _ ?_
          intro z16 z17 z18 z99 z100 z101 z102 z103 z104 z105 z106 z107 z108 z109 z110 z111 z112 z113 z114 z115 z116 z117 z118 z119 z120 z121 z122 z123 z124 z125 w13 hr13 hb13
          have HQ : Hid (MeT w.heap.size k f (.returned (.slice (some ⟨w11.heap.size, 0, none⟩) k k)) w13 ∧ Below w.heap.size w w13) := Lib.hid (by
            refine ⟨⟨w11.heap.size, rfl, by omega, hr13.iff fun p r => HSEM.out p r⟩, ?_⟩
            have h1 : Below w3.heap.size w3 w13 := (HT11.out.1.m.b.trans (hB12.mono (by omega))).trans (hb13.mono (by omega))
            exact HB.out.trans ((HB3.out.mono (by have := HWW.out; omega)).trans (h1.mono (by omega))))
          clear hr13 hb13
          go_wp2
          go_returns
          exact HQ.out
end Go.Proofs.Ythbcdckonaljiaa
