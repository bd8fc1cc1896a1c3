import Derived.Test.YthbcdckonaljiaaQh
import Derived.Test.YthbcdckonaljiaaDw
import Derived.Test.YthbcdckonaljiaaQw
namespace Go.Proofs.Ythbcdckonaljiaa
open Go.RowKit Go.BigFrame

theorem nd_sub : ∀ (a b : List Nat), a.Nodup → (∀ x ∈ a, x ∈ b) → a.length ≤ b.length
  | [], _, _, _ => Nat.zero_le _
  | x::a, b, hn, hs => by
    rw [List.nodup_cons] at hn
    have hx := hs x (List.mem_cons_self ..)
    have h1 := nd_sub a (b.erase x) hn.2 (fun y hy => (List.mem_erase_of_ne (fun e => hn.1 (by rw [← e]; exact hy))).2 (hs y (List.mem_cons_of_mem _ hy)))
    rw [List.length_erase_of_mem hx] at h1
    have := List.length_pos_of_mem hx
    rw [List.length_cons]
    omega
open Classical in
noncomputable def lstF (T : Nat → Prop) : Nat → Nat → Nat
  | 0, p => p
  | n + 1, p => if T p then lstF T n (p + 1) else p
theorem lstF_spec (T : Nat → Prop) : ∀ (n p : Nat), p ≤ lstF T n p ∧ lstF T n p ≤ p + n ∧ (∀ x, p ≤ x → x < lstF T n p → T x) ∧ (lstF T n p < p + n → ¬ T (lstF T n p))
  | 0, p => ⟨Nat.le_refl _, Nat.le_refl _, fun x h1 h2 => (by unfold lstF at h2; omega), fun h => (by unfold lstF at h; omega)⟩
  | n + 1, p => by
    unfold lstF
    split
    · rename_i hT
      obtain ⟨h1, h2, h3, h4⟩ := lstF_spec T n (p + 1)
      refine ⟨by omega, by omega, fun x hx1 hx2 => ?_, fun h => h4 (by omega)⟩
      by_cases hxp : x = p
      · subst hxp; exact hT
      · exact h3 x (by omega) hx2
    · rename_i hT
      exact ⟨Nat.le_refl _, by omega, fun x h1 h2 => by omega, fun _ => hT⟩
def Tk (f : Fn7) (out : List Int) (r p : Nat) : Prop := ∃ o : Nat, MeP f r (o : Int) ∧ out[o]? = some (p : Int)
open Classical in
noncomputable def frm (f : Fn7) (r : Nat) : Nat := if WaP f r then 6 else 0
noncomputable def plc (f : Fn7) (out : List Int) (r : Nat) : Nat := lstF (Tk f out r) (f.R.toNat + 1) (frm f r)
theorem tk_few {f : Fn7} {out : List Int} {r : Nat} {l : List Nat} (hl : ∀ o : Nat, MeP f r (o : Int) → o ∈ l) (a n : Nat) (h : ∀ x, a ≤ x → x < a + n → Tk f out r x) : n ≤ l.length := by
  classical
  let g : Nat → Nat := fun x => if hx : Tk f out r x then Classical.choose hx else 0
  have hg : ∀ x, Tk f out r x → g x ∈ l ∧ out[g x]? = some (x : Int) := fun x hx => by
    have := Classical.choose_spec hx
    simp only [g, dif_pos hx]
    exact ⟨hl _ this.1, this.2⟩
  have hnd : (((List.range n).map fun i => g (a + i))).Nodup := by
    rw [List.Nodup, List.pairwise_map]
    refine List.Pairwise.imp_of_mem ?_ (List.nodup_range (n := n))
    intro i j hi hj hne e
    rw [List.mem_range] at hi hj
    have h1 := (hg (a + i) (h _ (by omega) (by omega))).2
    have h2 := (hg (a + j) (h _ (by omega) (by omega))).2
    rw [e, h2] at h1
    injection h1 with h1
    exact hne (by omega)
  have := nd_sub _ l hnd (fun x hx => by
    obtain ⟨i, hi, rfl⟩ := List.mem_map.1 hx
    rw [List.mem_range] at hi
    exact (hg _ (h _ (by omega) (by omega))).1)
  simpa using this
theorem plc_spec {f : Fn7} (hf : OkF f) (out : List Int) (r : Nat) : frm f r ≤ plc f out r ∧ ¬ Tk f out r (plc f out r) ∧ (∀ x, frm f r ≤ x → x < plc f out r → Tk f out r x) ∧ ∀ l : List Nat, (∀ o : Nat, MeP f r (o : Int) → o ∈ l) → plc f out r ≤ frm f r + l.length := by
  obtain ⟨h1, h2, h3, h4⟩ := lstF_spec (Tk f out r) (f.R.toNat + 1) (frm f r)
  have hle : ∀ l : List Nat, (∀ o : Nat, MeP f r (o : Int) → o ∈ l) → plc f out r ≤ frm f r + l.length := fun l hl => by
    have := tk_few hl (frm f r) (plc f out r - frm f r) (fun x hx1 hx2 => h3 x hx1 (by unfold plc at hx2; omega))
    omega
  have hR := hle (List.range f.R.toNat) (fun o ho => by rw [List.mem_range]; have := ho.bd hf; omega)
  rw [List.length_range] at hR
  exact ⟨h1, h4 (by unfold plc at hR; omega), h3, hle⟩
noncomputable def plF (f : Fn7) : List Int → List Int → List Int
  | [], out => out
  | r::rs, out => plF f rs (out.set r.toNat (plc f out r.toNat))
theorem plF_app (f : Fn7) : ∀ (l : List Int) (r : Int) (out : List Int), plF f (l ++ [r]) out = (plF f l out).set r.toNat (plc f (plF f l out) r.toNat)
  | [], _, _ => rfl
  | _::l, r, _ => plF_app f l r _
theorem plF_len (f : Fn7) : ∀ (l out : List Int), (plF f l out).length = out.length
  | [], _ => rfl
  | _::l, _ => by rw [plF, plF_len f l, List.length_set]
noncomputable def ordL (f : Fn7) : List Int := stab (cmpL (wtsL f)) (fstL f.R.toNat)
noncomputable def clF (f : Fn7) : List Int := plF f (ordL f) (List.replicate f.R.toNat (-1))
theorem EdB.symm {f : Fn7} {q : Nat} {i : Ins} {a b : Nat} (h : EdB f q i a (b : Int)) : EdB f q i b (a : Int) :=
  ⟨h.1, fun e => h.2.1 e.symm, h.2.2.symm⟩
theorem MeP.symm {f : Fn7} {a b : Nat} (h : MeP f a (b : Int)) : MeP f b (a : Int) := by
  rcases h with ⟨q, i, h1, h2, h3⟩ | ⟨h1, h2, h3⟩ | ⟨h1, h2, h3, h4⟩
  · exact Or.inl ⟨q, i, h1, h2, h3.symm⟩
  · exact Or.inr (Or.inl ⟨fun e => h1 e.symm, h3, h2⟩)
  · exact Or.inr (Or.inr ⟨fun e => h1 e.symm, h4, by omega, h2⟩)
theorem fstL_nd (k : Nat) : (fstL k).Nodup := by
  unfold fstL
  rw [List.Nodup, List.pairwise_map]
  exact List.Pairwise.imp (fun h e => h (by omega)) (List.nodup_range (n := k))
theorem ordL_perm (f : Fn7) : (ordL f).Perm (fstL f.R.toNat) := stab_perm _ _
structure Pld (f : Fn7) (done out : List Int) : Prop where
  yes : ∀ r : Nat, (r : Int) ∈ done → ∃ p : Nat, out[r]? = some (p : Int) ∧ frm f r ≤ p ∧ ∀ l : List Nat, (∀ o : Nat, MeP f r (o : Int) → o ∈ l) → p ≤ frm f r + l.length
  no : ∀ r : Nat, (r : Int) ∉ done → r < out.length → out[r]? = some (-1)
  ne : ∀ a b : Nat, (a : Int) ∈ done → (b : Int) ∈ done → MeP f a (b : Int) → out[a]? ≠ out[b]?
theorem Pld.next {f : Fn7} (hf : OkF f) {done out : List Int} (h : Pld f done out) {r : Nat} (hr : (r : Int) ∉ done) (hl : r < out.length) : Pld f (done ++ [(r : Int)]) (out.set r (plc f out r)) := by
  obtain ⟨h1, h2, h3, h4⟩ := plc_spec hf out r
  have hself : (out.set r (plc f out r : Int))[r]? = some (plc f out r : Int) := by rw [List.getElem?_set_self hl]
  have hoth : ∀ q : Nat, (q : Int) ∈ done → (out.set r (plc f out r : Int))[q]? = out[q]? := fun q hq => List.getElem?_set_ne (fun e => hr (by rw [e]; exact hq))
  have hirr : ¬ MeP f r (r : Int) := fun hm => by
    rcases hm with ⟨q, i, _, _, h5⟩ | ⟨h5, _⟩ | ⟨h5, _⟩
    · exact h5.2.1 rfl
    · exact h5 rfl
    · exact h5 rfl
  refine ⟨fun q hq => ?_, fun q hq hql => ?_, fun a b ha hb hm => ?_⟩
  · rcases List.mem_append.1 hq with hq | hq
    · rw [hoth q hq]; exact h.yes q hq
    · rw [List.mem_singleton] at hq
      obtain rfl : q = r := by omega
      exact ⟨_, hself, h1, h4⟩
  · rw [List.mem_append, List.mem_singleton] at hq
    rw [List.length_set] at hql
    rw [List.getElem?_set_ne (fun e => hq (Or.inr (by omega)))]
    exact h.no q (fun h => hq (Or.inl h)) hql
  · have key : ∀ q : Nat, (q : Int) ∈ done → MeP f r (q : Int) → (out.set r (plc f out r : Int))[r]? ≠ (out.set r (plc f out r : Int))[q]? := fun q hq hm e => by
      rw [hself, hoth q hq] at e
      exact h2 ⟨q, hm, e.symm⟩
    rcases List.mem_append.1 ha with ha1 | ha1 <;> rcases List.mem_append.1 hb with hb1 | hb1
    · rw [hoth a ha1, hoth b hb1]; exact h.ne a b ha1 hb1 hm
    · rw [List.mem_singleton] at hb1
      obtain rfl : r = b := by omega
      exact fun e => key a ha1 hm.symm e.symm
    · rw [List.mem_singleton] at ha1
      obtain rfl : r = a := by omega
      exact key b hb1 hm
    · rw [List.mem_singleton] at ha1 hb1
      obtain rfl : r = a := by omega
      obtain rfl : b = r := by omega
      exact absurd hm hirr
theorem Pld.all {f : Fn7} (hf : OkF f) : ∀ (rest done out : List Int), out.length = f.R.toNat → (∀ x ∈ rest, 0 ≤ x ∧ x < (f.R.toNat : Int)) → (done ++ rest).Nodup → Pld f done out → Pld f (done ++ rest) (plF f rest out)
  | [], done, out, _, _, _, h => by rw [List.append_nil]; exact h
  | x::rest, done, out, hl, hb, hnd, h => by
    have hx := hb x (List.mem_cons_self ..)
    obtain ⟨r, rfl⟩ : ∃ r : Nat, x = r := ⟨x.toNat, by omega⟩
    have hrd : (r : Int) ∉ done := fun hm => (List.nodup_append.1 hnd).2.2 _ hm _ (List.mem_cons_self ..) rfl
    have h1 := Pld.all hf rest (done ++ [(r : Int)]) (out.set r (plc f out r)) (by rw [List.length_set]; exact hl) (fun y hy => hb y (List.mem_cons_of_mem _ hy)) (by rw [List.append_assoc]; exact hnd) (h.next hf hrd (by omega))
    rw [List.append_assoc] at h1
    rw [plF, Int.toNat_natCast]
    exact h1
theorem clF_fine {f : Fn7} (hf : OkF f) : (clF f).length = f.R.toNat ∧ (∀ r : Nat, r < f.R.toNat → ∃ p : Nat, (clF f)[r]? = some (p : Int) ∧ frm f r ≤ p ∧ ∀ l : List Nat, (∀ o : Nat, MeP f r (o : Int) → o ∈ l) → p ≤ frm f r + l.length) ∧
    ∀ a b : Nat, a < f.R.toNat → b < f.R.toNat → MeP f a (b : Int) → (clF f)[a]? ≠ (clF f)[b]? := by
  have hp := ordL_perm f
  have hm : ∀ r : Nat, r < f.R.toNat → (r : Int) ∈ ordL f := fun r hr => hp.mem_iff.2 (fstL_mem.2 (by omega))
  have h := Pld.all hf (ordL f) [] (List.replicate f.R.toNat (-1)) (by simp) (fun x hx => fstL_mem.1 (hp.mem_iff.1 hx)) (by rw [List.nil_append]; exact hp.nodup_iff.2 (fstL_nd _)) ⟨fun r h => (by cases h), fun r _ hr => (by rw [List.length_replicate] at hr; rw [List.getElem?_replicate, if_pos hr]), fun a b h => (by cases h)⟩
  rw [List.nil_append] at h
  exact ⟨by unfold clF; rw [plF_len, List.length_replicate], fun r hr => h.yes r (hm r hr), fun a b ha hb hab => h.ne a b (hm a ha) (hm b hb) hab⟩
open Go.RowKit Go.BigFrame

noncomputable def ol4 : Code := ((((Try.f13.body).map loopsOf).getD [])[2]?).getD .skip
noncomputable def ol6 : Code := ((loopsOf (inLoop ol4))[0]?).getD .skip
noncomputable def ol8 : Code := ((loopsOf (inLoop ol4))[1]?).getD .skip
set_option maxRecDepth 1000000 in
set_option maxHeartbeats 16000000 in
theorem ol6_any (w : World) (R o2 tb : Nat) (l : List Int) (hl : l.length = R) (hPl : PC w o2 l) (rl : List Int) (A : Option Addr) (Ln cap : Nat) (hLn : rl.length = Ln) (hLn2 : Ln ≤ 5000) (hin : ∀ x ∈ rl, 0 ≤ x ∧ x < (R : Int)) (hR : RdN w A rl) (hA : ∀ b o, A = some ⟨b, o, none⟩ → rl ≠ [] → b < tb) (ho2 : o2 < tb) (hm : SetI w tb (fun _ => false))
    (x0 x1 x2 x3 x4 x5 x6 x7 x9 x10 x11 x13 x14 x15 x16 x17 x18 x19 x20 x21 x22 x23 x24 x25 x26 x27 x28 x29 x30 x31 x32 x33 x34 x35 x36 x37 x38 x39 x40 x41 x42 x43 x44 x45 x46 x47 x48 x49 x50 x51 x52 x53 x54 x55 x56 x57 x58 x59 x60 x61 x65 x66 x67 x68 x69 x70 x71 x72 x73 x74 x75 x76 x77 x78 x79 x80 x81 x82 x83 x84 x85 x86 x87 x88 : Value) (Q : Exit → Act → World → Prop)
    (hQ : ∀ (y14 y64 y65 y66 y67 y68 y69 y70 y71 y72 y73 : Value) (w' : World) (T : Int → Bool), SetI w' tb T → (∀ v, T v = true ↔ ∃ o : Nat, (o : Int) ∈ rl ∧ l[o]? = some v) → Below tb w w' → Q (.exit 6) ⟨(x0::x1::x2::x3::x4::x5::x6::x7::.slice (some ⟨o2, 0, none⟩) R R::x9::x10::x11::.map (some tb)::x13::y14::x15::x16::x17::x18::x19::x20::x21::x22::x23::x24::x25::x26::x27::x28::x29::x30::x31::x32::x33::x34::x35::x36::x37::x38::x39::x40::x41::x42::x43::x44::x45::x46::x47::x48::x49::x50::x51::x52::x53::x54::x55::x56::x57::x58::x59::x60::x61::.slice A Ln cap::.int .i64 (Ln : Int)::y64::y65::y66::y67::y68::y69::y70::y71::y72::y73::x74::x75::x76::x77::x78::x79::x80::x81::x82::x83::x84::x85::x86::x87::x88::[]).toArray, []⟩ w') :
    Code.wp Try.prog ol6 Q ⟨(x0::x1::x2::x3::x4::x5::x6::x7::.slice (some ⟨o2, 0, none⟩) R R::x9::x10::x11::.map (some tb)::x13::x14::x15::x16::x17::x18::x19::x20::x21::x22::x23::x24::x25::x26::x27::x28::x29::x30::x31::x32::x33::x34::x35::x36::x37::x38::x39::x40::x41::x42::x43::x44::x45::x46::x47::x48::x49::x50::x51::x52::x53::x54::x55::x56::x57::x58::x59::x60::x61::.slice A Ln cap::.int .i64 (Ln : Int)::.int .i64 (0)::x65::x66::x67::x68::x69::x70::x71::x72::x73::x74::x75::x76::x77::x78::x79::x80::x81::x82::x83::x84::x85::x86::x87::x88::[]).toArray, []⟩ w := by
  conv => arg 2; whnf
  have HQ := Lib.hid hQ
  have HP := Lib.hid hPl
  have HR := Lib.hid hR
  have HA := Lib.hid hA
  have HI := Lib.hid hin
  have HLN := Lib.hid hLn
  have HM := Lib.hid hm
  have HL := Lib.hid hl
  have htw := hm.lt
  clear hQ hPl hR hA hin hLn hm hl
  go_loopw [64] (fun ix wr => ∃ (j : Nat) (T : Int → Bool), j ≤ Ln ∧ ix = .int .i64 j ∧ SetI wr tb T ∧ (∀ v, T v = true ↔ ∃ o : Nat, (o : Int) ∈ rl.take j ∧ l[o]? = some v) ∧ Below tb w wr) (fun ix _ => Ln - (intOf ix).toNat)
  case atStart => exact ⟨0, _, by omega, rfl, HM.out, fun v => by simp, Below.refl _ _⟩
  case round =>
    obtain ⟨j, T, hj, rfl, hs, ht, hb⟩ := hrel
    have HS := Lib.hid hs
    have HT := Lib.hid ht
    have HB := Lib.hid hb
    by_cases hlt : j < Ln
    · have hji : (j : Int) < Ln := by omega
      obtain ⟨x, hx⟩ : ∃ x, rl[j]? = some x := ⟨_, List.getElem?_eq_getElem (by rw [HLN.out]; exact hlt)⟩
      have hxb := HI.out x (List.mem_of_getElem? hx)
      obtain ⟨o, rfl⟩ : ∃ o : Nat, x = o := ⟨x.toNat, by omega⟩
      obtain ⟨b, off, he, hbl, hc⟩ := HR.out j _ hx
      subst he
      have hc1 := (hb.cell (p := ⟨b, off + j, none⟩) (HA.out _ _ rfl (fun e => by rw [e] at hx; simp at hx))).trans hc
      have hoR : (o : Int) < R := hxb.2
      obtain ⟨v, hv⟩ : ∃ v, l[o]? = some v := ⟨_, List.getElem?_eq_getElem (by rw [HL.out]; omega)⟩
      have hc2 := (hb.cell (p := ⟨o2, o, none⟩) ho2).trans (HP.out.cell hv)
      have HE : Hid (∀ u, insS_ T v u = true ↔ ∃ o : Nat, (o : Int) ∈ rl.take (j + 1) ∧ l[o]? = some u) := Lib.hid fun u => by
        unfold insS_
        rw [Bool.or_eq_true, decide_eq_true_eq, ht, take_more hx]
        constructor
        · rintro (h | ⟨q, h1, h2⟩)
          · exact ⟨o, by simp, by rw [h]; exact hv⟩
          · exact ⟨q, List.mem_append_left _ h1, h2⟩
        · rintro ⟨q, h1, h2⟩
          rcases List.mem_append.1 h1 with h1 | h1
          · exact Or.inr ⟨q, h1, h2⟩
          · rw [List.mem_singleton] at h1
            obtain rfl : q = o := by omega
            rw [hv] at h2
            injection h2 with h2
            exact Or.inl h2.symm
      have HLT := Lib.hid hlt
      clear hs ht hb hx hxb hc hv hlt hj
      go_wp2_with (first
        | (refine wpList_update_set _ rfl (.tmp 68) (.tmp 72) (.const (.bool true)) 73 rfl umap uint tb T rfl HS.out v rfl rfl ?_; intro w3 hs3 hg3 hz3; have HS3 := Lib.hid hs3; have HB3 := Lib.hid (Below.grown HB.out hg3 (by have := HB.out.size; omega) (fun b hb => by injection hb; omega)); clear hs3 hg3 hz3))
      have := HLT.out
      exact ⟨⟨j + 1, _, by omega, by go_num, HS3.out, HE.out, HB3.out⟩, by simp [intOf]; omega⟩
    · obtain rfl : j = Ln := by omega
      have hji : ¬ (j : Int) < (j : Int) := by omega
      have HE : Hid (∀ v, T v = true ↔ ∃ o : Nat, (o : Int) ∈ rl ∧ l[o]? = some v) := Lib.hid (by rw [List.take_of_length_le (by rw [HLN.out]; exact Nat.le_refl _)] at ht; exact ht)
      clear hs ht hb hlt hj
      go_wp2
      exact HQ.out _ _ _ _ _ _ _ _ _ _ _ wr T HS.out HE.out HB.out
set_option maxRecDepth 1000000 in
set_option maxHeartbeats 16000000 in
theorem ol8_any (w : World) (tb p0 n0 Res : Nat) (T : Int → Bool) (hm : SetI w tb T) (hres : lstF (fun p => T (p : Int) = true) n0 p0 = Res) (hno : ¬ T (Res : Int) = true) (hb : Res ≤ 10000)
    (x0 x1 x2 x3 x4 x5 x6 x7 x8 x9 x10 x11 x13 x14 x16 x17 x18 x19 x20 x21 x22 x23 x24 x25 x26 x27 x28 x29 x30 x31 x32 x33 x34 x35 x36 x37 x38 x39 x40 x41 x42 x43 x44 x45 x46 x47 x48 x49 x50 x51 x52 x53 x54 x55 x56 x57 x58 x59 x60 x61 x62 x63 x64 x65 x66 x67 x68 x69 x70 x71 x72 x73 x74 x75 x76 x77 x78 x79 x80 x81 x82 x83 x84 x85 x86 x87 x88 : Value) (Q : Exit → Act → World → Prop)
    (hQ : ∀ (y78 y79 y80 y81 y82 : Value), Q (.exit 8) ⟨(x0::x1::x2::x3::x4::x5::x6::x7::x8::x9::x10::x11::.map (some tb)::x13::x14::.int .i64 (Res : Int)::x16::x17::x18::x19::x20::x21::x22::x23::x24::x25::x26::x27::x28::x29::x30::x31::x32::x33::x34::x35::x36::x37::x38::x39::x40::x41::x42::x43::x44::x45::x46::x47::x48::x49::x50::x51::x52::x53::x54::x55::x56::x57::x58::x59::x60::x61::x62::x63::x64::x65::x66::x67::x68::x69::x70::x71::x72::x73::x74::x75::x76::x77::y78::y79::y80::y81::y82::x83::x84::x85::x86::x87::x88::[]).toArray, []⟩ w) :
    Code.wp Try.prog ol8 Q ⟨(x0::x1::x2::x3::x4::x5::x6::x7::x8::x9::x10::x11::.map (some tb)::x13::x14::.int .i64 (p0 : Int)::x16::x17::x18::x19::x20::x21::x22::x23::x24::x25::x26::x27::x28::x29::x30::x31::x32::x33::x34::x35::x36::x37::x38::x39::x40::x41::x42::x43::x44::x45::x46::x47::x48::x49::x50::x51::x52::x53::x54::x55::x56::x57::x58::x59::x60::x61::x62::x63::x64::x65::x66::x67::x68::x69::x70::x71::x72::x73::x74::x75::x76::x77::x78::x79::x80::x81::x82::x83::x84::x85::x86::x87::x88::[]).toArray, []⟩ w := by
  conv => arg 2; whnf
  have HQ := Lib.hid hQ
  have HM := Lib.hid hm
  have HR := Lib.hid hres
  have HNO := Lib.hid hno
  clear hQ hm hres hno
  go_loopw [15] (fun v wr => ∃ p n : Nat, v = .int .i64 p ∧ lstF (fun p => T (p : Int) = true) n p = Res ∧ w = wr) (fun v _ => Res - (intOf v).toNat)
  case atStart => exact ⟨p0, n0, rfl, HR.out, rfl⟩
  case round =>
    obtain ⟨p, n, rfl, hr, rfl⟩ := hrel
    have hpr : p ≤ Res := by rw [← hr]; exact (lstF_spec _ n p).1
    have hlk := HM.out.lookup umap uint (zbool w) (p : Int)
    cases hT : T (p : Int) with
    | true =>
      have hn : ∃ m, n = m + 1 := by
        cases n with
        | zero => exact absurd (by unfold lstF at hr; rw [← hr]; exact hT) HNO.out
        | succ m => exact ⟨m, rfl⟩
      obtain ⟨m, rfl⟩ := hn
      have HE : Hid (lstF (fun p => T (p : Int) = true) m (p + 1) = Res) := Lib.hid (by unfold lstF at hr; rw [if_pos hT] at hr; exact hr)
      have HLT : Hid (p < Res) := Lib.hid (by
        have := (lstF_spec (fun p => T (p : Int) = true) m (p + 1)).1
        rw [HE.out] at this
        omega)
      rw [hT] at hlk
      have hpb : (p : Int) ≤ 10000 := by omega
      clear hr hpr hT
      go_wp2
      have := HLT.out
      exact ⟨⟨p + 1, m, by go_num, HE.out, by simp⟩, by simp [intOf]; omega⟩
    | false =>
      have HE : Hid (p = Res) := Lib.hid (by
        cases n with
        | zero => exact hr
        | succ m => unfold lstF at hr; rw [if_neg (by rw [hT]; exact Bool.false_ne_true)] at hr; exact hr)
      rw [hT] at hlk
      clear hr hpr hT
      have hE := HE.out
      subst hE
      go_wp2
      exact HQ.out _ _ _ _ _
open Go.RowKit Go.BigFrame

theorem RowsC.mono {w : World} {ob N : Nat} {P P' : Nat → Int → Prop} (h : RowsC w ob N P) (hp : ∀ p r, P p r ↔ P' p r) : RowsC w ob N P' := ⟨h.1, fun p hp' => by
  obtain ⟨A, l, cap, h1, h2, h3, h4⟩ := h.2 p hp'
  exact ⟨A, l, cap, h1, h2, h3, fun x => (h4 x).trans (hp p x)⟩⟩
def PlB (l : List Int) : Prop := ∀ x ∈ l, -1 ≤ x ∧ x ≤ 9000
theorem plc_le {f : Fn7} (hf : OkF f) (out : List Int) (r : Nat) : plc f out r ≤ 9000 := by
  have h := (plc_spec hf out r).2.2.2 (List.range f.R.toNat) (fun o ho => by rw [List.mem_range]; have := ho.bd hf; omega)
  rw [List.length_range] at h
  have h2 : frm f r ≤ 6 := by unfold frm; split <;> omega
  have := hf.R
  omega
set_option maxRecDepth 1000000 in
set_option maxHeartbeats 16000000 in
theorem ol4_any (f : Fn7) (hf : OkF f) (R : Nat) (hRR : f.R.toNat = R) (W' w : World) (qb kb o1 o2 : Nat) (ord : List Int) (hol : ord.length = R) (hoi : ∀ x ∈ ord, 0 ≤ x ∧ x < (R : Int)) (ho2 : o2 = W'.heap.size) (hRC : RowsC W' qb R (MeP f)) (L : List Bool) (hL : L.length = R) (hLw : ∀ r : Nat, r < R → (L[r]? = some true ↔ WaP f r)) (hPB : PB W' kb L) (hPO : PC W' o1 ord)
    (hB : Below o2 W' w) (l0 : List Int) (hl0 : l0.length = R) (hP : PC w o2 l0)
    (x0 x1 x2 x5 x6 x7 x9 x10 x11 x12 x13 x14 x15 x16 x17 x18 x19 x20 x21 x22 x23 x24 x25 x26 x27 x28 x29 x30 x31 x32 x33 x34 x35 x36 x37 x38 x39 x40 x41 x42 x43 x44 x45 x46 x47 x48 x49 x50 x51 x55 x56 x57 x58 x59 x60 x61 x62 x63 x64 x65 x66 x67 x68 x69 x70 x71 x72 x73 x74 x75 x76 x77 x78 x79 x80 x81 x82 x83 x84 x85 x86 x87 x88 : Value) (Q : Exit → Act → World → Prop)
    (hQ : ∀ (y11 y12 y14 y15 y54 y55 y56 y57 y58 y59 y60 y61 y62 y63 y64 y65 y66 y67 y68 y69 y70 y71 y72 y73 y74 y75 y76 y77 y78 y79 y80 y81 y82 y83 y84 y85 y86 y87 : Value) (w' : World), PC w' o2 (plF f ord l0) → Below o2 W' w' → Q (.exit 4) ⟨(x0::x1::x2::.slice (some ⟨qb, 0, none⟩) R R::.slice (some ⟨kb, 0, none⟩) R R::x5::x6::x7::.slice (some ⟨o2, 0, none⟩) R R::x9::x10::y11::y12::x13::y14::y15::x16::x17::x18::x19::x20::x21::x22::x23::x24::x25::x26::x27::x28::x29::x30::x31::x32::x33::x34::x35::x36::x37::x38::x39::x40::x41::x42::x43::x44::x45::x46::x47::x48::x49::x50::x51::.slice (some ⟨o1, 0, none⟩) R R::.int .i64 (R : Int)::y54::y55::y56::y57::y58::y59::y60::y61::y62::y63::y64::y65::y66::y67::y68::y69::y70::y71::y72::y73::y74::y75::y76::y77::y78::y79::y80::y81::y82::y83::y84::y85::y86::y87::x88::[]).toArray, []⟩ w') :
    Code.wp Try.prog ol4 Q ⟨(x0::x1::x2::.slice (some ⟨qb, 0, none⟩) R R::.slice (some ⟨kb, 0, none⟩) R R::x5::x6::x7::.slice (some ⟨o2, 0, none⟩) R R::x9::x10::x11::x12::x13::x14::x15::x16::x17::x18::x19::x20::x21::x22::x23::x24::x25::x26::x27::x28::x29::x30::x31::x32::x33::x34::x35::x36::x37::x38::x39::x40::x41::x42::x43::x44::x45::x46::x47::x48::x49::x50::x51::.slice (some ⟨o1, 0, none⟩) R R::.int .i64 (R : Int)::.int .i64 (0)::x55::x56::x57::x58::x59::x60::x61::x62::x63::x64::x65::x66::x67::x68::x69::x70::x71::x72::x73::x74::x75::x76::x77::x78::x79::x80::x81::x82::x83::x84::x85::x86::x87::x88::[]).toArray, []⟩ w := by
  conv => arg 2; whnf
  have HQ := Lib.hid hQ
  have HP := Lib.hid hP
  have HB := Lib.hid hB
  have HRC := Lib.hid hRC
  have HLW := Lib.hid hLw
  have HLL := Lib.hid hL
  have HPB := Lib.hid hPB
  have HPO := Lib.hid hPO
  have HOL := Lib.hid hol
  have HOI := Lib.hid hoi
  have HF := Lib.hid hf
  have HRR := Lib.hid hRR
  have HL0 := Lib.hid hl0
  have hR2 : R ≤ 4096 := by have := hf.R; omega
  have HO2 := Lib.hid ho2
  have hz : W'.heap.size ≤ w.heap.size := hB.size
  clear hQ hP hB hRC hLw hL hPB hPO hol hoi hf hRR hl0 ho2
  go_loopw [54] (fun ix wr => ∃ k : Nat, k ≤ R ∧ ix = .int .i64 k ∧ PC wr o2 (plF f (ord.take k) l0) ∧ Below o2 W' wr) (fun ix _ => R - (intOf ix).toNat)
  case atStart => exact ⟨0, by omega, rfl, by simpa [plF] using HP.out, HB.out⟩
  case round =>
    obtain ⟨k, hk, rfl, hp, hb⟩ := hrel
    have HPP := Lib.hid hp
    have HBB := Lib.hid hb
    by_cases hlt : k < R
    · have hki : (k : Int) < R := by omega
      obtain ⟨x, hx⟩ : ∃ x, ord[k]? = some x := ⟨_, List.getElem?_eq_getElem (by rw [HOL.out]; exact hlt)⟩
      have hxb := HOI.out x (List.mem_of_getElem? hx)
      obtain ⟨r, rfl⟩ : ∃ r : Nat, x = r := ⟨x.toNat, by omega⟩
      have hrR : r < R := by omega
      have hri : (r : Int) < R := hxb.2
      have hpl := Pre.lt hp
      have hqs := HRC.out.1
      have ho1 := Pre.lt HPO.out
      have hkb := Pre.lt HPB.out
      have h2 := HO2.out
      have c1 := (hb.cell (p := ⟨o1, k, none⟩) (by simp only; omega)).trans (HPO.out.cell hx)
      obtain ⟨A, rl, cap, hc, hrd, hpw, hmem⟩ := HRC.out.2 r hrR
      have hin : ∀ y ∈ rl, 0 ≤ y ∧ y < (R : Int) := fun y hy => by have := ((hmem y).1 hy).bd HF.out; rw [HRR.out] at this; exact this
      have hll := up_len hpw hin
      obtain ⟨Ln, hLn⟩ : ∃ Ln, rl.length = Ln := ⟨_, rfl⟩
      rw [hLn] at hc hll
      obtain ⟨bw, hbw⟩ : ∃ bw, L[r]? = some bw := ⟨_, List.getElem?_eq_getElem (by rw [HLL.out]; exact hrR)⟩
      obtain ⟨l, hl⟩ : ∃ l, plF f (ord.take k) l0 = l := ⟨_, rfl⟩
      rw [hl] at HPP hp
      have hlR : l.length = R := by rw [← hl, plF_len, HL0.out]
      obtain ⟨Res, hRes⟩ : ∃ Res, plc f l r = Res := ⟨_, rfl⟩
      have hsp := plc_spec HF.out l r
      have hple := plc_le HF.out l r
      rw [hRes] at hsp hple
      have HNX : Hid (plF f (ord.take (k + 1)) l0 = l.set r (Res : Int)) := Lib.hid (by rw [take_more hx, plF_app, hl, Int.toNat_natCast, hRes])
      have HFR : Hid (frm f r = if bw = true then 6 else 0) := Lib.hid (by
        unfold frm
        have := HLW.out r hrR
        rw [hbw] at this
        cases bw with
        | true => rw [if_pos (this.1 rfl), if_pos rfl]
        | false => rw [if_neg (fun h => by have := this.2 h; cases this), if_neg Bool.false_ne_true])
      have HRS : Hid (lstF (Tk f l r) (R + 1) (frm f r) = Res ∧ ¬ Tk f l r Res) := Lib.hid ⟨by rw [← hRes]; unfold plc; rw [HRR.out], hsp.2.1⟩
      -- at the world with the new map
      have hb1 := Below.one wr (.map #[] 0)
      have hm1 := SetI.made wr
      have c2 := ((hb.alloc (by omega) (.map #[] 0)).cell (p := ⟨qb, r, none⟩) (by simp only; omega)).trans hc
      have hrd1 : RdN (wr.alloc (.map #[] 0)) A rl := hrd.keepS (by have := hb.size; simp; omega) fun b o _ hbl => (hb.alloc (by omega) (.map #[] 0)).block b (by omega)
      have HM1 := Lib.hid hm1
      have HRD1 := Lib.hid hrd1
      have HAL : Hid (∀ b o, A = some ⟨b, o, none⟩ → rl ≠ [] → b < wr.heap.size) := Lib.hid fun b o e hne => by
        obtain ⟨y, hy⟩ := List.exists_mem_of_ne_nil rl hne
        obtain ⟨j, hj⟩ := List.mem_iff_getElem?.1 hy
        obtain ⟨b', o', e', hbl, _⟩ := hrd j y hj
        rw [e] at e'
        injection e' with e'
        injection e' with e1 _
        have := hb.size
        omega
      have HIN := Lib.hid hin
      have HLn := Lib.hid hLn
      have HLR := Lib.hid hlR
      have HME := Lib.hid hmem
      have HP1 := Lib.hid (Pre.later hp hb1)
      have HW : Hid (∀ wx, Below wr.heap.size (wr.alloc (.map #[] 0)) wx → wx.cell? ⟨kb, r, none⟩ = some (.bool bw) ∧ PC wx o2 l ∧ Below o2 W' wx) := Lib.hid fun wx hbx =>
        ⟨((hbx.cell (p := ⟨kb, r, none⟩) (by have := hb.size; simp only; omega)).trans ((hb.alloc (by omega) (.map #[] 0)).cell (p := ⟨kb, r, none⟩) (by simp only; omega))).trans (PreB.cell HPB.out hbw),
         Pre.of_heap hp ((hbx.block o2 hpl).trans (hb1.block o2 hpl)), (hb.alloc (by omega) (.map #[] 0)).trans (hbx.mono (by omega))⟩
      have hmm := @run_makeMap Try.prog
      have HLT := Lib.hid hlt
      clear hk hp hb hx hxb hc hrd hpw hmem hin hLn hbw hl hlR hRes hsp hb1 hm1 hrd1 hlt h2
      go_wp2
      refine ol6_any _ R o2 wr.heap.size l HLR.out HP1.out rl A Ln cap HLn.out (by omega) HIN.out HRD1.out HAL.out hpl HM1.out _ _ _ _ _ _ _ _ _ _ _ _ _ _ _ _ _ _ _ _ _ _ _ _ _ _ _ _ _ _ _ _ _ _ _ _ _ _ _ _ _ _ _ _ _ _ _ _ _ _ _ _ _ _ _ _ _ _ _ _ _ _ _ _ _ _ _ _ _ _ _ _ _ _ _ _ _ _ _ _ _ _ _ _ _ ?_
      intro v14 v64 v65 v66 v67 v68 v69 v70 v71 v72 v73 w4 T hs4 ht4 hb4
      have HTK : Hid ((fun p : Nat => T (p : Int) = true) = Tk f l r) := Lib.hid (funext fun p => propext (by
        rw [ht4]
        constructor
        · rintro ⟨o, h1, h2⟩; exact ⟨o, (HME.out _).1 h1, h2⟩
        · rintro ⟨o, h1, h2⟩; exact ⟨o, (HME.out _).2 h1, h2⟩))
      obtain ⟨kw, kp, kb4⟩ := HW.out w4 hb4
      have HS4 := Lib.hid hs4
      have hrl : r < l.length := by rw [HLR.out]; exact hrR
      have d1 := kp.get hrl
      have f1 := Pre.free kp r
      have HS5 := Lib.hid (kp.set hrl (Res : Int))
      have HB5 := Lib.hid (kb4.setCell (p := ⟨o2, r, none⟩) (Nat.le_refl _) (.int .i64 (Res : Int)))
      clear hs4 ht4 hb4 kp kb4 c1 c2
      cases bw with
      | true =>
        have hfr : frm f r = 6 := by have := HFR.out; simpa using this
        have HR2 := Lib.hid (show lstF (fun p => T (p : Int) = true) (R + 1) 6 = Res by rw [HTK.out, ← hfr]; exact HRS.out.1)
        have HN2 := Lib.hid (show ¬ T (Res : Int) = true from fun h => HRS.out.2 (by rw [← HTK.out]; exact h))
        clear hfr
        go_wp2
        refine ol8_any w4 wr.heap.size 6 (R + 1) Res T HS4.out HR2.out HN2.out (by omega) _ _ _ _ _ _ _ _ _ _ _ _ _ _ _ _ _ _ _ _ _ _ _ _ _ _ _ _ _ _ _ _ _ _ _ _ _ _ _ _ _ _ _ _ _ _ _ _ _ _ _ _ _ _ _ _ _ _ _ _ _ _ _ _ _ _ _ _ _ _ _ _ _ _ _ _ _ _ _ _ _ _ _ _ _ _ _ _ ?_
        intro t78 t79 t80 t81 t82
        go_wp2
        have := HLT.out
        exact ⟨⟨k + 1, by omega, by go_num, by rw [HNX.out]; exact HS5.out, HB5.out⟩, by simp [intOf]; omega⟩
      | false =>
        have hfr : frm f r = 0 := by have := HFR.out; simpa using this
        have HR2 := Lib.hid (show lstF (fun p => T (p : Int) = true) (R + 1) 0 = Res by rw [HTK.out, ← hfr]; exact HRS.out.1)
        have HN2 := Lib.hid (show ¬ T (Res : Int) = true from fun h => HRS.out.2 (by rw [← HTK.out]; exact h))
        clear hfr
        go_wp2
        refine ol8_any w4 wr.heap.size 0 (R + 1) Res T HS4.out HR2.out HN2.out (by omega) _ _ _ _ _ _ _ _ _ _ _ _ _ _ _ _ _ _ _ _ _ _ _ _ _ _ _ _ _ _ _ _ _ _ _ _ _ _ _ _ _ _ _ _ _ _ _ _ _ _ _ _ _ _ _ _ _ _ _ _ _ _ _ _ _ _ _ _ _ _ _ _ _ _ _ _ _ _ _ _ _ _ _ _ _ _ _ _ ?_
        intro t78 t79 t80 t81 t82
        go_wp2
        have := HLT.out
        exact ⟨⟨k + 1, by omega, by go_num, by rw [HNX.out]; exact HS5.out, HB5.out⟩, by simp [intOf]; omega⟩
    · obtain rfl : k = R := by omega
      have hki : ¬ (k : Int) < (k : Int) := by omega
      have HE : Hid (PC wr o2 (plF f ord l0)) := Lib.hid (by rw [List.take_of_length_le (by rw [HOL.out]; exact Nat.le_refl _)] at hp; exact hp)
      clear hp hb hlt hk
      go_wp2
      exact HQ.out _ _ _ _ _ _ _ _ _ _ _ _ _ _ _ _ _ _ _ _ _ _ _ _ _ _ _ _ _ _ _ _ _ _ _ _ _ _ wr HE.out HBB.out
open Go.RowKit Go.BigFrame

theorem alloc_cx (w : World) : (Instr.alloc 70 true (.tuple #[])).run Try.prog w = .ok (.pointer (some ⟨w.heap.size, 0, none⟩)) (w.alloc (.cells #[.slice none 0 0] 70 (0, 0))) := by kernel_rfl
theorem eq_nil1 (a : Addr) (l c : Nat) (w : World) : (binOp .eql 51 (.slice (some a) l c) (.slice none 0 0)).run Try.prog w = .ok (.bool false) w := by kernel_rfl
theorem eq_nil2 (w : World) : (binOp .eql 51 (.slice none 0 0) (.slice none 0 0)).run Try.prog w = .ok (.bool true) w := by kernel_rfl
theorem MeT.later {base R : Nat} {f : Fn7} {e : Ending} {w w' : World} (h : MeT base R f e w) (hb : Below w.heap.size w w') : MeT base R f e w' := by
  obtain ⟨qb, h1, h2, h3⟩ := h
  exact ⟨qb, h1, h2, h3.later hb⟩
theorem WaT.later {base R : Nat} {f : Fn7} {e : Ending} {w w' : World} (h : WaT base R f e w) (hb : Below w.heap.size w w') : WaT base R f e w' := by
  obtain ⟨xb, L, h1, h2, h3, h4⟩ := h
  exact ⟨xb, L, h1, h2, Pre.later h3 hb, h4⟩
theorem WtT.later {base R : Nat} {ws : List (Nat × Nat)} {e : Ending} {w w' : World} (h : WtT base R ws e w) (hb : Below w.heap.size w w') : WtT base R ws e w' := by
  obtain ⟨xb, h1, h2, h3⟩ := h
  exact ⟨xb, h1, h2, Pre.later h3 hb⟩
def OfG (f : Fn7) (R base : Nat) (FA : Value) : Nat → Value → World → Prop
  | 0, v, _ => v = FA
  | 1, v, w => MeT base R f (.returned v) w
  | 2, v, _ => v = FA
  | 3, v, w => WaT base R f (.returned v) w
  | 4, v, _ => v = FA
  | 5, v, w => WtT base R (wtsL f) (.returned v) w
  | 6, v, w => ∃ b, v = .pointer (some ⟨b, 0, none⟩) ∧ base ≤ b ∧ w.heap[b]? = some (.cells #[.slice none 0 0] 70 (0, 0))
  | _, _, _ => True
theorem OfG.grow {f : Fn7} {R base : Nat} {FA : Value} : ∀ i v w w', Below w.heap.size w w' → OfG f R base FA i v w → OfG f R base FA i v w'
  | 0, _, _, _, _, h => h
  | 1, _, _, _, hb, h => MeT.later h hb
  | 2, _, _, _, _, h => h
  | 3, _, _, _, hb, h => WaT.later h hb
  | 4, _, _, _, _, h => h
  | 5, _, _, _, hb, h => WtT.later h hb
  | 6, _, _, _, hb, ⟨b, h1, h2, h3⟩ => ⟨b, h1, h2, (hb.block b (Array.getElem?_eq_some_iff.1 h3).1).trans h3⟩
  | _ + 7, _, _, _, _, _ => trivial
def OfN (base : Nat) (FA : Value) : Nat → Value → World → Prop
  | 0, v, _ => v = FA
  | 1, v, _ => v = .slice none 0 0
  | 2, v, _ => v = FA
  | 3, v, _ => v = .slice none 0 0
  | 4, v, _ => v = FA
  | 5, v, _ => v = .slice none 0 0
  | 6, v, w => ∃ b, v = .pointer (some ⟨b, 0, none⟩) ∧ base ≤ b ∧ w.heap[b]? = some (.cells #[.slice none 0 0] 70 (0, 0))
  | _, _, _ => True
theorem OfN.grow {base : Nat} {FA : Value} : ∀ i v w w', Below w.heap.size w w' → OfN base FA i v w → OfN base FA i v w'
  | 0, _, _, _, _, h => h
  | 1, _, _, _, _, h => h
  | 2, _, _, _, _, h => h
  | 3, _, _, _, _, h => h
  | 4, _, _, _, _, h => h
  | 5, _, _, _, _, h => h
  | 6, _, _, _, hb, ⟨b, h1, h0, h2⟩ => ⟨b, h1, h0, (hb.block b (Array.getElem?_eq_some_iff.1 h2).1).trans h2⟩
  | _ + 7, _, _, _, _, _ => trivial
theorem cells_ne {w : World} {a b : Nat} {c1 c2 : Array Value} {t1 t2 : TypeId} {z1 z2 : Nat × Nat} (h1 : w.heap[a]? = some (.cells c1 t1 z1)) (h2 : w.heap[b]? = some (.cells c2 t2 z2)) (h : t1 ≠ t2) : a ≠ b := ne_of_obj h1 h2 (fun e => by injection e with _ e2; exact h e2)
theorem RowsK.other {w : World} {ob N k : Nat} {P : Nat → Int → Prop} (h : RowsK w ob N k P) {b j : Nat} {v0 : Value} (hne : ob ≠ b) (hc : w.cell? ⟨b, j, none⟩ = some v0) (hv : ∀ n, v0 ≠ .int .i64 n) (v : Value) : RowsK (w.setCell ⟨b, j, none⟩ v) ob N k P := by
  obtain ⟨vs, h1, h2, h3, h4⟩ := h
  refine ⟨vs, h1, Pre.of_heap h2 (heap_setCell_other w ⟨b, j, none⟩ ob v hne), h3, fun q hq => ?_⟩
  obtain ⟨u, h5, A, l, cap, h6, h7, h8⟩ := h4 q hq
  exact ⟨u, h5, A, l, cap, h6, h7.store_other hc hv v, h8⟩
def iniL (a : Nat → Int) (z : Int) (N k : Nat) : List Int := (List.range N).map fun j => if j < k then a j else z
theorem iniL_get {a : Nat → Int} {z : Int} {N k j : Nat} (hj : j < N) : (iniL a z N k)[j]? = some (if j < k then a j else z) := by simp [iniL, hj]
theorem iniL_len (a : Nat → Int) (z : Int) (N k : Nat) : (iniL a z N k).length = N := by simp [iniL]
theorem iniL_set {a : Nat → Int} {z : Int} {N k : Nat} (hk : k < N) : (iniL a z N k).set k (a k) = iniL a z N (k + 1) := by
  apply List.ext_getElem?
  intro j
  by_cases hj : j < N
  · rw [List.getElem?_set, iniL_get hj, iniL_get hj]
    by_cases h1 : k = j
    · subst h1; rw [if_pos rfl, if_pos (by simp [iniL, hk]), if_pos (by omega)]
    · rw [if_neg h1]
      by_cases h2 : j < k
      · rw [if_pos h2, if_pos (by omega)]
      · rw [if_neg h2, if_neg (by omega)]
  · rw [List.getElem?_eq_none (by simp [iniL]; omega), List.getElem?_eq_none (by simp [iniL]; omega)]
theorem iniL_zero (a : Nat → Int) (z : Int) (N : Nat) : iniL a z N 0 = List.replicate N z := by
  apply List.ext_getElem?
  intro j
  by_cases hj : j < N
  · rw [iniL_get hj, if_neg (Nat.not_lt_zero j)]; simp [hj]
  · rw [List.getElem?_eq_none (by simp [iniL]; omega), List.getElem?_eq_none (by simp; omega)]
theorem iniL_fst (z : Int) (N : Nat) : iniL (fun j => (j : Int)) z N N = fstL N := by
  unfold iniL fstL
  refine List.map_congr_left fun j hj => ?_
  rw [List.mem_range] at hj
  rw [if_pos hj]
theorem iniL_rep (y z : Int) (N : Nat) : iniL (fun _ => y) z N N = List.replicate N y := by
  apply List.ext_getElem?
  intro j
  by_cases hj : j < N
  · rw [iniL_get hj, if_pos hj]; simp [hj]
  · rw [List.getElem?_eq_none (by simp [iniL]; omega), List.getElem?_eq_none (by simp; omega)]
def OfT (base R : Nat) (f : Fn7) (e : Ending) (w : World) : Prop := ∃ ob, e = .returned (.slice (some ⟨ob, 0, none⟩) R R) ∧ base ≤ ob ∧ PC w ob (clF f)
set_option maxRecDepth 1000000 in
set_option maxHeartbeats 16000000 in
theorem Of_no (f : Fn7) (hf : ¬ OkF f) (C : Option Addr) (cap : Nat) (w : World) (hC : RdI w C f.code) :
    Calls Try.prog 13 #[funcAgg f.nm f.ps f.R f.Fr C f.code.length cap] w fun e w' => e = .returned (.slice none 0 0) ∧ Below w.heap.size w w' := by
  have hB := Below.one w (funcObj f.nm f.ps f.R f.Fr C f.code.length cap)
  have bx := heap_alloc_new w (funcObj f.nm f.ps f.R f.Fr C f.code.length cap)
  have hC1 := hC.below hB
  have hM := fun W h => Meet_no f hf C cap W h
  have hWa := fun W h => Waits_no f hf C cap W h
  have hWt := fun W h => Weights_no f hf C cap W h
  simp only [funcObj, funcAgg] at hB bx hC1 hM hWa hWt ⊢
  obtain ⟨W, hW⟩ : ∃ W, w.alloc (.cells #[.string f.nm, .int .i64 f.ps, .int .i64 f.R, .int .i64 f.Fr, .slice C f.code.length cap] 26) = W := ⟨_, rfl⟩
  rw [hW] at hB bx hC1
  have HB := Lib.hid hB
  have HBX := Lib.hid bx
  have hBl := (Array.getElem?_eq_some_iff.1 bx).1
  have HC1 := Lib.hid hC1
  have HM := Lib.hid hM
  have HWA := Lib.hid hWa
  have HWT := Lib.hid hWt
  clear hf hC hB bx hC1 hM hWa hWt
  go_enter Try.func13, Try.ntmps13
  go_upto_region 1 with fail
  clear hW
  refine wp_region_noPanic ?_
  refine wp_region_grown 7 (IG W (OfN w.heap.size (.agg #[.string f.nm, .int .i64 f.ps, .int .i64 f.R, .int .i64 f.Fr, .slice C f.code.length cap]))) (by kernel_rfl) (by kernel_rfl) ?_ ?_ ?_
  · exact ⟨(Below.refl _ _).drew, fun i v h => by cases h⟩
  · intro i o s wr hi ho hI hsi hdep
    have hb := hI.b
    have c0 := (hb.block _ hBl).trans HBX.out
    have hr := Below.refl wr.heap.size wr
    rcases (by omega : i = 0 ∨ i = 1 ∨ i = 2 ∨ i = 3 ∨ i = 4 ∨ i = 5 ∨ i = 6) with rfl | rfl | rfl | rfl | rfl | rfl | rfl
    all_goals (simp only [List.getElem?_cons_zero, List.getElem?_cons_succ] at ho; obtain rfl := Option.some.inj ho)
    · exact Or.inl ⟨_, _, runT_load 26 (.tmp 1) rfl _ rfl _ _ _ _ c0 dFn rfl dsFn, hI.step OfN.grow hr 0 _ rfl⟩
    · obtain ⟨v0, e0⟩ := some_of (hdep ⟨0, .data⟩ (by simp) rfl)
      obtain rfl := hI.g 0 _ e0
      refine Or.inr ⟨19, #[.agg #[.string f.nm, .int .i64 f.ps, .int .i64 f.R, .int .i64 f.Fr, .slice C f.code.length cap]], runT_call 19 _ _ rfl rfl _ ?_ Try.func19 (by kernel_rfl) rfl, ?_⟩
      · simp only [List.map_toArray, List.map_cons, List.map_nil]
        rw [evalT_told 0 (by kernel_rfl) e0]
      · exact (HM.out wr (HC1.out.below hb)).mono fun e w' ⟨he, hb'⟩ => ⟨_, he, hI.step OfN.grow hb' 1 _ rfl⟩
    · exact Or.inl ⟨_, _, runT_load 26 (.tmp 1) rfl _ rfl _ _ _ _ c0 dFn rfl dsFn, hI.step OfN.grow hr 2 _ rfl⟩
    · obtain ⟨v2, e2⟩ := some_of (hdep ⟨2, .data⟩ (by simp) rfl)
      obtain rfl := hI.g 2 _ e2
      refine Or.inr ⟨20, #[.agg #[.string f.nm, .int .i64 f.ps, .int .i64 f.R, .int .i64 f.Fr, .slice C f.code.length cap]], runT_call 20 _ _ rfl rfl _ ?_ Try.func20 (by kernel_rfl) rfl, ?_⟩
      · simp only [List.map_toArray, List.map_cons, List.map_nil]
        rw [evalT_told 2 (by kernel_rfl) e2]
      · exact (HWA.out wr (HC1.out.below hb)).mono fun e w' ⟨he, hb'⟩ => ⟨_, he, hI.step OfN.grow hb' 3 _ rfl⟩
    · exact Or.inl ⟨_, _, runT_load 26 (.tmp 1) rfl _ rfl _ _ _ _ c0 dFn rfl dsFn, hI.step OfN.grow hr 4 _ rfl⟩
    · obtain ⟨v4, e4⟩ := some_of (hdep ⟨4, .data⟩ (by simp) rfl)
      obtain rfl := hI.g 4 _ e4
      refine Or.inr ⟨38, #[.agg #[.string f.nm, .int .i64 f.ps, .int .i64 f.R, .int .i64 f.Fr, .slice C f.code.length cap]], runT_call 38 _ _ rfl rfl _ ?_ Try.func38 (by kernel_rfl) rfl, ?_⟩
      · simp only [List.map_toArray, List.map_cons, List.map_nil]
        rw [evalT_told 4 (by kernel_rfl) e4]
      · exact (HWT.out wr (HC1.out.below hb)).mono fun e w' ⟨he, hb'⟩ => ⟨_, he, hI.step OfN.grow hb' 5 _ rfl⟩
    · exact Or.inl ⟨_, _, runT_alloc 70 rfl _ alloc_cx, hI.step OfN.grow (Below.one wr _) 6 _ ⟨_, rfl, Nat.le_trans HB.out.size hb.size, heap_alloc_new wr _⟩⟩
  · intro s wr hI hsome
    obtain ⟨v0, e0⟩ := some_of (hsome 0 (by omega))
    obtain ⟨v1, e1⟩ := some_of (hsome 1 (by omega))
    obtain ⟨v2, e2⟩ := some_of (hsome 2 (by omega))
    obtain ⟨v3, e3⟩ := some_of (hsome 3 (by omega))
    obtain ⟨v4, e4⟩ := some_of (hsome 4 (by omega))
    obtain ⟨v5, e5⟩ := some_of (hsome 5 (by omega))
    obtain ⟨v6, e6⟩ := some_of (hsome 6 (by omega))
    obtain rfl := hI.g 1 _ e1
    obtain rfl := hI.g 3 _ e3
    obtain rfl := hI.g 5 _ e5
    obtain ⟨b, rfl, hb6, h6⟩ := hI.g 6 _ e6
    have HBW := Lib.hid (HB.out.trans (hI.b.mono HB.out.size))
    have c6 := cell_of_heap h6 0 _ rfl
    have f6 := free_of_heap h6 0
    simp only [List.take_succ_cons, List.take_zero, List.drop_succ_cons, List.drop_zero, putsT, e0, e1, e2, e3, e4, e5, e6, Option.getD_some]
    have HS := Lib.hid (hI.b)
    clear hI hsome e0 e1 e2 e3 e4 e5 e6
    go_frame
    clear h6
    have hnil := eq_nil2
    go_wp2_with fail
    refine NoPanic.normal ?_
    go_wp2
    go_returns
    exact ⟨rfl, HBW.out.setCell (p := ⟨b, 0, none⟩) hb6 _⟩
set_option maxRecDepth 1000000 in
set_option maxHeartbeats 16000000 in
theorem Of_yes (f : Fn7) (hf : OkF f) (hN60 : f.code.length ≤ 60) (C : Option Addr) (cap : Nat) (w : World) (hC : RdI w C f.code) :
    Calls Try.prog 13 #[funcAgg f.nm f.ps f.R f.Fr C f.code.length cap] w fun e w' => OfT w.heap.size f.R.toNat f e w' ∧ Below w.heap.size w w' := by
  obtain ⟨N, hN⟩ : ∃ N, f.code.length = N := ⟨_, rfl⟩
  obtain ⟨R, hRR⟩ : ∃ R, f.R.toNat = R := ⟨_, rfl⟩
  have hR0 : f.R = (R : Int) := by have := hf.R; have := hf.ps; omega
  have hR2 : R ≤ 4096 := by have := hf.R; omega
  have hB := Below.one w (funcObj f.nm f.ps f.R f.Fr C f.code.length cap)
  have bx := heap_alloc_new w (funcObj f.nm f.ps f.R f.Fr C f.code.length cap)
  have hC1 := hC.below hB
  have hM := fun W h => Meet_yes f hf C cap W h
  have hWa := fun W h => Waits_yes f hf C cap W h
  have hWt := fun W h => Weights_yes f hf hN60 C cap W h
  have hsm := wtsL_sm hN60
  have hwl : (wtsL f).length = R := by unfold wtsL; rw [wst_len, hRR]
  have hord : stab (cmpL (wtsL f)) (fstL R) = ordL f := by unfold ordL; rw [hRR]
  have hcl : plF f (ordL f) (List.replicate R (-1)) = clF f := by unfold clF; rw [hRR]
  have hop := ordL_perm f
  rw [hRR] at hop hM hWa hWt ⊢
  rw [hN] at hM hWa hWt hB bx hC1 ⊢
  simp only [funcObj, funcAgg] at hB bx hC1 hM hWa hWt ⊢
  rw [hR0] at hB bx hC1 hM hWa hWt ⊢
  obtain ⟨W, hW⟩ : ∃ W, w.alloc (.cells #[.string f.nm, .int .i64 f.ps, .int .i64 (R : Int), .int .i64 f.Fr, .slice C N cap] 26) = W := ⟨_, rfl⟩
  rw [hW] at hB bx hC1
  have HB := Lib.hid hB
  have HBX := Lib.hid bx
  have hBl := (Array.getElem?_eq_some_iff.1 bx).1
  have HC1 := Lib.hid hC1
  have HM := Lib.hid hM
  have HWA := Lib.hid hWa
  have HWT := Lib.hid hWt
  have HF := Lib.hid hf
  have HRR := Lib.hid hRR
  have HSM := Lib.hid hsm
  have HWL := Lib.hid hwl
  have HORD := Lib.hid hord
  have HCL := Lib.hid hcl
  have HOP := Lib.hid hop
  have hmk := fun W => make_ints R (by omega) W
  clear hf hC hB bx hC1 hM hWa hWt hN hRR hR0 hN60 hsm hwl hord hcl hop
  go_enter Try.func13, Try.ntmps13
  go_upto_region 1 with fail
  clear hW
  refine wp_region_noPanic ?_
  refine wp_region_grown 7 (IG W (OfG f R w.heap.size (.agg #[.string f.nm, .int .i64 f.ps, .int .i64 (R : Int), .int .i64 f.Fr, .slice C N cap]))) (by kernel_rfl) (by kernel_rfl) ?_ ?_ ?_
  · exact ⟨(Below.refl _ _).drew, fun i v h => by cases h⟩
  · intro i o s wr hi ho hI hsi hdep
    have hb := hI.b
    have c0 := (hb.block _ hBl).trans HBX.out
    have hr := Below.refl wr.heap.size wr
    rcases (by omega : i = 0 ∨ i = 1 ∨ i = 2 ∨ i = 3 ∨ i = 4 ∨ i = 5 ∨ i = 6) with rfl | rfl | rfl | rfl | rfl | rfl | rfl
    all_goals (simp only [List.getElem?_cons_zero, List.getElem?_cons_succ] at ho; obtain rfl := Option.some.inj ho)
    · exact Or.inl ⟨_, _, runT_load 26 (.tmp 1) rfl _ rfl _ _ _ _ c0 dFn rfl dsFn, hI.step OfG.grow hr 0 _ rfl⟩
    · obtain ⟨v0, e0⟩ := some_of (hdep ⟨0, .data⟩ (by simp) rfl)
      obtain rfl := hI.g 0 _ e0
      refine Or.inr ⟨19, #[.agg #[.string f.nm, .int .i64 f.ps, .int .i64 (R : Int), .int .i64 f.Fr, .slice C N cap]], runT_call 19 _ _ rfl rfl _ ?_ Try.func19 (by kernel_rfl) rfl, ?_⟩
      · simp only [List.map_toArray, List.map_cons, List.map_nil]
        rw [evalT_told 0 (by kernel_rfl) e0]
      · exact (HM.out wr (HC1.out.below hb)).mono fun e w' ⟨⟨qb, he, h2, h3⟩, hb'⟩ => ⟨_, he, hI.step OfG.grow hb' 1 _ ⟨qb, rfl, Nat.le_trans HB.out.size (Nat.le_trans hb.size h2), h3⟩⟩
    · exact Or.inl ⟨_, _, runT_load 26 (.tmp 1) rfl _ rfl _ _ _ _ c0 dFn rfl dsFn, hI.step OfG.grow hr 2 _ rfl⟩
    · obtain ⟨v2, e2⟩ := some_of (hdep ⟨2, .data⟩ (by simp) rfl)
      obtain rfl := hI.g 2 _ e2
      refine Or.inr ⟨20, #[.agg #[.string f.nm, .int .i64 f.ps, .int .i64 (R : Int), .int .i64 f.Fr, .slice C N cap]], runT_call 20 _ _ rfl rfl _ ?_ Try.func20 (by kernel_rfl) rfl, ?_⟩
      · simp only [List.map_toArray, List.map_cons, List.map_nil]
        rw [evalT_told 2 (by kernel_rfl) e2]
      · exact (HWA.out wr (HC1.out.below hb)).mono fun e w' ⟨⟨xb, L, he, h2, h3⟩, hb'⟩ => ⟨_, he, hI.step OfG.grow hb' 3 _ ⟨xb, L, rfl, Nat.le_trans HB.out.size (Nat.le_trans hb.size h2), h3⟩⟩
    · exact Or.inl ⟨_, _, runT_load 26 (.tmp 1) rfl _ rfl _ _ _ _ c0 dFn rfl dsFn, hI.step OfG.grow hr 4 _ rfl⟩
    · obtain ⟨v4, e4⟩ := some_of (hdep ⟨4, .data⟩ (by simp) rfl)
      obtain rfl := hI.g 4 _ e4
      refine Or.inr ⟨38, #[.agg #[.string f.nm, .int .i64 f.ps, .int .i64 (R : Int), .int .i64 f.Fr, .slice C N cap]], runT_call 38 _ _ rfl rfl _ ?_ Try.func38 (by kernel_rfl) rfl, ?_⟩
      · simp only [List.map_toArray, List.map_cons, List.map_nil]
        rw [evalT_told 4 (by kernel_rfl) e4]
      · exact (HWT.out wr (HC1.out.below hb)).mono fun e w' ⟨⟨xb, he, h2, h3⟩, hb'⟩ => ⟨_, he, hI.step OfG.grow hb' 5 _ ⟨xb, rfl, Nat.le_trans HB.out.size (Nat.le_trans hb.size h2), h3⟩⟩
    · exact Or.inl ⟨_, _, runT_alloc 70 rfl _ alloc_cx, hI.step OfG.grow (Below.one wr _) 6 _ ⟨_, rfl, Nat.le_trans HB.out.size hb.size, heap_alloc_new wr _⟩⟩
  · intro s wr hI hsome
    obtain ⟨v0, e0⟩ := some_of (hsome 0 (by omega))
    obtain ⟨v1, e1⟩ := some_of (hsome 1 (by omega))
    obtain ⟨v2, e2⟩ := some_of (hsome 2 (by omega))
    obtain ⟨v3, e3⟩ := some_of (hsome 3 (by omega))
    obtain ⟨v4, e4⟩ := some_of (hsome 4 (by omega))
    obtain ⟨v5, e5⟩ := some_of (hsome 5 (by omega))
    obtain ⟨v6, e6⟩ := some_of (hsome 6 (by omega))
    obtain ⟨qb, he1, hq0, hq⟩ := hI.g 1 _ e1
    injection he1 with he1
    subst he1
    obtain ⟨kb, L, he3, hk0, hk, hLl, hLw⟩ := hI.g 3 _ e3
    injection he3 with he3
    subst he3
    obtain ⟨xb, he5, hx0, hx⟩ := hI.g 5 _ e5
    injection he5 with he5
    subst he5
    obtain ⟨b, rfl, hb6, h6⟩ := hI.g 6 _ e6
    obtain ⟨csq, hcq⟩ := hq.heap
    obtain ⟨csk, hck, _⟩ := id hk
    obtain ⟨csx, hcx, _⟩ := id hx
    have nq : qb ≠ b := cells_ne hcq h6 (by decide)
    have nk : kb ≠ b := cells_ne hck h6 (by decide)
    have nx : xb ≠ b := cells_ne hcx h6 (by decide)
    have c6 := cell_of_heap h6 0 (.slice none 0 0) rfl
    have f6 := free_of_heap h6 0
    have hbl := (Array.getElem?_eq_some_iff.1 h6).1
    have hBX := (hI.b.block _ hBl).trans HBX.out
    have nB : w.heap.size ≠ b := cells_ne hBX h6 (by decide)
    obtain ⟨w1, hw1⟩ : ∃ w1, wr.setCell ⟨b, 0, none⟩ (.slice (some ⟨xb, 0, none⟩) R R) = w1 := ⟨_, rfl⟩
    have HQ1 : Hid (RowsC w1 qb R (MeP f)) := Lib.hid (by rw [← hw1]; exact (hq.other nq c6 (fun n e => by cases e) _).toC)
    have HK1 : Hid (PB w1 kb L) := Lib.hid (by rw [← hw1]; exact Pre.of_heap hk (heap_setCell_other wr ⟨b, 0, none⟩ kb _ nk))
    have HX1 : Hid (PX w1 xb (wtsL f)) := Lib.hid (by rw [← hw1]; exact Pre.of_heap hx (heap_setCell_other wr ⟨b, 0, none⟩ xb _ nx))
    have HW1 : Hid (w1.cell? ⟨b, 0, none⟩ = some (.slice (some ⟨xb, 0, none⟩) R R) ∧ b < w1.heap.size) := Lib.hid (by rw [← hw1]; exact ⟨cell_of_heap (heap_setCell h6 _) 0 _ (by simp), by simpa using hbl⟩)
    have HBX1 : Hid (w1.heap[w.heap.size]? = some (.cells #[.string f.nm, .int .i64 f.ps, .int .i64 (R : Int), .int .i64 f.Fr, .slice C N cap] 26 (0, 0))) := Lib.hid (by rw [← hw1]; exact (heap_setCell_other wr ⟨b, 0, none⟩ _ _ nB).trans hBX)
    have HBW : Hid (Below w.heap.size w w1) := Lib.hid (by rw [← hw1]; exact (HB.out.trans (hI.b.mono HB.out.size)).setCell (p := ⟨b, 0, none⟩) hb6 _)
    have HLL := Lib.hid hLl
    have HLW := Lib.hid hLw
    simp only [List.take_succ_cons, List.take_zero, List.drop_succ_cons, List.drop_zero, putsT, e0, e1, e2, e3, e4, e5, e6, Option.getD_some]
    clear hI hsome e0 e1 e2 e3 e4 e5 e6 hq hk hx hcq hck hcx hBX h6 hLl hLw hq0 hk0 hx0 nq nk nx nB hb6
    have g2 := cell_of_heap HBX1.out 2 _ rfl
    have hBl1 := (Array.getElem?_eq_some_iff.1 HBX1.out).1
    go_frame
    go_wp2_with fail
    refine NoPanic.normal ?_
    have hnil := fun W => eq_nil1 ⟨qb, 0, none⟩ R R W
    go_wp2
    clear hw1
    have HM2 : Hid (PC (w1.alloc (.cells (madeCells #[.int .i64 0] R) 3)) w1.heap.size (iniL (fun j => (j : Int)) 0 R 0)) := Lib.hid (by rw [iniL_zero]; exact made_ints w1 R)
    have HB2 := Lib.hid (Below.one w1 (.cells (madeCells #[.int .i64 0] R) 3))
    clear g2 hnil
    go_loopw [29] (fun ix wx => ∃ k : Nat, k ≤ R ∧ ix = .int .i64 k ∧ PC wx w1.heap.size (iniL (fun j => (j : Int)) 0 R k) ∧ Below w1.heap.size w1 wx) (fun ix _ => R - (intOf ix).toNat)
    case atStart => exact ⟨0, by omega, rfl, HM2.out, HB2.out⟩
    case round =>
      obtain ⟨k, hk, rfl, hp, hb⟩ := hrel
      by_cases hlt : k < R
      · have hki : (k : Int) < R := by omega
        have hkl : k < (iniL (fun j => (j : Int)) 0 R k).length := by rw [iniL_len]; exact hlt
        have d1 := hp.get hkl
        have f1 := Pre.free hp k
        have hs := hp.set hkl (k : Int)
        rw [iniL_set (a := fun j => (j : Int)) hlt] at hs
        have HS := Lib.hid hs
        have HBB := Lib.hid (hb.setCell (p := ⟨w1.heap.size, k, none⟩) (Nat.le_refl _) (.int .i64 (k : Int)))
        have HLT := Lib.hid hlt
        clear hp hb hs hkl hlt hk
        go_wp2
        have := HLT.out
        exact ⟨⟨k + 1, by omega, by go_num, HS.out, HBB.out⟩, by simp [intOf]; omega⟩
      · obtain rfl : k = R := by omega
        have hki : ¬ (k : Int) < (k : Int) := by omega
        rw [iniL_fst] at hp
        obtain ⟨w3, rfl⟩ : ∃ w3 : World, w3 = wr := ⟨_, rfl⟩
        have hol := Pre.lt hp
        have hz := hb.size
        have hbl1 := HW1.out.2
        have hxl1 := Pre.lt HX1.out
        have HSO := Lib.hid (SortStable_any (fstL k) w1.heap.size k k b (fun x => 0 ≤ x ∧ x < (k : Int)) (cmpL (wtsL f)) (by omega) w3 ⟨by simp [fstL], fun x hx => fstL_mem.1 hx, hp⟩
          (cmpL_any (wtsL f) HSM.out b xb k w1.heap.size k HWL.out w3 (Pre.later HX1.out hb) (by omega) ((hb.cell (p := ⟨b, 0, none⟩) hbl1).trans HW1.out.1) (by omega) (by omega)))
        unfold cmpV at HSO
        rw [HORD.out] at HSO
        have HB3 := Lib.hid hb
        clear hp hb hlt hk HM2 HB2
        go_wp2_with (first
          | (go_at_call 39; refine HSO.out.mono ?_; rintro e w4 ⟨rfl, hs4, ho4⟩; have HB4 := Lib.hid (HB3.out.trans (ho4.toBelow (Nat.le_refl _) (by omega))); have hx4 := (HB4.out.block w.heap.size hBl1).trans HBX1.out; have k2 := cell_of_heap hx4 2 _ rfl; have HS4 := Lib.hid hs4; have HZ4 := Lib.hid ho4.size; clear hs4 ho4 hx4))
        have hz4 := HZ4.out
        have HM5 : Hid (PC (w4.alloc (.cells (madeCells #[.int .i64 0] k) 3)) w4.heap.size (iniL (fun _ => -1) 0 k 0)) := Lib.hid (by rw [iniL_zero]; exact made_ints w4 k)
        have HB5 := Lib.hid (Below.one w4 (.cells (madeCells #[.int .i64 0] k) 3))
        clear k2 hki
        go_loopw [45] (fun ix wx => ∃ q : Nat, q ≤ k ∧ ix = .int .i64 q ∧ PC wx w4.heap.size (iniL (fun _ => -1) 0 k q) ∧ Below w4.heap.size w4 wx) (fun ix _ => k - (intOf ix).toNat)
        case atStart => exact ⟨0, by omega, rfl, HM5.out, HB5.out⟩
        case round =>
          obtain ⟨q, hq, rfl, hp, hb⟩ := hrel
          by_cases hlt : q < k
          · have hqi : (q : Int) < k := by omega
            have hql : q < (iniL (fun _ => -1) 0 k q).length := by rw [iniL_len]; exact hlt
            have d1 := hp.get hql
            have f1 := Pre.free hp q
            have hs := hp.set hql (-1)
            rw [iniL_set (a := fun _ => -1) hlt] at hs
            have HS := Lib.hid hs
            have HBB := Lib.hid (hb.setCell (p := ⟨w4.heap.size, q, none⟩) (Nat.le_refl _) (.int .i64 (-1)))
            have HLT := Lib.hid hlt
            clear hp hb hs hql hlt hq
            go_wp2
            have := HLT.out
            exact ⟨⟨q + 1, by omega, by go_num, HS.out, HBB.out⟩, by simp [intOf]; omega⟩
          · obtain rfl : q = k := by omega
            have hqi : ¬ (q : Int) < (q : Int) := by omega
            rw [iniL_rep] at hp
            have HP := Lib.hid hp
            have HBB := Lib.hid hb
            clear hp hb hlt hq HM5 HB5
            go_wp2
            refine ol4_any f HF.out q HRR.out w4 wr qb kb w1.heap.size w4.heap.size (ordL f) HS4.out.1 HS4.out.2.1 rfl (HQ1.out.below (HB4.out.mono (Nat.le_refl _))) L HLL.out HLW.out (Pre.later HK1.out HB4.out) HS4.out.2.2 HBB.out (List.replicate q (-1)) (by simp) HP.out _ _ _ _ _ _ _ _ _ _ _ _ _ _ _ _ _ _ _ _ _ _ _ _ _ _ _ _ _ _ _ _ _ _ _ _ _ _ _ _ _ _ _ _ _ _ _ _ _ _ _ _ _ _ _ _ _ _ _ _ _ _ _ _ _ _ _ _ _ _ _ _ _ _ _ _ _ _ _ _ _ _ _ _ ?_
            intro v11 v12 v14 v15 v54 v55 v56 v57 v58 v59 v60 v61 v62 v63 v64 v65 v66 v67 v68 v69 v70 v71 v72 v73 v74 v75 v76 v77 v78 v79 v80 v81 v82 v83 v84 v85 v86 v87 w6 hp6 hb6
            have HQ : Hid (OfT w.heap.size q f (.returned (.slice (some ⟨w4.heap.size, 0, none⟩) q q)) w6 ∧ Below w.heap.size w w6) := Lib.hid (by
              have h1 := HBW.out.size
              refine ⟨⟨w4.heap.size, rfl, by omega, ?_⟩, (HBW.out.trans (HB4.out.mono h1)).trans (hb6.mono (by omega))⟩
              rw [← HCL.out]
              exact hp6)
            clear hp6 hb6
            go_wp2
            go_returns
            exact HQ.out
end Go.Proofs.Ythbcdckonaljiaa
