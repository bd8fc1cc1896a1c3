import Derived.Test.YtaofdbboalcceaaGg
/- WHAT FOLD MAKES (plain): it may be; folded again it stays. -/
namespace Go.Proofs.Ytaofdbboalcceaa
open Go.RowKit Go.BigFrame

abbrev kI (dst n : Int) : Ins := ⟨1, 0, dst, 0, 0, n, ⟨#[]⟩, 0, 0, 0, 0, 0, 0, 0, -1⟩
abbrev jI (n : Int) : Ins := ⟨11, 0, -1, 0, 0, 0, ⟨#[]⟩, 0, 0, 0, 0, 0, 0, n, -1⟩
/-- a value is a word, if it is known -/
def Wd (x : Vl) : Prop := x.k = 1 → -2147483648 ≤ x.n ∧ x.n ≤ 2147483647
instance (x : Vl) : Decidable (Wd x) := by unfold Wd; infer_instance
theorem setV_wd {i : Ins} {R Fr : Int} {L : Nat} (h : Ok i R Fr L) {v : List Vl} (hv : ∀ r, Wd (at_ v r)) : Wd (setV i v).1 := by
  unfold setV
  split
  · rename_i h1; exact fun _ => h.word h1
  · split
    · exact hv _
    · split
      · split
        · intro h; cases h
        · exact fun _ => dov_bd _ _ _
      · intro h; cases h
theorem upd_wd {i : Ins} {R Fr : Int} {L : Nat} (h : Ok i R Fr L) {v : List Vl} (hv : ∀ r, Wd (at_ v r)) (r : Nat) : Wd (at_ (upd i v) r) := by
  rw [upd_at]
  split
  · exact setV_wd h hv
  · exact hv r
theorem inil_len (f : Fn7) : (ini f).length = f.R.toNat := by simp [ini]
theorem ini_at {f : Fn7} {r : Nat} (h : r < f.R.toNat) : at_ (ini f) r = if (r : Int) < f.ps then av else ⟨1, 0⟩ := by
  simp [ini, h]
theorem inil_ok (f : Fn7) : rok (ini f) := by
  intro x hx
  obtain ⟨r, hr, rfl⟩ := List.mem_iff_getElem.1 hx
  rw [inil_len] at hr
  have h := ini_at hr
  rw [at_in (by rw [inil_len]; exact hr)] at h
  rw [h]
  split
  · exact Or.inr rfl
  · exact Or.inl rfl
theorem OkF.at_ {f : Fn7} (hf : OkF f) {p : Nat} {i : Ins} (h : f.code[p]? = some i) : Ok i (f.R.toNat : Int) f.Fr f.code.length := by
  have h1 := hf.ok _ (List.mem_of_getElem? h)
  have h2 := hf.ps
  have h3 := hf.R
  rwa [show ((f.R.toNat : Nat) : Int) = f.R by omega]
/-- known values that are no words, taken out -/
def keepW (x : Vl) : Vl := if Wd x then x else nv
theorem keepW_wf {x : Vl} (h : x.wf) : (keepW x).wf := by unfold keepW; split; exact h; exact Or.inl rfl
theorem at_map (g : Vl → Vl) (hg : g nv = nv) (v : List Vl) (r : Nat) : at_ (v.map g) r = g (at_ v r) := by
  by_cases hr : r < v.length
  · rw [at_in (by simpa using hr), at_in hr]; simp
  · rw [at_out (by simp; omega), at_out (by omega), hg]
theorem row_map (g : List Vl → List Vl) (hg : g [] = []) (M : List (List Vl)) (p : Nat) : row (M.map g) p = g (row M p) := by
  by_cases hp : p < M.length
  · simp [row, List.getD, hp]
  · simp [row, List.getD, hp, hg]
theorem keepW_nv : keepW nv = nv := by unfold keepW; split <;> rfl
theorem row_nil {M : List (List Vl)} {p : Nat} (h : M.length ≤ p) : row M p = [] := by simp [row, List.getD, h]
/-- a row below another one: seen through values that may be -/
theorem le_keep {u x : Vl} (hu : u.ok) (hw : Wd u) (h : le u x) : le u (keepW x) := by
  unfold keepW
  split
  · exact h
  · rename_i hx
    rcases h with rfl | rfl | rfl
    · exact Or.inl rfl
    · exact absurd hw hx
    · exact absurd (fun e : (2 : Int) = 1 => absurd e (by decide)) hx
theorem Ans.words {f : Fn7} {M : List (List Vl)} (hf : OkF f) (h : Ans f M) (p r : Nat) : Wd (Go.Proofs.Ytaofdbboalcceaa.at_ (row M p) r) := by
  have hm0 : ∀ v : List Vl, (v.map keepW).length = v.length := fun v => by simp
  have hN : Holds f (M.map fun v => v.map keepW) := by
    refine ⟨⟨by simp [h.holds.shp.len], fun v hv => ?_⟩, fun r => ?_, fun p n u hE r => ?_⟩
    · obtain ⟨v', hv', rfl⟩ := List.mem_map.1 hv
      have := h.holds.shp.rows v' hv'
      refine ⟨by rw [hm0]; exact this.1, fun x hx => ?_⟩
      obtain ⟨y, hy, rfl⟩ := List.mem_map.1 hx
      exact keepW_wf (this.2 y hy)
    · rw [row_map _ rfl, at_map _ keepW_nv]
      by_cases hr : r < f.R.toNat
      · have hw : Wd (Go.Proofs.Ytaofdbboalcceaa.at_ (ini f) r) := by
          rw [ini_at hr]
          split
          · intro e; cases e
          · intro _; exact ⟨by simp, by simp⟩
        exact le_keep ((inil_ok f).at_ (by rw [inil_len]; exact hr)) hw (h.holds.start r)
      · rw [at_out (by rw [inil_len]; omega)]; exact Or.inl rfl
    · obtain ⟨i, v, h1, h2, h3, h4, h5, rfl⟩ := hE
      have hp : p < f.code.length := (List.getElem?_eq_some_iff.1 h1).1
      have hpM : p < M.length := by rw [h.holds.shp.len]; exact hp
      have hv0 : v = (row M p).map keepW := by
        have e := row_some h2
        rw [row_map _ rfl] at e
        exact e.symm
      have hwd : ∀ r, Wd (Go.Proofs.Ytaofdbboalcceaa.at_ (row M p) r) := fun r => by
        by_cases hr : r < v.length
        · have ho := h3.at_ hr
          rw [hv0, at_map _ keepW_nv] at ho
          unfold keepW at ho
          split at ho
          · assumption
          · rcases ho with e | e <;> cases e
        · rw [hv0, hm0] at hr
          rw [at_out (by omega)]; intro e; cases e
      have hv : v = row M p := by
        rw [hv0]
        apply List.ext_getElem (by simp)
        intro r ha hb
        have := hwd r
        rw [at_in hb] at this
        simp [keepW, this]
      rw [hv] at h3 h4 h5 ⊢
      rw [row_map _ rfl, at_map _ keepW_nv]
      have hE : Edge f M p n (upd i (row M p)) := ⟨i, row M p, h1, row_in hpM, h3, h4, h5, rfl⟩
      have hle := h.holds.edge _ _ _ hE r
      by_cases hr : r < (upd i (row M p)).length
      · exact le_keep ((upd_ok (hf.at_ h1) h3 (h.holds.shp.at_ hp).1).at_ hr) (upd_wd (hf.at_ h1) hwd r) hle
      · rw [at_out (by omega)]; exact Or.inl rfl
  have := h.least _ hN p r
  rw [row_map _ rfl, at_map _ keepW_nv] at this
  unfold keepW at this
  split at this
  · assumption
  · intro e
    rcases this with h1 | h1 | h1
    · rw [h1] at e; cases e
    · rw [h1] at e; cases e
    · cases h1
/-- what is folded may be -/
theorem foldI_ok {i : Ins} {p : Nat} {v : List Vl} {R Fr : Int} {L : Nat} (h : Ok i R Fr L) (hw : ∀ r, Wd (at_ v r)) : Ok (foldI i p v) R Fr L := by
  unfold foldI
  split
  · exact h
  · split
    · rename_i hk
      split
      · rename_i hs
        have hd : 0 ≤ i.dst ∧ i.dst < R := by
          rcases h.dst (by rcases hk with e | e | e <;> rw [e] <;> rfl) with e | e
          · exact e
          · omega
        have hw := setV_wd h hw hs.2
        refine ⟨⟨by show (1 : Int) ≤ 1; decide, by show (1 : Int) ≤ 13; decide⟩, fun r hr => ?_, fun _ => Or.inl hd, fun _ => hw, fun e => ?_, fun e => ?_, fun e => ?_, fun e => ?_, fun e => ?_, fun e => ?_, ?_⟩
        · simp [Ins.uses, kA, kB] at hr
        · simp at e
        · simp at e
        · simp at e
        · simp at e
        · simp at e
        · simp at e
        · simp [Ins.mask, kA, kB, kS]
      · exact h
    · split
      · rename_i h12
        split
        · rename_i n hn
          have hb : 0 ≤ n ∧ n < L := by
            unfold nextV at hn
            rw [if_pos h12] at hn
            split at hn
            · split at hn
              · injection hn with hn; rw [← hn]; exact h.els h12
              · injection hn with hn; rw [← hn]; exact h.to_ (Or.inr h12)
            · injection hn with _ hn; cases hn
          refine ⟨⟨by show (1 : Int) ≤ 11; decide, by show (11 : Int) ≤ 13; decide⟩, fun r hr => ?_, fun e => ?_, fun e => ?_, fun e => ?_, fun e => ?_, fun e => ?_, fun e => ?_, fun _ => hb, fun e => ?_, ?_⟩
          · simp [Ins.uses, kA, kB] at hr
          · simp [kS] at e
          · simp at e
          · simp at e
          · simp at e
          · simp at e
          · simp at e
          · simp at e
          · simp [Ins.mask, kA, kB, kS]
        · exact h
      · exact h
theorem foldI_last {i : Ins} {p : Nat} {v : List Vl} (h : 11 ≤ i.kind) : 11 ≤ (foldI i p v).kind := by
  unfold foldI
  split
  · exact h
  · split
    · omega
    · split
      · split
        · simp
        · exact h
      · exact h
def foldF (f : Fn7) (M : List (List Vl)) : Fn7 := ⟨f.nm, f.ps, f.R, f.Fr, foldL f M⟩
theorem foldF_okf {f : Fn7} {M : List (List Vl)} (hf : OkF f) (h : Ans f M) : OkF (foldF f M) := by
  have hl : (foldF f M).code.length = f.code.length := foldL_len f M
  refine ⟨hf.nm, hf.ps, hf.R, hf.Fr, by rw [hl]; exact hf.len, fun j hj => ?_, fun j hj => ?_⟩
  · rw [hl]
    obtain ⟨p, hp⟩ := List.mem_iff_getElem?.1 hj
    have hpl : p < f.code.length := by rw [← hl]; exact (List.getElem?_eq_some_iff.1 hp).1
    have e : (foldF f M).code[p]? = _ := foldL_at (M := M) hpl
    rw [e] at hp
    injection hp with hp
    rw [← hp]
    exact foldI_ok (hf.ok _ (List.mem_of_getElem? (insAt_in hpl))) (fun r => h.words hf p r)
  · rw [hl] at hj
    have h0 := hf.len
    have hpl : f.code.length - 1 < f.code.length := by omega
    have e : (foldF f M).code[f.code.length - 1]? = _ := foldL_at (M := M) hpl
    rw [e] at hj
    injection hj with hj
    rw [← hj]
    exact foldI_last (hf.last _ (insAt_in hpl))
/-- the same, or what a known value makes, or a jump -/
theorem foldI_cases (i : Ins) (p : Nat) (v : List Vl) : foldI i p v = i ∨
    ((i.kind = 4 ∨ i.kind = 2 ∨ i.kind = 3) ∧ (setV i v).2 = true ∧ (setV i v).1.k = 1 ∧ foldI i p v = kI i.dst (setV i v).1.n) ∨
    (i.kind = 12 ∧ ∃ n, nextV i p v = [n] ∧ foldI i p v = jI n) := by
  unfold foldI
  split
  · exact Or.inl rfl
  · split
    · rename_i hk
      split
      · rename_i hs; exact Or.inr (Or.inl ⟨hk, hs.1, hs.2, rfl⟩)
      · exact Or.inl rfl
    · split
      · rename_i h12
        split
        · rename_i n hn; exact Or.inr (Or.inr ⟨h12, n, hn, rfl⟩)
        · exact Or.inl rfl
      · exact Or.inl rfl
theorem kS_of {i : Ins} (hk : i.kind = 4 ∨ i.kind = 2 ∨ i.kind = 3) : i.sets = i.dst := by unfold Ins.sets; rw [if_pos (by rcases hk with e | e | e <;> rw [e] <;> rfl)]
theorem kI_sets (d n : Int) : (kI d n).sets = d := rfl
theorem upd_kI {i : Ins} (d n : Int) (v : List Vl) (hs : i.sets = d) : upd (kI d n) v = if 0 ≤ i.sets then v.set i.sets.toNat ⟨1, n⟩ else v := by
  unfold upd
  rw [kI_sets, ← hs]
  rfl
theorem upd_jI (n : Int) (v : List Vl) : upd (jI n) v = v := by unfold upd; rw [if_neg (by simp [Ins.sets, kS])]
theorem upd_12 {i : Ins} (h : i.kind = 12) (v : List Vl) : upd i v = v := by unfold upd; rw [if_neg (kS_not12 h)]
theorem nextV_plain {i : Ins} (hk : i.kind = 4 ∨ i.kind = 2 ∨ i.kind = 3) (p : Nat) (v : List Vl) : nextV i p v = [(p : Int) + 1] := by
  unfold nextV Ins.next
  rw [if_neg (by omega), if_neg (by omega), if_neg (by omega), if_neg (by omega)]
theorem nextV_kI (d n : Int) (p : Nat) (v : List Vl) : nextV (kI d n) p v = [(p : Int) + 1] := rfl
theorem nextV_jI (n : Int) (p : Nat) (v : List Vl) : nextV (jI n) p v = [n] := rfl
theorem foldF_code {f : Fn7} {M : List (List Vl)} {p : Nat} {j : Ins} (h : (foldF f M).code[p]? = some j) : ∃ i, f.code[p]? = some i ∧ j = foldI i p (row M p) := by
  have hpl : p < f.code.length := by rw [← foldL_len f M]; exact (List.getElem?_eq_some_iff.1 h).1
  have e : (foldF f M).code[p]? = _ := foldL_at (M := M) hpl
  rw [e] at h
  injection h with h
  exact ⟨_, insAt_in hpl, h.symm⟩
theorem foldF_at {f : Fn7} {M : List (List Vl)} {p : Nat} {i : Ins} (h : f.code[p]? = some i) : (foldF f M).code[p]? = some (foldI i p (row M p)) := by
  have hpl : p < f.code.length := (List.getElem?_eq_some_iff.1 h).1
  have e : (foldF f M).code[p]? = _ := foldL_at (M := M) hpl
  rw [e]
  rw [insAt_in hpl] at h
  injection h with h
  rw [h]
/-- what is in two -/
def glb (a b : Vl) : Vl := if a = av then b else if b = av then a else if a = b then a else nv
theorem glb_wf {a b : Vl} (ha : a.wf) (hb : b.wf) : (glb a b).wf := by
  unfold glb
  split
  · exact hb
  · split
    · exact ha
    · split
      · exact ha
      · exact Or.inl rfl
theorem glb_left (a b : Vl) : le (glb a b) a := by
  unfold glb
  split
  · rename_i h; rw [h]; exact Or.inr (Or.inr rfl)
  · split
    · exact le.refl _
    · split
      · exact le.refl _
      · exact Or.inl rfl
theorem glb_right (a b : Vl) : le (glb a b) b := by
  unfold glb
  split
  · exact le.refl _
  · split
    · rename_i h; rw [h]; exact Or.inr (Or.inr rfl)
    · split
      · rename_i h; rw [h]; exact le.refl _
      · exact Or.inl rfl
theorem glb_most {a b c : Vl} (h1 : le c a) (h2 : le c b) : le c (glb a b) := by
  unfold glb
  split
  · exact h2
  · rename_i ha
    split
    · exact h1
    · rename_i hb
      split
      · exact h1
      · rename_i hab
        rcases h1 with h | h | h
        · exact Or.inl h
        · rcases h2 with e | e | e
          · exact Or.inl e
          · exact absurd (h.symm.trans e) hab
          · exact absurd e hb
        · exact absurd h ha
def glbR (a b : List Vl) : List Vl := List.zipWith glb a b
theorem glbR_len {a b : List Vl} {R : Nat} (ha : a.length = R) (hb : b.length = R) : (glbR a b).length = R := by simp [glbR, ha, hb]
theorem glbR_at {a b : List Vl} {R : Nat} (ha : a.length = R) (hb : b.length = R) (r : Nat) : at_ (glbR a b) r = if r < R then glb (at_ a r) (at_ b r) else nv := by
  by_cases hr : r < R
  · rw [at_in (by rw [glbR_len ha hb]; exact hr), at_in (by omega), at_in (by omega), if_pos hr]
    simp [glbR]
  · rw [at_out (by rw [glbR_len ha hb]; omega), if_neg hr]
def glbM (M N : List (List Vl)) : List (List Vl) := List.zipWith glbR M N
theorem glbM_len {M N : List (List Vl)} (h : M.length = N.length) : (glbM M N).length = M.length := by simp [glbM, h]
theorem glbM_row {M N : List (List Vl)} (h : M.length = N.length) (p : Nat) : row (glbM M N) p = glbR (row M p) (row N p) := by
  by_cases hp : p < M.length
  · have hp' : p < N.length := by omega
    simp [row, glbM, List.getD, List.getElem?_zipWith, hp, hp']
  · rw [row_nil (by rw [glbM_len h]; omega), row_nil (by omega)]; simp [glbR]
/-- what holds together of the one, with what is folded: of the other -/
theorem foldF_ans {f : Fn7} {M : List (List Vl)} (hf : OkF f) (h : Ans f M) : Ans (foldF f M) M := by
  have hl : (foldF f M).code.length = f.code.length := foldL_len f M
  have hi0 : ini (foldF f M) = ini f := rfl
  have hsame : ∀ p i, f.code[p]? = some i → rok (row M p) → (setV i (row M p)).2 = true → ((setV (foldI i p (row M p)) (row M p)).2 = true ∧ upd (foldI i p (row M p)) (row M p) = upd i (row M p) ∧ nextV (foldI i p (row M p)) p (upd i (row M p)) = nextV i p (upd i (row M p))) := fun p i hi ho hs => by
    rcases foldI_cases i p (row M p) with e | ⟨hk, h1, h2, e⟩ | ⟨h12, n, h1, e⟩
    · rw [e]; exact ⟨hs, rfl, rfl⟩
    · rw [e]
      refine ⟨rfl, ?_, by rw [nextV_kI, nextV_plain hk]⟩
      rw [upd_kI _ _ _ (kS_of hk)]
      unfold upd
      have : (setV i (row M p)).1 = ⟨1, (setV i (row M p)).1.n⟩ := by rw [← h2]
      rw [← this]
    · rw [e]
      exact ⟨rfl, by rw [upd_jI, upd_12 h12], by rw [nextV_jI, upd_12 h12, h1]⟩
  refine ⟨⟨⟨by rw [hl]; exact h.holds.shp.len, h.holds.shp.rows⟩, by rw [hi0]; exact h.holds.start, fun p n u hE => ?_⟩, fun N hN => ?_⟩
  · obtain ⟨j, v, h1, h2, h3, h4, h5, rfl⟩ := hE
    obtain ⟨i, hi, rfl⟩ := foldF_code h1
    have hv := row_some h2
    subst hv
    have hs : (setV i (row M p)).2 = true := by
      rcases foldI_cases i p (row M p) with e | ⟨hk, h1, h2, e⟩ | ⟨h12, n, h1, e⟩
      · rwa [e] at h4
      · exact h1
      · unfold setV; rw [if_neg (by omega), if_neg (by omega), if_neg (by omega)]
    obtain ⟨e1, e2, e3⟩ := hsame p i hi h3 hs
    rw [e2, e3] at h5
    rw [e2]
    exact h.holds.edge _ _ _ ⟨i, row M p, hi, h2, h3, hs, h5, rfl⟩
  · have hMN : M.length = N.length := by rw [h.holds.shp.len, hN.shp.len, hl]
    have hrow : ∀ p, p < f.code.length → (row M p).length = f.R.toNat ∧ (row N p).length = f.R.toNat := fun p hp => ⟨(h.holds.shp.at_ hp).1, (hN.shp.at_ (by rw [hl]; exact hp)).1⟩
    have hK : Holds f (glbM M N) := by
      refine ⟨⟨by rw [glbM_len hMN]; exact h.holds.shp.len, fun v hv => ?_⟩, fun r => ?_, fun p n u hE r => ?_⟩
      · obtain ⟨p, hp⟩ := List.mem_iff_getElem?.1 hv
        have hpl : p < f.code.length := by rw [← h.holds.shp.len, ← glbM_len hMN]; exact (List.getElem?_eq_some_iff.1 hp).1
        have e := row_some hp
        rw [glbM_row hMN] at e
        obtain ⟨l1, l2⟩ := hrow p hpl
        rw [← e]
        refine ⟨glbR_len l1 l2, fun x hx => ?_⟩
        obtain ⟨r, hr, rfl⟩ := List.mem_iff_getElem.1 hx
        have hr' : r < f.R.toNat := by rwa [glbR_len l1 l2] at hr
        have := glbR_at l1 l2 r
        rw [at_in hr, if_pos hr'] at this
        rw [this]
        exact glb_wf ((h.holds.shp.at_ hpl).at_ r) ((hN.shp.at_ (by rw [hl]; exact hpl)).at_ r)
      · have h0 : 0 < f.code.length := by have := hf.len; omega
        obtain ⟨l1, l2⟩ := hrow 0 h0
        rw [glbM_row hMN, glbR_at l1 l2]
        by_cases hr : r < f.R.toNat
        · rw [if_pos hr]; exact glb_most (h.holds.start r) (hi0 ▸ hN.start r)
        · rw [at_out (by rw [inil_len]; omega)]; exact Or.inl rfl
      · obtain ⟨i, v, h1, h2, h3, h4, h5, rfl⟩ := hE
        have hp : p < f.code.length := (List.getElem?_eq_some_iff.1 h1).1
        obtain ⟨l1, l2⟩ := hrow p hp
        have hv := row_some h2
        rw [glbM_row hMN] at hv
        subst hv
        have hlen : (glbR (row M p) (row N p)).length = f.R.toNat := glbR_len l1 l2
        have leM : rle (glbR (row M p) (row N p)) (row M p) := fun r => by
          rw [glbR_at l1 l2]; split; exact glb_left _ _; exact Or.inl rfl
        have leN : rle (glbR (row M p) (row N p)) (row N p) := fun r => by
          rw [glbR_at l1 l2]; split; exact glb_right _ _; exact Or.inl rfl
        have okM := leM.rok h3 (by rw [hlen, l1])
        have okN := leN.rok h3 (by rw [hlen, l2])
        have hok := hf.at_ h1
        have mM := setV_mono hok h3 hlen leM h4
        have nM := nextV_mono hok h3 hlen leM p _ h5
        have uM := upd_mono hok h3 hlen l1 leM h4
        have eM := h.holds.edge p n _ ⟨i, row M p, h1, row_in (by rw [h.holds.shp.len]; exact hp), okM, mM.1, nM, rfl⟩
        have eN : rle (upd i (glbR (row M p) (row N p))) (row N n) := by
          have hj := foldF_at (M := M) h1
          have hrN : N[p]? = some (row N p) := row_in (by rw [← hMN, h.holds.shp.len]; exact hp)
          rcases foldI_cases i p (row M p) with e | ⟨hk, a1, a2, e⟩ | ⟨h12, m, a1, e⟩
          · rw [e] at hj
            have mN := setV_mono hok h3 hlen leN h4
            have nN := nextV_mono hok h3 hlen leN p _ h5
            exact (upd_mono hok h3 hlen l2 leN h4).trans (hN.edge p n _ ⟨i, row N p, hj, hrN, okN, mN.1, nN, rfl⟩)
          · rw [e] at hj
            have hE := hN.edge p n _ ⟨_, row N p, hj, hrN, okN, rfl, by rw [nextV_kI]; rwa [nextV_plain hk] at h5, rfl⟩
            refine rle.trans (fun r => ?_) hE
            rw [upd_at, upd_at, kI_sets, kS_of hk, hlen, l2]
            split
            · have : (setV (kI i.dst (setV i (row M p)).1.n) (row N p)).1 = (setV i (row M p)).1 := by rw [show (setV (kI i.dst (setV i (row M p)).1.n) (row N p)).1 = ⟨1, (setV i (row M p)).1.n⟩ from rfl, ← a2]
              rw [this]; exact mM.2
            · exact leN r
          · rw [e] at hj
            have hn : (n : Int) = m := by rw [upd_12 h12, a1] at nM; simpa using nM
            have hE := hN.edge p n _ ⟨_, row N p, hj, hrN, okN, rfl, by rw [nextV_jI, hn]; simp, rfl⟩
            rw [upd_jI] at hE
            rw [upd_12 h12]
            exact leN.trans hE
        have hlu : (upd i (glbR (row M p) (row N p))).length = f.R.toNat := by rw [upd_len]; exact hlen
        by_cases hr : r < f.R.toNat
        · have hn : n < f.code.length := by
            by_cases hn : n < f.code.length
            · exact hn
            · have := eM r
              rw [row_nil (M := M) (p := n) (by rw [h.holds.shp.len]; omega)] at this
              have ho := (upd_ok hok okM l1).at_ (r := r) (by rw [upd_len, l1]; exact hr)
              have h0 : at_ ([] : List Vl) r = nv := at_out (by simp)
              rw [h0] at this
              rcases this with e | e | e
              · rw [e] at ho; rcases ho with e | e <;> cases e
              · rw [e] at ho; rcases ho with e | e <;> cases e
              · cases e
          obtain ⟨k1, k2⟩ := hrow n hn
          rw [glbM_row hMN, glbR_at k1 k2, if_pos hr]
          exact glb_most ((uM r).trans (eM r)) (eN r)
        · rw [at_out (by omega)]; exact Or.inl rfl
    have hle := h.least _ hK
    intro p r
    refine (hle p r).trans ?_
    by_cases hp : p < f.code.length
    · obtain ⟨l1, l2⟩ := hrow p hp
      rw [glbM_row hMN, glbR_at l1 l2]
      split
      · exact glb_right _ _
      · exact Or.inl rfl
    · rw [row_nil (by rw [glbM_len hMN, h.holds.shp.len]; omega)]
      have h0 : at_ ([] : List Vl) r = nv := at_out (by simp)
      rw [h0]; exact Or.inl rfl
theorem foldI_twice (i : Ins) (p : Nat) (v : List Vl) : foldI (foldI i p v) p v = foldI i p v := by
  rcases foldI_cases i p v with e | ⟨hk, a1, a2, e⟩ | ⟨h12, m, a1, e⟩
  · rw [e, e]
  · rw [e]
    rcases foldI_cases (kI i.dst (setV i v).1.n) p v with e' | ⟨hk', _⟩ | ⟨h12', _⟩
    · exact e'
    · simp at hk'
    · simp at h12'
  · rw [e]
    rcases foldI_cases (jI m) p v with e' | ⟨hk', _⟩ | ⟨h12', _⟩
    · exact e'
    · simp at hk'
    · simp at h12'
theorem foldF_insAt {f : Fn7} {M : List (List Vl)} {p : Nat} (hp : p < f.code.length) : insAt (foldF f M).code p = foldI (insAt f.code p) p (row M p) := by
  have := foldF_at (M := M) (insAt_in hp)
  simp [insAt, List.getD, this]
/-- folded again it stays -/
theorem foldL_twice (f : Fn7) (M : List (List Vl)) : foldL (foldF f M) M = foldL f M := by
  have hl : (foldF f M).code.length = f.code.length := foldL_len f M
  unfold foldL
  rw [show ((foldF f M).code.length) = f.code.length from hl]
  apply List.map_congr_left
  intro p hp
  have hp : p < f.code.length := by simpa using hp
  rw [foldF_insAt hp, foldI_twice]
theorem foldN_twice (f : Fn7) (M : List (List Vl)) : ∀ p, p ≤ f.code.length → foldN (foldF f M) M p = 0
  | 0, _ => rfl
  | p + 1, h => by
    have := foldN_twice f M p (by omega)
    unfold foldN
    rw [this, foldF_insAt (by omega), foldI_twice, if_pos rfl]
end Go.Proofs.Ytaofdbboalcceaa

/- JOINS AND EDGES, AS THE LAWS GO THROUGH THEM (plain). -/
namespace Go.Proofs.Ytaofdbboalcceaa
open Go.RowKit Go.BigFrame

theorem join_comm {a b : Vl} (ha : a.wf) (hb : b.wf) : join a b = join b a :=
  (join.least (join.right ha) (join.left hb)).anti (join.least (join.right hb) (join.left ha))
theorem join_self (a : Vl) : join a a = a := by unfold join; split <;> simp
theorem join_assoc {a b c : Vl} (ha : a.wf) (hb : b.wf) (hc : c.wf) : join (join a b) c = join a (join b c) := by
  have hab := join.wf ha hb
  have hbc := join.wf hb hc
  apply le.anti
  · exact join.least (join.least (join.left ha) ((join.left hb).trans (join.right hbc))) ((join.right hc).trans (join.right hbc))
  · exact join.least ((join.left ha).trans (join.left hab)) (join.least ((join.right hb).trans (join.left hab)) (join.right hc))
theorem join_nv {a : Vl} (ha : a.wf) : join a nv = a := by
  unfold join
  split
  · rename_i h
    rcases ha with e | e | e
    · exact e.symm
    · omega
    · rw [e] at h; cases h
  · rw [if_pos (Or.inl rfl)]
theorem join_last (a b : Vl) (h1 : a ≠ b) (h2 : a.k ≠ 0) (h3 : b.k ≠ 0) : join a b = av := by
  unfold join
  rw [if_neg h2, if_neg (by rintro (h | h); exact h3 h; exact h1 h)]
/-- is the k-th of the next ones not gone? -/
def skip (i : Ins) (u : List Vl) (k : Nat) : Bool := decide (i.kind = 12) && (decide ((at_ u i.a.toNat).k = 1) && (decide ((at_ u i.a.toNat).n ≠ 0) != decide (k = 0)))
theorem skip_next {i : Ins} {p : Nat} {u : List Vl} {k : Nat} {n : Int} (h : (i.next p)[k]? = some n) (hs : skip i u k = false) : n ∈ nextV i p u := by
  unfold nextV
  by_cases h12 : i.kind = 12
  · have e : i.next p = [i.to_, i.els] := by unfold Ins.next; rw [if_neg (by omega), if_pos h12]
    rw [e] at h
    rw [if_pos h12]
    unfold skip at hs
    rw [decide_eq_true h12, Bool.true_and] at hs
    obtain ⟨x, hx⟩ : ∃ x, at_ u i.a.toNat = x := ⟨_, rfl⟩
    rw [hx] at hs ⊢
    by_cases h1 : x.k = 1
    · rw [decide_eq_true h1, Bool.true_and] at hs
      rw [if_pos h1]
      by_cases h0 : x.n = 0
      · rw [if_pos h0]
        match k, h with
        | 0, h => simp [h0] at hs
        | 1, h => simp at h; simp [h]
        | k + 2, h => simp at h
      · rw [if_neg h0]
        match k, h with
        | 0, h => simp at h; simp [h]
        | 1, h => simp [h0] at hs
        | k + 2, h => simp at h
    · rw [if_neg h1]; exact List.mem_of_getElem? h
  · rw [if_neg h12]; exact List.mem_of_getElem? h
theorem next_skip {i : Ins} {p : Nat} {u : List Vl} {n : Int} (h : n ∈ nextV i p u) : ∃ k, (i.next p)[k]? = some n ∧ skip i u k = false := by
  unfold nextV at h
  by_cases h12 : i.kind = 12
  · have e : i.next p = [i.to_, i.els] := by unfold Ins.next; rw [if_neg (by omega), if_pos h12]
    rw [e]
    rw [if_pos h12] at h
    unfold skip
    rw [decide_eq_true h12]
    obtain ⟨x, hx⟩ : ∃ x, at_ u i.a.toNat = x := ⟨_, rfl⟩
    rw [hx] at h ⊢
    by_cases h1 : x.k = 1
    · rw [if_pos h1] at h
      by_cases h0 : x.n = 0
      · rw [if_pos h0] at h
        exact ⟨1, by simp at h; simp [h], by simp [h0]⟩
      · rw [if_neg h0] at h
        exact ⟨0, by simp at h; simp [h], by simp [h0]⟩
    · rw [if_neg h1] at h
      obtain ⟨k, hk⟩ := List.mem_iff_getElem?.1 h
      exact ⟨k, hk, by simp [h1]⟩
  · rw [if_neg h12] at h
    obtain ⟨k, hk⟩ := List.mem_iff_getElem?.1 h
    exact ⟨k, hk, by simp [skip, h12]⟩
theorem nextL_in {f : Fn7} (hf : OkF f) {p : Nat} {i : Ins} (hi : f.code[p]? = some i) {n : Int} (hn : n ∈ i.next p) : 0 ≤ n ∧ n < f.code.length := by
  have hp : p < f.code.length := (List.getElem?_eq_some_iff.1 hi).1
  have h := hf.ok _ (List.mem_of_getElem? hi)
  unfold Ins.next at hn
  split at hn
  · rename_i h11; simp at hn; subst hn; exact h.to_ (Or.inl h11)
  · split at hn
    · rename_i h12
      simp at hn
      rcases hn with rfl | rfl
      · exact h.to_ (Or.inr h12)
      · exact h.els h12
    · split at hn
      · simp at hn
      · rename_i h1 h2 h3
        simp at hn
        subst hn
        have hk := h.kind
        have : p ≠ f.code.length - 1 := fun e => by
          have := hf.last i (by rw [← e]; exact hi)
          omega
        omega
/-- what comes, edge by edge -/
def cedge (i : Ins) (p : Nat) (u : List Vl) (C : List (List Vl)) (k : Nat) : List (List Vl) :=
  match (i.next p)[k]? with
  | some n => if skip i u k then C else C.set n.toNat (jrow (row C n.toNat) u)
  | none => C
def cedges (i : Ins) (p : Nat) (u : List Vl) (C : List (List Vl)) : Nat → List (List Vl)
  | 0 => C
  | k + 1 => cedge i p u (cedges i p u C k) k
def goes (f : Fn7) (M : List (List Vl)) (p : Nat) : Bool := !(row M p).any (fun x => x.k == 0) && (setV (insAt f.code p) (row M p)).2
def cstep (f : Fn7) (M C : List (List Vl)) (p : Nat) : List (List Vl) :=
  if goes f M p then cedges (insAt f.code p) p (upd (insAt f.code p) (row M p)) C ((insAt f.code p).next p).length else C
def cinit (f : Fn7) : List (List Vl) := (List.replicate f.code.length (List.replicate f.R.toNat nv)).set 0 (ini f)
def call (f : Fn7) (M : List (List Vl)) : Nat → List (List Vl)
  | 0 => cinit f
  | p + 1 => cstep f M (call f M p) p
theorem rok_of {R : Nat} {v : List Vl} (h : Rw R v) (hn : v.any (fun x => x.k == 0) = false) : rok v := fun x hx => by
  refine (h.2 x hx).ok fun e => ?_
  have : v.any (fun x => x.k == 0) = true := List.any_eq_true.2 ⟨x, hx, by simpa using e⟩
  rw [hn] at this; cases this
theorem any_of_rok {v : List Vl} (h : rok v) : v.any (fun x => x.k == 0) = false := by
  rw [List.any_eq_false]
  intro x hx
  rcases h x hx with e | e
  · simp [e]
  · simp [e]
theorem Holds.row0 {f : Fn7} {M : List (List Vl)} (h : Holds f M) : rle (ini f) (row M 0) := h.start
/-- within: it is joined to no more -/
theorem within_iff {a b : Vl} (ha : a.wf) (hb : b.wf) : (join a b = b) ↔ le a b := le.join ha hb
structure CI (f : Fn7) (M C : List (List Vl)) : Prop where
  shp : Shp f C
  below : mle C M
  start : rle (ini f) (row C 0)
theorem cinit_ci {f : Fn7} (hf : OkF f) {M : List (List Vl)} (h : Ans f M) : CI f M (cinit f) := by
  have h0 : 0 < f.code.length := by have := hf.len; omega
  have hr : ∀ q, row (cinit f) q = if 0 = q ∧ q < f.code.length then ini f else row (List.replicate f.code.length (List.replicate f.R.toNat nv)) q := fun q => by
    unfold cinit; rw [row_set]; simp
  refine ⟨⟨by simp [cinit], fun v hv => ?_⟩, fun q => ?_, ?_⟩
  · rcases List.mem_or_eq_of_mem_set hv with hv | rfl
    · rw [List.mem_replicate] at hv
      rw [hv.2]
      exact ⟨by simp, fun x hx => by rw [List.mem_replicate] at hx; rw [hx.2]; exact Or.inl rfl⟩
    · exact ⟨inil_len f, fun x hx => (inil_ok f x hx).wf⟩
  · rw [hr]
    split
    · rename_i e; rw [← e.1]; exact h.holds.start
    · intro r
      have : at_ (row (List.replicate f.code.length (List.replicate f.R.toNat nv)) q) r = nv := by
        by_cases hq : q < f.code.length
        · have : row (List.replicate f.code.length (List.replicate f.R.toNat nv)) q = List.replicate f.R.toNat nv := by simp [row, List.getD, hq]
          rw [this]
          by_cases hr : r < f.R.toNat
          · simp [at_, List.getD, hr]
          · exact at_out (by simp; omega)
        · rw [row_nil (by simp; omega)]; exact at_out (by simp)
      rw [this]; exact Or.inl rfl
  · rw [hr, if_pos ⟨rfl, h0⟩]; exact rle.refl _
theorem cedge_ci {f : Fn7} {M C : List (List Vl)} (hf : OkF f) (h : Ans f M) (hC : CI f M C) {p : Nat} {i : Ins} (hi : f.code[p]? = some i) (ho : rok (row M p)) (hs : (setV i (row M p)).2 = true) (k : Nat) :
    CI f M (cedge i p (upd i (row M p)) C k) ∧ mle C (cedge i p (upd i (row M p)) C k) ∧ ∀ n : Nat, (i.next p)[k]? = some (n : Int) → skip i (upd i (row M p)) k = false → rle (upd i (row M p)) (row (cedge i p (upd i (row M p)) C k) n) := by
  unfold cedge
  have hp : p < f.code.length := (List.getElem?_eq_some_iff.1 hi).1
  cases hk : (i.next p)[k]? with
  | none => exact ⟨hC, fun _ => rle.refl _, fun n hn => by cases hn⟩
  | some n0 =>
    cases hsk : skip i (upd i (row M p)) k with
    | true => exact ⟨hC, fun _ => rle.refl _, fun n _ hn => by cases hn⟩
    | false =>
      simp only [Bool.false_eq_true, if_false]
      have hn0 := nextL_in hf hi (List.mem_of_getElem? hk)
      obtain ⟨m, rfl⟩ : ∃ m : Nat, n0 = m := ⟨n0.toNat, by omega⟩
      have hm : m < f.code.length := by omega
      rw [Int.toNat_natCast]
      have hu : Rw f.R.toNat (upd i (row M p)) := ⟨by rw [upd_len]; exact (h.holds.shp.at_ hp).1, fun x hx => (upd_ok (hf.at_ hi) ho (h.holds.shp.at_ hp).1 x hx).wf⟩
      have hrow := hC.shp.at_ hm
      have hle : rle (upd i (row M p)) (row M m) := h.holds.edge _ _ _ ⟨i, row M p, hi, row_in (by rw [h.holds.shp.len]; exact hp), ho, hs, skip_next hk hsk, rfl⟩
      have hup : ∀ q, rle (row C q) (row (C.set m (jrow (row C m) (upd i (row M p)))) q) := fun q => by
        rw [row_set]
        split
        · rename_i e; rw [← e.1]; exact jrow_left hrow hu
        · exact rle.refl _
      refine ⟨⟨⟨by simp [hC.shp.len], fun v hv => ?_⟩, fun q => ?_, hC.start.trans (hup 0)⟩, hup, fun n hn _ => ?_⟩
      · rcases List.mem_or_eq_of_mem_set hv with hv | rfl
        · exact hC.shp.rows v hv
        · exact jrow_rw hrow hu
      · rw [row_set]
        split
        · rename_i e; rw [← e.1]; exact jrow_least hrow hu (hC.below m) hle
        · exact hC.below q
      · obtain rfl : n = m := by injection hn with hn; omega
        rw [row_set, if_pos ⟨rfl, by rw [hC.shp.len]; exact hm⟩]
        exact jrow_right hrow hu
theorem mle.trans {A B C : List (List Vl)} (h1 : mle A B) (h2 : mle B C) : mle A C := fun p => (h1 p).trans (h2 p)
theorem cedges_ci {f : Fn7} {M C : List (List Vl)} (hf : OkF f) (h : Ans f M) (hC : CI f M C) {p : Nat} {i : Ins} (hi : f.code[p]? = some i) (ho : rok (row M p)) (hs : (setV i (row M p)).2 = true) : ∀ k,
    CI f M (cedges i p (upd i (row M p)) C k) ∧ mle C (cedges i p (upd i (row M p)) C k) ∧ ∀ (j n : Nat), j < k → (i.next p)[j]? = some (n : Int) → skip i (upd i (row M p)) j = false → rle (upd i (row M p)) (row (cedges i p (upd i (row M p)) C k) n)
  | 0 => ⟨hC, fun _ => rle.refl _, fun j n hj => by omega⟩
  | k + 1 => by
    obtain ⟨a1, a2, a3⟩ := cedges_ci hf h hC hi ho hs k
    obtain ⟨b1, b2, b3⟩ := cedge_ci hf h a1 hi ho hs k
    refine ⟨b1, a2.trans b2, fun j n hj hn hsk => ?_⟩
    by_cases e : j = k
    · subst e; exact b3 n hn hsk
    · exact (a3 j n (by omega) hn hsk).trans (b2 n)
theorem goes_iff {f : Fn7} {M : List (List Vl)} (h : Ans f M) {p : Nat} {i : Ins} (hi : f.code[p]? = some i) : goes f M p = true ↔ rok (row M p) ∧ (setV i (row M p)).2 = true := by
  have hp : p < f.code.length := (List.getElem?_eq_some_iff.1 hi).1
  have e : insAt f.code p = i := by have := insAt_in hp; rw [hi] at this; injection this with this; exact this.symm
  unfold goes
  rw [e, Bool.and_eq_true, Bool.not_eq_true']
  exact ⟨fun ⟨a, b⟩ => ⟨rok_of (h.holds.shp.at_ hp) a, b⟩, fun ⟨a, b⟩ => ⟨any_of_rok a, b⟩⟩
theorem call_ci {f : Fn7} {M : List (List Vl)} (hf : OkF f) (h : Ans f M) : ∀ q, q ≤ f.code.length →
    CI f M (call f M q) ∧ ∀ p n u, p < q → Edge f M p n u → rle u (row (call f M q) n)
  | 0, _ => ⟨cinit_ci hf h, fun p n u hp => by omega⟩
  | q + 1, hq => by
    obtain ⟨a1, a2⟩ := call_ci hf h q (by omega)
    have hi := insAt_in (l := f.code) (p := q) (by omega)
    show CI f M (cstep f M (call f M q) q) ∧ ∀ p n u, p < q + 1 → Edge f M p n u → rle u (row (cstep f M (call f M q) q) n)
    unfold cstep
    have hgi := goes_iff h hi
    cases hg : goes f M q with
    | false =>
      refine ⟨a1, fun p n u hp hE => ?_⟩
      by_cases e : p = q
      · subst e
        obtain ⟨i, v, h1, h2, h3, h4, _, _⟩ := hE
        rw [hi] at h1
        injection h1 with h1
        subst h1
        have hv := row_some h2
        subst hv
        rw [hgi.2 ⟨h3, h4⟩] at hg; cases hg
      · exact a2 p n u (by omega) hE
    | true =>
      obtain ⟨ho, hs⟩ := hgi.1 hg
      obtain ⟨b1, b2, b3⟩ := cedges_ci hf h a1 hi ho hs ((insAt f.code q).next q).length
      refine ⟨b1, fun p n u hp hE => ?_⟩
      by_cases e : p = q
      · subst e
        obtain ⟨i, v, h1, h2, h3, h4, h5, rfl⟩ := hE
        rw [hi] at h1
        injection h1 with h1
        subst h1
        have hv := row_some h2
        subst hv
        obtain ⟨k, hk, hsk⟩ := next_skip h5
        exact b3 k n (List.getElem?_eq_some_iff.1 hk).1 hk hsk
      · exact (a2 p n u (by omega) hE).trans (b2 n)
/-- what comes by all edges is what is known -/
theorem call_all {f : Fn7} {M : List (List Vl)} (hf : OkF f) (h : Ans f M) : call f M f.code.length = M := by
  obtain ⟨hc, he⟩ := call_ci hf h f.code.length (Nat.le_refl _)
  have hH : Holds f (call f M f.code.length) := by
    refine ⟨hc.shp, hc.start, fun p n u hE => ?_⟩
    obtain ⟨i, v, h1, h2, h3, h4, h5, rfl⟩ := hE
    have hp : p < f.code.length := (List.getElem?_eq_some_iff.1 h1).1
    have hv := row_some h2
    subst hv
    have l1 := (hc.shp.at_ hp).1
    have l2 := (h.holds.shp.at_ hp).1
    have hle := hc.below p
    have okM := hle.rok h3 (by rw [l1, l2])
    have hok := hf.at_ h1
    have mM := setV_mono hok h3 l1 hle h4
    have nM := nextV_mono hok h3 l1 hle p _ h5
    exact (upd_mono hok h3 l1 l2 hle h4).trans (he p n _ hp ⟨i, row M p, h1, row_in (by rw [h.holds.shp.len]; exact hp), okM, mM.1, nM, rfl⟩)
  have hA : Ans f (call f M f.code.length) := ⟨hH, fun N hN => hc.below.trans (h.least N hN)⟩
  exact hA.unique h
end Go.Proofs.Ytaofdbboalcceaa

/- A ROW OF CONSTS AND OPERATIONS WITHOUT JUMPS (plain). -/
namespace Go.Proofs.Ytaofdbboalcceaa
open Go.RowKit Go.BigFrame

/-- no jumps but a Return at the end; all steady; parameters none -/
structure Strt (f : Fn7) : Prop where
  okf : OkF f
  ps : f.ps = 0
  kinds : ∀ (p : Nat) (i : Ins), f.code[p]? = some i → (i.kind = 1 ∨ i.kind = 3 ∨ i.kind = 13)
  last : ∀ (p : Nat) (i : Ins), f.code[p]? = some i → i.kind = 13 → p + 1 = f.code.length
  steady : ∀ (p : Nat) (i : Ins), f.code[p]? = some i → i.kind = 3 → ∀ a b, (dov i.op a b).2 = true
def srow (f : Fn7) : Nat → List Vl
  | 0 => ini f
  | p + 1 => upd (insAt f.code p) (srow f p)
def sM (f : Fn7) : List (List Vl) := (List.range f.code.length).map (srow f)
theorem sM_at {f : Fn7} {p : Nat} (h : p < f.code.length) : (sM f)[p]? = some (srow f p) := by simp [sM, h]
theorem sM_row {f : Fn7} {p : Nat} (h : p < f.code.length) : row (sM f) p = srow f p := row_some (sM_at h)
theorem srow_len (f : Fn7) : ∀ p, (srow f p).length = f.R.toNat
  | 0 => inil_len f
  | p + 1 => by show (upd _ _).length = _; rw [upd_len]; exact srow_len f p
/-- all are known -/
def kn (v : List Vl) : Prop := ∀ x ∈ v, x.k = 1
theorem kn.at_ {v : List Vl} (h : kn v) {r : Nat} (hr : r < v.length) : (at_ v r).k = 1 := by rw [at_in hr]; exact h _ (List.getElem_mem hr)
theorem kn.ok {v : List Vl} (h : kn v) : rok v := fun x hx => Or.inl (h x hx)
theorem setV_kn {f : Fn7} (hs : Strt f) {p : Nat} {i : Ins} (hi : f.code[p]? = some i) {v : List Vl} (hv : kn v) (hl : v.length = f.R.toNat) : (setV i v).2 = true ∧ (i.kind ≠ 13 → (setV i v).1.k = 1) := by
  have hok := hs.okf.at_ hi
  rcases hs.kinds p i hi with e | e | e
  · unfold setV; rw [if_pos e]; exact ⟨rfl, fun _ => rfl⟩
  · have ha := hok.a_in (by rw [e]; rfl)
    have hb := hok.b_in (by rw [e]; rfl)
    have h1 := hv.at_ (r := i.a.toNat) (by omega)
    have h2 := hv.at_ (r := i.b.toNat) (by omega)
    have h3 : (bval i v).k = 1 := by unfold bval; rw [if_pos e]; exact h2
    unfold setV
    rw [if_neg (by omega), if_neg (by omega), if_pos (Or.inr e), if_neg (by omega)]
    exact ⟨hs.steady p i hi e _ _, fun _ => rfl⟩
  · unfold setV; rw [if_neg (by omega), if_neg (by omega), if_neg (by omega)]; exact ⟨rfl, fun h => absurd e h⟩
theorem upd_kn {f : Fn7} (hs : Strt f) {p : Nat} {i : Ins} (hi : f.code[p]? = some i) {v : List Vl} (hv : kn v) (hl : v.length = f.R.toNat) : kn (upd i v) := by
  unfold upd
  split
  · rename_i h0
    intro x hx
    rcases List.mem_or_eq_of_mem_set hx with hx | rfl
    · exact hv x hx
    · exact (setV_kn hs hi hv hl).2 (fun e => by simp [Ins.sets, kS, e] at h0)
  · exact hv
theorem srow_kn {f : Fn7} (hs : Strt f) : ∀ p, p ≤ f.code.length → kn (srow f p)
  | 0, _ => fun x hx => by
    obtain ⟨r, hr, rfl⟩ := List.mem_iff_getElem.1 hx
    have hr' : r < f.R.toNat := by rwa [show (srow f 0).length = _ from srow_len f 0] at hr
    have h := ini_at hr'
    rw [at_in (by rw [inil_len]; exact hr')] at h
    rw [show (srow f 0)[r] = _ from h, if_neg (by rw [hs.ps]; omega)]
  | p + 1, h => upd_kn hs (insAt_in (by omega)) (srow_kn hs p (by omega)) (srow_len f p)
theorem next_strt {f : Fn7} (hs : Strt f) {p : Nat} {i : Ins} (hi : f.code[p]? = some i) (v : List Vl) : nextV i p v = if i.kind = 13 then [] else [(p : Int) + 1] := by
  unfold nextV Ins.next
  rcases hs.kinds p i hi with e | e | e
  · rw [if_neg (by omega), if_neg (by omega), if_neg (by omega), if_neg (by omega)]
  · rw [if_neg (by omega), if_neg (by omega), if_neg (by omega), if_neg (by omega)]
  · rw [if_neg (by omega), if_neg (by omega), if_neg (by omega), if_pos e]
theorem sM_holds {f : Fn7} (hs : Strt f) : Holds f (sM f) := by
  have h0 := hs.okf.len
  refine ⟨⟨by simp [sM], fun v hv => ?_⟩, by rw [sM_row (by omega)]; exact rle.refl _, fun p n u hE => ?_⟩
  · obtain ⟨p, hp, rfl⟩ := List.mem_map.1 hv
    have hp : p < f.code.length := by simpa using hp
    exact ⟨srow_len f p, fun x hx => (srow_kn hs p (by omega)).ok x hx |>.wf⟩
  · obtain ⟨i, v, h1, h2, h3, h4, h5, rfl⟩ := hE
    have hp : p < f.code.length := (List.getElem?_eq_some_iff.1 h1).1
    rw [sM_at hp] at h2
    injection h2 with h2
    subst h2
    have e : insAt f.code p = i := by have := insAt_in hp; rw [h1] at this; injection this with this; exact this.symm
    have hin := h5
    rw [next_strt hs h1] at h5
    split at h5
    · simp at h5
    · have hn : n = p + 1 := by simp at h5; omega
      subst hn
      have hlt : p + 1 < f.code.length := by
        have hx : ((p + 1 : Nat) : Int) ∈ i.next p := by
          unfold nextV at hin
          rw [if_neg (by rcases hs.kinds p i h1 with e | e | e <;> omega)] at hin
          exact hin
        have := nextL_in hs.okf h1 hx
        omega
      rw [sM_row hlt]
      show rle _ (upd (insAt f.code p) (srow f p))
      rw [e]
      exact rle.refl _
theorem sM_ans {f : Fn7} (hs : Strt f) : Ans f (sM f) := by
  refine ⟨sM_holds hs, fun N hN => ?_⟩
  have key : ∀ p, p < f.code.length → rle (srow f p) (row N p) := by
    intro p
    induction p with
    | zero => exact fun _ => hN.start
    | succ p ih =>
      intro hp
      have hle := ih (by omega)
      have hi := insAt_in (l := f.code) (p := p) (by omega)
      have hok := hs.okf.at_ hi
      have hk := srow_kn hs p (by omega)
      have l2 := (hN.shp.at_ (p := p) (by omega)).1
      have hs1 := (setV_kn hs hi hk (srow_len f p)).1
      have hm := setV_mono hok hk.ok (srow_len f p) hle hs1
      have okN := hle.rok hk.ok (by rw [srow_len, l2])
      by_cases h13 : (insAt f.code p).kind = 13
      · exact absurd (hs.last p _ hi h13) (by omega)
      · have hn : ((p + 1 : Nat) : Int) ∈ nextV (insAt f.code p) p (upd (insAt f.code p) (row N p)) := by
          rw [next_strt hs hi, if_neg h13]; simp
        exact (upd_mono hok hk.ok (srow_len f p) l2 hle hs1).trans (hN.edge p (p + 1) _ ⟨_, row N p, hi, row_in (by rw [hN.shp.len]; omega), okN, hm.1, hn, rfl⟩)
  intro p
  by_cases hp : p < f.code.length
  · rw [sM_row hp]; exact key p hp
  · rw [row_nil (by simp [sM]; omega)]
    intro r
    have h0 : at_ ([] : List Vl) r = nv := at_out (by simp)
    rw [h0]; exact Or.inl rfl
theorem not_any {v : List Vl} (h : rok v) : ¬ v.any (fun x => x.k == 0) = true := by rw [any_of_rok h]; decide
theorem foldI_strt3 {f : Fn7} (hs : Strt f) {p : Nat} {i : Ins} (hi : f.code[p]? = some i) (h3 : i.kind = 3) : foldI i p (srow f p) ≠ i := by
  have hp : p < f.code.length := (List.getElem?_eq_some_iff.1 hi).1
  have hk := srow_kn hs p (by omega)
  have hv := setV_kn hs hi hk (srow_len f p)
  unfold foldI
  rw [if_neg (not_any hk.ok), if_pos (Or.inr (Or.inr h3)), if_pos ⟨hv.1, hv.2 (by omega)⟩]
  intro e
  have : (1 : Int) = i.kind := congrArg Ins.kind e
  omega
theorem foldI_strt1 {f : Fn7} (hs : Strt f) {p : Nat} {i : Ins} (hi : f.code[p]? = some i) (h3 : i.kind ≠ 3) (v : List Vl) : foldI i p v = i := by
  unfold foldI
  split
  · rfl
  · rw [if_neg (by rcases hs.kinds p i hi with e | e | e <;> omega), if_neg (by rcases hs.kinds p i hi with e | e | e <;> omega)]
theorem foldN_strt {f : Fn7} (hs : Strt f) : ∀ p, p ≤ f.code.length → foldN f (sM f) p = ((f.code.take p).filter fun i => i.kind == 3).length
  | 0, _ => rfl
  | p + 1, h => by
    have hi := insAt_in (l := f.code) (p := p) (by omega)
    unfold foldN
    rw [foldN_strt hs p (by omega), sM_row (by omega), List.take_add_one, hi, Option.toList_some, List.filter_append, List.length_append]
    by_cases h3 : (insAt f.code p).kind = 3
    · rw [if_neg (foldI_strt3 hs hi h3)]; simp [h3]
    · rw [if_pos (foldI_strt1 hs hi h3 _)]; simp [h3]
end Go.Proofs.Ytaofdbboalcceaa
