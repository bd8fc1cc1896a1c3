import Derived.Test.YtkcclefonmnpnaaQXe
import Derived.Deep.CutRange
/- A run's instructions. -/
namespace Go.Proofs.Ytkcclefonmnpnaa
open Go.RowKit Go.BigFrame

theorem make_regs (L : Nat) (hL : L ≤ 100000) (W : World) : (Instr.makeSlice 33 (.int .i64 L) (.int .i64 L)).run Try.prog W = .ok (.slice (some ⟨W.heap.size, 0, none⟩) L L) (W.alloc (.cells (madeCells #[.int .i64 0] L) 3)) := by
  obtain ⟨i0, hi, hz0, hz1, hz2⟩ := info_parts info_n
  have := run_make (P := Try.prog) W 33 3 i0 (.int .i64 0) (by kernel_rfl) hi hz0 .i64 .i64 L L (by omega) (by omega) (by rw [hz2]; omega) (by omega)
  simpa [hz1, Value.cells] using this
theorem made_regs (L : Nat) : Obj.cells (madeCells #[.int .i64 0] L) 3 (0, 0) = regO (List.replicate L 0) := by
  unfold regO madeCells
  congr 1
  apply Array.ext
  · simp
  · intro k h1 h2
    simp [Nat.mod_one]
theorem info_fr : (Try.prog.info? 84).map (fun i => (i.zero, i.size, i.bytes)) = some (some (.agg #[.int .i64 0, .int .i64 0, .int .i64 0, .int .i64 0, .slice none 0 0]), 5, 56) := by kernel_rfl
/-- append of one frame that was just built -/
theorem append_frame {ops : Array Oper} {rest : List Oper} {o : Oper} {a : Act} {w : World} {Q : Exit → Act → World → Prop} (hgd : o.guard = none) (s x : Operand)
    (ho : o.op = .call { callee := .builtin .append, args := #[s, x], argTypes := #[85, 85] }) (base : Nat) (V : Value) (k : List (Fr7 × Nat)) (hs : a.eval s = V) (hown : w.ownsRow base 84 5 V k.length (k.flatMap frL))
    (g : Nat) (y : Fr7 × Nat) (hx : a.eval x = .slice (some ⟨g, 0, none⟩) 1 1) (hg : w.heap[g]? = some (.cells (frL y).toArray 84 (0, 0))) (hn : k.length ≤ 90000) (hb : base ≤ w.heap.size)
    (h : ∀ V' w', w'.ownsRow base 84 5 V' (k ++ [y]).length ((k ++ [y]).flatMap frL) → w.grownBy w' V.ownBlock → wpList Try.prog ops Q rest (a.put o.dst V') w') :
    wpList Try.prog ops Q (o :: rest) a w := by
  obtain ⟨i0, hi, hz0, hz1, hz2⟩ := info_parts info_fr
  obtain ⟨V', w', hr, h1, h2, _, h4⟩ := run_append_own_at (P := Try.prog) w base 85 o.type 84 i0 (.agg #[.int .i64 0, .int .i64 0, .int .i64 0, .int .i64 0, .slice none 0 0]) 5 56 (by kernel_rfl) hi hz0 hz1 hz2 rfl (by decide) V k.length (k.flatMap frL) hown ⟨g, 0, none⟩ 1 1 (frL y) (by rfl)
    (fun j u hu => by
      have hadd : (⟨g, 0, none⟩ : Addr).add j = ⟨g, j, none⟩ := by
        unfold Addr.add; split
        · rename_i h0; rw [h0]
        · simp
      rw [hadd]
      exact cell_of_heap hg j u (by simpa using hu)) (fun u hu => flatFr_one [y] u (by simpa using hu)) (by simp only [maxLen]; omega) (by omega) hb
  have hfl : (k ++ [y]).flatMap frL = k.flatMap frL ++ frL y := by simp
  exact append_ran hgd s x ho hs hx hr (h V' w' (by rw [List.length_append, hfl]; exact h1) h2)
/-- a frame more -/
theorem RnS.push {w0 w w' : World} {l : List (Fr7 × Nat)} {E : Env} {mb rb : Nat} {iv ov sv V' : Value} {x : Fr7 × Nat} (h : RnS w0 w l E mb rb iv ov sv) (hg : w.grownBy w' sv.ownBlock) (ho : w'.ownsRow w0.heap.size 84 5 V' (l ++ [x]).length ((l ++ [x]).flatMap frL))
    (hx1 : w0.heap.size ≤ x.2) (hx2 : x.2 ≠ mb) (hx3 : w.heap[x.2]? = some (regO x.1.ρ)) (hx4 : ∀ y ∈ l, y.2 ≠ x.2) : RnS w0 w' (l ++ [x]) E mb rb iv ov V' := by
  have hk : ∀ (k : Nat) (cs : Array Value) (ty : TypeId), w.heap[k]? = some (.cells cs ty (0, 0)) → 84 ≠ ty → w'.heap[k]? = w.heap[k]? := fun k cs ty hc ht => hg.block k (Array.getElem?_eq_some_iff.1 hc).1 (Ne.symm (own_ne h.stk hc ht))
  have hob : ∀ k, sv.ownBlock = some k → w0.heap.size ≤ k := fun k hk => by
    obtain ⟨_, h2⟩ := h.stk
    rcases h2 with ⟨rfl, _⟩ | ⟨g, cap, cur, rfl, hB, _⟩
    · simp [Value.ownBlock] at hk
    · simp [Value.ownBlock] at hk
      omega
  exact {
    b := h.b.grown hg h.b.size hob
    mem := (hk _ _ _ h.mem (by decide)).trans h.mem
    ml := h.ml
    mB := h.mB
    res := by
      obtain ⟨cs, h1, h2⟩ := h.res
      exact ⟨cs, (hk _ _ _ h1 (by decide)).trans h1, h2⟩
    rB := h.rB
    inp := h.inp
    out := ownsRow_keep h.out fun g _ _ cur hc => hk _ _ _ hc (by decide)
    stk := ho
    regs := fun y hy => by
      rcases List.mem_append.1 hy with hy | hy
      · obtain ⟨h1, h2, h3⟩ := h.regs y hy
        exact ⟨h1, h2, (hk _ _ _ h3 (by decide)).trans h3⟩
      · obtain rfl := List.mem_singleton.1 hy
        exact ⟨hx1, hx2, (hk _ _ _ hx3 (by decide)).trans hx3⟩
    nd := by
      rw [List.map_append, List.nodup_append]
      refine ⟨h.nd, by simp, fun a ha c hc => ?_⟩
      obtain ⟨y, hy, rfl⟩ := List.mem_map.1 ha
      simp at hc
      subst hc
      exact hx4 y hy }
/-- the arguments, so far -/
theorem args_step {ρ : List Int} {ar : List Int} {N n : Nat} {r : Int} (hr : ar[n]? = some r) (hN : n < N) : (((ar.take n).map (rg ρ)) ++ List.replicate (N - n) 0).set n (rg ρ r) = ((ar.take (n + 1)).map (rg ρ)) ++ List.replicate (N - (n + 1)) 0 := by
  have hn : n < ar.length := (List.getElem?_eq_some_iff.1 hr).1
  have e1 : ((ar.take n).map (rg ρ)).length = n := by simp; omega
  rw [List.set_append_right _ _ (by omega), e1, Nat.sub_self, show N - n = (N - (n + 1)) + 1 by omega, List.replicate_succ, List.set_cons_zero, List.take_add_one, hr]
  simp
end Go.Proofs.Ytkcclefonmnpnaa

/- A run's instructions. -/
namespace Go.Proofs.Ytkcclefonmnpnaa
open Go.RowKit Go.BigFrame

theorem RnS.aside {w0 w : World} {l : List (Fr7 × Nat)} {E : Env} {mb rb : Nat} {iv ov sv : Value} {B : Nat} {ρ : List Int} (h : RnS w0 w l E mb rb iv ov sv) (hB : w.heap[B]? = some (regO ρ)) (h0 : w0.heap.size ≤ B) (h1 : mb ≠ B) (h2 : ∀ y ∈ l, y.2 ≠ B) (n : Nat) (v : Value) : RnS w0 (w.setCell ⟨B, n, none⟩ v) l E mb rb iv ov sv where
  b := h.b.setCell h0 _
  mem := (heap_setCell_other w ⟨B, n, none⟩ mb _ h1).trans h.mem
  ml := h.ml
  mB := h.mB
  res := by
    obtain ⟨cs, h3, h4⟩ := h.res
    exact ⟨cs, (heap_setCell_other w ⟨B, n, none⟩ rb _ (ty_ne h3 hB (by decide))).trans h3, h4⟩
  rB := h.rB
  inp := h.inp
  out := ownsRow_keep h.out fun g _ _ cur hc => heap_setCell_other w ⟨B, n, none⟩ g _ (ty_ne hc hB (by decide))
  stk := ownsRow_keep h.stk fun g _ _ cur hc => heap_setCell_other w ⟨B, n, none⟩ g _ (ty_ne hc hB (by decide))
  regs := fun y hy => by
    obtain ⟨h3, h4, h5⟩ := h.regs y hy
    exact ⟨h3, h4, (heap_setCell_other w ⟨B, n, none⟩ y.2 _ (h2 y hy)).trans h5⟩
  nd := h.nd
theorem RnS.fresh {w0 w : World} {l : List (Fr7 × Nat)} {E : Env} {mb rb : Nat} {iv ov sv : Value} (h : RnS w0 w l E mb rb iv ov sv) : mb ≠ w.heap.size ∧ ∀ y ∈ l, y.2 ≠ w.heap.size := by
  refine ⟨?_, fun y hy => ?_⟩
  · have := (Array.getElem?_eq_some_iff.1 h.mem).1
    omega
  · have := (Array.getElem?_eq_some_iff.1 (h.regs y hy).2.2).1
    omega
theorem Ok.arg {i : Ins} {R Fr : Int} {L : Nat} (h : Ok i R Fr L) (hk : i.kind = 8) {n : Nat} {r : Int} (hr : i.args[n]? = some r) (hn : (n : Int) < i.n) : 0 ≤ r ∧ r < R := by
  refine h.uses r ?_
  unfold Ins.uses
  rw [if_pos hk]
  refine List.mem_append_right _ (List.mem_append_right _ ?_)
  refine List.mem_of_getElem? (i := n) ?_
  rw [List.getElem?_take, if_pos (by omega)]
  exact hr
theorem arg_cell {w : World} {ib : Nat} {i : Ins} (hi : w.heap[ib]? = some i.obj) {n : Nat} {r : Int} (hr : i.args[n]? = some r) : w.cell? ⟨ib, 7 + n, none⟩ = some (.int .i64 r) := by
  obtain ⟨_, _, _, _, _, _, _, c7, c8, c9, c10, c11, c12, _, _⟩ := Ins.cells hi
  match n, hr with
  | 0, hr => injection hr with hr; rw [← hr]; exact c7
  | 1, hr => injection hr with hr; rw [← hr]; exact c8
  | 2, hr => injection hr with hr; rw [← hr]; exact c9
  | 3, hr => injection hr with hr; rw [← hr]; exact c10
  | 4, hr => injection hr with hr; rw [← hr]; exact c11
  | 5, hr => injection hr with hr; rw [← hr]; exact c12
  | n + 6, hr => simp [Ins.args] at hr
set_option maxRecDepth 1000000 in
set_option maxHeartbeats 64000000 in
theorem run_k8 (u : Un7) (F G : Option Addr) (cF cG : Nat) (w0 w : World) (l : List (Fr7 × Nat)) (t : Fr7) (b m scap sb fb ib mb rb ub np : Nat) (i : Ins) (E : Env) (iv ov : Value) (R Fr : Int) (L : Nat) (f g : Fn7) (k : Nat)
    (hm : l.length = m) (hok : Ok i R Fr L) (hkd : i.kind = 8) (hR : t.ρ.length = R.toNat) (hml : m ≤ 80000)
    (hub : w.heap[ub]? = some (unObj u F G cF cG)) (hRF : RdF w F u.funcs) (hul : u.funcs.length ≤ 100000) (hfk : u.funcs[t.k]? = some f) (hfi : findU u.funcs i.text = some k) (hgk : u.funcs[k]? = some g) (hgn : g.ps = i.n) (hgps : g.ps ≤ g.R) (hgR : g.R ≤ 4096) (hgF : 0 ≤ g.Fr ∧ g.Fr ≤ 4096) (hfF : 0 ≤ f.Fr ∧ f.Fr ≤ 4096) (hbase : 0 ≤ t.base ∧ t.base ≤ 4096)
    (hS : RnS w0 w (l ++ [(t, b)]) E mb rb iv ov (.slice (some ⟨sb, 0, none⟩) (m + 1) scap)) (hf : w.heap[fb]? = some (frObj t b t.ρ.length)) (hi : w.heap[ib]? = some i.obj)
    (x0 x2 x4 x5 x7 x9 x16 x17 x18 x19 x20 x21 x22 x23 x24 x25 x26 x27 x28 x29 x30 x31 x32 x33 x34 x35 x36 x37 x38 x39 x40 x41 x42 x43 x44 x45 x46 x47 x48 x49 x50 x51 x52 x53 x54 x55 x56 x57 x58 x59 x60 x61 x62 x63 x64 x65 x66 x67 x68 x69 x70 x71 x72 x73 x74 x75 x76 x77 x78 x79 x80 x81 x82 x83 x84 x85 x86 x87 x88 x89 x90 x91 x92 x93 x94 x95 x96 x97 x98 x99 x100 x101 x102 x103 x104 x105 x106 x107 x108 x109 x110 x111 x112 x113 x114 x115 x116 x117 x118 x119 x120 x121 x122 x123 x124 x125 x126 x127 x128 x129 x130 x131 x132 x133 x134 x135 x136 x137 x138 x139 x140 x141 x142 x143 x144 x145 x146 x147 x148 x149 x150 x151 x152 x153 x154 x155 x156 x157 x158 x159 x160 x161 x162 x163 x164 x165 x166 x167 x168 x169 x170 x171 x172 x173 x174 x175 x176 x177 x178 x179 x180 x181 x182 x183 x184 x185 x186 x187 x188 x189 x190 x191 x192 x193 x194 x195 x196 x197 x198 x199 x200 x201 x202 x203 x204 x205 x206 x207 x208 x209 x210 x211 x212 x213 x214 x215 x216 x217 x218 x219 x220 x221 x222 x223 x224 x225 x226 x227 x228 x229 x230 x231 x232 x233 x234 x235 x236 x237 x238 x239 x240 x241 x242 x243 x244 x245 x246 x247 x248 x249 x250 x251 x252 x253 x254 x255 x256 x257 x258 x259 x260 x261 x262 x263 x264 x265 x266 x267 x268 x269 x270 x271 x272 x273 x274 x275 x276 x277 x278 x279 x280 x281 x282 x283 x284 x285 x286 x287 x288 x289 x290 x291 x292 x293 x294 x295 x296 x297 x298 x299 x300 x301 x302 x303 x304 x305 x306 x307 x308 x309 x310 x311 x312 x313 x314 x315 x316 x317 x318 x319 x320 x321 x322 x323 x324 x325 x326 x327 x328 x329 x330 x331 x332 x333 x334 x335 x336 x337 x338 x339 x340 x341 x342 x343 x344 x345 x346 x347 x348 x349 x350 x351 x352 x353 x354 x355 x356 x357 x358 x359 x360 x361 x362 x363 x364 x365 x366 x367 x368 x369 x370 x371 x372 x373 x374 x375 x376 x377 : Value) (K : Act → World → Prop) (Q : Exit → Act → World → Prop)
    (hX : ∀ (y16 y17 y18 y19 y20 y21 y22 y23 y24 y122 y123 y124 y125 y126 y127 y128 y129 y130 y131 y132 y133 y134 y135 y136 y137 y138 y139 y140 y141 y142 y143 y144 y145 y146 y147 y148 y149 y150 y151 y152 y153 y154 y155 y156 y157 y158 y159 y160 y161 y162 y163 y164 y165 y166 y167 y168 y169 y170 y171 y172 y173 y174 y175 y176 y177 y178 y179 y180 y181 y182 y183 y184 y185 y186 y187 y188 y189 y190 y191 y192 y193 y194 y195 y196 y197 y198 y199 y200 y201 y202 y203 y204 y205 y206 y207 y208 y209 y210 y211 y212 y213 y214 y215 y216 y217 y218 y219 y220 y221 y222 y223 y224 y225 y226 y227 y228 y229 y230 y231 y232 y233 y234 y235 y236 y237 y238 y239 y240 y241 y242 y243 y244 y245 y246 y247 y248 y249 y250 y251 y252 y253 y254 y255 y256 y257 y258 y259 y260 y261 y262 y263 y264 y265 y266 y267 y268 y269 y270 y271 y272 y273 y274 y275 y276 y277 y278 y279 y280 y281 y282 y283 y284 y285 y286 y287 y288 y289 y290 y291 y292 y293 y294 y295 y296 y297 y298 y299 y300 y301 y302 y303 y304 y305 y306 y307 y308 y309 y310 y311 y312 y313 y314 y315 y316 y317 y318 y319 y320 y321 y322 y323 y324 y325 y326 y327 y328 y329 y330 y331 y332 y333 y334 y335 y336 y337 y338 y339 y340 y341 y342 y343 y344 y345 y346 y347 y348 y349 y350 y351 y352 y353 y354 y355 y356 y357 y358 y359 z14 z15 : Value) (w' : World) (sv' : Value) (b' : Nat), ¬ 4096 < t.base + f.Fr + g.Fr → RnS w0 w' ((l ++ [({ t with p := np }, b)]) ++ [(⟨k, t.base + f.Fr, 0, i.dst, ((i.args.take i.n.toNat).map (rg t.ρ)) ++ List.replicate (g.R.toNat - i.n.toNat) 0⟩, b')]) E mb rb iv ov sv' → Q (.exit 3) ⟨(x0 :: iv :: x2 :: .pointer (some ⟨ub, 0, none⟩) :: x4 :: x5 :: .pointer (some ⟨rb, 0, none⟩) :: x7 :: .slice (some ⟨mb, 0, none⟩) 4096 4096 :: x9 :: ov :: sv' :: .pointer (some ⟨fb, 0, none⟩) :: .pointer (some ⟨ib, 0, none⟩) :: z14 :: z15 :: y16 :: y17 :: y18 :: y19 :: y20 :: y21 :: y22 :: y23 :: y24 :: x25 :: x26 :: x27 :: x28 :: x29 :: x30 :: x31 :: x32 :: x33 :: x34 :: x35 :: x36 :: x37 :: x38 :: x39 :: x40 :: x41 :: x42 :: x43 :: x44 :: x45 :: x46 :: x47 :: x48 :: x49 :: x50 :: x51 :: x52 :: x53 :: x54 :: x55 :: x56 :: x57 :: x58 :: x59 :: x60 :: x61 :: x62 :: x63 :: x64 :: x65 :: x66 :: x67 :: x68 :: x69 :: x70 :: x71 :: x72 :: x73 :: x74 :: x75 :: x76 :: x77 :: x78 :: x79 :: x80 :: x81 :: x82 :: x83 :: x84 :: x85 :: x86 :: x87 :: x88 :: x89 :: x90 :: x91 :: x92 :: x93 :: x94 :: x95 :: x96 :: x97 :: x98 :: x99 :: x100 :: x101 :: x102 :: x103 :: x104 :: x105 :: x106 :: x107 :: x108 :: x109 :: x110 :: x111 :: x112 :: x113 :: x114 :: x115 :: x116 :: x117 :: x118 :: x119 :: x120 :: x121 :: y122 :: y123 :: y124 :: y125 :: y126 :: y127 :: y128 :: y129 :: y130 :: y131 :: y132 :: y133 :: y134 :: y135 :: y136 :: y137 :: y138 :: y139 :: y140 :: y141 :: y142 :: y143 :: y144 :: y145 :: y146 :: y147 :: y148 :: y149 :: y150 :: y151 :: y152 :: y153 :: y154 :: y155 :: y156 :: y157 :: y158 :: y159 :: y160 :: y161 :: y162 :: y163 :: y164 :: y165 :: y166 :: y167 :: y168 :: y169 :: y170 :: y171 :: y172 :: y173 :: y174 :: y175 :: y176 :: y177 :: y178 :: y179 :: y180 :: y181 :: y182 :: y183 :: y184 :: y185 :: y186 :: y187 :: y188 :: y189 :: y190 :: y191 :: y192 :: y193 :: y194 :: y195 :: y196 :: y197 :: y198 :: y199 :: y200 :: y201 :: y202 :: y203 :: y204 :: y205 :: y206 :: y207 :: y208 :: y209 :: y210 :: y211 :: y212 :: y213 :: y214 :: y215 :: y216 :: y217 :: y218 :: y219 :: y220 :: y221 :: y222 :: y223 :: y224 :: y225 :: y226 :: y227 :: y228 :: y229 :: y230 :: y231 :: y232 :: y233 :: y234 :: y235 :: y236 :: y237 :: y238 :: y239 :: y240 :: y241 :: y242 :: y243 :: y244 :: y245 :: y246 :: y247 :: y248 :: y249 :: y250 :: y251 :: y252 :: y253 :: y254 :: y255 :: y256 :: y257 :: y258 :: y259 :: y260 :: y261 :: y262 :: y263 :: y264 :: y265 :: y266 :: y267 :: y268 :: y269 :: y270 :: y271 :: y272 :: y273 :: y274 :: y275 :: y276 :: y277 :: y278 :: y279 :: y280 :: y281 :: y282 :: y283 :: y284 :: y285 :: y286 :: y287 :: y288 :: y289 :: y290 :: y291 :: y292 :: y293 :: y294 :: y295 :: y296 :: y297 :: y298 :: y299 :: y300 :: y301 :: y302 :: y303 :: y304 :: y305 :: y306 :: y307 :: y308 :: y309 :: y310 :: y311 :: y312 :: y313 :: y314 :: y315 :: y316 :: y317 :: y318 :: y319 :: y320 :: y321 :: y322 :: y323 :: y324 :: y325 :: y326 :: y327 :: y328 :: y329 :: y330 :: y331 :: y332 :: y333 :: y334 :: y335 :: y336 :: y337 :: y338 :: y339 :: y340 :: y341 :: y342 :: y343 :: y344 :: y345 :: y346 :: y347 :: y348 :: y349 :: y350 :: y351 :: y352 :: y353 :: y354 :: y355 :: y356 :: y357 :: y358 :: y359 :: x360 :: x361 :: x362 :: x363 :: x364 :: x365 :: x366 :: x367 :: x368 :: x369 :: x370 :: x371 :: x372 :: x373 :: x374 :: x375 :: x376 :: x377 :: []).toArray, []⟩ w')
    (hF : ∀ (y16 y17 y18 y19 y20 y21 y22 y23 y24 y122 y123 y124 y125 y126 y127 y128 y129 y130 y131 y132 y133 y134 y135 y136 y137 y138 y139 y140 y141 y142 y143 y144 y145 y146 y147 y148 y149 y150 y151 y152 y153 y154 y155 y156 y157 y158 y159 y160 y161 y162 y163 y164 y165 y166 y167 y168 y169 y170 y171 y172 y173 y174 y175 y176 y177 y178 y179 y180 y181 y182 y183 y184 y185 y186 y187 y188 y189 y190 y191 y192 y193 y194 y195 y196 y197 y198 y199 y200 y201 y202 y203 y204 y205 y206 y207 y208 y209 y210 y211 y212 y213 y214 y215 y216 y217 y218 y219 y220 y221 y222 y223 y224 y225 y226 y227 y228 y229 y230 y231 y232 y233 y234 y235 y236 y237 y238 y239 y240 y241 y242 y243 y244 y245 y246 y247 y248 y249 y250 y251 y252 y253 y254 y255 y256 y257 y258 y259 y260 y261 y262 y263 y264 y265 y266 y267 y268 y269 y270 y271 y272 y273 y274 y275 y276 y277 y278 y279 y280 y281 y282 y283 y284 y285 y286 y287 y288 y289 y290 y291 y292 y293 y294 y295 y296 y297 y298 y299 y300 y301 y302 y303 y304 y305 y306 y307 y308 y309 y310 y311 y312 y313 y314 y315 y316 y317 y318 y319 y320 y321 y322 y323 y324 y325 y326 y327 y328 y329 y330 y331 y332 y333 y334 y335 y336 y337 y338 y339 y340 y341 y342 y343 y344 y345 y346 y347 y348 y349 y350 y351 y352 y353 y354 y355 y356 y357 y358 y359 sv' z14 z15 : Value) (w' : World), 4096 < t.base + f.Fr + g.Fr → Fin w0 w' rb ⟨3, 0, E.out⟩ → Q .ret ⟨(x0 :: iv :: x2 :: .pointer (some ⟨ub, 0, none⟩) :: x4 :: x5 :: .pointer (some ⟨rb, 0, none⟩) :: x7 :: .slice (some ⟨mb, 0, none⟩) 4096 4096 :: x9 :: ov :: sv' :: .pointer (some ⟨fb, 0, none⟩) :: .pointer (some ⟨ib, 0, none⟩) :: z14 :: z15 :: y16 :: y17 :: y18 :: y19 :: y20 :: y21 :: y22 :: y23 :: y24 :: x25 :: x26 :: x27 :: x28 :: x29 :: x30 :: x31 :: x32 :: x33 :: x34 :: x35 :: x36 :: x37 :: x38 :: x39 :: x40 :: x41 :: x42 :: x43 :: x44 :: x45 :: x46 :: x47 :: x48 :: x49 :: x50 :: x51 :: x52 :: x53 :: x54 :: x55 :: x56 :: x57 :: x58 :: x59 :: x60 :: x61 :: x62 :: x63 :: x64 :: x65 :: x66 :: x67 :: x68 :: x69 :: x70 :: x71 :: x72 :: x73 :: x74 :: x75 :: x76 :: x77 :: x78 :: x79 :: x80 :: x81 :: x82 :: x83 :: x84 :: x85 :: x86 :: x87 :: x88 :: x89 :: x90 :: x91 :: x92 :: x93 :: x94 :: x95 :: x96 :: x97 :: x98 :: x99 :: x100 :: x101 :: x102 :: x103 :: x104 :: x105 :: x106 :: x107 :: x108 :: x109 :: x110 :: x111 :: x112 :: x113 :: x114 :: x115 :: x116 :: x117 :: x118 :: x119 :: x120 :: x121 :: y122 :: y123 :: y124 :: y125 :: y126 :: y127 :: y128 :: y129 :: y130 :: y131 :: y132 :: y133 :: y134 :: y135 :: y136 :: y137 :: y138 :: y139 :: y140 :: y141 :: y142 :: y143 :: y144 :: y145 :: y146 :: y147 :: y148 :: y149 :: y150 :: y151 :: y152 :: y153 :: y154 :: y155 :: y156 :: y157 :: y158 :: y159 :: y160 :: y161 :: y162 :: y163 :: y164 :: y165 :: y166 :: y167 :: y168 :: y169 :: y170 :: y171 :: y172 :: y173 :: y174 :: y175 :: y176 :: y177 :: y178 :: y179 :: y180 :: y181 :: y182 :: y183 :: y184 :: y185 :: y186 :: y187 :: y188 :: y189 :: y190 :: y191 :: y192 :: y193 :: y194 :: y195 :: y196 :: y197 :: y198 :: y199 :: y200 :: y201 :: y202 :: y203 :: y204 :: y205 :: y206 :: y207 :: y208 :: y209 :: y210 :: y211 :: y212 :: y213 :: y214 :: y215 :: y216 :: y217 :: y218 :: y219 :: y220 :: y221 :: y222 :: y223 :: y224 :: y225 :: y226 :: y227 :: y228 :: y229 :: y230 :: y231 :: y232 :: y233 :: y234 :: y235 :: y236 :: y237 :: y238 :: y239 :: y240 :: y241 :: y242 :: y243 :: y244 :: y245 :: y246 :: y247 :: y248 :: y249 :: y250 :: y251 :: y252 :: y253 :: y254 :: y255 :: y256 :: y257 :: y258 :: y259 :: y260 :: y261 :: y262 :: y263 :: y264 :: y265 :: y266 :: y267 :: y268 :: y269 :: y270 :: y271 :: y272 :: y273 :: y274 :: y275 :: y276 :: y277 :: y278 :: y279 :: y280 :: y281 :: y282 :: y283 :: y284 :: y285 :: y286 :: y287 :: y288 :: y289 :: y290 :: y291 :: y292 :: y293 :: y294 :: y295 :: y296 :: y297 :: y298 :: y299 :: y300 :: y301 :: y302 :: y303 :: y304 :: y305 :: y306 :: y307 :: y308 :: y309 :: y310 :: y311 :: y312 :: y313 :: y314 :: y315 :: y316 :: y317 :: y318 :: y319 :: y320 :: y321 :: y322 :: y323 :: y324 :: y325 :: y326 :: y327 :: y328 :: y329 :: y330 :: y331 :: y332 :: y333 :: y334 :: y335 :: y336 :: y337 :: y338 :: y339 :: y340 :: y341 :: y342 :: y343 :: y344 :: y345 :: y346 :: y347 :: y348 :: y349 :: y350 :: y351 :: y352 :: y353 :: y354 :: y355 :: y356 :: y357 :: y358 :: y359 :: x360 :: x361 :: x362 :: x363 :: x364 :: x365 :: x366 :: x367 :: x368 :: x369 :: x370 :: x371 :: x372 :: x373 :: x374 :: x375 :: x376 :: x377 :: []).toArray, []⟩ w') :
    Code.wp Try.prog run22 (Exit.then K Q) ⟨(x0 :: iv :: x2 :: .pointer (some ⟨ub, 0, none⟩) :: x4 :: x5 :: .pointer (some ⟨rb, 0, none⟩) :: x7 :: .slice (some ⟨mb, 0, none⟩) 4096 4096 :: x9 :: ov :: .slice (some ⟨sb, 0, none⟩) (m + 1) scap :: .pointer (some ⟨fb, 0, none⟩) :: .pointer (some ⟨ib, 0, none⟩) :: .int .i64 (np : Int) :: .int .i64 0 :: x16 :: x17 :: x18 :: x19 :: x20 :: x21 :: x22 :: x23 :: x24 :: x25 :: x26 :: x27 :: x28 :: x29 :: x30 :: x31 :: x32 :: x33 :: x34 :: x35 :: x36 :: x37 :: x38 :: x39 :: x40 :: x41 :: x42 :: x43 :: x44 :: x45 :: x46 :: x47 :: x48 :: x49 :: x50 :: x51 :: x52 :: x53 :: x54 :: x55 :: x56 :: x57 :: x58 :: x59 :: x60 :: x61 :: x62 :: x63 :: x64 :: x65 :: x66 :: x67 :: x68 :: x69 :: x70 :: x71 :: x72 :: x73 :: x74 :: x75 :: x76 :: x77 :: x78 :: x79 :: x80 :: x81 :: x82 :: x83 :: x84 :: x85 :: x86 :: x87 :: x88 :: x89 :: x90 :: x91 :: x92 :: x93 :: x94 :: x95 :: x96 :: x97 :: x98 :: x99 :: x100 :: x101 :: x102 :: x103 :: x104 :: x105 :: x106 :: x107 :: x108 :: x109 :: x110 :: x111 :: x112 :: x113 :: x114 :: x115 :: x116 :: x117 :: x118 :: x119 :: x120 :: x121 :: x122 :: x123 :: x124 :: x125 :: x126 :: x127 :: x128 :: x129 :: x130 :: x131 :: x132 :: x133 :: x134 :: x135 :: x136 :: x137 :: x138 :: x139 :: x140 :: x141 :: x142 :: x143 :: x144 :: x145 :: x146 :: x147 :: x148 :: x149 :: x150 :: x151 :: x152 :: x153 :: x154 :: x155 :: x156 :: x157 :: x158 :: x159 :: x160 :: x161 :: x162 :: x163 :: x164 :: x165 :: x166 :: x167 :: x168 :: x169 :: x170 :: x171 :: x172 :: x173 :: x174 :: x175 :: x176 :: x177 :: x178 :: x179 :: x180 :: x181 :: x182 :: x183 :: x184 :: x185 :: x186 :: x187 :: x188 :: x189 :: x190 :: x191 :: x192 :: x193 :: x194 :: x195 :: x196 :: x197 :: x198 :: x199 :: x200 :: x201 :: x202 :: x203 :: x204 :: x205 :: x206 :: x207 :: x208 :: x209 :: x210 :: x211 :: x212 :: x213 :: x214 :: x215 :: x216 :: x217 :: x218 :: x219 :: x220 :: x221 :: x222 :: x223 :: x224 :: x225 :: x226 :: x227 :: x228 :: x229 :: x230 :: x231 :: x232 :: x233 :: x234 :: x235 :: x236 :: x237 :: x238 :: x239 :: x240 :: x241 :: x242 :: x243 :: x244 :: x245 :: x246 :: x247 :: x248 :: x249 :: x250 :: x251 :: x252 :: x253 :: x254 :: x255 :: x256 :: x257 :: x258 :: x259 :: x260 :: x261 :: x262 :: x263 :: x264 :: x265 :: x266 :: x267 :: x268 :: x269 :: x270 :: x271 :: x272 :: x273 :: x274 :: x275 :: x276 :: x277 :: x278 :: x279 :: x280 :: x281 :: x282 :: x283 :: x284 :: x285 :: x286 :: x287 :: x288 :: x289 :: x290 :: x291 :: x292 :: x293 :: x294 :: x295 :: x296 :: x297 :: x298 :: x299 :: x300 :: x301 :: x302 :: x303 :: x304 :: x305 :: x306 :: x307 :: x308 :: x309 :: x310 :: x311 :: x312 :: x313 :: x314 :: x315 :: x316 :: x317 :: x318 :: x319 :: x320 :: x321 :: x322 :: x323 :: x324 :: x325 :: x326 :: x327 :: x328 :: x329 :: x330 :: x331 :: x332 :: x333 :: x334 :: x335 :: x336 :: x337 :: x338 :: x339 :: x340 :: x341 :: x342 :: x343 :: x344 :: x345 :: x346 :: x347 :: x348 :: x349 :: x350 :: x351 :: x352 :: x353 :: x354 :: x355 :: x356 :: x357 :: x358 :: x359 :: x360 :: x361 :: x362 :: x363 :: x364 :: x365 :: x366 :: x367 :: x368 :: x369 :: x370 :: x371 :: x372 :: x373 :: x374 :: x375 :: x376 :: x377 :: []).toArray, []⟩ w := by
  conv => arg 2; whnf
  have HX := Lib.hid hX
  have HF := Lib.hid hF
  have HS := Lib.hid hS
  have HFB := Lib.hid hf
  have HIB := Lib.hid hi
  obtain ⟨f0, f1, f2, f3, f4⟩ := fr_cells hf
  obtain ⟨c0, c1, c2, c3, c4, c5, c6, c7, c8, c9, c10, c11, c12, c13, c14⟩ := Ins.cells hi
  obtain ⟨n, hn⟩ : ∃ n, t.ρ.length = n := ⟨_, rfl⟩
  rw [hn] at f4 hR
  have hcl := hok.call hkd
  obtain ⟨nn, hnn⟩ : ∃ nn : Nat, i.n = nn := ⟨i.n.toNat, by omega⟩
  obtain ⟨gr, hgr⟩ : ∃ gr : Nat, g.R = gr := ⟨g.R.toNat, by omega⟩
  have hnn6 : nn ≤ 6 := by omega
  have hnng : nn ≤ gr := by omega
  have hgr4 : gr ≤ 4096 := by omega
  have HRHO : Hid (((i.args.take i.n.toNat).map (rg t.ρ)) ++ List.replicate (g.R.toNat - i.n.toNat) 0 = (((i.args.take nn).map (rg t.ρ)) ++ List.replicate (gr - nn) 0)) := Lib.hid (by rw [hnn, hgr]; rfl)
  have hfind := fun W h => Find_any u F G cF cG i.text hul W h
  simp only [unAgg] at hfind
  simp only [unObj] at hub
  obtain ⟨N, hN⟩ : ∃ N, u.funcs.length = N := ⟨_, rfl⟩
  obtain ⟨M, hM⟩ : ∃ M, u.globs.length = M := ⟨_, rfl⟩
  rw [hN, hM] at hub
  simp only [hN, hM] at hfind
  rw [findI_some hfi] at hfind
  have hkN : k < N := by rw [← hN]; exact (List.getElem?_eq_some_iff.1 hgk).1
  have htN : t.k < N := by rw [← hN]; exact (List.getElem?_eq_some_iff.1 hfk).1
  rw [hN] at hul
  have u0 := cell_of_heap hub 0 (.slice F N cF) rfl
  have u1 := cell_of_heap hub 1 (.slice G M cG) rfl
  have u2 := cell_of_heap hub 2 (.int .i64 u.top) rfl
  have HUB := Lib.hid hub
  have HRF := Lib.hid hRF
  have HFIND := Lib.hid hfind
  have HGK := Lib.hid hgk
  have HFK := Lib.hid hfk
  have HOK := Lib.hid hok
  have HN := Lib.hid hn
  have HR := Lib.hid hR
  have HM := Lib.hid hm
  have HKD := Lib.hid hkd
  have HNN := Lib.hid hnn
  rw [hkd] at c0
  clear hX hF hS hf hi hok hR hm hn hkd hub hRF hfk hfi hgk hgn hgps hgR hcl hnn hN hM hfind
  go_wp2_with fail
  refine (HFIND.out _ HRF.out).mono ?_
  rintro e w1 ⟨rfl, hb1⟩
  dsimp only
  have HRF1 := Lib.hid (HRF.out.below hb1)
  have HUB1 := Lib.hid ((hb1.block _ (Array.getElem?_eq_some_iff.1 HUB.out).1).trans HUB.out)
  have HFB1 := Lib.hid ((hb1.block _ (Array.getElem?_eq_some_iff.1 HFB.out).1).trans HFB.out)
  have HIB1 := Lib.hid ((hb1.block _ (Array.getElem?_eq_some_iff.1 HIB.out).1).trans HIB.out)
  have HS1 := Lib.hid (HS.out.later hb1)
  have v0 := cell_of_heap HUB1.out 0 (.slice F N cF) rfl
  obtain ⟨b', o', C', cap', rfl, hbl', hcs', _⟩ := HRF1.out k g HGK.out
  obtain ⟨b2, o2, C2, cap2, hF2, hbl2, hcs2, _⟩ := HRF1.out t.k f HFK.out
  injection hF2 with hF2
  injection hF2 with h1 h2
  subst h1 h2
  obtain ⟨gx0, gx1, gx2, gx3, gx4⟩ := fn_cells hcs'
  rw [hgr] at gx2
  obtain ⟨LC, hLC⟩ : ∃ LC, g.code.length = LC := ⟨_, rfl⟩
  rw [hLC] at gx4
  have hB2 := Below.one w1 (.cells #[.string g.nm, .int .i64 g.ps, .int .i64 (gr : Int), .int .i64 g.Fr, .slice C' LC cap'] 24)
  have hk2 := heap_alloc_new w1 (.cells #[.string g.nm, .int .i64 g.ps, .int .i64 (gr : Int), .int .i64 g.Fr, .slice C' LC cap'] 24)
  have HS2 := Lib.hid (HS1.out.later hB2)
  have HFB2 := Lib.hid (alloc_keeps HFB1.out (.cells #[.string g.nm, .int .i64 g.ps, .int .i64 (gr : Int), .int .i64 g.Fr, .slice C' LC cap'] 24))
  have HIB2 := Lib.hid (alloc_keeps HIB1.out (.cells #[.string g.nm, .int .i64 g.ps, .int .i64 (gr : Int), .int .i64 g.Fr, .slice C' LC cap'] 24))
  have HUB2 := Lib.hid (alloc_keeps HUB1.out (.cells #[.string g.nm, .int .i64 g.ps, .int .i64 (gr : Int), .int .i64 g.Fr, .slice C' LC cap'] 24))
  have HK2 := Lib.hid hk2
  have HX2 := Lib.hid ((hB2.cell (p := ⟨b', o' + t.k * 5 + 3, none⟩) hbl').trans (fn_cells hcs2).2.2.2.1)
  clear u0 u1 u2 hb1 c0 c1 c2 c3 c4 c5 c6 c7 c8 c9 c10 c11 c12 c13 c14 f0 f1 f2 f3 f4 hcs' hcs2 hB2 hk2
  obtain ⟨f0, f1, f2, f3, f4⟩ := fr_cells HFB1.out
  have zu : ub ≠ w1.heap.size := Nat.ne_of_lt (Array.getElem?_eq_some_iff.1 HUB1.out).1
  have zf : fb ≠ w1.heap.size := Nat.ne_of_lt (Array.getElem?_eq_some_iff.1 HFB1.out).1
  go_wp2
  clear gx0 gx1 gx2 gx3 gx4 v0 f0 f1 f2 f3 f4 zu zf
  have hz2 : (w1.alloc (.cells #[.string g.nm, .int .i64 g.ps, .int .i64 (gr : Int), .int .i64 g.Fr, .slice C' LC cap'] 24)).heap.size = w1.heap.size + 1 := by simp
  generalize w1.alloc (.cells #[.string g.nm, .int .i64 g.ps, .int .i64 (gr : Int), .int .i64 g.Fr, .slice C' LC cap'] 24) = w2 at *
  have gx23 := HX2.out
  obtain ⟨f0, f1, f2, f3, f4⟩ := fr_cells HFB2.out
  have v0 := cell_of_heap HUB2.out 0 (.slice (some ⟨b', o', none⟩) N cF) rfl
  go_quiet (fail)
  have hbc : Below w2.heap.size w2 (w2.drewN nq) := ⟨rfl, rfl, rfl, Nat.le_refl _, fun _ _ => rfl⟩
  generalize w2.drewN nq = wc at *
  have HS3 := Lib.hid (HS2.out.later hbc)
  have HFB3 := Lib.hid ((hbc.block _ (Array.getElem?_eq_some_iff.1 HFB2.out).1).trans HFB2.out)
  have HIB3 := Lib.hid ((hbc.block _ (Array.getElem?_eq_some_iff.1 HIB2.out).1).trans HIB2.out)
  have hk3 := (hbc.block _ (Array.getElem?_eq_some_iff.1 HK2.out).1).trans HK2.out
  have gy2 := cell_of_heap hk3 2 (.int .i64 (gr : Int)) rfl
  have gy3 := cell_of_heap hk3 3 (.int .i64 g.Fr) rfl
  clear f0 f1 f2 f3 f4 v0 gx23 hk3 hbc hz2
  by_cases hov2 : 4096 < t.base + f.Fr + g.Fr
  · as_aux_lemma =>
    have q1 : decide (t.base + f.Fr + g.Fr > 4096) = true := by simpa using hov2
    have q2 : decide (4096 < t.base + f.Fr + g.Fr) = true := by simpa using hov2
    obtain ⟨oA, oc, hov, hfin⟩ := HS3.out.told 3 0
    obtain ⟨cs, hres, hsz⟩ := HS3.out.res
    have HFN := Lib.hid hfin
    have HOV := Lib.hid hov2
    clear hfin hov2
    subst hov
    go_wp2_with (first
      | (show wpList Try.prog _ _ (⟨none, .store _ (.tmp 6) _, _, _, _, _⟩ :: _) _ _; refine wpList_store_row rfl 49 (.tmp 6) (.tmp 246) rfl rb #[.int .i64 3, .int .i64 0, .slice oA E.out.length oc] rfl rfl 49 _ hres sRe hsz (re_one _ _ _ _ _) ?_))
    exact HF.out _ _ _ _ _ _ _ _ _ _ _ _ _ _ _ _ _ _ _ _ _ _ _ _ _ _ _ _ _ _ _ _ _ _ _ _ _ _ _ _ _ _ _ _ _ _ _ _ _ _ _ _ _ _ _ _ _ _ _ _ _ _ _ _ _ _ _ _ _ _ _ _ _ _ _ _ _ _ _ _ _ _ _ _ _ _ _ _ _ _ _ _ _ _ _ _ _ _ _ _ _ _ _ _ _ _ _ _ _ _ _ _ _ _ _ _ _ _ _ _ _ _ _ _ _ _ _ _ _ _ _ _ _ _ _ _ _ _ _ _ _ _ _ _ _ _ _ _ _ _ _ _ _ _ _ _ _ _ _ _ _ _ _ _ _ _ _ _ _ _ _ _ _ _ _ _ _ _ _ _ _ _ _ _ _ _ _ _ _ _ _ _ _ _ _ _ _ _ _ _ _ _ _ _ _ _ _ _ _ _ _ _ _ _ _ _ _ _ _ _ _ _ _ _ _ _ _ _ _ _ _ _ _ _ _ _ _ _ _ _ _ _ _ _ _ _ _ _ _ _ _ HOV.out HFN.out
  · have q1 : decide (t.base + f.Fr + g.Fr > 4096) = false := by simpa using hov2
    have q2 : decide (4096 < t.base + f.Fr + g.Fr) = false := by simpa using hov2
    have HOV := Lib.hid hov2
    have hmk := fun W => make_regs gr (by omega) W
    obtain ⟨c0, c1, c2, c3, c4, c5, c6, c7, c8, c9, c10, c11, c12, c13, c14⟩ := Ins.cells HIB3.out
    rw [HNN.out] at c5
    have HS4 := Lib.hid (HS3.out.later (Below.one wc (.cells (madeCells #[.int .i64 0] gr) 3)))
    have HFB4 := Lib.hid (alloc_keeps HFB3.out (.cells (madeCells #[.int .i64 0] gr) 3))
    have HIB4 := Lib.hid (alloc_keeps HIB3.out (.cells (madeCells #[.int .i64 0] gr) 3))
    have HRB4 := Lib.hid ((heap_alloc_new wc (.cells (madeCells #[.int .i64 0] gr) 3)).trans (congrArg some (made_regs gr)))
    have HFR := Lib.hid HS3.out.fresh
    have HWB : Hid (w0.heap.size ≤ wc.heap.size) := Lib.hid HS3.out.b.size
    clear hov2
    go_wp2
    clear hmk c0 c1 c2 c3 c4 c5 c6 c7 c8 c9 c10 c11 c12 c13 c14 gy2 gy3
    go_loopw [24] (fun ix wr => ∃ n : Nat, n ≤ nn ∧ ix = .int .i64 n ∧ RnS w0 wr (l ++ [(t, b)]) E mb rb iv ov (.slice (some ⟨sb, 0, none⟩) (m + 1) scap) ∧ wr.heap[fb]? = some (frObj t b t.ρ.length) ∧ wr.heap[ib]? = some i.obj ∧ wr.heap[wc.heap.size]? = some (regO (((i.args.take n).map (rg t.ρ)) ++ List.replicate (gr - n) 0))) (fun ix _ => nn - (intOf ix).toNat)
    case atStart => exact ⟨0, by omega, rfl, HS4.out, HFB4.out, HIB4.out, by simpa using HRB4.out⟩
    case round =>
      obtain ⟨j, hj, rfl, hs, hfb, hib, hrb⟩ := hrel
      have HSr := Lib.hid hs
      have HFBr := Lib.hid hfb
      have HIBr := Lib.hid hib
      have HRBr := Lib.hid hrb
      obtain ⟨c0, c1, c2, c3, c4, c5, c6, c7, c8, c9, c10, c11, c12, c13, c14⟩ := Ins.cells hib
      obtain ⟨f0, f1, f2, f3, f4⟩ := fr_cells hfb
      rw [HN.out] at f4
      rw [HNN.out] at c5
      clear hs hfb
      by_cases hlt : j < nn
      · as_aux_lemma =>
        obtain ⟨r, hr⟩ : ∃ r, i.args[j]? = some r := ⟨_, List.getElem?_eq_getElem (by simp [Ins.args]; omega)⟩
        obtain ⟨hr0, hrR⟩ := HOK.out.arg HKD.out hr (by rw [HNN.out]; omega)
        obtain ⟨ra, hra⟩ : ∃ ra : Nat, r = ra := ⟨r.toNat, by omega⟩
        subst hra
        have ca := arg_cell hib hr
        have hran : ra < n := by have := HR.out; omega
        have hrv := (HSr.out.regs (t, b) (by simp)).2.2
        have r0 := regs_cell hrv (r := ra) (by rw [HN.out]; exact hran)
        obtain ⟨av, hav⟩ : ∃ av, rg t.ρ (ra : Int) = av := ⟨_, rfl⟩
        simp only at r0
        rw [show t.ρ.getD ra 0 = av from hav] at r0
        have hst := args_step (ρ := t.ρ) hr (show j < gr by omega)
        rw [hav] at hst
        have zb := free_of_heap hrb j
        have zc := regs_cell hrb (r := j) (by simp [Ins.args]; omega)
        have HST := Lib.hid hst
        clear hst hrv hib hrb hr hav c7 c8 c9 c10 c11 c12
        go_wp2
        go_region
        go_wp2
        refine ⟨⟨j + 1, by omega, by go_num, ((HSr.out.aside HRBr.out HWB.out HFR.out.1 HFR.out.2 j _).later (Below.refl _ _).drew), ?_, ?_, ?_⟩, by simp [intOf]; omega⟩
        · exact (heap_setCell_other wr ⟨wc.heap.size, j, none⟩ fb _ (ty_ne HFBr.out HRBr.out (by decide))).trans HFBr.out
        · exact (heap_setCell_other wr ⟨wc.heap.size, j, none⟩ ib _ (ty_ne HIBr.out HRBr.out (by decide))).trans HIBr.out
        · have h := regs_set HRBr.out j av
          rw [HST.out] at h
          exact h
      · as_aux_lemma =>
        obtain rfl : j = nn := by omega
        obtain ⟨⟨cur, hsb⟩, _, _, s2, _, _⟩ := HSr.out.top HM.out
        have zs := free_of_heap hsb (m * 5 + 2)
        have hibs : ib ≠ sb := ty_ne HIBr.out hsb (by decide)
        have hsbi : sb ≠ ib := Ne.symm hibs
        have hA := HSr.out.at_set HM.out np
        have HA := Lib.hid hA
        have hrl : (((i.args.take j).map (rg t.ρ)) ++ List.replicate (gr - j) 0).length = gr := by simp [Ins.args]; omega
        have hsz5 : (wr.setCell ⟨sb, m * 5 + 2, none⟩ (.int .i64 (np : Int))).heap.size = wr.heap.size := by simp
        have hA2 := fun o => ownsRow_later HA.out.stk (Below.one (wr.setCell ⟨sb, m * 5 + 2, none⟩ (.int .i64 (np : Int))) o)
        have HA2 := Lib.hid hA2
        have HRL := Lib.hid hrl
        have hgn' : ∀ (q : Nat), q = gr → ((wr.setCell ⟨sb, m * 5 + 2, none⟩ (.int .i64 (np : Int))).alloc (.cells #[.int .i64 (k : Int), .int .i64 (t.base + f.Fr), .int .i64 0, .int .i64 i.dst, .slice (some ⟨wc.heap.size, 0, none⟩) gr gr] 84)).heap[wr.heap.size]? = some (.cells #[.int .i64 (k : Int), .int .i64 (t.base + f.Fr), .int .i64 0, .int .i64 i.dst, .slice (some ⟨wc.heap.size, 0, none⟩) q q] 84) := fun q hq => by
          subst hq
          rw [← hsz5]
          exact heap_alloc_new _ _
        have hwb2 : w0.heap.size ≤ wr.heap.size := HSr.out.b.size
        have hlm := HM.out
        clear hA hA2 hrl hib hrb c7 c8 c9 c10 c11 c12
        go_wp2_with (first
          | (show wpList Try.prog _ _ (⟨some 282, .call _, _, _, _, _⟩ :: _) _ _; refine append_frame (o := ⟨some 282, _, _, _, _, _⟩) rfl (.tmp 274) (.tmp 281) rfl w0.heap.size (.slice (some ⟨sb, 0, none⟩) (m + 1) scap) (l ++ [({ t with p := np }, b)]) rfl (HA2.out _) wr.heap.size (⟨k, t.base + f.Fr, 0, i.dst, ((i.args.take j).map (rg t.ρ)) ++ List.replicate (gr - j) 0⟩, wc.heap.size) rfl (hgn' _ HRL.out) (by simp; omega) (by simp; omega) ?_; intro V' w' hO hG))
        refine HX.out _ _ _ _ _ _ _ _ _ _ _ _ _ _ _ _ _ _ _ _ _ _ _ _ _ _ _ _ _ _ _ _ _ _ _ _ _ _ _ _ _ _ _ _ _ _ _ _ _ _ _ _ _ _ _ _ _ _ _ _ _ _ _ _ _ _ _ _ _ _ _ _ _ _ _ _ _ _ _ _ _ _ _ _ _ _ _ _ _ _ _ _ _ _ _ _ _ _ _ _ _ _ _ _ _ _ _ _ _ _ _ _ _ _ _ _ _ _ _ _ _ _ _ _ _ _ _ _ _ _ _ _ _ _ _ _ _ _ _ _ _ _ _ _ _ _ _ _ _ _ _ _ _ _ _ _ _ _ _ _ _ _ _ _ _ _ _ _ _ _ _ _ _ _ _ _ _ _ _ _ _ _ _ _ _ _ _ _ _ _ _ _ _ _ _ _ _ _ _ _ _ _ _ _ _ _ _ _ _ _ _ _ _ _ _ _ _ _ _ _ _ _ _ _ _ _ _ _ _ _ _ _ _ _ _ _ _ _ _ _ _ _ _ _ _ _ _ _ _ _ _ wc.heap.size HOV.out ?_
        rw [HRHO.out]
        refine ((HA.out.later (Below.one _ _)).push hG hO HWB.out HFR.out.1.symm ?_ fun y hy => ?_)
        · exact alloc_keeps ((heap_setCell_other wr ⟨sb, m * 5 + 2, none⟩ wc.heap.size _ (ty_ne HRBr.out hsb (by decide))).trans HRBr.out) _
        · rcases List.mem_append.1 hy with hy | hy
          · exact HFR.out.2 y (List.mem_append_left _ hy)
          · obtain rfl := List.mem_singleton.1 hy
            exact HFR.out.2 (t, b) (by simp)
end Go.Proofs.Ytkcclefonmnpnaa
