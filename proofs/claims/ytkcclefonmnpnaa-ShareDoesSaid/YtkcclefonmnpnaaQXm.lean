import Derived.Test.YtkcclefonmnpnaaQXe
/- A run's instructions. -/
namespace Go.Proofs.Ytkcclefonmnpnaa
open Go.RowKit Go.BigFrame

theorem RnS.pop {w0 w : World} {l : List (Fr7 × Nat)} {E : Env} {mb rb : Nat} {iv ov : Value} {x : Fr7 × Nat} {m sb scap : Nat} (h : RnS w0 w (l ++ [x]) E mb rb iv ov (.slice (some ⟨sb, 0, none⟩) (m + 1) scap)) (hm : l.length = m) : RnS w0 w l E mb rb iv ov (.slice (some ⟨sb, 0, none⟩) m scap) ∧ m + 1 ≤ scap := by
  obtain ⟨sb', cap', cur, e1, e2, e3, e4, e5, e6, e7⟩ := stk_top h.stk
  rw [hm] at e1 e4 e7
  injection e1 with e1 _ e8
  injection e1 with e1
  injection e1 with e1
  subst e1 e8
  refine ⟨⟨h.b, h.mem, h.ml, h.mB, h.res, h.rB, h.inp, h.out, ⟨by rw [flatFr_len], Or.inr ⟨sb, scap, cur, by rw [hm], e2, e3, by omega, e5, e6, ?_⟩⟩, fun y hy => h.regs y (List.mem_append_left _ hy), ?_⟩, e4⟩
  · have h1 := congrArg (List.take (m * 5)) e7
    rw [List.take_take, show min (m * 5) ((m + 1) * 5) = m * 5 by omega, List.flatMap_append, List.take_append_of_le_length (by rw [flatFr_len, hm]; exact Nat.le_refl _)] at h1
    rw [hm, h1, List.take_of_length_le (by rw [flatFr_len, hm]; exact Nat.le_refl _)]
  · have := h.nd
    rw [List.map_append, List.nodup_append] at this
    exact this.1
set_option maxRecDepth 1000000 in
set_option maxHeartbeats 32000000 in
theorem run_k13 (w0 w : World) (l : List (Fr7 × Nat)) (t : Fr7) (b m scap sb fb ib mb rb ub np : Nat) (i : Ins) (E : Env) (iv ov : Value) (R Fr : Int) (L : Nat)
    (hm : l.length = m) (hok : Ok i R Fr L) (hkd : i.kind = 13) (hR : t.ρ.length = R.toNat) (hml : m ≤ 100000)
    (hD : ∀ l2 t2 b2, l = l2 ++ [(t2, b2)] → 0 ≤ t.dst → t.dst.toNat < t2.ρ.length)
    (hS : RnS w0 w (l ++ [(t, b)]) E mb rb iv ov (.slice (some ⟨sb, 0, none⟩) (m + 1) scap)) (hf : w.heap[fb]? = some (frObj t b t.ρ.length)) (hi : w.heap[ib]? = some i.obj)
    (x0 x2 x4 x5 x7 x9 x16 x17 x18 x19 x20 x21 x22 x23 x24 x25 x26 x27 x28 x29 x30 x31 x32 x33 x34 x35 x36 x37 x38 x39 x40 x41 x42 x43 x44 x45 x46 x47 x48 x49 x50 x51 x52 x53 x54 x55 x56 x57 x58 x59 x60 x61 x62 x63 x64 x65 x66 x67 x68 x69 x70 x71 x72 x73 x74 x75 x76 x77 x78 x79 x80 x81 x82 x83 x84 x85 x86 x87 x88 x89 x90 x91 x92 x93 x94 x95 x96 x97 x98 x99 x100 x101 x102 x103 x104 x105 x106 x107 x108 x109 x110 x111 x112 x113 x114 x115 x116 x117 x118 x119 x120 x121 x122 x123 x124 x125 x126 x127 x128 x129 x130 x131 x132 x133 x134 x135 x136 x137 x138 x139 x140 x141 x142 x143 x144 x145 x146 x147 x148 x149 x150 x151 x152 x153 x154 x155 x156 x157 x158 x159 x160 x161 x162 x163 x164 x165 x166 x167 x168 x169 x170 x171 x172 x173 x174 x175 x176 x177 x178 x179 x180 x181 x182 x183 x184 x185 x186 x187 x188 x189 x190 x191 x192 x193 x194 x195 x196 x197 x198 x199 x200 x201 x202 x203 x204 x205 x206 x207 x208 x209 x210 x211 x212 x213 x214 x215 x216 x217 x218 x219 x220 x221 x222 x223 x224 x225 x226 x227 x228 x229 x230 x231 x232 x233 x234 x235 x236 x237 x238 x239 x240 x241 x242 x243 x244 x245 x246 x247 x248 x249 x250 x251 x252 x253 x254 x255 x256 x257 x258 x259 x260 x261 x262 x263 x264 x265 x266 x267 x268 x269 x270 x271 x272 x273 x274 x275 x276 x277 x278 x279 x280 x281 x282 x283 x284 x285 x286 x287 x288 x289 x290 x291 x292 x293 x294 x295 x296 x297 x298 x299 x300 x301 x302 x303 x304 x305 x306 x307 x308 x309 x310 x311 x312 x313 x314 x315 x316 x317 x318 x319 x320 x321 x322 x323 x324 x325 x326 x327 x328 x329 x330 x331 x332 x333 x334 x335 x336 x337 x338 x339 x340 x341 x342 x343 x344 x345 x346 x347 x348 x349 x350 x351 x352 x353 x354 x355 x356 x357 x358 x359 x360 x361 x362 x363 x364 x365 x366 x367 x368 x369 x370 x371 x372 x373 x374 x375 x376 x377 : Value) (K : Act → World → Prop) (Q : Exit → Act → World → Prop)
    (hX : ∀ (y16 y17 y18 y19 y20 y21 y22 y23 y24 y122 y123 y124 y125 y126 y127 y128 y129 y130 y131 y132 y133 y134 y135 y136 y137 y138 y139 y140 y141 y142 y143 y144 y145 y146 y147 y148 y149 y150 y151 y152 y153 y154 y155 y156 y157 y158 y159 y160 y161 y162 y163 y164 y165 y166 y167 y168 y169 y170 y171 y172 y173 y174 y175 y176 y177 y178 y179 y180 y181 y182 y183 y184 y185 y186 y187 y188 y189 y190 y191 y192 y193 y194 y195 y196 y197 y198 y199 y200 y201 y202 y203 y204 y205 y206 y207 y208 y209 y210 y211 y212 y213 y214 y215 y216 y217 y218 y219 y220 y221 y222 y223 y224 y225 y226 y227 y228 y229 y230 y231 y232 y233 y234 y235 y236 y237 y238 y239 y240 y241 y242 y243 y244 y245 y246 y247 y248 y249 y250 y251 y252 y253 y254 y255 y256 y257 y258 y259 y260 y261 y262 y263 y264 y265 y266 y267 y268 y269 y270 y271 y272 y273 y274 y275 y276 y277 y278 y279 y280 y281 y282 y283 y284 y285 y286 y287 y288 y289 y290 y291 y292 y293 y294 y295 y296 y297 y298 y299 y300 y301 y302 y303 y304 y305 y306 y307 y308 y309 y310 y311 y312 y313 y314 y315 y316 y317 y318 y319 y320 y321 y322 y323 y324 y325 y326 y327 y328 y329 y330 y331 y332 y333 y334 y335 y336 y337 y338 y339 y340 y341 y342 y343 y344 y345 y346 y347 y348 y349 y350 y351 y352 y353 y354 y355 y356 y357 y358 y359 z14 z15 : Value) (w' : World) (sv' : Value) (l2 : List (Fr7 × Nat)) (t2 : Fr7) (b2 : Nat), l = l2 ++ [(t2, b2)] → RnS w0 w' (l2 ++ [({ t2 with ρ := setd t.dst (rg t.ρ i.a) t2.ρ }, b2)]) E mb rb iv ov sv' → Q (.exit 3) ⟨(x0 :: iv :: x2 :: .pointer (some ⟨ub, 0, none⟩) :: x4 :: x5 :: .pointer (some ⟨rb, 0, none⟩) :: x7 :: .slice (some ⟨mb, 0, none⟩) 4096 4096 :: x9 :: ov :: sv' :: .pointer (some ⟨fb, 0, none⟩) :: .pointer (some ⟨ib, 0, none⟩) :: z14 :: z15 :: y16 :: y17 :: y18 :: y19 :: y20 :: y21 :: y22 :: y23 :: y24 :: x25 :: x26 :: x27 :: x28 :: x29 :: x30 :: x31 :: x32 :: x33 :: x34 :: x35 :: x36 :: x37 :: x38 :: x39 :: x40 :: x41 :: x42 :: x43 :: x44 :: x45 :: x46 :: x47 :: x48 :: x49 :: x50 :: x51 :: x52 :: x53 :: x54 :: x55 :: x56 :: x57 :: x58 :: x59 :: x60 :: x61 :: x62 :: x63 :: x64 :: x65 :: x66 :: x67 :: x68 :: x69 :: x70 :: x71 :: x72 :: x73 :: x74 :: x75 :: x76 :: x77 :: x78 :: x79 :: x80 :: x81 :: x82 :: x83 :: x84 :: x85 :: x86 :: x87 :: x88 :: x89 :: x90 :: x91 :: x92 :: x93 :: x94 :: x95 :: x96 :: x97 :: x98 :: x99 :: x100 :: x101 :: x102 :: x103 :: x104 :: x105 :: x106 :: x107 :: x108 :: x109 :: x110 :: x111 :: x112 :: x113 :: x114 :: x115 :: x116 :: x117 :: x118 :: x119 :: x120 :: x121 :: y122 :: y123 :: y124 :: y125 :: y126 :: y127 :: y128 :: y129 :: y130 :: y131 :: y132 :: y133 :: y134 :: y135 :: y136 :: y137 :: y138 :: y139 :: y140 :: y141 :: y142 :: y143 :: y144 :: y145 :: y146 :: y147 :: y148 :: y149 :: y150 :: y151 :: y152 :: y153 :: y154 :: y155 :: y156 :: y157 :: y158 :: y159 :: y160 :: y161 :: y162 :: y163 :: y164 :: y165 :: y166 :: y167 :: y168 :: y169 :: y170 :: y171 :: y172 :: y173 :: y174 :: y175 :: y176 :: y177 :: y178 :: y179 :: y180 :: y181 :: y182 :: y183 :: y184 :: y185 :: y186 :: y187 :: y188 :: y189 :: y190 :: y191 :: y192 :: y193 :: y194 :: y195 :: y196 :: y197 :: y198 :: y199 :: y200 :: y201 :: y202 :: y203 :: y204 :: y205 :: y206 :: y207 :: y208 :: y209 :: y210 :: y211 :: y212 :: y213 :: y214 :: y215 :: y216 :: y217 :: y218 :: y219 :: y220 :: y221 :: y222 :: y223 :: y224 :: y225 :: y226 :: y227 :: y228 :: y229 :: y230 :: y231 :: y232 :: y233 :: y234 :: y235 :: y236 :: y237 :: y238 :: y239 :: y240 :: y241 :: y242 :: y243 :: y244 :: y245 :: y246 :: y247 :: y248 :: y249 :: y250 :: y251 :: y252 :: y253 :: y254 :: y255 :: y256 :: y257 :: y258 :: y259 :: y260 :: y261 :: y262 :: y263 :: y264 :: y265 :: y266 :: y267 :: y268 :: y269 :: y270 :: y271 :: y272 :: y273 :: y274 :: y275 :: y276 :: y277 :: y278 :: y279 :: y280 :: y281 :: y282 :: y283 :: y284 :: y285 :: y286 :: y287 :: y288 :: y289 :: y290 :: y291 :: y292 :: y293 :: y294 :: y295 :: y296 :: y297 :: y298 :: y299 :: y300 :: y301 :: y302 :: y303 :: y304 :: y305 :: y306 :: y307 :: y308 :: y309 :: y310 :: y311 :: y312 :: y313 :: y314 :: y315 :: y316 :: y317 :: y318 :: y319 :: y320 :: y321 :: y322 :: y323 :: y324 :: y325 :: y326 :: y327 :: y328 :: y329 :: y330 :: y331 :: y332 :: y333 :: y334 :: y335 :: y336 :: y337 :: y338 :: y339 :: y340 :: y341 :: y342 :: y343 :: y344 :: y345 :: y346 :: y347 :: y348 :: y349 :: y350 :: y351 :: y352 :: y353 :: y354 :: y355 :: y356 :: y357 :: y358 :: y359 :: x360 :: x361 :: x362 :: x363 :: x364 :: x365 :: x366 :: x367 :: x368 :: x369 :: x370 :: x371 :: x372 :: x373 :: x374 :: x375 :: x376 :: x377 :: []).toArray, []⟩ w')
    (hF : ∀ (y16 y17 y18 y19 y20 y21 y22 y23 y24 y122 y123 y124 y125 y126 y127 y128 y129 y130 y131 y132 y133 y134 y135 y136 y137 y138 y139 y140 y141 y142 y143 y144 y145 y146 y147 y148 y149 y150 y151 y152 y153 y154 y155 y156 y157 y158 y159 y160 y161 y162 y163 y164 y165 y166 y167 y168 y169 y170 y171 y172 y173 y174 y175 y176 y177 y178 y179 y180 y181 y182 y183 y184 y185 y186 y187 y188 y189 y190 y191 y192 y193 y194 y195 y196 y197 y198 y199 y200 y201 y202 y203 y204 y205 y206 y207 y208 y209 y210 y211 y212 y213 y214 y215 y216 y217 y218 y219 y220 y221 y222 y223 y224 y225 y226 y227 y228 y229 y230 y231 y232 y233 y234 y235 y236 y237 y238 y239 y240 y241 y242 y243 y244 y245 y246 y247 y248 y249 y250 y251 y252 y253 y254 y255 y256 y257 y258 y259 y260 y261 y262 y263 y264 y265 y266 y267 y268 y269 y270 y271 y272 y273 y274 y275 y276 y277 y278 y279 y280 y281 y282 y283 y284 y285 y286 y287 y288 y289 y290 y291 y292 y293 y294 y295 y296 y297 y298 y299 y300 y301 y302 y303 y304 y305 y306 y307 y308 y309 y310 y311 y312 y313 y314 y315 y316 y317 y318 y319 y320 y321 y322 y323 y324 y325 y326 y327 y328 y329 y330 y331 y332 y333 y334 y335 y336 y337 y338 y339 y340 y341 y342 y343 y344 y345 y346 y347 y348 y349 y350 y351 y352 y353 y354 y355 y356 y357 y358 y359 sv' z14 z15 : Value) (w' : World), l = [] → Fin w0 w' rb ⟨1, rg t.ρ i.a, E.out⟩ → Q .ret ⟨(x0 :: iv :: x2 :: .pointer (some ⟨ub, 0, none⟩) :: x4 :: x5 :: .pointer (some ⟨rb, 0, none⟩) :: x7 :: .slice (some ⟨mb, 0, none⟩) 4096 4096 :: x9 :: ov :: sv' :: .pointer (some ⟨fb, 0, none⟩) :: .pointer (some ⟨ib, 0, none⟩) :: z14 :: z15 :: y16 :: y17 :: y18 :: y19 :: y20 :: y21 :: y22 :: y23 :: y24 :: x25 :: x26 :: x27 :: x28 :: x29 :: x30 :: x31 :: x32 :: x33 :: x34 :: x35 :: x36 :: x37 :: x38 :: x39 :: x40 :: x41 :: x42 :: x43 :: x44 :: x45 :: x46 :: x47 :: x48 :: x49 :: x50 :: x51 :: x52 :: x53 :: x54 :: x55 :: x56 :: x57 :: x58 :: x59 :: x60 :: x61 :: x62 :: x63 :: x64 :: x65 :: x66 :: x67 :: x68 :: x69 :: x70 :: x71 :: x72 :: x73 :: x74 :: x75 :: x76 :: x77 :: x78 :: x79 :: x80 :: x81 :: x82 :: x83 :: x84 :: x85 :: x86 :: x87 :: x88 :: x89 :: x90 :: x91 :: x92 :: x93 :: x94 :: x95 :: x96 :: x97 :: x98 :: x99 :: x100 :: x101 :: x102 :: x103 :: x104 :: x105 :: x106 :: x107 :: x108 :: x109 :: x110 :: x111 :: x112 :: x113 :: x114 :: x115 :: x116 :: x117 :: x118 :: x119 :: x120 :: x121 :: y122 :: y123 :: y124 :: y125 :: y126 :: y127 :: y128 :: y129 :: y130 :: y131 :: y132 :: y133 :: y134 :: y135 :: y136 :: y137 :: y138 :: y139 :: y140 :: y141 :: y142 :: y143 :: y144 :: y145 :: y146 :: y147 :: y148 :: y149 :: y150 :: y151 :: y152 :: y153 :: y154 :: y155 :: y156 :: y157 :: y158 :: y159 :: y160 :: y161 :: y162 :: y163 :: y164 :: y165 :: y166 :: y167 :: y168 :: y169 :: y170 :: y171 :: y172 :: y173 :: y174 :: y175 :: y176 :: y177 :: y178 :: y179 :: y180 :: y181 :: y182 :: y183 :: y184 :: y185 :: y186 :: y187 :: y188 :: y189 :: y190 :: y191 :: y192 :: y193 :: y194 :: y195 :: y196 :: y197 :: y198 :: y199 :: y200 :: y201 :: y202 :: y203 :: y204 :: y205 :: y206 :: y207 :: y208 :: y209 :: y210 :: y211 :: y212 :: y213 :: y214 :: y215 :: y216 :: y217 :: y218 :: y219 :: y220 :: y221 :: y222 :: y223 :: y224 :: y225 :: y226 :: y227 :: y228 :: y229 :: y230 :: y231 :: y232 :: y233 :: y234 :: y235 :: y236 :: y237 :: y238 :: y239 :: y240 :: y241 :: y242 :: y243 :: y244 :: y245 :: y246 :: y247 :: y248 :: y249 :: y250 :: y251 :: y252 :: y253 :: y254 :: y255 :: y256 :: y257 :: y258 :: y259 :: y260 :: y261 :: y262 :: y263 :: y264 :: y265 :: y266 :: y267 :: y268 :: y269 :: y270 :: y271 :: y272 :: y273 :: y274 :: y275 :: y276 :: y277 :: y278 :: y279 :: y280 :: y281 :: y282 :: y283 :: y284 :: y285 :: y286 :: y287 :: y288 :: y289 :: y290 :: y291 :: y292 :: y293 :: y294 :: y295 :: y296 :: y297 :: y298 :: y299 :: y300 :: y301 :: y302 :: y303 :: y304 :: y305 :: y306 :: y307 :: y308 :: y309 :: y310 :: y311 :: y312 :: y313 :: y314 :: y315 :: y316 :: y317 :: y318 :: y319 :: y320 :: y321 :: y322 :: y323 :: y324 :: y325 :: y326 :: y327 :: y328 :: y329 :: y330 :: y331 :: y332 :: y333 :: y334 :: y335 :: y336 :: y337 :: y338 :: y339 :: y340 :: y341 :: y342 :: y343 :: y344 :: y345 :: y346 :: y347 :: y348 :: y349 :: y350 :: y351 :: y352 :: y353 :: y354 :: y355 :: y356 :: y357 :: y358 :: y359 :: x360 :: x361 :: x362 :: x363 :: x364 :: x365 :: x366 :: x367 :: x368 :: x369 :: x370 :: x371 :: x372 :: x373 :: x374 :: x375 :: x376 :: x377 :: []).toArray, []⟩ w') :
    Code.wp Try.prog run22 (Exit.then K Q) ⟨(x0 :: iv :: x2 :: .pointer (some ⟨ub, 0, none⟩) :: x4 :: x5 :: .pointer (some ⟨rb, 0, none⟩) :: x7 :: .slice (some ⟨mb, 0, none⟩) 4096 4096 :: x9 :: ov :: .slice (some ⟨sb, 0, none⟩) (m + 1) scap :: .pointer (some ⟨fb, 0, none⟩) :: .pointer (some ⟨ib, 0, none⟩) :: .int .i64 (np : Int) :: .int .i64 0 :: x16 :: x17 :: x18 :: x19 :: x20 :: x21 :: x22 :: x23 :: x24 :: x25 :: x26 :: x27 :: x28 :: x29 :: x30 :: x31 :: x32 :: x33 :: x34 :: x35 :: x36 :: x37 :: x38 :: x39 :: x40 :: x41 :: x42 :: x43 :: x44 :: x45 :: x46 :: x47 :: x48 :: x49 :: x50 :: x51 :: x52 :: x53 :: x54 :: x55 :: x56 :: x57 :: x58 :: x59 :: x60 :: x61 :: x62 :: x63 :: x64 :: x65 :: x66 :: x67 :: x68 :: x69 :: x70 :: x71 :: x72 :: x73 :: x74 :: x75 :: x76 :: x77 :: x78 :: x79 :: x80 :: x81 :: x82 :: x83 :: x84 :: x85 :: x86 :: x87 :: x88 :: x89 :: x90 :: x91 :: x92 :: x93 :: x94 :: x95 :: x96 :: x97 :: x98 :: x99 :: x100 :: x101 :: x102 :: x103 :: x104 :: x105 :: x106 :: x107 :: x108 :: x109 :: x110 :: x111 :: x112 :: x113 :: x114 :: x115 :: x116 :: x117 :: x118 :: x119 :: x120 :: x121 :: x122 :: x123 :: x124 :: x125 :: x126 :: x127 :: x128 :: x129 :: x130 :: x131 :: x132 :: x133 :: x134 :: x135 :: x136 :: x137 :: x138 :: x139 :: x140 :: x141 :: x142 :: x143 :: x144 :: x145 :: x146 :: x147 :: x148 :: x149 :: x150 :: x151 :: x152 :: x153 :: x154 :: x155 :: x156 :: x157 :: x158 :: x159 :: x160 :: x161 :: x162 :: x163 :: x164 :: x165 :: x166 :: x167 :: x168 :: x169 :: x170 :: x171 :: x172 :: x173 :: x174 :: x175 :: x176 :: x177 :: x178 :: x179 :: x180 :: x181 :: x182 :: x183 :: x184 :: x185 :: x186 :: x187 :: x188 :: x189 :: x190 :: x191 :: x192 :: x193 :: x194 :: x195 :: x196 :: x197 :: x198 :: x199 :: x200 :: x201 :: x202 :: x203 :: x204 :: x205 :: x206 :: x207 :: x208 :: x209 :: x210 :: x211 :: x212 :: x213 :: x214 :: x215 :: x216 :: x217 :: x218 :: x219 :: x220 :: x221 :: x222 :: x223 :: x224 :: x225 :: x226 :: x227 :: x228 :: x229 :: x230 :: x231 :: x232 :: x233 :: x234 :: x235 :: x236 :: x237 :: x238 :: x239 :: x240 :: x241 :: x242 :: x243 :: x244 :: x245 :: x246 :: x247 :: x248 :: x249 :: x250 :: x251 :: x252 :: x253 :: x254 :: x255 :: x256 :: x257 :: x258 :: x259 :: x260 :: x261 :: x262 :: x263 :: x264 :: x265 :: x266 :: x267 :: x268 :: x269 :: x270 :: x271 :: x272 :: x273 :: x274 :: x275 :: x276 :: x277 :: x278 :: x279 :: x280 :: x281 :: x282 :: x283 :: x284 :: x285 :: x286 :: x287 :: x288 :: x289 :: x290 :: x291 :: x292 :: x293 :: x294 :: x295 :: x296 :: x297 :: x298 :: x299 :: x300 :: x301 :: x302 :: x303 :: x304 :: x305 :: x306 :: x307 :: x308 :: x309 :: x310 :: x311 :: x312 :: x313 :: x314 :: x315 :: x316 :: x317 :: x318 :: x319 :: x320 :: x321 :: x322 :: x323 :: x324 :: x325 :: x326 :: x327 :: x328 :: x329 :: x330 :: x331 :: x332 :: x333 :: x334 :: x335 :: x336 :: x337 :: x338 :: x339 :: x340 :: x341 :: x342 :: x343 :: x344 :: x345 :: x346 :: x347 :: x348 :: x349 :: x350 :: x351 :: x352 :: x353 :: x354 :: x355 :: x356 :: x357 :: x358 :: x359 :: x360 :: x361 :: x362 :: x363 :: x364 :: x365 :: x366 :: x367 :: x368 :: x369 :: x370 :: x371 :: x372 :: x373 :: x374 :: x375 :: x376 :: x377 :: []).toArray, []⟩ w := by
  conv => arg 2; whnf
  have HX := Lib.hid hX
  have HF := Lib.hid hF
  have HS := Lib.hid hS
  have HFB := Lib.hid hf
  have HIB := Lib.hid hi
  obtain ⟨f0, f1, f2, f3, f4⟩ := fr_cells hf
  obtain ⟨c0, c1, c2, c3, c4, c5, c6, c7, c8, c9, c10, c11, c12, c13, c14⟩ := Ins.cells hi
  obtain ⟨n, hn⟩ : ∃ n, t.ρ.length = n := ⟨_, rfl⟩
  rw [hn] at f4 hR
  have HOK := Lib.hid hok
  have HN := Lib.hid hn
  have HR := Lib.hid hR
  have HM := Lib.hid hm
  have HKD := Lib.hid hkd
  have HD := Lib.hid hD
  rw [hkd] at c0
  clear hX hF hS hf hi hok hR hm hn hkd hD
  obtain ⟨hpop, hcap⟩ := HS.out.pop HM.out
  have HP := Lib.hid hpop
  clear hpop
  obtain ⟨ra, ha, hra⟩ := HOK.out.useA (by rw [HKD.out]; rfl)
  rw [ha] at c3
  have hran : ra < n := by rw [HR.out]; exact hra
  have hrv := (HS.out.regs (t, b) (by simp)).2.2
  have r0 := regs_cell hrv (r := ra) (by rw [HN.out]; exact hran)
  simp only at r0
  have HA : Hid (t.ρ.getD ra 0 = rg t.ρ i.a) := Lib.hid (by unfold rg; rw [ha]; rfl)
  rw [HA.out] at r0
  obtain ⟨av, hav⟩ : ∃ av, rg t.ρ i.a = av := ⟨_, rfl⟩
  rw [hav] at r0
  have HAV := Lib.hid hav
  clear hrv ha hav
  rcases List.eq_nil_or_concat l with hl | ⟨l2, ⟨t2, b2⟩, hl⟩
  · as_aux_lemma =>
    have hm0 : m = 0 := by rw [← HM.out, hl]; rfl
    subst hm0
    have HL := Lib.hid hl
    obtain ⟨oA, oc, hov, hfin⟩ := HP.out.told 1 av
    obtain ⟨cs, hres, hsz⟩ := HP.out.res
    have HFN := Lib.hid hfin
    clear hfin hl
    subst hov
    go_wp2_with (first
      | (show wpList Try.prog _ _ (⟨none, .store _ (.tmp 6) _, _, _, _, _⟩ :: _) _ _; refine wpList_store_row rfl 49 (.tmp 6) (.tmp 345) rfl rb #[.int .i64 1, .int .i64 av, .slice oA E.out.length oc] rfl rfl 49 _ hres sRe hsz (re_one _ _ _ _ _) ?_))
    exact HF.out _ _ _ _ _ _ _ _ _ _ _ _ _ _ _ _ _ _ _ _ _ _ _ _ _ _ _ _ _ _ _ _ _ _ _ _ _ _ _ _ _ _ _ _ _ _ _ _ _ _ _ _ _ _ _ _ _ _ _ _ _ _ _ _ _ _ _ _ _ _ _ _ _ _ _ _ _ _ _ _ _ _ _ _ _ _ _ _ _ _ _ _ _ _ _ _ _ _ _ _ _ _ _ _ _ _ _ _ _ _ _ _ _ _ _ _ _ _ _ _ _ _ _ _ _ _ _ _ _ _ _ _ _ _ _ _ _ _ _ _ _ _ _ _ _ _ _ _ _ _ _ _ _ _ _ _ _ _ _ _ _ _ _ _ _ _ _ _ _ _ _ _ _ _ _ _ _ _ _ _ _ _ _ _ _ _ _ _ _ _ _ _ _ _ _ _ _ _ _ _ _ _ _ _ _ _ _ _ _ _ _ _ _ _ _ _ _ _ _ _ _ _ _ _ _ _ _ _ _ _ _ _ _ _ _ _ _ _ _ _ _ _ _ _ _ _ _ _ _ _ _ HL.out (by rw [HAV.out]; exact HFN.out)
  · as_aux_lemma =>
    rw [List.concat_eq_append] at hl
    obtain ⟨m2, hm2⟩ : ∃ m2, m = m2 + 1 := ⟨l2.length, by rw [← HM.out, hl]; simp⟩
    subst hm2
    have hl2 : l2.length = m2 := by have h := HM.out; rw [hl] at h; simpa using h
    have HPL : Hid (RnS w0 w (l2 ++ [(t2, b2)]) E mb rb iv ov (.slice (some ⟨sb, 0, none⟩) (m2 + 1) scap)) := Lib.hid (by rw [← hl]; exact HP.out)
    obtain ⟨_, s0, s1, s2, s3, s4⟩ := HPL.out.top hl2
    have hbr := (HPL.out.regs (t2, b2) (by simp)).2.2
    simp only at hbr
    have hdd := HD.out l2 t2 b2 hl
    have HL := Lib.hid hl
    obtain ⟨n2, hn2⟩ : ∃ n2, t2.ρ.length = n2 := ⟨_, rfl⟩
    rw [hn2] at s4 hdd
    have HN2 := Lib.hid hn2
    clear hl hl2 hn2
    by_cases hd : 0 ≤ t.dst
    · obtain ⟨rd, hrd⟩ : ∃ rd : Nat, t.dst = rd := ⟨t.dst.toNat, by omega⟩
      have hdl := hdd hd
      rw [hrd] at f3 hdl
      simp only [Int.toNat_natCast] at hdl
      have HSE := Lib.hid (show setd t.dst (rg t.ρ i.a) t2.ρ = t2.ρ.set rd av by rw [hrd, HAV.out]; unfold setd; rw [if_pos (by omega)]; rfl)
      have zb := free_of_heap hbr rd
      have zc := regs_cell hbr (r := rd) (by rw [HN2.out]; exact hdl)
      have hq0 : decide ((rd : Int) ≥ 0) = true := by simp
      have hq1 : decide ((0 : Int) ≤ rd) = true := by simp
      clear hdd hd hrd
      go_wp2_with fail
      go_region
      go_wp2
      exact HX.out _ _ _ _ _ _ _ _ _ _ _ _ _ _ _ _ _ _ _ _ _ _ _ _ _ _ _ _ _ _ _ _ _ _ _ _ _ _ _ _ _ _ _ _ _ _ _ _ _ _ _ _ _ _ _ _ _ _ _ _ _ _ _ _ _ _ _ _ _ _ _ _ _ _ _ _ _ _ _ _ _ _ _ _ _ _ _ _ _ _ _ _ _ _ _ _ _ _ _ _ _ _ _ _ _ _ _ _ _ _ _ _ _ _ _ _ _ _ _ _ _ _ _ _ _ _ _ _ _ _ _ _ _ _ _ _ _ _ _ _ _ _ _ _ _ _ _ _ _ _ _ _ _ _ _ _ _ _ _ _ _ _ _ _ _ _ _ _ _ _ _ _ _ _ _ _ _ _ _ _ _ _ _ _ _ _ _ _ _ _ _ _ _ _ _ _ _ _ _ _ _ _ _ _ _ _ _ _ _ _ _ _ _ _ _ _ _ _ _ _ _ _ _ _ _ _ _ _ _ _ _ _ _ _ _ _ _ _ _ _ _ _ _ _ _ _ _ _ _ _ _ l2 t2 b2 HL.out (by rw [HSE.out]; exact (HPL.out.reg_set rd av).later (Below.refl _ _).drew)
    · have HSE := Lib.hid (show setd t.dst (rg t.ρ i.a) t2.ρ = t2.ρ by unfold setd; rw [if_neg hd])
      have hq0 : decide (t.dst ≥ 0) = false := by simpa using hd
      have hq1 : decide (0 ≤ t.dst) = false := by simpa using hd
      clear hdd hd
      go_wp2
      exact HX.out _ _ _ _ _ _ _ _ _ _ _ _ _ _ _ _ _ _ _ _ _ _ _ _ _ _ _ _ _ _ _ _ _ _ _ _ _ _ _ _ _ _ _ _ _ _ _ _ _ _ _ _ _ _ _ _ _ _ _ _ _ _ _ _ _ _ _ _ _ _ _ _ _ _ _ _ _ _ _ _ _ _ _ _ _ _ _ _ _ _ _ _ _ _ _ _ _ _ _ _ _ _ _ _ _ _ _ _ _ _ _ _ _ _ _ _ _ _ _ _ _ _ _ _ _ _ _ _ _ _ _ _ _ _ _ _ _ _ _ _ _ _ _ _ _ _ _ _ _ _ _ _ _ _ _ _ _ _ _ _ _ _ _ _ _ _ _ _ _ _ _ _ _ _ _ _ _ _ _ _ _ _ _ _ _ _ _ _ _ _ _ _ _ _ _ _ _ _ _ _ _ _ _ _ _ _ _ _ _ _ _ _ _ _ _ _ _ _ _ _ _ _ _ _ _ _ _ _ _ _ _ _ _ _ _ _ _ _ _ _ _ _ _ _ _ _ _ _ _ _ _ l2 t2 b2 HL.out (by rw [HSE.out]; exact HPL.out)
end Go.Proofs.Ytkcclefonmnpnaa
