import Derived.Test.YtaofdbboalcceaaGj
import Derived.Test.YtaofdbboalcceaaGl
import Derived.Test.YtaofdbboalcceaaGm
import Derived.Test.YtaofdbboalcceaaGn
import Derived.Test.YtaofdbboalcceaaGp
/- flow.Fold: its loop. -/
namespace Go.Proofs.Ytaofdbboalcceaa
open Go.RowKit Go.BigFrame

theorem foldRound_any (f : Fn7) (M : List (List Vl)) (L Rn ob cb B0 p : Nat) (pb : Nat → Nat) (hpl : p < f.code.length) (hL : f.code.length = L) (hL8 : L ≤ 8192) (hR4 : Rn ≤ 4096) (wr : World)
    (y4 : wr.cell? ⟨B0, 4, none⟩ = some (.slice (some ⟨cb, 0, none⟩) L L)) (hd : wr.cell? ⟨ob, p, none⟩ = some (.slice (some ⟨pb p, 0, none⟩) Rn Rn)) (hpv : PreV wr (pb p) (row M p)) (hvl : (row M p).length = Rn) (hC : PreI wr cb (foldTo f M p)) (hok : Ok (insAt f.code p) (Rn : Int) f.Fr L)
    (x0 x2 x3 x4 x6 x7 x8 x9 x10 x11 x12 x13 x14 x15 x16 x17 x18 x19 x23 x24 x25 x26 x27 x28 x29 x30 x31 x32 x33 x34 x35 x36 x37 x38 x39 x40 x41 x42 x43 x44 x45 x46 x47 x48 x49 x50 x51 x52 x53 x54 x55 x56 x57 x58 x59 x60 x61 x62 x63 x64 x65 x66 x67 x68 x69 x70 x71 x72 x73 x74 x75 x76 x77 x78 x79 x80 x81 x82 x83 x84 x85 x86 : Value) (K : Act → World → Prop) (Q : Exit → Act → World → Prop)
    (hK : ∀ (y6 y7 y8 y9 y10 y11 y12 y23 y24 y25 y26 y27 y28 y29 y30 y31 y32 y33 y34 y35 y36 y37 y38 y39 y40 y41 y42 y43 y44 y45 y46 y47 y48 y49 y50 y51 y52 y53 y54 y55 y56 y57 y58 y59 y60 y61 y62 y63 y64 y65 y66 y67 y68 y69 y70 y71 y72 y73 y74 y75 y76 y77 y78 y79 y80 y81 y82 y83 y84 : Value) (w' : World), Below cb wr w' → PreI w' cb (foldTo f M (p + 1)) → K ⟨(x0 :: .pointer (some ⟨B0, 0, none⟩) :: x2 :: x3 :: x4 :: .int .i64 (foldN f M (p + 1) : Int) :: y6 :: y7 :: y8 :: y9 :: y10 :: y11 :: y12 :: x13 :: x14 :: x15 :: x16 :: x17 :: x18 :: x19 :: .slice (some ⟨ob, 0, none⟩) L L :: .int .i64 (L : Int) :: .int .i64 ((p : Int) + 1) :: y23 :: y24 :: y25 :: y26 :: y27 :: y28 :: y29 :: y30 :: y31 :: y32 :: y33 :: y34 :: y35 :: y36 :: y37 :: y38 :: y39 :: y40 :: y41 :: y42 :: y43 :: y44 :: y45 :: y46 :: y47 :: y48 :: y49 :: y50 :: y51 :: y52 :: y53 :: y54 :: y55 :: y56 :: y57 :: y58 :: y59 :: y60 :: y61 :: y62 :: y63 :: y64 :: y65 :: y66 :: y67 :: y68 :: y69 :: y70 :: y71 :: y72 :: y73 :: y74 :: y75 :: y76 :: y77 :: y78 :: y79 :: y80 :: y81 :: y82 :: y83 :: y84 :: x85 :: x86 :: []).toArray, []⟩ w') :
    Code.wp Try.prog (inLoop foldLoop) (Exit.then K Q) ⟨(x0 :: .pointer (some ⟨B0, 0, none⟩) :: x2 :: x3 :: x4 :: .int .i64 (foldN f M p : Int) :: x6 :: x7 :: x8 :: x9 :: x10 :: x11 :: x12 :: x13 :: x14 :: x15 :: x16 :: x17 :: x18 :: x19 :: .slice (some ⟨ob, 0, none⟩) L L :: .int .i64 (L : Int) :: .int .i64 (p : Int) :: x23 :: x24 :: x25 :: x26 :: x27 :: x28 :: x29 :: x30 :: x31 :: x32 :: x33 :: x34 :: x35 :: x36 :: x37 :: x38 :: x39 :: x40 :: x41 :: x42 :: x43 :: x44 :: x45 :: x46 :: x47 :: x48 :: x49 :: x50 :: x51 :: x52 :: x53 :: x54 :: x55 :: x56 :: x57 :: x58 :: x59 :: x60 :: x61 :: x62 :: x63 :: x64 :: x65 :: x66 :: x67 :: x68 :: x69 :: x70 :: x71 :: x72 :: x73 :: x74 :: x75 :: x76 :: x77 :: x78 :: x79 :: x80 :: x81 :: x82 :: x83 :: x84 :: x85 :: x86 :: []).toArray, []⟩ wr := by
  by_cases hnv : (row M p).any (fun x => x.k == 0) = true
  · exact foldRound_never f M L Rn ob cb B0 p pb hpl hL hL8 hR4 wr y4 hd hpv hvl hC hok x0 x2 x3 x4 x6 x7 x8 x9 x10 x11 x12 x13 x14 x15 x16 x17 x18 x19 x23 x24 x25 x26 x27 x28 x29 x30 x31 x32 x33 x34 x35 x36 x37 x38 x39 x40 x41 x42 x43 x44 x45 x46 x47 x48 x49 x50 x51 x52 x53 x54 x55 x56 x57 x58 x59 x60 x61 x62 x63 x64 x65 x66 x67 x68 x69 x70 x71 x72 x73 x74 x75 x76 x77 x78 x79 x80 x81 x82 x83 x84 x85 x86 K Q hK hnv
  have hnv : (row M p).any (fun x => x.k == 0) = false := by simpa using hnv
  by_cases h4 : (insAt f.code p).kind = 4
  · cases ho : (setV (insAt f.code p) (row M p)).2
    · exact foldRound_off_a4 f M L Rn ob cb B0 p pb hpl hL hL8 hR4 wr y4 hd hpv hvl hC hok x0 x2 x3 x4 x6 x7 x8 x9 x10 x11 x12 x13 x14 x15 x16 x17 x18 x19 x23 x24 x25 x26 x27 x28 x29 x30 x31 x32 x33 x34 x35 x36 x37 x38 x39 x40 x41 x42 x43 x44 x45 x46 x47 x48 x49 x50 x51 x52 x53 x54 x55 x56 x57 x58 x59 x60 x61 x62 x63 x64 x65 x66 x67 x68 x69 x70 x71 x72 x73 x74 x75 x76 x77 x78 x79 x80 x81 x82 x83 x84 x85 x86 K Q hK hnv h4 ho
    · by_cases h1 : (setV (insAt f.code p) (row M p)).1.k = 1
      · exact foldRound_known4 f M L Rn ob cb B0 p pb hpl hL hL8 hR4 wr y4 hd hpv hvl hC hok x0 x2 x3 x4 x6 x7 x8 x9 x10 x11 x12 x13 x14 x15 x16 x17 x18 x19 x23 x24 x25 x26 x27 x28 x29 x30 x31 x32 x33 x34 x35 x36 x37 x38 x39 x40 x41 x42 x43 x44 x45 x46 x47 x48 x49 x50 x51 x52 x53 x54 x55 x56 x57 x58 x59 x60 x61 x62 x63 x64 x65 x66 x67 x68 x69 x70 x71 x72 x73 x74 x75 x76 x77 x78 x79 x80 x81 x82 x83 x84 x85 x86 K Q hK hnv h4 ⟨ho, h1⟩
      · exact foldRound_off_b4 f M L Rn ob cb B0 p pb hpl hL hL8 hR4 wr y4 hd hpv hvl hC hok x0 x2 x3 x4 x6 x7 x8 x9 x10 x11 x12 x13 x14 x15 x16 x17 x18 x19 x23 x24 x25 x26 x27 x28 x29 x30 x31 x32 x33 x34 x35 x36 x37 x38 x39 x40 x41 x42 x43 x44 x45 x46 x47 x48 x49 x50 x51 x52 x53 x54 x55 x56 x57 x58 x59 x60 x61 x62 x63 x64 x65 x66 x67 x68 x69 x70 x71 x72 x73 x74 x75 x76 x77 x78 x79 x80 x81 x82 x83 x84 x85 x86 K Q hK hnv h4 ⟨ho, h1⟩
  by_cases h2 : (insAt f.code p).kind = 2
  · cases ho : (setV (insAt f.code p) (row M p)).2
    · exact foldRound_off_a2 f M L Rn ob cb B0 p pb hpl hL hL8 hR4 wr y4 hd hpv hvl hC hok x0 x2 x3 x4 x6 x7 x8 x9 x10 x11 x12 x13 x14 x15 x16 x17 x18 x19 x23 x24 x25 x26 x27 x28 x29 x30 x31 x32 x33 x34 x35 x36 x37 x38 x39 x40 x41 x42 x43 x44 x45 x46 x47 x48 x49 x50 x51 x52 x53 x54 x55 x56 x57 x58 x59 x60 x61 x62 x63 x64 x65 x66 x67 x68 x69 x70 x71 x72 x73 x74 x75 x76 x77 x78 x79 x80 x81 x82 x83 x84 x85 x86 K Q hK hnv h2 ho
    · by_cases h1 : (setV (insAt f.code p) (row M p)).1.k = 1
      · exact foldRound_known2 f M L Rn ob cb B0 p pb hpl hL hL8 hR4 wr y4 hd hpv hvl hC hok x0 x2 x3 x4 x6 x7 x8 x9 x10 x11 x12 x13 x14 x15 x16 x17 x18 x19 x23 x24 x25 x26 x27 x28 x29 x30 x31 x32 x33 x34 x35 x36 x37 x38 x39 x40 x41 x42 x43 x44 x45 x46 x47 x48 x49 x50 x51 x52 x53 x54 x55 x56 x57 x58 x59 x60 x61 x62 x63 x64 x65 x66 x67 x68 x69 x70 x71 x72 x73 x74 x75 x76 x77 x78 x79 x80 x81 x82 x83 x84 x85 x86 K Q hK hnv h2 ⟨ho, h1⟩
      · exact foldRound_off_b2 f M L Rn ob cb B0 p pb hpl hL hL8 hR4 wr y4 hd hpv hvl hC hok x0 x2 x3 x4 x6 x7 x8 x9 x10 x11 x12 x13 x14 x15 x16 x17 x18 x19 x23 x24 x25 x26 x27 x28 x29 x30 x31 x32 x33 x34 x35 x36 x37 x38 x39 x40 x41 x42 x43 x44 x45 x46 x47 x48 x49 x50 x51 x52 x53 x54 x55 x56 x57 x58 x59 x60 x61 x62 x63 x64 x65 x66 x67 x68 x69 x70 x71 x72 x73 x74 x75 x76 x77 x78 x79 x80 x81 x82 x83 x84 x85 x86 K Q hK hnv h2 ⟨ho, h1⟩
  by_cases h3 : (insAt f.code p).kind = 3
  · cases ho : (setV (insAt f.code p) (row M p)).2
    · exact foldRound_off_a3 f M L Rn ob cb B0 p pb hpl hL hL8 hR4 wr y4 hd hpv hvl hC hok x0 x2 x3 x4 x6 x7 x8 x9 x10 x11 x12 x13 x14 x15 x16 x17 x18 x19 x23 x24 x25 x26 x27 x28 x29 x30 x31 x32 x33 x34 x35 x36 x37 x38 x39 x40 x41 x42 x43 x44 x45 x46 x47 x48 x49 x50 x51 x52 x53 x54 x55 x56 x57 x58 x59 x60 x61 x62 x63 x64 x65 x66 x67 x68 x69 x70 x71 x72 x73 x74 x75 x76 x77 x78 x79 x80 x81 x82 x83 x84 x85 x86 K Q hK hnv h3 ho
    · by_cases h1 : (setV (insAt f.code p) (row M p)).1.k = 1
      · exact foldRound_known3 f M L Rn ob cb B0 p pb hpl hL hL8 hR4 wr y4 hd hpv hvl hC hok x0 x2 x3 x4 x6 x7 x8 x9 x10 x11 x12 x13 x14 x15 x16 x17 x18 x19 x23 x24 x25 x26 x27 x28 x29 x30 x31 x32 x33 x34 x35 x36 x37 x38 x39 x40 x41 x42 x43 x44 x45 x46 x47 x48 x49 x50 x51 x52 x53 x54 x55 x56 x57 x58 x59 x60 x61 x62 x63 x64 x65 x66 x67 x68 x69 x70 x71 x72 x73 x74 x75 x76 x77 x78 x79 x80 x81 x82 x83 x84 x85 x86 K Q hK hnv h3 ⟨ho, h1⟩
      · exact foldRound_off_b3 f M L Rn ob cb B0 p pb hpl hL hL8 hR4 wr y4 hd hpv hvl hC hok x0 x2 x3 x4 x6 x7 x8 x9 x10 x11 x12 x13 x14 x15 x16 x17 x18 x19 x23 x24 x25 x26 x27 x28 x29 x30 x31 x32 x33 x34 x35 x36 x37 x38 x39 x40 x41 x42 x43 x44 x45 x46 x47 x48 x49 x50 x51 x52 x53 x54 x55 x56 x57 x58 x59 x60 x61 x62 x63 x64 x65 x66 x67 x68 x69 x70 x71 x72 x73 x74 x75 x76 x77 x78 x79 x80 x81 x82 x83 x84 x85 x86 K Q hK hnv h3 ⟨ho, h1⟩
  by_cases h12 : (insAt f.code p).kind = 12
  · have hn : (∃ n, nextV (insAt f.code p) p (row M p) = [n]) ∨ ∃ n m, nextV (insAt f.code p) p (row M p) = [n, m] := by
      unfold nextV
      rw [if_pos h12]
      split
      · split
        · exact Or.inl ⟨_, rfl⟩
        · exact Or.inl ⟨_, rfl⟩
      · exact Or.inr ⟨_, _, rfl⟩
    rcases hn with ⟨n, hn⟩ | ⟨n, m, hn⟩
    · exact foldRound_branch1 f M L Rn ob cb B0 p pb hpl hL hL8 hR4 wr y4 hd hpv hvl hC hok x0 x2 x3 x4 x6 x7 x8 x9 x10 x11 x12 x13 x14 x15 x16 x17 x18 x19 x23 x24 x25 x26 x27 x28 x29 x30 x31 x32 x33 x34 x35 x36 x37 x38 x39 x40 x41 x42 x43 x44 x45 x46 x47 x48 x49 x50 x51 x52 x53 x54 x55 x56 x57 x58 x59 x60 x61 x62 x63 x64 x65 x66 x67 x68 x69 x70 x71 x72 x73 x74 x75 x76 x77 x78 x79 x80 x81 x82 x83 x84 x85 x86 K Q hK hnv h12 n hn
    · exact foldRound_branch2 f M L Rn ob cb B0 p pb hpl hL hL8 hR4 wr y4 hd hpv hvl hC hok x0 x2 x3 x4 x6 x7 x8 x9 x10 x11 x12 x13 x14 x15 x16 x17 x18 x19 x23 x24 x25 x26 x27 x28 x29 x30 x31 x32 x33 x34 x35 x36 x37 x38 x39 x40 x41 x42 x43 x44 x45 x46 x47 x48 x49 x50 x51 x52 x53 x54 x55 x56 x57 x58 x59 x60 x61 x62 x63 x64 x65 x66 x67 x68 x69 x70 x71 x72 x73 x74 x75 x76 x77 x78 x79 x80 x81 x82 x83 x84 x85 x86 K Q hK hnv h12 n m hn
  · exact foldRound_stay f M L Rn ob cb B0 p pb hpl hL hL8 hR4 wr y4 hd hpv hvl hC hok x0 x2 x3 x4 x6 x7 x8 x9 x10 x11 x12 x13 x14 x15 x16 x17 x18 x19 x23 x24 x25 x26 x27 x28 x29 x30 x31 x32 x33 x34 x35 x36 x37 x38 x39 x40 x41 x42 x43 x44 x45 x46 x47 x48 x49 x50 x51 x52 x53 x54 x55 x56 x57 x58 x59 x60 x61 x62 x63 x64 x65 x66 x67 x68 x69 x70 x71 x72 x73 x74 x75 x76 x77 x78 x79 x80 x81 x82 x83 x84 x85 x86 K Q hK ⟨by rintro (h | h | h); exact h4 h; exact h2 h; exact h3 h, h12⟩
set_option maxRecDepth 1000000 in
set_option maxHeartbeats 8000000 in
theorem foldLoop_any (f : Fn7) (hf : OkF f) (M : List (List Vl)) (hM : Shp f M) (L Rn ob cb B0 : Nat) (pb : Nat → Nat) (hL : f.code.length = L) (hRt : f.R.toNat = Rn) (hR4 : Rn ≤ 4096) (hRn : f.R = Rn) (W0 : World) (hbf : W0.heap[B0]? = some (funcObj f.nm f.ps f.R f.Fr (some ⟨cb, 0, none⟩) L L)) (hBc : B0 < cb) (hob : ob < cb)
    (hrows : ∀ q v, M[q]? = some v → W0.cell? ⟨ob, q, none⟩ = some (.slice (some ⟨pb q, 0, none⟩) Rn Rn) ∧ PreV W0 (pb q) v ∧ pb q < cb) (hcode : PreI W0 cb f.code)
    (x0 x2 x3 x4 x6 x7 x8 x9 x10 x11 x12 x13 x14 x15 x16 x17 x18 x19 x23 x24 x25 x26 x27 x28 x29 x30 x31 x32 x33 x34 x35 x36 x37 x38 x39 x40 x41 x42 x43 x44 x45 x46 x47 x48 x49 x50 x51 x52 x53 x54 x55 x56 x57 x58 x59 x60 x61 x62 x63 x64 x65 x66 x67 x68 x69 x70 x71 x72 x73 x74 x75 x76 x77 x78 x79 x80 x81 x82 x83 x84 x85 x86 : Value) (Q : Exit → Act → World → Prop)
    (hexit : ∀ (y6 y7 y8 y9 y10 y11 y12 y23 y24 y25 y26 y27 y28 y29 y30 y31 y32 y33 y34 y35 y36 y37 y38 y39 y40 y41 y42 y43 y44 y45 y46 y47 y48 y49 y50 y51 y52 y53 y54 y55 y56 y57 y58 y59 y60 y61 y62 y63 y64 y65 y66 y67 y68 y69 y70 y71 y72 y73 y74 y75 y76 y77 y78 y79 y80 y81 y82 y83 y84 : Value) (w' : World), Below cb W0 w' → PreI w' cb (foldL f M) → Q (.exit 0) ⟨(x0 :: .pointer (some ⟨B0, 0, none⟩) :: x2 :: x3 :: x4 :: .int .i64 (foldN f M L : Int) :: y6 :: y7 :: y8 :: y9 :: y10 :: y11 :: y12 :: x13 :: x14 :: x15 :: x16 :: x17 :: x18 :: x19 :: .slice (some ⟨ob, 0, none⟩) L L :: .int .i64 (L : Int) :: .int .i64 (L : Int) :: y23 :: y24 :: y25 :: y26 :: y27 :: y28 :: y29 :: y30 :: y31 :: y32 :: y33 :: y34 :: y35 :: y36 :: y37 :: y38 :: y39 :: y40 :: y41 :: y42 :: y43 :: y44 :: y45 :: y46 :: y47 :: y48 :: y49 :: y50 :: y51 :: y52 :: y53 :: y54 :: y55 :: y56 :: y57 :: y58 :: y59 :: y60 :: y61 :: y62 :: y63 :: y64 :: y65 :: y66 :: y67 :: y68 :: y69 :: y70 :: y71 :: y72 :: y73 :: y74 :: y75 :: y76 :: y77 :: y78 :: y79 :: y80 :: y81 :: y82 :: y83 :: y84 :: x85 :: x86 :: []).toArray, []⟩ w') :
    Code.wp Try.prog foldLoop Q ⟨(x0 :: .pointer (some ⟨B0, 0, none⟩) :: x2 :: x3 :: x4 :: .int .i64 0 :: x6 :: x7 :: x8 :: x9 :: x10 :: x11 :: x12 :: x13 :: x14 :: x15 :: x16 :: x17 :: x18 :: x19 :: .slice (some ⟨ob, 0, none⟩) L L :: .int .i64 (L : Int) :: .int .i64 0 :: x23 :: x24 :: x25 :: x26 :: x27 :: x28 :: x29 :: x30 :: x31 :: x32 :: x33 :: x34 :: x35 :: x36 :: x37 :: x38 :: x39 :: x40 :: x41 :: x42 :: x43 :: x44 :: x45 :: x46 :: x47 :: x48 :: x49 :: x50 :: x51 :: x52 :: x53 :: x54 :: x55 :: x56 :: x57 :: x58 :: x59 :: x60 :: x61 :: x62 :: x63 :: x64 :: x65 :: x66 :: x67 :: x68 :: x69 :: x70 :: x71 :: x72 :: x73 :: x74 :: x75 :: x76 :: x77 :: x78 :: x79 :: x80 :: x81 :: x82 :: x83 :: x84 :: x85 :: x86 :: []).toArray, []⟩ W0 := by
  conv => arg 2; whnf
  have HL := Lib.hid hL
  have HRT := Lib.hid hRt
  have HRN := Lib.hid hRn
  have HF := Lib.hid hf
  have HR := Lib.hid hrows
  have hL8 : L ≤ 8192 := by have := hf.len; omega
  clear hL hRt hRn hf hrows
  go_loopg [5, 22] L (fun g c ix wr => ∃ p : Nat, g = L - p ∧ p ≤ L ∧ ix = .int .i64 p ∧ c = .int .i64 (foldN f M p : Int) ∧ Below cb W0 wr ∧ PreI wr cb (foldTo f M p))
  case atStart => exact ⟨0, rfl, by omega, rfl, rfl, Below.refl _ _, by rw [foldTo_zero]; exact hcode⟩
  case round =>
    obtain ⟨p, hg, hp, rfl, rfl, hB, hC⟩ := hrel
    have HG := Lib.hid hg
    clear hg
    by_cases hlt : p < L
    · have hpl : p < f.code.length := by rw [HL.out]; exact hlt
      have hi := insAt_in hpl
      have hv : M[p]? = some (row M p) := row_in (by rw [hM.len]; exact hpl)
      obtain ⟨h1, h2, h3⟩ := HR.out p _ hv
      have hvl : (row M p).length = Rn := by have := (hM.at_ hpl).1; rw [HRT.out] at this; exact this
      have hok : Ok (insAt f.code p) (Rn : Int) f.Fr L := by have h := HF.out.ok _ (List.mem_of_getElem? hi); rw [HL.out, HRN.out] at h; exact h
      have hd := (hB.cell (p := ⟨ob, p, none⟩) hob).trans h1
      have hpv := Pre.of_heap h2 (hB.block _ h3)
      have hbf1 := (hB.block _ hBc).trans hbf
      have y4 := cell_of_heap hbf1 4 (.slice (some ⟨cb, 0, none⟩) L L) rfl
      have hyl := (Array.getElem?_eq_some_iff.1 hbf1).1
      clear hbf1
      rename_i hKK
      refine foldRound_any f M L Rn ob cb B0 p pb hpl HL.out hL8 hR4 wr y4 hd hpv hvl hC hok _ _ _ _ _ _ _ _ _ _ _ _ _ _ _ _ _ _ _ _ _ _ _ _ _ _ _ _ _ _ _ _ _ _ _ _ _ _ _ _ _ _ _ _ _ _ _ _ _ _ _ _ _ _ _ _ _ _ _ _ _ _ _ _ _ _ _ _ _ _ _ _ _ _ _ _ _ _ _ _ _ _ _ _ ?_
      intro y6 y7 y8 y9 y10 y11 y12 y23 y24 y25 y26 y27 y28 y29 y30 y31 y32 y33 y34 y35 y36 y37 y38 y39 y40 y41 y42 y43 y44 y45 y46 y47 y48 y49 y50 y51 y52 y53 y54 y55 y56 y57 y58 y59 y60 y61 y62 y63 y64 y65 y66 y67 y68 y69 y70 y71 y72 y73 y74 y75 y76 y77 y78 y79 y80 y81 y82 y83 y84 w' hB' hC'
      have HB := Lib.hid (hB.trans hB')
      have HC := Lib.hid hC'
      clear hB' hC' hi hv h1 h2 h3 hvl hok hC hB hpl hpv hd y4
      refine hKK _ _ ?_
      go_roundg (L - (p + 1))
      case measure => have := HG.out; omega
      case rel => exact ⟨p + 1, rfl, by omega, by go_num, rfl, HB.out, HC.out⟩
    · obtain rfl : L = p := by omega
      have HE := fun y6 y7 y8 y9 y10 y11 y12 y23 y24 y25 y26 y27 y28 y29 y30 y31 y32 y33 y34 y35 y36 y37 y38 y39 y40 y41 y42 y43 y44 y45 y46 y47 y48 y49 y50 y51 y52 y53 y54 y55 y56 y57 y58 y59 y60 y61 y62 y63 y64 y65 y66 y67 y68 y69 y70 y71 y72 y73 y74 y75 y76 y77 y78 y79 y80 y81 y82 y83 y84 => Lib.hid (hexit y6 y7 y8 y9 y10 y11 y12 y23 y24 y25 y26 y27 y28 y29 y30 y31 y32 y33 y34 y35 y36 y37 y38 y39 y40 y41 y42 y43 y44 y45 y46 y47 y48 y49 y50 y51 y52 y53 y54 y55 y56 y57 y58 y59 y60 y61 y62 y63 y64 y65 y66 y67 y68 y69 y70 y71 y72 y73 y74 y75 y76 y77 y78 y79 y80 y81 y82 y83 y84 wr hB (by have h := hC; rw [← HL.out, foldTo_all] at h; exact h))
      clear hexit hC hB hlt hp
      go_wp2
      exact (HE _ _ _ _ _ _ _ _ _ _ _ _ _ _ _ _ _ _ _ _ _ _ _ _ _ _ _ _ _ _ _ _ _ _ _ _ _ _ _ _ _ _ _ _ _ _ _ _ _ _ _ _ _ _ _ _ _ _ _ _ _ _ _ _ _ _ _ _ _).out
end Go.Proofs.Ytaofdbboalcceaa

/- flow.Fold. -/
namespace Go.Proofs.Ytaofdbboalcceaa
open Go.RowKit Go.BigFrame

/-- what Fold tells: the function itself, or one with what is known in place, in memory of its own -/
def FoldT (base : Nat) (f : Fn7) (e : Ending) (w : World) : Prop := ∃ nb M, Ans f M ∧ e = .returned (.tuple #[funcAgg f.nm f.ps f.R f.Fr (some ⟨nb, 0, none⟩) f.code.length f.code.length, .int .i64 (foldN f M f.code.length : Int)]) ∧ base ≤ nb ∧ PreI w nb (foldL f M)
theorem two_boxes (w : World) (a b : Obj) : ((w.alloc a).alloc b).heap[w.heap.size]? = some a ∧ ((w.alloc a).alloc b).heap[w.heap.size + 1]? = some b ∧ Below w.heap.size w ((w.alloc a).alloc b) := by
  have h1 := heap_alloc_new (w.alloc a) b
  rw [show (w.alloc a).heap.size = w.heap.size + 1 by simp] at h1
  exact ⟨alloc_keeps (heap_alloc_new w a) b, h1, (Below.one w a).alloc (by simp) b⟩
set_option maxRecDepth 1000000 in
set_option maxHeartbeats 8000000 in
theorem fold_no (f : Fn7) (hf : ¬ OkF f) (C : Option Addr) (cap : Nat) (w : World) (hC : RdI w C f.code) :
    Calls Try.prog 30 #[funcAgg f.nm f.ps f.R f.Fr C f.code.length cap] w fun e w' => e = .returned (.tuple #[funcAgg f.nm f.ps f.R f.Fr C f.code.length cap, .int .i64 0]) ∧ Below w.heap.size w w' := by
  obtain ⟨b0, b1, hB0⟩ := two_boxes w (funcObj f.nm f.ps f.R f.Fr C f.code.length cap) (.cells #[.string ⟨#[]⟩, .int .i64 0, .int .i64 0, .int .i64 0, .slice none 0 0] 24)
  have ha := ahead_no f hf C cap _ (hC.below hB0)
  have q : ∀ w', (binOp .eql 32 (.slice none 0 0) (.slice none 0 0)).run Try.prog w' = .ok (.bool true) w' := fun w' => by kernel_rfl
  simp only [funcObj, funcAgg] at b0 b1 hB0 ha ⊢
  go_enter Try.func30, Try.ntmps30
  go_wp2_with (first
    | (go_at_call 22; refine ha.mono ?_; rintro e w1 ⟨rfl, hb1⟩; have k0 := (hb1.block _ (Array.getElem?_eq_some_iff.1 b0).1).trans b0; have k1 := (hb1.block _ (Array.getElem?_eq_some_iff.1 b1).1).trans b1; have y0 := cell_of_heap k0 0 (.string f.nm) rfl; have y1 := cell_of_heap k0 1 (.int .i64 f.ps) rfl; have y2 := cell_of_heap k0 2 (.int .i64 f.R) rfl; have y3 := cell_of_heap k0 3 (.int .i64 f.Fr) rfl; have y4 := cell_of_heap k0 4 (.slice C f.code.length cap) rfl; have hR := setRow_heap _ _ _ #[.string f.nm, .int .i64 f.ps, .int .i64 f.R, .int .i64 f.Fr, .slice C f.code.length cap] _ _ k1; have hlt1 := (Array.getElem?_eq_some_iff.1 k1).1)
    | (show wpList Try.prog _ _ (⟨none, .store _ (.tmp 2) (.tmp 17), _, _, _, _⟩ :: _) _ _; refine wpList_store_row rfl 24 (.tmp 2) (.tmp 17) rfl (w.heap.size + 1) #[.string f.nm, .int .i64 f.ps, .int .i64 f.R, .int .i64 f.Fr, .slice C f.code.length cap] rfl rfl 24 _ k1 sF rfl (func_one _ _ _ _ _ _ _) ?_))
  (try simp only [Exit.inBlock, Exit.then])
  have r0 := cell_of_heap hR 0 (.string f.nm) rfl
  have r1 := cell_of_heap hR 1 (.int .i64 f.ps) rfl
  have r2 := cell_of_heap hR 2 (.int .i64 f.R) rfl
  have r3 := cell_of_heap hR 3 (.int .i64 f.Fr) rfl
  have r4 := cell_of_heap hR 4 (.slice C f.code.length cap) rfl
  refine bodyPost_ret (by simp [results, Try.results30, go_sem, r0, r1, r2, r3, r4]; try rfl) rfl ?_
  exact ⟨rfl, below_setRow (hB0.trans (hb1.mono hB0.size)) (by omega) _⟩
theorem eql_rows_nil (ob n c : Nat) (W : World) : (binOp .eql 32 (.slice (some ⟨ob, 0, none⟩) n c) (.slice none 0 0)).run Try.prog W = .ok (.bool false) W := by
  rw [show false = (some (⟨ob, 0, none⟩ : Addr)).isNone from rfl]
  exact Lib.run_eql_slice_nil W 32 29 _ n c 0 0 (by kernel_rfl)
set_option maxRecDepth 1000000 in
set_option maxHeartbeats 8000000 in
theorem fold_yes (f : Fn7) (hf : OkF f) (hsz : f.code.length * (f.R.toNat + 1) ≤ 65536) (C : Option Addr) (cap : Nat) (w : World) (hC : RdI w C f.code) :
    Calls Try.prog 30 #[funcAgg f.nm f.ps f.R f.Fr C f.code.length cap] w fun e w' => FoldT w.heap.size f e w' ∧ Below w.heap.size w w' := by
  obtain ⟨b0, b1, hB0⟩ := two_boxes w (funcObj f.nm f.ps f.R f.Fr C f.code.length cap) (.cells #[.string ⟨#[]⟩, .int .i64 0, .int .i64 0, .int .i64 0, .slice none 0 0] 24)
  have hs2 : ((w.alloc (funcObj f.nm f.ps f.R f.Fr C f.code.length cap)).alloc (.cells #[.string ⟨#[]⟩, .int .i64 0, .int .i64 0, .int .i64 0, .slice none 0 0] 24)).heap.size = w.heap.size + 2 := by simp
  have hC0 := hC.below hB0
  have ha := ahead_yes f hf hsz C cap _ hC0 (fun W h => RightFunc_any f C cap W h)
  have hL1 := hf.len
  have hR0 : 0 ≤ f.R := by have := hf.ps; have := hf.R; omega
  have hR4 : f.R.toNat ≤ 4096 := by have := hf.R; omega
  have hcl := fun W h => clone_code f hL1 C cap W h
  obtain ⟨Rn, hRn⟩ : ∃ Rn : Nat, f.R = Rn := ⟨f.R.toNat, by omega⟩
  have hRt : f.R.toNat = Rn := by omega
  obtain ⟨L, hL⟩ : ∃ L, f.code.length = L := ⟨_, rfl⟩
  unfold AheadT at ha
  unfold ClonedF at hcl
  unfold FoldT
  rw [hRt] at hR4 ha
  rw [hL] at hL1 ha hcl b0 b1 hB0 hs2 hC0 ⊢
  have HL := Lib.hid hL
  have HF := Lib.hid hf
  have HRN := Lib.hid hRn
  have HRT := Lib.hid hRt
  have HS2 := Lib.hid hs2
  simp only [funcObj, funcAgg] at b0 b1 hB0 ha hcl hC0 ⊢
  have HC0 := Lib.hid hC0
  have HCL := Lib.hid hcl
  clear hL hf hRn hRt hs2 hC hC0 hcl hR0
  have hnil := fun (ob : Nat) (W : World) => eql_rows_nil ob L L W
  go_enter Try.func30, Try.ntmps30
  go_wp2_with (first
    | (go_at_call 22; refine ha.mono ?_; rintro e w1 ⟨⟨ob, M, rfl, hM, hRM, hob⟩, hb1⟩; have HM := Lib.hid hM; have HRM := Lib.hid hRM; clear hM hRM; have k0 := (hb1.block _ (Array.getElem?_eq_some_iff.1 b0).1).trans b0; have k1 := (hb1.block _ (Array.getElem?_eq_some_iff.1 b1).1).trans b1; have y0 := cell_of_heap k0 0 (.string f.nm) rfl; have y1 := cell_of_heap k0 1 (.int .i64 f.ps) rfl; have y2 := cell_of_heap k0 2 (.int .i64 f.R) rfl; have y3 := cell_of_heap k0 3 (.int .i64 f.Fr) rfl; have y4 := cell_of_heap k0 4 (.slice C L cap) rfl; have hlt1 := (Array.getElem?_eq_some_iff.1 k1).1; have hcl1 := HCL.out w1 (HC0.out.below hb1))
    | (go_at_call 60; refine hcl1.mono ?_; rintro e w2 ⟨⟨nb, rfl, hnb, hnc⟩, hb2⟩; have HNC := Lib.hid hnc; clear hnc y0 y1 y2 y3 y4 hcl1; have k2 := (hb2.block _ (Array.getElem?_eq_some_iff.1 k0).1).trans k0; have k3 := (hb2.block _ (Array.getElem?_eq_some_iff.1 k1).1).trans k1; have hlt2 := (Array.getElem?_eq_some_iff.1 k3).1)
    | (show wpList Try.prog _ _ (⟨none, .store _ (.tmp 1) (.tmp 19), _, _, _, _⟩ :: _) _ _; refine wpList_store_row rfl 24 (.tmp 1) (.tmp 19) rfl w.heap.size #[.string f.nm, .int .i64 f.ps, .int .i64 f.R, .int .i64 f.Fr, .slice (some ⟨nb, 0, none⟩) L L] rfl rfl 24 _ k2 sF rfl (func_one _ _ _ _ _ _ _) ?_))
  have hRw := setRow_heap _ _ _ #[.string f.nm, .int .i64 f.ps, .int .i64 f.R, .int .i64 f.Fr, .slice (some ⟨nb, 0, none⟩) L L] _ _ k2
  have hk3 := (setRow_other w2 w.heap.size (w.heap.size + 1) #[.string f.nm, .int .i64 f.ps, .int .i64 f.R, .int .i64 f.Fr, .slice (some ⟨nb, 0, none⟩) L L] (by omega)).trans k3
  have hnb1 : w.heap.size + 2 ≤ w1.heap.size := by have := HS2.out; have := hb1.size; omega
  have hb2o : ∀ q, q < w1.heap.size → q ≠ w.heap.size → (w2.setRow w.heap.size #[.string f.nm, .int .i64 f.ps, .int .i64 f.R, .int .i64 f.Fr, .slice (some ⟨nb, 0, none⟩) L L]).heap[q]? = w1.heap[q]? := fun q h1 h2 => (setRow_other w2 w.heap.size q _ h2).trans (hb2.block q h1)
  have hpc := Pre.of_heap HNC.out (setRow_other w2 w.heap.size nb #[.string f.nm, .int .i64 f.ps, .int .i64 f.R, .int .i64 f.Fr, .slice (some ⟨nb, 0, none⟩) L L] (by omega))
  have hB3 := below_setRow ((hB0.trans (hb1.mono hB0.size)).trans (hb2.mono (Nat.le_trans hB0.size hb1.size))) (Nat.le_refl w.heap.size) #[.string f.nm, .int .i64 f.ps, .int .i64 f.R, .int .i64 f.Fr, .slice (some ⟨nb, 0, none⟩) L L]
  have hob2 : ob ≠ w.heap.size := by
    rintro rfl
    obtain ⟨pb, hpb⟩ := HRM.out
    have h0 : M[0]? = some (row M 0) := row_in (by rw [HM.out.holds.shp.len, HL.out]; omega)
    have h := (hpb 0 _ h0).1
    rw [cell_of_heap k0 0 (.string f.nm) rfl] at h
    injection h with h
    cases h
  have K0 := Lib.hid k0
  clear k0 k1 k2 k3 hb2
  generalize w2.setRow w.heap.size #[.string f.nm, .int .i64 f.ps, .int .i64 f.R, .int .i64 f.Fr, .slice (some ⟨nb, 0, none⟩) L L] = w3 at *
  obtain ⟨pb, hpb⟩ := HRM.out
  refine foldLoop_any f HF.out M HM.out.holds.shp L Rn ob nb w.heap.size pb HL.out HRT.out hR4 HRN.out w3 hRw (by omega) (by omega) ?_ hpc _ _ _ _ _ _ _ _ _ _ _ _ _ _ _ _ _ _ _ _ _ _ _ _ _ _ _ _ _ _ _ _ _ _ _ _ _ _ _ _ _ _ _ _ _ _ _ _ _ _ _ _ _ _ _ _ _ _ _ _ _ _ _ _ _ _ _ _ _ _ _ _ _ _ _ _ _ _ _ _ _ _ _ ?_
  · intro q v hv
    obtain ⟨h1, h2⟩ := hpb q v hv
    have hne : pb q ≠ w.heap.size := by
      intro e
      obtain ⟨cs, h3, _⟩ := h2
      rw [e, K0.out] at h3
      injection h3 with h3
      injection h3 with _ h3 _
      exact absurd h3 (by decide)
    exact ⟨(World.cell?_of_block (w := w1) (a := ⟨ob, q, none⟩) (hb2o ob hob hob2)).trans h1, Pre.of_heap h2 (hb2o _ (Pre.lt h2) hne), Nat.lt_of_lt_of_le (Pre.lt h2) hnb⟩
  intro y6 y7 y8 y9 y10 y11 y12 y23 y24 y25 y26 y27 y28 y29 y30 y31 y32 y33 y34 y35 y36 y37 y38 y39 y40 y41 y42 y43 y44 y45 y46 y47 y48 y49 y50 y51 y52 y53 y54 y55 y56 y57 y58 y59 y60 y61 y62 y63 y64 y65 y66 y67 y68 y69 y70 y71 y72 y73 y74 y75 y76 y77 y78 y79 y80 y81 y82 y83 y84 w4 hb4 hp4
  clear hb2o hpc hob2 K0 hpb HRM
  have k4 := (hb4.block _ (by omega)).trans hRw
  have k5 := (hb4.block _ (by omega)).trans hk3
  have y0 := cell_of_heap k4 0 (.string f.nm) rfl
  have y1 := cell_of_heap k4 1 (.int .i64 f.ps) rfl
  have y2 := cell_of_heap k4 2 (.int .i64 f.R) rfl
  have y3 := cell_of_heap k4 3 (.int .i64 f.Fr) rfl
  have y4 := cell_of_heap k4 4 (.slice (some ⟨nb, 0, none⟩) L L) rfl
  have hR := setRow_heap _ _ _ #[.string f.nm, .int .i64 f.ps, .int .i64 f.R, .int .i64 f.Fr, .slice (some ⟨nb, 0, none⟩) L L] _ _ k5
  have r0 := cell_of_heap hR 0 (.string f.nm) rfl
  have r1 := cell_of_heap hR 1 (.int .i64 f.ps) rfl
  have r2 := cell_of_heap hR 2 (.int .i64 f.R) rfl
  have r3 := cell_of_heap hR 3 (.int .i64 f.Fr) rfl
  have r4 := cell_of_heap hR 4 (.slice (some ⟨nb, 0, none⟩) L L) rfl
  have HP := Lib.hid (Pre.of_heap hp4 (setRow_other w4 (w.heap.size + 1) nb #[.string f.nm, .int .i64 f.ps, .int .i64 f.R, .int .i64 f.Fr, .slice (some ⟨nb, 0, none⟩) L L] (by omega)))
  have HB := Lib.hid (below_setRow (hB3.trans (hb4.mono (by omega))) (Nat.le_succ w.heap.size) #[.string f.nm, .int .i64 f.ps, .int .i64 f.R, .int .i64 f.Fr, .slice (some ⟨nb, 0, none⟩) L L])
  clear hR hp4 hb4 hB3 hRw hk3 k4 hnil
  go_wp2_with (first
    | (show wpList Try.prog _ _ (⟨none, .store _ (.tmp 2) (.tmp 85), _, _, _, _⟩ :: _) _ _; refine wpList_store_row rfl 24 (.tmp 2) (.tmp 85) rfl (w.heap.size + 1) #[.string f.nm, .int .i64 f.ps, .int .i64 f.R, .int .i64 f.Fr, .slice (some ⟨nb, 0, none⟩) L L] rfl rfl 24 _ k5 sF rfl (func_one _ _ _ _ _ _ _) ?_))
  (try simp only [Exit.inBlock, Exit.then])
  refine bodyPost_ret (by simp [results, Try.results30, go_sem, r0, r1, r2, r3, r4]; try rfl) rfl ?_
  exact ⟨⟨nb, M, HM.out, rfl, by omega, HP.out⟩, HB.out⟩
end Go.Proofs.Ytaofdbboalcceaa
