import Derived.Test.YtpadbfjocecofaaDoorG
import Derived.Test.YtpadbfjocecofaaDoorU
namespace Go.Proofs.YtpadbfjocecofaaDoor
open Go.RowKit Go.BigFrame

def b32 (n : Int) : BitVec 32 := BitVec.ofInt 32 n
theorem wr_b (n : Int) : wr n = (b32 n).toInt := by
  unfold b32
  rw [BitVec.toInt_ofInt]
  rw [Int.bmod_def]
  unfold wr
  split <;> omega
theorem b32_toInt (X : BitVec 32) : b32 X.toInt = X := by unfold b32; exact BitVec.ofInt_toInt
theorem wrap_toNat (Z : BitVec 64) : IntKind.i64.wrap (Z.toNat : Int) = Z.toInt := by
  rw [k64, BitVec.toInt_eq_toNat_bmod]
  have := Z.isLt
  rw [Int.bmod_def]
  unfold wrap64
  split <;> omega
theorem bits_and32 (X Y : BitVec 32) : bits .and .i64 X.toInt Y.toInt = (X &&& Y).toInt := by
  show IntKind.i64.wrap ((X.signExtend 64 &&& Y.signExtend 64).toNat : Int) = _
  rw [← BitVec.signExtend_and, wrap_toNat, BitVec.toInt_signExtend_of_le (by decide)]
theorem bits_or32 (X Y : BitVec 32) : bits .or .i64 X.toInt Y.toInt = (X ||| Y).toInt := by
  show IntKind.i64.wrap ((X.signExtend 64 ||| Y.signExtend 64).toNat : Int) = _
  rw [← BitVec.signExtend_or, wrap_toNat, BitVec.toInt_signExtend_of_le (by decide)]
theorem bits_xor32 (X Y : BitVec 32) : bits .xor .i64 X.toInt Y.toInt = (X ^^^ Y).toInt := by
  show IntKind.i64.wrap ((X.signExtend 64 ^^^ Y.signExtend 64).toNat : Int) = _
  rw [← BitVec.signExtend_xor, wrap_toNat, BitVec.toInt_signExtend_of_le (by decide)]
theorem wr_toInt (X : BitVec 32) : wr X.toInt = X.toInt := by rw [wr_b, b32_toInt]
theorem bits_not32 (X : BitVec 32) : bits .xor .i64 (-1) X.toInt = (~~~X).toInt := by
  have h := bits_xor32 (BitVec.allOnes 32) X
  rw [BitVec.allOnes_xor] at h
  rw [← h]
  congr 1
theorem v_not (n : Int) : wr (bits .xor .i64 (-1) (wr n)) = (~~~(b32 n)).toInt := by rw [wr_b n, bits_not32, wr_toInt]
theorem v_and (m n : Int) : wr (bits .and .i64 (wr m) (wr n)) = (b32 m &&& b32 n).toInt := by rw [wr_b m, wr_b n, bits_and32, wr_toInt]
theorem v_or (m n : Int) : wr (bits .or .i64 (wr m) (wr n)) = (b32 m ||| b32 n).toInt := by rw [wr_b m, wr_b n, bits_or32, wr_toInt]
theorem v_xor (m n : Int) : wr (bits .xor .i64 (wr m) (wr n)) = (b32 m ^^^ b32 n).toInt := by rw [wr_b m, wr_b n, bits_xor32, wr_toInt]
end Go.Proofs.YtpadbfjocecofaaDoor
