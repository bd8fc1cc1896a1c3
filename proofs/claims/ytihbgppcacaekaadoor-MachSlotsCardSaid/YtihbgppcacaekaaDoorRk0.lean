import Derived.Test.YtihbgppcacaekaaDoorRg
import Derived.Test.YtihbgppcacaekaaDoorPd
/- MachSlots: its two texts. -/
namespace Go.Proofs.YtihbgppcacaekaaDoor
open Go.RowKit Go.BigFrame

def subT : ByteArray := ⟨#[111, 98, 106, 101, 99, 116, 32, 102, 32, 49, 32, 48, 10, 112, 97, 114, 32, 48, 32, 48, 10, 115, 116, 115, 32, 48, 32, 48, 10, 98, 110, 122, 32, 48, 32, 53, 10, 108, 105, 32, 49, 32, 48, 10, 114, 101, 116, 32, 49, 10, 108, 105, 32, 49, 32, 49, 10, 98, 105, 110, 32, 48, 32, 48, 32, 49, 32, 115, 117, 98, 10, 97, 114, 103, 32, 48, 32, 48, 10, 99, 97, 108, 108, 32, 102, 10, 114, 101, 115, 32, 50, 10, 108, 100, 115, 32, 51, 32, 48, 10, 98, 105, 110, 32, 50, 32, 50, 32, 51, 32, 97, 100, 100, 10, 114, 101, 116, 32, 50, 10]⟩
theorem sub_read : readF subT = (subO, 0, 0) := by decide +kernel
def preB : ByteArray := ⟨#[111, 98, 106, 101, 99, 116, 32, 109, 97, 105, 110, 32, 48, 32, 48, 10, 108, 105, 32, 48, 32]⟩
def postB : ByteArray := ⟨#[10, 97, 114, 103, 32, 48, 32, 48, 10, 99, 97, 108, 108, 32, 102, 10, 114, 101, 115, 32, 49, 10, 114, 101, 116, 32, 49, 10]⟩
def readT (l : List UInt8) : Ob × Int × Int := readL ((splt 10 l).map fun l => ⟨l.toArray⟩)
theorem top_reads : (List.range 256).all (fun k => decide (readT (preB.data.toList ++ Lib.itoa (k : Int) ++ postB.data.toList) = (mainO (topL (k : Int)), 0, 0))) = true := by decide +kernel
theorem top_len : (List.range 256).all (fun k => decide ((Lib.itoa (k : Int)).length ≤ 30)) = true := by decide +kernel
theorem readF_list (s : ByteArray) : readF s = readT s.data.toList := rfl
theorem top_data (k : Nat) : (preB ++ ⟨(Lib.itoa (k : Int)).toArray⟩ ++ postB : ByteArray).data.toList = preB.data.toList ++ Lib.itoa (k : Int) ++ postB.data.toList := by
  simp [ByteArray.data_append]
theorem top_read (k : Nat) (hk : k ≤ 255) : readF (preB ++ ⟨(Lib.itoa (k : Int)).toArray⟩ ++ postB) = (mainO (topL k), 0, 0) := by
  rw [readF_list, top_data]
  exact of_decide_eq_true (List.all_eq_true.1 top_reads k (List.mem_range.2 (by omega)))
theorem top_size (k : Nat) (hk : k ≤ 255) : (preB ++ ⟨(Lib.itoa (k : Int)).toArray⟩ ++ postB : ByteArray).size ≤ 1000000 := by
  have h := of_decide_eq_true (List.all_eq_true.1 top_len k (List.mem_range.2 (by omega)))
  have h2 : (preB ++ ⟨(Lib.itoa (k : Int)).toArray⟩ ++ postB : ByteArray).size = (preB ++ ⟨(Lib.itoa (k : Int)).toArray⟩ ++ postB : ByteArray).data.toList.length := by rw [Array.length_toList]; rfl
  rw [h2, top_data, List.length_append, List.length_append]
  have h3 : preB.data.toList.length = 21 := rfl
  have h4 : postB.data.toList.length = 28 := rfl
  omega
end Go.Proofs.YtihbgppcacaekaaDoor
