/- Contracts of lend.Split, lend.Join and of the reference's Split. No condition but that a text is a text. -/
import Derived.Test.YtbnpldilkkhgmaaLendSpec
import Derived.Test.YtbnpldilkkhgmaaBytes
import Derived.Handy
import Derived.BigQuiet
import Derived.Deep.QuietTactic
import Derived.Lib.Hide
namespace Go.Proofs.Ytbnpldilkkhgmaa
open Go.RowKit
theorem toList_data (s : ByteArray) : s.toList = s.data.toList := by rw [ByteArray.toList_eq]
theorem isEmpty_of_pos {s : ByteArray} (h : 0 < s.size) : s.toList.isEmpty = false ∧ ¬ s.toList = [] := by
  rw [toList_data]
  have h1 : 0 < s.data.toList.length := by simpa using h
  cases h2 : s.data.toList with
  | nil => rw [h2] at h1; simp at h1
  | cons a l => simp
theorem ext_data (s : ByteArray) (x y : Nat) : (s.extract x y).data.toList = (s.data.toList.take y).drop x := by simp [ByteArray.data_extract, Array.toList_extract, List.extract_eq_take_drop, List.drop_take]
theorem bytes_ext {a b : ByteArray} (h : a.data.toList = b.data.toList) : a = b := ByteArray.ext (Array.toList_inj.1 h)
theorem str_ne {a b : ByteArray} (h : ¬ a = b) : (a.toList == b.toList) = false := by
  rw [beq_eq_false_iff_ne]
  intro e
  rw [toList_data, toList_data] at e
  exact h (bytes_ext e)
theorem empty_of_size {s : ByteArray} (h : s.size = 0) : s.data.toList = [] := List.length_eq_zero_iff.1 (by rw [Array.length_toList]; exact h)
/-- what Split answers -/
def splitAns (s : ByteArray) : Value := match Lend.split s.data.toList with
  | some p => .tuple #[.string ⟨p.1.toArray⟩, .string ⟨p.2.toArray⟩, .bool true]
  | none => .tuple #[.string ⟨#[]⟩, .string ⟨#[]⟩, .bool false]
theorem data_cons {s : ByteArray} (h : 0 < s.size) : s.data.toList = s[0] :: s.data.toList.drop 1 := by
  have h1 : 0 < s.data.toList.length := by simpa using h
  have h2 := List.drop_eq_getElem_cons h1
  rw [List.drop_zero] at h2
  exact h2
theorem splitAns_no {s : ByteArray} (h : ∀ h : 0 < s.size, s.size - 1 < s[0].toNat) : splitAns s = .tuple #[.string ⟨#[]⟩, .string ⟨#[]⟩, .bool false] := by
  unfold splitAns
  by_cases h0 : 0 < s.size
  · rw [data_cons h0, Lend.split, if_neg]
    have := h h0
    simp; omega
  · rw [empty_of_size (by omega)]; rfl
theorem splitAns_yes {s : ByteArray} (h0 : 0 < s.size) (h : s[0].toNat ≤ s.size - 1) : splitAns s = .tuple #[.string (s.extract 1 (1 + s[0].toNat)), .string (s.extract (1 + s[0].toNat) s.size), .bool true] := by
  unfold splitAns
  rw [data_cons h0, Lend.split, if_pos (by simp; omega)]
  have e1 : s.extract 1 (1 + s[0].toNat) = ⟨((s.data.toList.drop 1).take s[0].toNat).toArray⟩ := bytes_ext (by rw [ext_data, List.drop_take]; simp)
  have e2 : s.extract (1 + s[0].toNat) s.size = ⟨((s.data.toList.drop 1).drop s[0].toNat).toArray⟩ := bytes_ext (by rw [ext_data, List.take_of_length_le (by simp), List.drop_drop])
  rw [e1, e2]
theorem conv_size (w : World) (n : Nat) (h : n < 256) (c : Nat) : (convert 48 9 (.slice (some ⟨w.heap.size, 0, none⟩) 1 c)).run Try.prog (w.alloc (.cells #[.int .u8 (n : Int)] 5)) =
    .ok (.string ⟨#[UInt8.ofNat n]⟩) (w.alloc (.cells #[.int .u8 (n : Int)] 5)) := by
  have h9 := conv_one w (UInt8.ofNat n) c
  have e : (UInt8.ofNat n).toNat = n := UInt8.toNat_ofNat_of_lt h
  rw [e] at h9
  exact h9
end Go.Proofs.Ytbnpldilkkhgmaa
