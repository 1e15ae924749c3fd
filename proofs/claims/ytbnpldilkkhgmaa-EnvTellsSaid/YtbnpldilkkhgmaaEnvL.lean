/- The bytes of a Ptr tell it again. -/
import Derived.Test.YtbnpldilkkhgmaaEnvTame
namespace Go.Proofs.Ytbnpldilkkhgmaa
open Go.RowKit
theorem three_of (X g c : Nat) (r : List UInt8) (hX : X < 4294967296) (hg : g < 18446744073709551616) (hc : c < 4294967296) : three (Lend.put 4 X ++ (Lend.put 8 g ++ (Lend.put 4 c ++ r))) = ⟨X, g, c⟩ := by
  have L := fun w n => Lend.put_length w n
  have d4 : (Lend.put 4 X ++ (Lend.put 8 g ++ (Lend.put 4 c ++ r))).drop 4 = Lend.put 8 g ++ (Lend.put 4 c ++ r) := List.drop_left' (L 4 X)
  have d12 : (Lend.put 4 X ++ (Lend.put 8 g ++ (Lend.put 4 c ++ r))).drop 12 = Lend.put 4 c ++ r := by
    rw [show 12 = 4 + 8 from rfl, ← List.drop_drop, d4]; exact List.drop_left' (L 8 g)
  unfold three
  rw [d4, d12, List.take_left' (L 4 X), List.take_left' (L 8 g), List.take_left' (L 4 c)]
  simp only [Lend.le_put]
  congr 1
  · exact Nat.mod_eq_of_lt hX
  · exact Nat.mod_eq_of_lt hg
  · exact Nat.mod_eq_of_lt hc
def ptrT (X g c : Nat) : ByteArray := ⟨(ptrB X g c).toArray⟩
theorem ptrT_size (X g c : Nat) : (ptrT X g c).size = 16 := by
  show (ptrB X g c).toArray.size = 16
  rw [List.size_toArray]
  simp [ptrB, pws, Lend.cat, Lend.put_length]
theorem parse_ptr (X g c : Nat) (V : ByteArray) (hX : X ≤ 2147483647) (hg : g < 18446744073709551616) (hc : c < 4294967296) : parseAns (ptrT X g c ++ V) = .tuple #[.agg (ptrC X g c), .string V, .bool true] := by
  have hl : (ptrT X g c ++ V).data.toList = Lend.put 4 X ++ (Lend.put 8 g ++ (Lend.put 4 c ++ V.data.toList)) := by
    rw [ByteArray.data_append, Array.toList_append]
    show (Lend.put 4 X ++ (Lend.put 8 g ++ (Lend.put 4 c ++ []))) ++ V.data.toList = _
    simp only [List.append_assoc, List.append_nil]
  have h3 := three_of X g c V.data.toList (by omega) hg hc
  have hsz : (ptrT X g c ++ V).size = 16 + V.size := by rw [ByteArray.size_append, ptrT_size]
  unfold parseAns
  rw [hl, h3, if_pos ⟨by omega, hX⟩]
  have e : (ptrT X g c ++ V).extract 16 (ptrT X g c ++ V).size = V := bytes_ext (by
    rw [ext_data, List.take_of_length_le (by simp)]
    rw [ByteArray.data_append, Array.toList_append]
    exact List.drop_left' (by show (ptrT X g c).data.size = 16; exact ptrT_size X g c))
  rw [e]
end Go.Proofs.Ytbnpldilkkhgmaa
