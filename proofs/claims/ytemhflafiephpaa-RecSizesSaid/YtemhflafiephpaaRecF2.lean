/- first, case by case. -/
import Derived.Test.YtemhflafiephpaaRecF
namespace Go.Proofs.Ytemhflafiephpaa
open Go.RowKit
namespace Rec
theorem first_nil {s : ByteArray} (h : ¬ 0 < s.size) : first s = none := by
  unfold first
  rw [dif_neg h]
theorem first_nokey {s : ByteArray} (h : 0 < s.size) (h1 : spl (s.extract 1 s.size) = none) : first s = none := by
  unfold first
  rw [dif_pos h]
  simp only [h1]
theorem first_1n {s y r : ByteArray} (h : 0 < s.size) (h1 : spl (s.extract 1 s.size) = some (y, r)) (hk : s[0].toNat = 1) (h2 : spl r = none) : first s = none := by
  unfold first
  rw [dif_pos h]
  simp only [h1]
  rw [if_pos hk]
  simp only [h2]
theorem first_1y {s y r v r2 : ByteArray} (h : 0 < s.size) (h1 : spl (s.extract 1 s.size) = some (y, r)) (hk : s[0].toNat = 1) (h2 : spl r = some (v, r2)) : first s = if check ⟨1, y, v, 0⟩ = 0 then some (⟨1, y, v, 0⟩, r2) else none := by
  unfold first
  rw [dif_pos h]
  simp only [h1]
  rw [if_pos hk]
  simp only [h2]
  rfl
theorem first_3y {s y r : ByteArray} (h : 0 < s.size) (h1 : spl (s.extract 1 s.size) = some (y, r)) (hk : s[0].toNat = 3) (h8 : 8 ≤ r.size) : first s = if check ⟨3, y, ⟨#[]⟩, Crc.le (r.data.toList.take 8)⟩ = 0 then some (⟨3, y, ⟨#[]⟩, Crc.le (r.data.toList.take 8)⟩, r.extract 8 r.size) else none := by
  unfold first
  rw [dif_pos h]
  simp only [h1]
  rw [if_neg (by omega), if_pos hk, if_pos h8]
  rfl
theorem first_3n {s y r : ByteArray} (h : 0 < s.size) (h1 : spl (s.extract 1 s.size) = some (y, r)) (hk : s[0].toNat = 3) (h8 : ¬ 8 ≤ r.size) : first s = none := by
  unfold first
  rw [dif_pos h]
  simp only [h1]
  rw [if_neg (by omega), if_pos hk, if_neg h8]
theorem first_x {s y r : ByteArray} (h : 0 < s.size) (h1 : spl (s.extract 1 s.size) = some (y, r)) (hk : s[0].toNat ≠ 1) (hk3 : s[0].toNat ≠ 3) : first s = if check ⟨s[0].toNat, y, ⟨#[]⟩, 0⟩ = 0 then some (⟨s[0].toNat, y, ⟨#[]⟩, 0⟩, r) else none := by
  unfold first
  rw [dif_pos h]
  simp only [h1]
  rw [if_neg hk, if_neg hk3]
  rfl
end Rec
theorem read1_no_at (s : ByteArray) (T : TypeId) (c : Nat) (w : World) (h : s.size < 1) {z : Nat} (hz : w.heap.size = z) : Calls Try.prog 42 #[.slice (some ⟨z, 0, none⟩) 1 c, .string s] (w.alloc (.cells #[.int .i64 1] T)) fun e w' => e = .returned (.tuple #[.slice none 0 0, .string ⟨#[]⟩, .bool false]) ∧ Ext w w' := by
  subst hz; exact read1_no s T c w h
theorem read1_yes_at (s : ByteArray) (T : TypeId) (c : Nat) (w : World) (h : 0 < s.size) (hs : s.size ≤ maxLen) {z : Nat} (hz : w.heap.size = z) : Calls Try.prog 42 #[.slice (some ⟨z, 0, none⟩) 1 c, .string s] (w.alloc (.cells #[.int .i64 1] T)) fun e w' =>
    ∃ b o d, e = .returned (.tuple #[.slice (some ⟨b, o, none⟩) 1 d, .string (s.extract 1 s.size), .bool true]) ∧ w'.cell? ⟨b, o, none⟩ = some (.int .u64 (s[0].toNat : Int)) ∧ Ext w w' := by
  subst hz; exact read1_yes s T c w h hs
end Go.Proofs.Ytemhflafiephpaa
