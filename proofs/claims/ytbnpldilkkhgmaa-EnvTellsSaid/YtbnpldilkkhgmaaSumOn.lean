/- Table.On tells the check of more. Conditions: the table stands in memory. -/
import Derived.Test.YtbnpldilkkhgmaaRows
import Derived.Test.YtbnpldilkkhgmaaCrc
import Derived.WalkKit
import Derived.Handy
import Derived.BigQuiet
import Derived.Deep.QuietTactic
import Derived.Lib.Hide
namespace Go.Proofs.Ytbnpldilkkhgmaa
open Go.RowKit
theorem take_snoc (s : ByteArray) (k : Nat) (h : k < s.size) : s.data.toList.take (k + 1) = s.data.toList.take k ++ [s[k]] := by
  rw [List.take_succ_eq_append_getElem (by simpa using h)]; rfl
def TabAt (w : World) (b : Nat) : Prop := ∀ i, i < 256 → w.cell? ⟨b, i, none⟩ = some (.int .u32 (Crc.tab i))
theorem not_u32 (c : Nat) (h : c < 4294967296) : bits .xor .u32 IntKind.u32.max (c : Int) = ((4294967295 - c : Nat) : Int) := by
  rw [show IntKind.u32.max = ((4294967295 : Nat) : Int) from by decide]
  rw [u32_xor_nat _ _ (by decide) h]
  have h1 : 4294967295 ^^^ c = 4294967295 - c := by
    have := BitVec.toNat_not (x := BitVec.ofNat 32 c)
    have h2 := BitVec.toNat_xor (BitVec.allOnes 32) (BitVec.ofNat 32 c)
    rw [BitVec.allOnes_xor, this] at h2
    simp [BitVec.toNat_ofNat] at h2
    rw [Nat.mod_eq_of_lt (by omega)] at h2
    omega
  rw [h1]
set_option maxHeartbeats 400000 in
theorem sumon_any (b : Nat) (check : Nat) (more : ByteArray) (w : World) (hm : more.size ≤ maxLen) (hc : check < 4294967296) (ht : TabAt w b) :
    Calls Try.prog 56 #[.pointer (some ⟨b, 0, none⟩), .int .u32 check, .string more] w fun e w' => e = .returned (.int .u32 (Crc.on check more.data.toList)) ∧ ∃ n, w' = w.drewN n := by
  unfold maxLen at hm
  have HT := Lib.hid ht; clear ht
  have e1 := not_u32 check hc
  go_enter Try.func56, Try.ntmps56
  go_wp2
  clear e1
  go_loopw [7, 15] (fun r i wr => ∃ k n : Nat, k ≤ more.size ∧ i = .int .i64 k ∧ wr = w.drewN n ∧ r = .int .u32 (Crc.run (4294967295 - check) (more.data.toList.take k))) (fun _ i _ => more.size - (intOf i).toNat)
  case atStart => exact ⟨0, 0, Nat.zero_le _, rfl, rfl, rfl⟩
  case round =>
    obtain ⟨k, n, hk, rfl, rfl, rfl⟩ := hrel
    by_cases hlt : k < more.size
    · generalize hr : Crc.run (4294967295 - check) (more.data.toList.take k) = r
      have hr0 : r < 4294967296 := by rw [← hr]; exact Crc.run_lt _ _ (by omega)
      have HR := Lib.hid hr; clear hr
      have hcb := more[k].toNat_lt
      obtain ⟨x, hx⟩ : ∃ x, x = (r % 256) ^^^ more[k].toNat := ⟨_, rfl⟩
      have hx256 : (x : Int) < 256 := by have h9 := Crc.idx_lt r more[k].toNat hcb; rw [← hx] at h9; exact Int.ofNat_lt.2 h9
      have hx0 : (0 : Int) ≤ x := by omega
      have e1 : bits .xor .u8 (IntKind.u8.wrap r) more[k].toNat = x := by
        rw [IntKind.wrap_u8', hx, ← u8_xor_nat _ _ (Nat.mod_lt _ (by decide)) (by omega)]; rfl
      have e2 : bits .xor .u32 ((r : Int) / 256) (Crc.tab x) = Crc.byte r more[k].toNat := by
        unfold Crc.byte
        rw [← hx, ← u32_xor_nat _ _ (by omega) (Crc.tab_lt _ (by omega))]; rfl
      have hcell := HT.out x (by omega)
      have HX := Lib.hid hx; clear hx
      have HY : Hid (r = Crc.run (4294967295 - check) (more.data.toList.take k)) := HR.out.symm
      go_wp2_with fail
      go_quiet (fail)
      go_wp2
      go_roundw
      case rel => exact ⟨k + 1, n + nq, by omega, by go_num, by first | rfl | simp, by rw [take_snoc _ _ hlt, Crc.run_snoc, HR.out]⟩
      case measure => simp [intOf]; omega
    · obtain rfl : k = more.size := by omega
      have hr0 := Crc.run_lt (more.data.toList.take more.size) (4294967295 - check) (by omega)
      rw [List.take_of_length_le (by simp)] at hr0 ⊢
      have e2 := not_u32 _ hr0
      go_wp2
      go_ret
      exact ⟨rfl, n, rfl⟩
end Go.Proofs.Ytbnpldilkkhgmaa
