/- Table.Of tells the check of its parts. Conditions: the table stands in memory, up to 1000 parts. -/
import Derived.Test.YtbnpldilkkhgmaaSumMake
namespace Go.Proofs.Ytbnpldilkkhgmaa
open Go.RowKit
theorem of_none (b : Nat) (w : World) : Calls Try.prog 36 #[.pointer (some ⟨b, 0, none⟩), .slice none 0 0] w fun e w' => e = .returned (.int .u32 (Crc.ofs [] : Nat)) ∧ w = w' := by
  go_enter Try.func36, Try.ntmps36
  go_wp2
  go_rounds 1
  go_ret
  exact ⟨rfl, rfl⟩
set_option maxHeartbeats 400000 in
theorem sumof_any (b pb po c : Nat) (ss : List ByteArray) (w : World) (ht : TabAt w b) (hl : ss.length ≤ 1000) (hs : ∀ s ∈ ss, s.size ≤ maxLen)
    (hc : ∀ i (h : i < ss.length), w.cell? ⟨pb, po + i, none⟩ = some (.string ss[i])) :
    Calls Try.prog 36 #[.pointer (some ⟨b, 0, none⟩), .slice (some ⟨pb, po, none⟩) ss.length c] w fun e w' => e = .returned (.int .u32 (Crc.ofs ss)) ∧ ∃ n, w' = w.drewN n := by
  have HT := Lib.hid ht; clear ht
  have HC := Lib.hid hc; clear hc
  have HS := Lib.hid hs; clear hs
  go_enter Try.func36, Try.ntmps36
  go_wp2
  go_loopw [5, 10] (fun r i wr => ∃ k n : Nat, k ≤ ss.length ∧ i = .int .i64 k ∧ wr = w.drewN n ∧ r = .int .u32 (Crc.ofs (ss.take k))) (fun _ i _ => ss.length - (intOf i).toNat)
  case atStart => exact ⟨0, 0, Nat.zero_le _, rfl, rfl, rfl⟩
  case round =>
    obtain ⟨k, n, hk, rfl, rfl, rfl⟩ := hrel
    by_cases hlt : k < ss.length
    · have hcell := HC.out k hlt
      have hsz := HS.out ss[k] (by simp)
      have hr0 := Crc.ofs_lt (ss.take k)
      have hsn := Crc.ofs_snoc (ss.take k) ss[k]
      rw [← List.take_succ_eq_append_getElem hlt] at hsn
      have HN := Lib.hid hsn; clear hsn
      generalize ss[k] = s at *
      generalize Crc.ofs (ss.take k) = r at *
      go_wp2_with (go_at_call 56; refine (sumon_any b r s _ hsz hr0 (by exact HT.out)).mono ?_; rintro e w' ⟨rfl, m, rfl⟩)
      go_roundw
      case rel => exact ⟨k + 1, n + m, by omega, by go_num, by first | rfl | simp, by rw [HN.out]⟩
      case measure => simp [intOf]; omega
    · obtain rfl : k = ss.length := by omega
      rw [List.take_of_length_le (Nat.le_refl _)]
      go_wp2
      go_ret
      exact ⟨rfl, n, rfl⟩
end Go.Proofs.Ytbnpldilkkhgmaa
