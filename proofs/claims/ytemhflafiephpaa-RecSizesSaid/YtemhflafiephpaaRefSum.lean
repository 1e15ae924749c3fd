/- Contracts of the reference of layer 2: xor, Take, Of. Conditions: registers of 32 bits. -/
import Derived.Test.YtemhflafiephpaaSumOf
namespace Go.Proofs.Ytemhflafiephpaa
open Go.RowKit
theorem xor_bit (a b k : Nat) : (a ^^^ b) / 2 ^ k % 2 = if a / 2 ^ k % 2 = b / 2 ^ k % 2 then 0 else 1 := by
  have h := Nat.testBit_xor (x := a) (y := b) (i := k)
  simp only [Nat.testBit, Nat.shiftRight_eq_div_pow] at h
  rw [Nat.and_comm 1, Nat.and_comm 1, Nat.and_comm 1, Nat.and_one_is_mod, Nat.and_one_is_mod, Nat.and_one_is_mod] at h
  have h1 := Nat.mod_lt ((a ^^^ b) / 2 ^ k) (show 2 > 0 by decide)
  have h2 := Nat.mod_lt (a / 2 ^ k) (show 2 > 0 by decide)
  have h3 := Nat.mod_lt (b / 2 ^ k) (show 2 > 0 by decide)
  generalize (a ^^^ b) / 2 ^ k % 2 = x at *
  generalize a / 2 ^ k % 2 = y at *
  generalize b / 2 ^ k % 2 = z at *
  rcases (by omega : x = 0 ∨ x = 1) with rfl | rfl <;> rcases (by omega : y = 0 ∨ y = 1) with rfl | rfl <;> rcases (by omega : z = 0 ∨ z = 1) with rfl | rfl <;> simp at h ⊢
theorem xor_next_eq (a b k : Nat) (h : a / 2 ^ k % 2 = b / 2 ^ k % 2) : (a ^^^ b) % 2 ^ (k + 1) = (a ^^^ b) % 2 ^ k := by
  rw [Nat.mod_pow_succ, xor_bit, if_pos h]; omega
theorem xor_next_ne (a b k : Nat) (h : ¬ a / 2 ^ k % 2 = b / 2 ^ k % 2) : (a ^^^ b) % 2 ^ (k + 1) = (a ^^^ b) % 2 ^ k + 2 ^ k := by
  rw [Nat.mod_pow_succ, xor_bit, if_neg h]; omega
theorem pow_le32 (k : Nat) (h : k ≤ 32) : 2 ^ k ≤ 4294967296 := Nat.pow_le_pow_right (by decide) h
set_option maxHeartbeats 400000 in
theorem xor_any (a b : Nat) (w : World) (ha : a < 4294967296) (hb : b < 4294967296) :
    Calls Try.prog 64 #[.int .u64 a, .int .u64 b] w fun e w' => e = .returned (.int .u64 (a ^^^ b : Nat)) ∧ w = w' := by
  go_enter Try.func64, Try.ntmps64
  go_wp2
  go_loop [0, 1, 5, 6, 7] (fun x y n p i => ∃ (k X Y N P : Nat), k ≤ 32 ∧ i = .int .i64 k ∧ x = .int .u64 X ∧ y = .int .u64 Y ∧ n = .int .u64 N ∧ p = .int .u64 P ∧ X = a / 2 ^ k ∧ Y = b / 2 ^ k ∧ N = (a ^^^ b) % 2 ^ k ∧ P = 2 ^ k) (fun _ _ _ _ i => 32 - (intOf i).toNat)
  case atStart => exact ⟨0, a, b, 0, 1, by omega, rfl, rfl, rfl, rfl, rfl, by simp, by simp, by simp [Nat.mod_one], rfl⟩
  case round =>
    obtain ⟨k, X, Y, N, p, hk, rfl, rfl, rfl, rfl, rfl, hX, hY, hN, hP⟩ := hrel
    have hp2 : p ≤ 4294967296 := by rw [hP]; exact pow_le32 k hk
    have hn : N < p := by rw [hP, hN]; exact Nat.mod_lt _ (Nat.two_pow_pos k)
    have hx : X < 4294967296 := by rw [hX]; exact Nat.lt_of_le_of_lt (Nat.div_le_self _ _) ha
    have hy : Y < 4294967296 := by rw [hY]; exact Nat.lt_of_le_of_lt (Nat.div_le_self _ _) hb
    have HX := Lib.hid hX; have HY := Lib.hid hY; have HN := Lib.hid hN; have HP := Lib.hid hP
    by_cases hlt : k < 32
    · by_cases he : X % 2 = Y % 2
      · have q : (((X : Int) % 2) != ((Y : Int) % 2)) = false := by simp; omega
        have hnx := xor_next_eq a b k (by rw [← hX, ← hY]; exact he)
        have HNX := Lib.hid hnx
        clear hX hY hN hP he hnx
        go_wp2
        go_round
        case rel => exact ⟨k + 1, X / 2, Y / 2, N, 2 * p, by omega, by go_num, by go_num, by go_num, rfl, by go_num, by rw [HX.out, Nat.pow_succ, Nat.div_div_eq_div_mul], by rw [HY.out, Nat.pow_succ, Nat.div_div_eq_div_mul], by rw [HNX.out, HN.out], by rw [HP.out, Nat.pow_succ]; omega⟩
        case measure => simp [intOf]; omega
      · have q : (((X : Int) % 2) != ((Y : Int) % 2)) = true := by simp; omega
        have hnx := xor_next_ne a b k (by rw [← hX, ← hY]; exact he)
        have HNX := Lib.hid hnx
        clear hX hY hN hP he hnx
        go_wp2
        go_round
        case rel => exact ⟨k + 1, X / 2, Y / 2, N + p, 2 * p, by omega, by go_num, by go_num, by go_num, by go_num, by go_num, by rw [HX.out, Nat.pow_succ, Nat.div_div_eq_div_mul], by rw [HY.out, Nat.pow_succ, Nat.div_div_eq_div_mul], by rw [HNX.out, HN.out, HP.out], by rw [HP.out, Nat.pow_succ]; omega⟩
        case measure => simp [intOf]; omega
    · obtain rfl : k = 32 := by omega
      clear hX hY hN hP
      go_wp2
      go_ret
      refine ⟨?_, rfl⟩
      rw [HN.out, Nat.mod_eq_of_lt (Nat.xor_lt_two_pow ha hb)]
      rfl
set_option maxHeartbeats 400000 in
theorem take_any (r c : Nat) (w : World) (hr : r < 4294967296) (hc : c < 256) :
    Calls Try.prog 61 #[.int .u64 r, .int .u8 c] w fun e w' => e = .returned (.int .u64 (Crc.byte r c)) ∧ w = w' := by
  have hx : r ^^^ c < 4294967296 := Nat.xor_lt_two_pow (n := 32) (by omega) (by omega)
  rw [← Crc.take_eq r c]
  obtain ⟨x, hxe⟩ : ∃ x, x = r ^^^ c := ⟨_, rfl⟩
  have hxor := xor_any r c
  rw [← hxe] at hx hxor ⊢
  clear hxe
  have HXOR := Lib.hid hxor; clear hxor
  go_enter Try.func61, Try.ntmps61
  go_wp2_with (go_at_call 64; refine (HXOR.out _ hr (by omega)).mono ?_; rintro e w' ⟨rfl, rfl⟩)
  go_loop [0, 5] (fun y i => ∃ (k Y : Nat), k ≤ 8 ∧ i = .int .i64 k ∧ y = .int .u64 Y ∧ Y = Nat.repeat Crc.bit k x) (fun _ i => 8 - (intOf i).toNat)
  case atStart => exact ⟨0, x, by omega, rfl, rfl, rfl⟩
  case round =>
    obtain ⟨k, y, hk, rfl, rfl, hy⟩ := hrel
    have hy0 : y < 4294967296 := by rw [hy]; exact Crc.rep_lt _ _ hx
    have HY := Lib.hid hy; clear hy
    by_cases hlt : k < 8
    · by_cases ho : y % 2 = 1
      · have q : (((y : Int) % 2) == 1) = true := by simp; omega
        have hb : Crc.bit y = y / 2 ^^^ 2197175160 := by unfold Crc.bit; rw [ho]
        have HB := Lib.hid hb; clear hb ho
        go_wp2_with (go_at_call 64; refine (xor_any (y / 2) 2197175160 _ (by omega) (by omega)).mono ?_; rintro e w' ⟨rfl, rfl⟩)
        go_round
        case rel => exact ⟨k + 1, _, by omega, by go_num, rfl, by rw [← HB.out, HY.out]; rfl⟩
        case measure => simp [intOf]; omega
      · have q : (((y : Int) % 2) == 1) = false := by simp; omega
        have hb : Crc.bit y = y / 2 := by unfold Crc.bit; rw [show y % 2 = 0 from by omega]; simp
        have HB := Lib.hid hb; clear hb ho
        go_wp2
        go_round
        case rel => exact ⟨k + 1, y / 2, by omega, by go_num, by go_num, by rw [← HB.out, HY.out]; rfl⟩
        case measure => simp [intOf]; omega
    · obtain rfl : k = 8 := by omega
      go_wp2
      go_ret
      refine ⟨?_, rfl⟩
      rw [← HY.out]; rfl
set_option maxHeartbeats 400000 in
theorem refof_any (s : ByteArray) (w : World) (hs : s.size ≤ maxLen) :
    Calls Try.prog 54 #[.string s] w fun e w' => e = .returned (.int .u64 (Crc.sum s.data.toList)) ∧ w = w' := by
  unfold maxLen at hs
  go_enter Try.func54, Try.ntmps54
  go_wp2
  go_loop [3, 4] (fun r i => ∃ (k R : Nat), k ≤ s.size ∧ i = .int .i64 k ∧ r = .int .u64 R ∧ R = Crc.run 4294967295 (s.data.toList.take k)) (fun _ i => s.size - (intOf i).toNat)
  case atStart => exact ⟨0, 4294967295, by omega, rfl, rfl, rfl⟩
  case round =>
    obtain ⟨k, r, hk, rfl, rfl, hr⟩ := hrel
    have hr0 : r < 4294967296 := by rw [hr]; exact Crc.run_lt _ _ (by omega)
    have HR := Lib.hid hr; clear hr
    by_cases hlt : k < s.size
    · have hsn := Crc.run_snoc 4294967295 (s.data.toList.take k) s[k]
      rw [← take_snoc s k hlt] at hsn
      have HN := Lib.hid hsn; clear hsn
      have hb := s[k].toNat_lt
      go_wp2_with (go_at_call 61; refine (take_any r s[k].toNat _ hr0 hb).mono ?_; rintro e w' ⟨rfl, rfl⟩)
      go_round
      case rel => exact ⟨k + 1, _, by omega, by go_num, rfl, by rw [HN.out, HR.out]⟩
      case measure => simp [intOf]; omega
    · obtain rfl : k = s.size := by omega
      have e : s.data.toList.take s.size = s.data.toList := List.take_of_length_le (by simp)
      have HE := Lib.hid e; clear e
      go_wp2
      go_ret
      refine ⟨?_, rfl⟩
      have h9 := HR.out
      rw [HE.out] at h9
      have e : Crc.sum s.data.toList = 4294967295 - r := by rw [h9]; rfl
      rw [e]
      show Ending.returned (Value.int IntKind.u64 (4294967295 - (r : Int))) = _
      congr 2
      omega
end Go.Proofs.Ytemhflafiephpaa
