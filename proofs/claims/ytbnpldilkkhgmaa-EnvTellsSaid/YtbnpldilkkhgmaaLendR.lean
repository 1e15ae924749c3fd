/- Contracts of the reference's Put and Get. Conditions: a number of 64 bits; a text of up to 8 bytes. -/
import Derived.Test.YtbnpldilkkhgmaaLendW
import Derived.Test.YtbnpldilkkhgmaaLendS
namespace Go.Proofs.Ytbnpldilkkhgmaa
open Go.RowKit
/-- what Put answers -/
def putAns (n : Nat) (x : Int) : Value := if Lend.okW x then .tuple #[.string ⟨(Lend.put x.toNat n).toArray⟩, .bool (decide (n < 256 ^ x.toNat))] else .tuple #[.string ⟨#[]⟩, .bool false]
theorem append_byte (l : List UInt8) (u : UInt8) : (⟨l.toArray⟩ : ByteArray) ++ ⟨#[u]⟩ = ⟨(l ++ [u]).toArray⟩ := bytes_ext (by simp)
set_option maxHeartbeats 1000000 in
theorem put_any (n : Nat) (x : Int) (w : World) (hn : n < 18446744073709551616) : Calls Try.prog 46 #[.int .u64 n, .int .i64 x] w fun e w' => e = .returned (putAns n x) ∧ Ext w w' := by
  by_cases hlo : x < 1
  · rw [putAns, Lend.okW_lo hlo]
    have hd : decide (x < 1) = true := decide_eq_true hlo
    go_enter Try.func46, Try.ntmps46
    go_wp2_with fail
    go_ret2
    exact ⟨rfl, Ext.refl _⟩
  · by_cases hhi : 8 < x
    · rw [putAns, Lend.okW_hi hhi]
      have hd : decide (x < 1) = false := decide_eq_false hlo
      have hd2 : decide (8 < x) = true := decide_eq_true hhi
      go_enter Try.func46, Try.ntmps46
      go_wp2_with fail
      go_ret2
      exact ⟨rfl, Ext.refl _⟩
    · obtain ⟨y, rfl⟩ : ∃ y : Nat, x = y := ⟨x.toNat, by omega⟩
      have hans : putAns n y = .tuple #[.string ⟨(Lend.put y n).toArray⟩, .bool (decide (n < 256 ^ y))] := by
        rw [putAns, Lend.okW_true (by omega) (by omega)]; rfl
      rw [hans]
      have hd : decide ((y : Int) < 1) = false := decide_eq_false hlo
      have hd2 : decide ((8 : Int) < (y : Int)) = false := decide_eq_false hhi
      clear hans
      go_enter Try.func46, Try.ntmps46
      go_wp2_with fail
      go_loopw [0, 6, 7] (fun m s i wx => ∃ j N : Nat, j ≤ y ∧ i = .int .i64 j ∧ m = .int .u64 N ∧ N = n / 256 ^ j ∧ s = .string ⟨(Lend.put j n).toArray⟩ ∧ Ext w wx) (fun _ _ i _ => y - (intOf i).toNat)
      case atStart => exact ⟨0, n, by omega, rfl, rfl, by simp, rfl, Ext.refl _⟩
      case round =>
        obtain ⟨j, N, hj, rfl, rfl, hN, rfl, hex⟩ := hrel
        have hNb : N < 18446744073709551616 := by rw [hN]; exact Nat.lt_of_le_of_lt (Nat.div_le_self _ _) hn
        have HN := Lib.hid hN; clear hN
        by_cases hjy : j < y
        · have hsn := Lib.hid (Lend.put_snoc j n)
          have hwr : IntKind.u8.wrap ((N : Int) % 256) = ((UInt8.ofNat (N % 256)).toNat : Int) := by rw [Lend.byte_toNat, IntKind.wrap_u8]; omega
          obtain ⟨u, hu⟩ : ∃ u, u = UInt8.ofNat (N % 256) := ⟨_, rfl⟩
          rw [← hu] at hwr
          have HU := Lib.hid hu; clear hu
          have hcv := conv_one wr u 1
          have hap := append_byte (Lend.put j n) u
          have e : Lend.put (j + 1) n = Lend.put j n ++ [u] := by rw [hsn.out, HU.out, HN.out]
          have HE := Lib.hid e; clear e
          have hlen : (Lend.put j n).length ≤ 8 := by rw [Lend.put_length]; omega
          generalize Lend.put j n = l at *
          go_wp2_with fail
          go_roundw
          case rel => exact ⟨j + 1, N / 256, by omega, by go_num, by go_num, by rw [HN.out, Nat.div_div_eq_div_mul, Nat.pow_succ], by rw [HE.out], hex.trans (Ext.alloc _ _)⟩
          case measure => simp [intOf]; omega
        · obtain rfl : j = y := by omega
          have hdone : ((N : Int) == 0) = decide (n < 256 ^ j) := by
            rw [HN.out, Bool.eq_iff_iff]
            simp only [beq_iff_eq, decide_eq_true_eq]
            constructor
            · intro h
              have h' : n / 256 ^ j = 0 := by exact_mod_cast h
              rcases Nat.lt_or_ge n (256 ^ j) with h2 | h2
              · exact h2
              · have := Nat.div_pos h2 (Nat.pow_pos (by decide)); omega
            · intro h
              rw [Nat.div_eq_of_lt h]; rfl
          have HD := Lib.hid hdone; clear hdone
          go_wp2_with fail
          go_ret2
          refine ⟨?_, hex⟩
          rw [← HD.out]; rfl
theorem le_drop {s : ByteArray} {k : Nat} (h : k < s.size) : Crc.le (s.data.toList.drop k) = 256 * Crc.le (s.data.toList.drop (k + 1)) + s[k].toNat := by
  rw [List.drop_eq_getElem_cons (by simpa using h), Crc.le, Nat.add_comm]; rfl
theorem le_lt8 {l : List UInt8} (h : l.length ≤ 8) : Crc.le l < 18446744073709551616 :=
  Nat.lt_of_lt_of_le (Lend.le_lt l) (Nat.pow_le_pow_right (by decide) h : 256 ^ l.length ≤ 256 ^ 8)
set_option maxHeartbeats 1000000 in
theorem get_any (s : ByteArray) (w : World) (hs : s.size ≤ 8) : Calls Try.prog 48 #[.string s] w fun e w' => e = .returned (.int .u64 (Crc.le s.data.toList)) ∧ w = w' := by
  go_enter Try.func48, Try.ntmps48
  go_wp2_with fail
  go_loop [3, 4] (fun m i => ∃ k N : Nat, k ≤ s.size ∧ i = .int .i64 ((k : Int) - 1) ∧ m = .int .u64 N ∧ N = Crc.le (s.data.toList.drop k)) (fun _ i => (intOf i + 1).toNat)
  case atStart => exact ⟨s.size, 0, Nat.le_refl _, rfl, rfl, by rw [List.drop_of_length_le (by simp)]; rfl⟩
  case round =>
    obtain ⟨k, N, hk, rfl, rfl, hN⟩ := hrel
    by_cases h0 : k = 0
    · subst h0
      have HN := Lib.hid hN; clear hN
      go_wp2_with fail
      go_ret
      exact ⟨by rw [HN.out]; rfl, rfl⟩
    · obtain ⟨j, rfl⟩ : ∃ j, k = j + 1 := ⟨k - 1, by omega⟩
      have hj : j < s.size := by omega
      have hd := le_drop hj
      have hb := le_lt8 (l := s.data.toList.drop j) (by simp; omega)
      rw [← hN] at hd
      rw [hd] at hb
      have HD := Lib.hid hd; have HN := Lib.hid hN
      clear hd hN
      have hc := s[j].toNat_lt
      have e1 : (((j + 1 : Nat) : Int) - 1) = (j : Int) := by omega
      rw [e1]
      have hji : (j : Int) < s.size := by omega
      clear e1 h0
      go_wp2_with fail
      go_round
      case rel => exact ⟨j, 256 * N + s[j].toNat, by omega, rfl, by go_num, HD.out.symm⟩
      case measure => simp [intOf]
end Go.Proofs.Ytbnpldilkkhgmaa
