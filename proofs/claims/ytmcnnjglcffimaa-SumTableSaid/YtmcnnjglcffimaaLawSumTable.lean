/- The walk of law02.SumTable. No condition. -/
import Derived.Test.YtmcnnjglcffimaaLaw02
import Derived.Test.YtmcnnjglcffimaaBytes
namespace Go.Proofs.Ytmcnnjglcffimaa
open Go.RowKit
theorem byte_zero (k : Nat) : Crc.byte 0 k = Crc.tab k := by simp [Crc.byte]
theorem take_zero (k : Nat) (w : World) (hk : k < 256) :
    Calls Try.prog 18 #[.int .u64 0, .int .u8 k] w fun e w' => e = .returned (.int .u64 (Crc.tab k)) ∧ w' = w :=
  (take_any 0 k w (by omega) hk).mono fun _ _ ⟨h1, h2⟩ => ⟨by rw [h1, byte_zero], h2.symm⟩
theorem on_byte (check : Nat) (hc : check < 4294967296) (u : UInt8) : 4294967295 - Crc.on check (⟨#[u]⟩ : ByteArray).data.toList = Crc.byte (4294967295 - check) u.toNat := by
  show 4294967295 - (4294967295 - Crc.byte (4294967295 - check) u.toNat) = _
  have := Crc.byte_lt (4294967295 - check) u.toNat (by omega) u.toNat_lt
  omega
set_option maxHeartbeats 1000000 in
theorem sumTable_walk (check : Nat) (u : UInt8) (w : World) (hc : check < 4294967296) : Calls Try.prog 4 #[.int .u32 check, .int .u8 u.toNat] w fun e w' => e = .returned (.bool true) ∧ Ext w w' := by
  have hb := u.toNat_lt
  go_enter Try.func4, Try.ntmps4
  go_wp2_with fail
  refine (make_ext _).mono ?_
  rintro e w1 ⟨t, rfl, hT, he1⟩
  have HT := Lib.hid hT; clear hT
  go_wp2_with fail
  go_loopw [10] (fun i wr => ∃ k : Nat, k ≤ 256 ∧ i = .int .i64 k ∧ Ext w1 wr) (fun i _ => 256 - (intOf i).toNat)
  case atStart => exact ⟨0, by omega, rfl, Ext.refl _⟩
  case round =>
    obtain ⟨k, hk, rfl, her⟩ := hrel
    by_cases hlt : k < 256
    · have hcell := (HT.out.ext her) k hlt
      have htl := Crc.tab_lt k (by omega)
      have htz := fun w => take_zero k w hlt
      have HTZ := Lib.hid htz; clear htz
      generalize Crc.tab k = tk at *
      have hlt' : (k : Int) < 256 := by omega
      have hwr : IntKind.u8.wrap (k : Int) = k := by rw [IntKind.wrap_u8]; omega
      have hwt : IntKind.u64.wrap (tk : Int) = tk := by rw [IntKind.wrap_u64]; omega
      go_wp2_with fail
      go_quiet ((go_at_call 18; exact Calls.quiet_of_same (HTZ.out _)))
      go_wp2_with fail
      go_roundw
      case rel => exact ⟨k + 1, by omega, by go_num, her.trans (Ext.drewN _ _)⟩
      case measure => simp [intOf]; omega
    · obtain rfl : k = 256 := by omega
      go_wp2_with fail
      refine (wakes02 _).mono ?_
      rintro e w2 ⟨rfl, he2⟩
      have hcv := conv_one w2 u 1
      have hT2 := (HT.out.ext her).ext he2
      have hon := Lib.hid (on_byte check hc u)
      have hnot := not_u32 check hc
      have hlt2 := Crc.on_lt check (⟨#[u]⟩ : ByteArray).data.toList
      have hblt := Crc.byte_lt (4294967295 - check) u.toNat (by omega) hb
      go_wp2_with fail
      refine (on_new t _ check _ _ (hT2.ext (Ext.alloc _ _)) (by show 1 ≤ maxLen; decide) hc rfl).mono ?_
      rintro e w3 ⟨rfl, hT3, he3⟩
      have hnot2 := not_u32 _ hlt2
      rw [hon.out] at hnot2
      clear hlt2
      have hw : IntKind.u64.wrap ((Crc.byte (4294967295 - check) u.toNat : Nat) : Int) = ((Crc.byte (4294967295 - check) u.toNat : Nat) : Int) := by rw [IntKind.wrap_u64]; omega
      have hw2 : IntKind.u64.wrap ((4294967295 - check : Nat) : Int) = ((4294967295 - check : Nat) : Int) := by rw [IntKind.wrap_u64]; omega
      clear hcv
      go_wp2_with fail
      refine (take_any (4294967295 - check) u.toNat _ (by omega) hb).mono ?_
      rintro e w4 ⟨rfl, rfl⟩
      go_wp2_with fail
      go_ret
      exact ⟨rfl, he1.trans (her.trans (he2.trans ((Ext.alloc _ _).trans he3)))⟩
end Go.Proofs.Ytmcnnjglcffimaa
