/- sum.Make makes the table. No condition. -/
import Derived.Test.YtbnpldilkkhgmaaSumOn
import Derived.Deep.WholeRow
namespace Go.Proofs.Ytbnpldilkkhgmaa
open Go.RowKit
def zeros : Array Value := Array.replicate 256 (.int .u32 0)
theorem zerosTab : (Try.prog.info? 90).map (fun i => (i.zero, i.size)) = some (some (.agg zeros), 256) := by kernel_rfl
theorem bit_walk (r : Nat) (h : r < 4294967296) : bits .and .u32 (r : Int) 1 = (r : Int) % 2 ∧ bits .xor .u32 ((r : Int) / 2) (2197175160 * ((r : Int) % 2)) = ((Crc.bit r : Nat) : Int) := by
  constructor
  · have := u32_and_nat r 1 h (by decide)
    rw [Nat.and_one_is_mod] at this
    simpa using this
  · unfold Crc.bit
    have h2 := Nat.mod_lt r (show 2 > 0 by decide)
    have := u32_xor_nat (r / 2) (2197175160 * (r % 2)) (by omega) (by omega)
    rw [← this]
    simp
set_option maxRecDepth 100000 in
set_option maxHeartbeats 1000000 in
theorem make_any (w : World) :
    Calls Try.prog 11 #[] w fun e w' => e = .returned (.pointer (some ⟨w.heap.size, 0, none⟩)) ∧ TabAt w' w.heap.size ∧ Below w.heap.size w w' ∧ w.heap.size < w'.heap.size := by
  have hz := (zero_of_info zerosTab).1
  have hz0 : zeros.size = 256 := by kernel_rfl
  go_enter Try.func11, Try.ntmps11
  go_wp2
  clear hz
  generalize zeros = C0 at *
  have HC := Lib.hid hz0; clear hz0
  go_loopw [6] (fun i wr => ∃ (k : Nat) (C : Array Value), k ≤ 256 ∧ i = .int .i64 k ∧ C.size = 256 ∧ (∀ j, j < k → C[j]? = some (.int .u32 (Crc.tab j))) ∧ wr = w.alloc (.cells C 90))
    (fun i _ => 256 - (intOf i).toNat)
  case atStart => exact ⟨0, C0, by omega, rfl, HC.out, fun j h => by omega, rfl⟩
  case round =>
    obtain ⟨k, C, hk, rfl, hC, hall, rfl⟩ := hrel
    have HS := Lib.hid hC; clear hC
    have HA := Lib.hid hall; clear hall
    by_cases hlt : k < 256
    · go_wp2
      go_loop [3, 11] (fun r i => ∃ j : Nat, j ≤ 8 ∧ i = .int .i64 j ∧ r = .int .u32 ((Nat.repeat Crc.bit j k : Nat) : Int)) (fun _ i => 8 - (intOf i).toNat)
      case atStart => exact ⟨0, by omega, rfl, rfl⟩
      case round =>
        obtain ⟨j, hj, rfl, rfl⟩ := hrel
        generalize hr : Nat.repeat Crc.bit j k = r
        have hr0 : r < 4294967296 := by rw [← hr]; exact Crc.rep_lt _ _ (by omega)
        have hr2 := Nat.mod_lt r (show 2 > 0 by decide)
        obtain ⟨e1, e2⟩ := bit_walk r hr0
        have HR := Lib.hid hr; clear hr
        by_cases hj8 : j < 8
        · go_wp2
          go_round
          case rel => exact ⟨j + 1, by omega, by go_num, by rw [← HR.out]; rfl⟩
          case measure => simp [intOf]; omega
        · obtain rfl : j = 8 := by omega
          clear e1 e2
          obtain ⟨v0, hv0⟩ : ∃ v0, C[k]? = some v0 := ⟨C[k]'(by have := HS.out; omega), by simp⟩
          go_wp2
          go_roundw
          case rel =>
            refine ⟨k + 1, _, by omega, by go_num, ?_, ?_, rfl⟩
            · simpa using HS.out
            · intro j hj
              have hs := HS.out
              by_cases hjk : j = k
              · subst hjk
                rw [Array.getElem?_setIfInBounds_self_of_lt (by omega)]
                have h9 := HR.out
                unfold Crc.tab
                rw [h9]
              · rw [Array.getElem?_setIfInBounds_ne (fun h => hjk h.symm)]
                exact HA.out j (by omega)
          case measure => simp [intOf]; omega
    · obtain rfl : k = 256 := by omega
      go_wp2
      go_ret
      refine ⟨rfl, fun i hi => ?_, (Below.refl _ _).alloc (Nat.le_refl _) _, by simp⟩
      rw [World.cell?_alloc_new]
      exact HA.out i hi
end Go.Proofs.Ytbnpldilkkhgmaa
