/- Contracts of (rec.Update).Check and of the reference's Check. -/
import Derived.Test.YtemhflafiephpaaRecSpec
import Derived.Test.YtemhflafiephpaaMsgOn
namespace Go.Proofs.Ytemhflafiephpaa
open Go.RowKit
theorem isEmpty_of_zero {s : ByteArray} (h : s.size = 0) : s.toList.isEmpty = true ∧ s.toList = [] := by
  rw [toList_data, empty_of_size h]; exact ⟨rfl, rfl⟩
set_option maxRecDepth 100000 in
set_option maxHeartbeats 2000000 in
theorem check_any (k d : Nat) (y v : ByteArray) (w : World) (hk : k < 256) (hd : d < 18446744073709551616) (hy : y.size ≤ maxLen) (hv : v.size ≤ maxLen) :
    Calls Try.prog 27 #[.agg #[.int .u8 (k : Int), .string y, .string v, .int .u64 (d : Int)]] w fun e w' => e = .returned (.int .i64 (Rec.check ⟨k, y, v, d⟩ : Nat)) ∧ Ext w w' := by
  unfold maxLen at hy hv
  by_cases hl : y.size < 1 ∨ 16 < y.size ∨ 32 < v.size
  · rw [Rec.check_large hl]
    by_cases h1 : y.size < 1
    · obtain ⟨n1, n2⟩ := isEmpty_of_zero (s := y) (by omega)
      go_enter Try.func27, Try.ntmps27
      go_wp2_with fail
      go_ret
      exact ⟨rfl, Ext.alloc _ _⟩
    · obtain ⟨n1, n2⟩ := isEmpty_of_pos (s := y) (by omega)
      by_cases h2 : 16 < y.size
      · have q2 : decide ((16 : Int) < (y.size : Int)) = true := decide_eq_true (by omega)
        go_enter Try.func27, Try.ntmps27
        go_wp2_with fail
        go_ret
        exact ⟨rfl, Ext.alloc _ _⟩
      · have q2 : decide ((16 : Int) < (y.size : Int)) = false := decide_eq_false (by omega)
        have q3 : decide ((32 : Int) < (v.size : Int)) = true := decide_eq_true (by omega)
        go_enter Try.func27, Try.ntmps27
        go_wp2_with fail
        go_ret
        exact ⟨rfl, Ext.alloc _ _⟩
  · obtain ⟨n1, n2⟩ := isEmpty_of_pos (s := y) (by omega)
    have q2 : decide ((16 : Int) < (y.size : Int)) = false := decide_eq_false (by omega)
    have q3 : decide ((32 : Int) < (v.size : Int)) = false := decide_eq_false (by omega)
    by_cases ha : k < 1 ∨ 3 < k ∨ (k ≠ 1 ∧ v.size ≠ 0) ∨ (k ≠ 3 ∧ d ≠ 0)
    · rw [Rec.check_arg hl ha]
      by_cases h1 : k < 1
      · obtain rfl : k = 0 := by omega
        go_enter Try.func27, Try.ntmps27
        go_wp2_with fail
        go_ret
        exact ⟨rfl, Ext.alloc _ _⟩
      · have p1 : decide ((k : Int) < 1) = false := decide_eq_false (by omega)
        by_cases h3 : 3 < k
        · have p3 : decide ((3 : Int) < (k : Int)) = true := decide_eq_true (by omega)
          go_enter Try.func27, Try.ntmps27
          go_wp2_with fail
          go_ret
          exact ⟨rfl, Ext.alloc _ _⟩
        · have hk3 : k = 1 ∨ k = 2 ∨ k = 3 := by omega
          clear p1 h1 h3
          by_cases hv0 : v.size = 0
          · obtain ⟨m1, m2⟩ := isEmpty_of_zero hv0
            have hd0 : ((d : Int) != 0) = true := by simp; omega
            rcases hk3 with rfl | rfl | rfl
            all_goals first | (exfalso; omega) | skip
            all_goals
              go_enter Try.func27, Try.ntmps27
              go_wp2_with fail
              go_ret
              exact ⟨rfl, Ext.alloc _ _⟩
          · obtain ⟨m1, m2⟩ := isEmpty_of_pos (s := v) (by omega)
            by_cases hd0 : d = 0
            · subst hd0
              rcases hk3 with rfl | rfl | rfl
              all_goals first | (exfalso; omega) | skip
              all_goals
                go_enter Try.func27, Try.ntmps27
                go_wp2_with fail
                go_ret
                exact ⟨rfl, Ext.alloc _ _⟩
            · have hd1 : ((d : Int) != 0) = true := by simp; omega
              rcases hk3 with rfl | rfl | rfl
              all_goals first | (exfalso; omega) | skip
              all_goals
                go_enter Try.func27, Try.ntmps27
                go_wp2_with fail
                go_ret
                exact ⟨rfl, Ext.alloc _ _⟩
    · rw [Rec.check_ok hl ha]
      have hk3 : k = 1 ∨ k = 2 ∨ k = 3 := by omega
      by_cases hv0 : v.size = 0
      · obtain ⟨m1, m2⟩ := isEmpty_of_zero hv0
        by_cases hd0 : d = 0
        · subst hd0
          rcases hk3 with rfl | rfl | rfl
          all_goals
            go_enter Try.func27, Try.ntmps27
            go_wp2_with fail
            go_ret
            exact ⟨rfl, Ext.alloc _ _⟩
        · obtain rfl : k = 3 := by omega
          go_enter Try.func27, Try.ntmps27
          go_wp2_with fail
          go_ret
          exact ⟨rfl, Ext.alloc _ _⟩
      · obtain ⟨m1, m2⟩ := isEmpty_of_pos (s := v) (by omega)
        obtain rfl : k = 1 := by omega
        obtain rfl : d = 0 := by omega
        go_enter Try.func27, Try.ntmps27
        go_wp2_with fail
        go_ret
        exact ⟨rfl, Ext.alloc _ _⟩
end Go.Proofs.Ytemhflafiephpaa
