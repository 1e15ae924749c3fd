/- Contract of law12.tame. -/
import Derived.Test.YtemhflafiephpaaRecJ
namespace Go.Proofs.Ytemhflafiephpaa
open Go.RowKit
set_option maxRecDepth 100000 in
set_option maxHeartbeats 2000000 in
theorem tame12_any (k d : Nat) (y v : ByteArray) (w : World) (hk : k < 256) (hd : d < 18446744073709551616) (hy : y.size ≤ reachBytes) (hv : v.size ≤ maxLen) :
    Calls Try.prog 31 #[.agg #[.int .u8 (k : Int), .string y, .string v, .int .u64 (d : Int)]] w fun e w' => (∃ K D Y V, e = .returned (.agg #[.int .u8 ((K : Nat) : Int), .string Y, .string V, .int .u64 ((D : Nat) : Int)]) ∧ Rec.check ⟨K, Y, V, D⟩ = 0 ∧ FitU ⟨K, Y, V, D⟩) ∧ Ext w w' := by
  have hre : reachBytes ≤ 140737488355328 := by decide
  unfold maxLen at hv
  have h3 : k % 3 = 0 ∨ k % 3 = 1 ∨ k % 3 = 2 := by omega
  obtain ⟨m, hm1, hm2, hm3⟩ : ∃ m : Nat, min ((y.size : Int) + 1) 16 = (m : Int) ∧ m ≤ y.size + 1 ∧ 1 ≤ m ∧ m ≤ 16 := ⟨min (y.size + 1) 16, by omega, by omega, by omega⟩
  obtain ⟨n, hn1, hn2, hn3⟩ : ∃ n : Nat, min (v.size : Int) 32 = (n : Int) ∧ n ≤ v.size ∧ n ≤ 32 := ⟨min v.size 32, by omega, by omega, by omega⟩
  have hbig : ¬ 9223372036854775807 < y.size + 1 := by omega
  have hyk : (y ++ ⟨#[107]⟩ : ByteArray).size = y.size + 1 := by rw [ByteArray.size_append]; rfl
  have hsz : ((y ++ ⟨#[107]⟩ : ByteArray).extract 0 m).size = m := by rw [ByteArray.size_extract, hyk]; omega
  have hsv : (v.extract 0 n).size = n := by simp; omega
  clear hre
  rcases h3 with h | h | h
  all_goals
    go_enter Try.func31, Try.ntmps31
    go_wp2_with fail
    refine bodyPost_ret (results_cell_row Try.results31 _ _ (w.heap.size + 1) 67 _ (0, 0) _ rfl (RowIs.new2 _ _ _ _) Try.underlying67 rfl (by kernel_rfl)) rfl ?_
    refine ⟨?_, (Ext.alloc _ _).trans (Ext.alloc _ _)⟩
    generalize (y ++ ⟨#[107]⟩ : ByteArray).extract 0 m = Y at *
    generalize v.extract 0 n = V at *
  · exact ⟨1, 0, Y, V, by rw [show (1 : Int) + (k : Int) % 3 = 1 by omega]; rfl, Rec.check_ok (show ¬ (Y.size < 1 ∨ 16 < Y.size ∨ 32 < V.size) by omega) (by simp), ⟨Nat.lt_of_lt_of_le (by decide : 1 < 2) (by decide), by show Y.size ≤ _; unfold maxLen; omega, by show V.size ≤ _; unfold maxLen; omega, Nat.zero_lt_succ _⟩⟩
  · exact ⟨2, 0, Y, ByteArray.empty, by rw [show (1 : Int) + (k : Int) % 3 = 2 by omega]; rfl, Rec.check_ok (show ¬ (Y.size < 1 ∨ 16 < Y.size ∨ 32 < 0) by omega) (by simp), ⟨Nat.lt_of_lt_of_le (by decide : 2 < 3) (by decide), by show Y.size ≤ _; unfold maxLen; omega, Nat.zero_le _, Nat.zero_lt_succ _⟩⟩
  · exact ⟨3, d, Y, ByteArray.empty, by rw [show (1 : Int) + (k : Int) % 3 = 3 by omega]; rfl, Rec.check_ok (show ¬ (Y.size < 1 ∨ 16 < Y.size ∨ 32 < 0) by omega) (by simp), ⟨Nat.lt_of_lt_of_le (by decide : 3 < 4) (by decide), by show Y.size ≤ _; unfold maxLen; omega, Nat.zero_le _, hd⟩⟩
end Go.Proofs.Ytemhflafiephpaa
