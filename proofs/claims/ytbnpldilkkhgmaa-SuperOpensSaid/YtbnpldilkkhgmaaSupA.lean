/- Layer 5: superblocks: what is one; their payload; contracts of Slot, right, widths, payload. -/
import Derived.Test.YtbnpldilkkhgmaaEnvL
namespace Go.Proofs.Ytbnpldilkkhgmaa
open Go.RowKit
namespace Sup
/-- is it one? -/
def okB (g r : Nat) (h : Int) : Bool := ((decide (1 ≤ g) && decide (r ≤ g)) && decide (1 ≤ h)) && decide (h ≤ 32)
theorem okB_iff {g r : Nat} {h : Int} : okB g r h = true ↔ ((1 ≤ g ∧ r ≤ g) ∧ 1 ≤ h) ∧ h ≤ 32 := by simp [okB]
def ws3 : List Int := [1, 8, 4]
/-- what stands behind the Ptr -/
def tl3 (h s c : Nat) : List UInt8 := Lend.cat ws3 [h, s, c]
theorem tl3_len (h s c : Nat) : (tl3 h s c).length = 13 := by simp [tl3, ws3, Lend.cat, Lend.put_length]
theorem tl3_bytes {h s c : Nat} (hh : h < 256) (hs : s < 18446744073709551616) (hc : c < 4294967296) : Lend.bytes ws3 [h, s, c] = some (tl3 h s c) := by
  rw [Lend.bytes_eq rfl, if_pos]
  · rfl
  rw [Bool.and_eq_true]
  refine ⟨by decide, (Lend.fit_iff rfl).2 fun k h1 h2 => ?_⟩
  match k, h1 with
  | 0, _ => exact hh
  | 1, _ => exact hs
  | 2, _ => exact hc
end Sup
/-- a superblock -/
def blkC (g : Nat) (a : Int) (r u : Nat) (h : Int) (s c : Nat) : Array Value := #[.int .u64 (g : Int), .int .i64 a, .int .u64 (r : Int), .int .u32 (u : Int), .int .i64 h, .int .u64 (s : Int), .int .u32 (c : Int)]
def blkZ : Array Value := #[.int .u64 0, .int .i64 0, .int .u64 0, .int .u32 0, .int .i64 0, .int .u64 0, .int .u32 0]
/-- its payload -/
def payT (X r u h s c : Nat) : ByteArray := ptrT X r u ++ ⟨(Sup.tl3 h s c).toArray⟩
theorem payT_size (X r u h s c : Nat) : (payT X r u h s c).size = 29 := by
  unfold payT
  rw [ByteArray.size_append, ptrT_size]
  show 16 + (Sup.tl3 h s c).toArray.size = 29
  rw [List.size_toArray, Sup.tl3_len]
set_option maxRecDepth 100000 in
theorem slot_any (g : Nat) (w : World) : Calls Try.prog 29 #[.int .u64 (g : Int)] w fun e w' => e = .returned (.int .i64 ((g % 2 : Nat) : Int)) ∧ w = w' := by
  obtain ⟨m, hm⟩ : ∃ m, g % 2 = m := ⟨_, rfl⟩
  have hw : IntKind.i64.wrap ((g : Int) % 2) = (m : Int) := by rw [IntKind.wrap_i64]; omega
  rw [hm]
  clear hm
  go_enter Try.func29, Try.ntmps29
  go_wp2_with fail
  go_ret
  exact ⟨rfl, rfl⟩
set_option maxHeartbeats 1000000 in
theorem bright_any (g : Nat) (a : Int) (r u : Nat) (h : Int) (s c : Nat) (w : World) : Calls Try.prog 52 #[.agg #[.int .u64 (g : Int), .int .i64 a, .int .u64 (r : Int), .int .u32 (u : Int), .int .i64 h, .int .u64 (s : Int), .int .u32 (c : Int)]] w fun e w' => e = .returned (.bool (Sup.okB g r h)) ∧ Ext w w' := by
  unfold Sup.okB
  by_cases h1 : 1 ≤ g
  · have q1 : decide ((1 : Int) ≤ (g : Int)) = true := decide_eq_true (by omega)
    by_cases h2 : r ≤ g
    · have q2 : decide ((r : Int) ≤ (g : Int)) = true := decide_eq_true (by omega)
      rw [decide_eq_true h1, decide_eq_true h2]
      by_cases h3 : 1 ≤ h
      · by_cases h4 : h ≤ 32
        · rw [decide_eq_true h3, decide_eq_true h4]
          go_enter Try.func52, Try.ntmps52
          go_wp2_with fail
          go_ret
          exact ⟨rfl, Ext.alloc _ _⟩
        · have h4' : decide (h ≤ 32) = false := decide_eq_false h4
          rw [decide_eq_true h3, h4']
          go_enter Try.func52, Try.ntmps52
          go_wp2_with fail
          go_ret
          exact ⟨rfl, Ext.alloc _ _⟩
      · have h3' : decide (1 ≤ h) = false := decide_eq_false h3
        rw [h3']
        go_enter Try.func52, Try.ntmps52
        go_wp2_with fail
        go_ret
        exact ⟨rfl, Ext.alloc _ _⟩
    · have q2 : decide ((r : Int) ≤ (g : Int)) = false := decide_eq_false (by omega)
      rw [decide_eq_true h1, decide_eq_false h2]
      go_enter Try.func52, Try.ntmps52
      go_wp2_with fail
      go_ret
      exact ⟨rfl, Ext.alloc _ _⟩
  · have q1 : decide ((1 : Int) ≤ (g : Int)) = false := decide_eq_false (by omega)
    rw [decide_eq_false h1]
    go_enter Try.func52, Try.ntmps52
    go_wp2_with fail
    go_ret
    exact ⟨rfl, Ext.alloc _ _⟩
theorem own_widths3 (w : World) : Calls Try.prog 61 #[] w fun e w' => (∃ v, e = .returned v ∧ SlI .i64 3 Sup.ws3 v w') ∧ Ext w w' := by
  go_enter Try.func61, Try.ntmps61
  go_wp2_with fail
  go_ret
  exact ⟨⟨_, rfl, _, _, rfl, ints_new _ .i64 _ Sup.ws3 rfl⟩, Ext.alloc _ _⟩
end Go.Proofs.Ytbnpldilkkhgmaa
