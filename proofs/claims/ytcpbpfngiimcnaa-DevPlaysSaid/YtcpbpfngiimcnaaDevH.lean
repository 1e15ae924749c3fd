/- Which shapes may be; a new device. -/
import Derived.Test.YtcpbpfngiimcnaaDevG
import Derived.Test.YtcpbpfngiimcnaaShelf
namespace Go.Proofs.Ytcpbpfngiimcnaa
open Go.RowKit
namespace Dev
def right (x y : Int) : Bool := decide (8 ≤ x) && (decide (x ≤ 4096) && (decide (128 ≤ y) && (decide (y ≤ 1024) && decide (y % 64 = 0))))
end Dev
theorem right_cases (x y : Int) : Dev.right x y = true ∧ 8 ≤ x ∧ x ≤ 4096 ∧ 128 ≤ y ∧ y ≤ 1024 ∧ y % 64 = 0 ∨ Dev.right x y = false ∧ ((¬ 8 ≤ x) ∨ 8 ≤ x ∧ ((¬ x ≤ 4096) ∨ x ≤ 4096 ∧ ((¬ 128 ≤ y) ∨ 128 ≤ y ∧ ((¬ y ≤ 1024) ∨ y ≤ 1024 ∧ ¬ y % 64 = 0)))) := by
  unfold Dev.right
  by_cases h1 : 8 ≤ x <;> by_cases h2 : x ≤ 4096 <;> by_cases h3 : 128 ≤ y <;> by_cases h4 : y ≤ 1024 <;> by_cases h5 : y % 64 = 0 <;> simp [*]
theorem tmod64 {y : Int} (h : 128 ≤ y) : y.tmod 64 = y % 64 := Int.tmod_eq_emod_of_nonneg (by omega)
set_option maxRecDepth 100000 in
set_option maxHeartbeats 4000000 in
theorem right_any (x y : Int) (w : World) : Calls Try.prog 33 #[.agg #[.int .i64 x, .int .i64 y]] w fun e w' => e = .returned (.bool (Dev.right x y)) ∧ Ext w w' := by
  have k0 := World.cell?_alloc_new w #[.int .i64 x, .int .i64 y] 28 0
  have k1 := World.cell?_alloc_new w #[.int .i64 x, .int .i64 y] 28 1
  rcases right_cases x y with ⟨hr, h1, h2, h3, h4, h5⟩ | ⟨hr, h1 | ⟨h1, h2 | ⟨h2, h3 | ⟨h3, h4 | ⟨h4, h5⟩⟩⟩⟩⟩
  all_goals
    rw [hr]
    try (have h6 := tmod64 h3)
    try rw [h5] at h6
    try (have h7 : (y % 64 == 0) = false := beq_eq_false_iff_ne.2 h5)
    go_enter Try.func33, Try.ntmps33
    go_wp2_with fail
    go_ret
    exact ⟨rfl, Ext.alloc _ _⟩
set_option maxRecDepth 100000 in
set_option maxHeartbeats 4000000 in
theorem refright_any (x y : Int) (w : World) : Calls Try.prog 32 #[.int .i64 x, .int .i64 y] w fun e w' => e = .returned (.bool (Dev.right x y)) ∧ Ext w w' := by
  rcases right_cases x y with ⟨hr, h1, h2, h3, h4, h5⟩ | ⟨hr, h1 | ⟨h1, h2 | ⟨h2, h3 | ⟨h3, h4 | ⟨h4, h5⟩⟩⟩⟩⟩
  all_goals
    rw [hr]
    try (have h6 := tmod64 h3)
    try rw [h5] at h6
    try (have h7 : (y % 64 == 0) = false := beq_eq_false_iff_ne.2 h5)
    go_enter Try.func32, Try.ntmps32
    go_wp2_with fail
    go_ret
    exact ⟨rfl, Ext.refl _⟩
set_option maxRecDepth 100000 in
set_option maxHeartbeats 4000000 in
theorem new_no (x y : Int) (w : World) (h : Dev.right x y = false) : Calls Try.prog 7 #[.agg #[.int .i64 x, .int .i64 y]] w fun e w' => e = .returned (.tuple #[.pointer none, .int .i64 2]) ∧ Ext w w' := by
  have k0 := World.cell?_alloc_new w #[.int .i64 x, .int .i64 y] 28 0
  have k1 := World.cell?_alloc_new w #[.int .i64 x, .int .i64 y] 28 1
  go_enter Try.func7, Try.ntmps7
  go_wp2_with fail
  refine (right_any x y _).mono ?_
  rintro e w1 ⟨rfl, he1⟩
  rw [h]
  go_wp2_with fail
  go_ret2
  exact ⟨rfl, (Ext.alloc _ _).trans he1⟩
theorem repeatL_eq (b : UInt8) : ∀ c : Nat, Lib.repeatL [b] c = List.replicate c b
  | 0 => rfl
  | c + 1 => by rw [Lib.repeatL, repeatL_eq b c, List.replicate_succ]; rfl
theorem srepeat_any (b : UInt8) (w : World) : Calls Try.prog 9 #[.string ⟨#[b]⟩, .int .i64 128] w fun e w' => e = .returned (.string ⟨Array.replicate 128 b⟩) ∧ Ext w w' := by
  have h := Try.strings_Repeat ⟨#[b]⟩ 128 w (by omega) (by show 1 * 128 ≤ _; omega)
  have e : (⟨(Lib.repeatL (⟨#[b]⟩ : ByteArray).data.toList 128).toArray⟩ : ByteArray) = ⟨Array.replicate 128 b⟩ := by
    have e2 : (⟨#[b]⟩ : ByteArray).data.toList = [b] := rfl
    rw [e2, repeatL_eq, List.toArray_replicate]
  rw [e] at h
  exact h
end Go.Proofs.Ytcpbpfngiimcnaa
