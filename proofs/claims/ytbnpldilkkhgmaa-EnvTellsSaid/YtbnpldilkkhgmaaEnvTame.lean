/- Contracts of law04.tame and law04.of. -/
import Derived.Test.YtbnpldilkkhgmaaLaw04
import Derived.Test.YtbnpldilkkhgmaaBoxes
namespace Go.Proofs.Ytbnpldilkkhgmaa
open Go.RowKit
theorem of04_any (k g : Nat) (x : Int) (w : World) : Calls Try.prog 14 #[.agg #[.int .u8 (k : Int), .int .i64 x, .int .u64 (g : Int)]] w fun e w' => e = .returned (.agg #[.int .u8 (k : Int), .int .i64 x, .int .u64 (g : Int)]) ∧ Ext w w' := by
  go_enter Try.func14, Try.ntmps14
  go_wp2_with fail
  (try simp only [Exit.inBlock, Exit.then])
  refine bodyPost_ret (results_cell_row Try.results14 _ _ (w.heap.size + 1) 38 _ (0, 0) _ rfl (RowIs.new2 _ _ _ _) Try.underlying38 rfl (by kernel_rfl)) rfl ?_
  exact ⟨rfl, (Ext.alloc _ _).trans (Ext.alloc _ _)⟩
def tameK (k : Nat) : Nat := 1 + k % 5
def tameX (x : Int) : Nat := (max 0 x % 2147483648).toNat
theorem tame_ok (k : Nat) (x : Int) (g : Nat) : Env.okHead ⟨tameK k, ((tameX x : Nat) : Int), g⟩ = true :=
  Env.okHead_iff.2 ⟨by simp only [tameK]; omega, by simp only [tameX]; omega⟩
set_option maxRecDepth 100000 in
set_option maxHeartbeats 2000000 in
theorem tame04_any (k g : Nat) (x : Int) (w : World) (hk : k < 256) (hx : x ≤ 9223372036854775807) : Calls Try.prog 12 #[.agg #[.int .u8 (k : Int), .int .i64 x, .int .u64 (g : Int)]] w fun e w' =>
    e = .returned (.agg #[.int .u8 ((tameK k : Nat) : Int), .int .i64 ((tameX x : Nat) : Int), .int .u64 (g : Int)]) ∧ Ext w w' := by
  have hK : ∀ (t : TypeId) (w : World), (binOp .add t (.int .u8 1) (.int .u8 ((k : Int) % 5))).run Try.prog w = .ok (.int .u8 ((1 + k % 5 : Nat) : Int)) w := by
    intro t w
    have hq : IntKind.u8.wrap (1 + (k : Int) % 5) = ((1 + k % 5 : Nat) : Int) := by rw [IntKind.wrap_u8]; omega
    simp [binOp_add, Op.intArith, hq]
  go_enter Try.func12, Try.ntmps12
  go_wp2_with fail
  (try simp only [Exit.inBlock, Exit.then])
  have hK2 : (1 : Int) + (k : Int) % 5 = ((1 + k % 5 : Nat) : Int) := by omega
  have hX : max 0 x % 2147483648 = ((tameX x : Nat) : Int) := by unfold tameX; omega
  rw [hX, hK2]
  refine bodyPost_ret (results_cell_row Try.results12 _ _ (w.heap.size + 1) 24 _ (0, 0) _ rfl (RowIs.new2 _ _ _ _) Try.underlying24 rfl (by kernel_rfl)) rfl ?_
  exact ⟨rfl, (Ext.alloc _ _).trans (Ext.alloc _ _)⟩
end Go.Proofs.Ytbnpldilkkhgmaa
