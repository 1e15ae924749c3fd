/- Contract of law14.tame. -/
import Derived.Test.YtemhflafiephpaaMsgOn
import Derived.Test.YtemhflafiephpaaBoxes
namespace Go.Proofs.Ytemhflafiephpaa
open Go.RowKit
/-- an update, made one that may be -/
def Msg.tame (u : Msg.Up) : Msg.Up := ⟨1 + u.kind % 3, u.key, if 1 + u.kind % 3 = 1 then u.value else ByteArray.empty, if 1 + u.kind % 3 = 3 then u.delta else 0⟩
def upV3 (u : Msg.Up) : Value := .agg #[.int .u8 (u.kind : Int), .string u.value, .int .u64 (u.delta : Int)]
theorem tame_any (k d : Nat) (key v : ByteArray) (w : World) (hk : k < 256) :
    Calls Try.prog 22 #[.agg #[.int .u8 (k : Int), .string v, .int .u64 (d : Int)]] w fun e w' => e = .returned (upV3 (Msg.tame ⟨k, key, v, d⟩)) ∧ Ext w w' := by
  have h3 : k % 3 = 0 ∨ k % 3 = 1 ∨ k % 3 = 2 := by omega
  rcases h3 with h | h | h
  all_goals
    have h0 := Lib.hid h
    unfold Msg.tame upV3
    simp only [h]
    clear h
    go_enter Try.func22, Try.ntmps22
    go_wp2_with fail
    all_goals
      refine bodyPost_ret (results_cell_row Try.results22 _ _ (w.heap.size + 1) 34 _ (0, 0) _ rfl (RowIs.new2 _ _ _ _) Try.underlying34 rfl (by kernel_rfl)) rfl ?_
      refine ⟨?_, (Ext.alloc _ _).trans (Ext.alloc _ _)⟩
      first
        | (rw [show (k : Int) % 3 = ((k % 3 : Nat) : Int) by omega, h0.out]; rfl)
        | (exfalso; have := h0.out; simp at *; omega)
/-- what tame leaves: one of the three kinds, a value only to put, a number only to add -/
structure Tamed (K : Nat) (V : ByteArray) (D : Nat) : Prop where
  kind : K = 1 ∨ K = 2 ∨ K = 3
  size : V.size ≤ maxLen
  none : K ≠ 1 → V = ByteArray.empty
  less : D < 18446744073709551616
  zero : K ≠ 3 → D = 0
theorem Tamed.lt {K D : Nat} {V : ByteArray} (h : Tamed K V D) : K < 256 := by have := h.kind; omega
theorem Tamed.cut {K D : Nat} {V V' : ByteArray} (h : Tamed K V D) (h1 : V'.size ≤ V.size) : Tamed K V' D :=
  ⟨h.kind, Nat.le_trans h1 h.size, fun hk => by
    have e := h.none hk
    rw [e] at h1
    have : V'.size = 0 := Nat.le_zero.1 h1
    exact ByteArray.ext (Array.size_eq_zero_iff.1 this), h.less, h.zero⟩
theorem tame_ex (k d : Nat) (v : ByteArray) (w : World) (hk : k < 256) (hv : v.size ≤ maxLen) (hd : d < 18446744073709551616) :
    Calls Try.prog 22 #[.agg #[.int .u8 (k : Int), .string v, .int .u64 (d : Int)]] w fun e w' => ∃ K V D, e = .returned (.agg #[.int .u8 ((K : Nat) : Int), .string V, .int .u64 ((D : Nat) : Int)]) ∧ Tamed K V D ∧ Ext w w' :=
  (tame_any k d ByteArray.empty v w hk).mono fun e w' ⟨h1, h2⟩ => ⟨_, _, _, h1, ⟨by unfold Msg.tame; simp only; omega, by unfold Msg.tame; simp only; split; exact hv; exact Nat.zero_le _, fun h => if_neg h, by unfold Msg.tame; simp only; split <;> omega, fun h => if_neg h⟩, h2⟩
end Go.Proofs.Ytemhflafiephpaa
