/- What layer 12 computes: which updates may be, and their bytes. -/
import Derived.Test.YtemhflafiephpaaMsgSpec
namespace Go.Proofs.Ytemhflafiephpaa.Rec
open Go.Proofs.Ytemhflafiephpaa.Msg (Up)
/-- may an update be: 0, or the error's number -/
def check (u : Up) : Nat :=
  if u.key.size < 1 ∨ 16 < u.key.size ∨ 32 < u.value.size then 13
  else if u.kind < 1 ∨ 3 < u.kind ∨ (u.kind ≠ 1 ∧ u.value.size ≠ 0) ∨ (u.kind ≠ 3 ∧ u.delta ≠ 0) then 2
  else 0
theorem check_large {u : Up} (h : u.key.size < 1 ∨ 16 < u.key.size ∨ 32 < u.value.size) : check u = 13 := if_pos h
theorem check_arg {u : Up} (h : ¬ (u.key.size < 1 ∨ 16 < u.key.size ∨ 32 < u.value.size)) (k : u.kind < 1 ∨ 3 < u.kind ∨ (u.kind ≠ 1 ∧ u.value.size ≠ 0) ∨ (u.kind ≠ 3 ∧ u.delta ≠ 0)) : check u = 2 := by
  unfold check; rw [if_neg h, if_pos k]
theorem check_ok {u : Up} (h : ¬ (u.key.size < 1 ∨ 16 < u.key.size ∨ 32 < u.value.size)) (k : ¬ (u.kind < 1 ∨ 3 < u.kind ∨ (u.kind ≠ 1 ∧ u.value.size ≠ 0) ∨ (u.kind ≠ 3 ∧ u.delta ≠ 0))) : check u = 0 := by
  unfold check; rw [if_neg h, if_neg k]
/-- the bytes of an update that may be -/
def bytes (u : Up) : List UInt8 :=
  UInt8.ofNat u.kind :: UInt8.ofNat u.key.size :: u.key.data.toList ++
    (if u.kind = 1 then UInt8.ofNat u.value.size :: u.value.data.toList else if u.kind = 3 then Lend.put 8 u.delta else [])
/-- the bytes of updates, or the error of the first that may not be -/
def text : List Up → List UInt8 × Nat
  | [] => ([], 0)
  | u :: l => if check u = 0 then (if (text l).2 = 0 then (bytes u ++ (text l).1, 0) else ([], (text l).2)) else ([], check u)
end Go.Proofs.Ytemhflafiephpaa.Rec
