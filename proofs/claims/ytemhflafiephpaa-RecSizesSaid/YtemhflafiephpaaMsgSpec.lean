/- What layer 14 computes. -/
import Derived.Test.YtemhflafiephpaaLendS
namespace Go.Proofs.Ytemhflafiephpaa.Msg
open Go.Proofs.Ytemhflafiephpaa.Crc (le)
/-- a number as a value -/
def val (n : Nat) : ByteArray := ⟨(Lend.put 8 n).toArray⟩
theorem val_list (n : Nat) : (val n).data.toList = Lend.put 8 n := rfl
theorem val_size (n : Nat) : (val n).size = 8 := by
  show (Lend.put 8 n).toArray.size = 8
  rw [List.size_toArray, Lend.put_length]
/-- the number that a value is -/
def num (s : ByteArray) : Nat := le s.data.toList
theorem num_val (n : Nat) : num (val n) = n % 18446744073709551616 := Lend.le_put 8 n
theorem val_num {s : ByteArray} (h : s.size = 8) : val (num s) = s := bytes_ext (by
  rw [val_list, num]
  have e : s.data.toList.length = 8 := by simpa using h
  rw [← e]
  exact Lend.put_le _)
theorem num_lt {s : ByteArray} (h : s.size = 8) : num s < 18446744073709551616 := by
  have := Lend.le_lt s.data.toList
  have e : s.data.toList.length = 8 := by simpa using h
  rw [e] at this
  exact this
theorem num_empty : num ByteArray.empty = 0 := rfl
/-- an update: its kind, key, value and number -/
structure Up where
  kind : Nat
  key : ByteArray
  value : ByteArray
  delta : Nat
/-- what an update makes of a value -/
def on (p : ByteArray × Bool) (u : Up) : ByteArray × Bool :=
  let v := if p.2 then p.1 else ByteArray.empty
  if u.kind = 1 then (u.value, true)
  else if u.kind = 2 then (ByteArray.empty, false)
  else if u.kind = 3 then (if p.2 = false then (val u.delta, true) else if v.size = 8 then (val ((num v + u.delta) % 18446744073709551616), true) else (v, p.2))
  else (v, p.2)
theorem on_put (p : ByteArray × Bool) (u : Up) (h : u.kind = 1) : on p u = (u.value, true) := by unfold on; rw [if_pos h]
theorem on_del (p : ByteArray × Bool) (u : Up) (h : u.kind = 2) : on p u = (ByteArray.empty, false) := by unfold on; rw [if_neg (by omega), if_pos h]
theorem on_add_new (s : ByteArray) (u : Up) (h : u.kind = 3) : on (s, false) u = (val u.delta, true) := by unfold on; rw [if_neg (by omega), if_neg (by omega), if_pos h]; rfl
theorem on_add_num (s : ByteArray) (u : Up) (h : u.kind = 3) (hs : s.size = 8) : on (s, true) u = (val ((num s + u.delta) % 18446744073709551616), true) := by
  unfold on; rw [if_neg (by omega), if_neg (by omega), if_pos h]; simp [hs]
theorem on_add_text (s : ByteArray) (u : Up) (h : u.kind = 3) (hs : ¬ s.size = 8) : on (s, true) u = (s, true) := by
  unfold on; rw [if_neg (by omega), if_neg (by omega), if_pos h]; simp [hs]
theorem on_other (s : ByteArray) (u : Up) (h : ¬ (u.kind = 1 ∨ u.kind = 2 ∨ u.kind = 3)) : on (s, true) u = (s, true) := by
  unfold on; rw [if_neg (by omega), if_neg (by omega), if_neg (by omega)]; rfl
theorem on_other_no (s : ByteArray) (u : Up) (h : ¬ (u.kind = 1 ∨ u.kind = 2 ∨ u.kind = 3)) : on (s, false) u = (ByteArray.empty, false) := by
  unfold on; rw [if_neg (by omega), if_neg (by omega), if_neg (by omega)]; rfl
/-- what updates make of a value, one behind the other -/
def all (p : ByteArray × Bool) (l : List Up) : ByteArray × Bool := l.foldl on (if p.2 then p.1 else ByteArray.empty, p.2)
theorem got_size (p : ByteArray × Bool) (n : Nat) (hp : p.1.size ≤ n) : (if p.2 then p.1 else ByteArray.empty).size ≤ n := by
  split
  · exact hp
  · exact Nat.zero_le _
theorem on_size (p : ByteArray × Bool) (u : Up) (n : Nat) (h : 8 ≤ n) (hp : p.1.size ≤ n) (hu : u.value.size ≤ n) : (on p u).1.size ≤ n := by
  have h0 := got_size p n hp
  unfold on
  generalize (if p.2 then p.1 else ByteArray.empty) = v at *
  simp only
  repeat' split
  all_goals first | exact hu | exact h0 | (simp only [val_size]; exact h) | exact Nat.zero_le _
theorem all_nil (p : ByteArray × Bool) : all p [] = (if p.2 then p.1 else ByteArray.empty, p.2) := rfl
theorem all_snoc (p : ByteArray × Bool) (l : List Up) (u : Up) : all p (l ++ [u]) = on (all p l) u := by simp [all, List.foldl_append]
theorem all_take (p : ByteArray × Bool) {l : List Up} {k : Nat} (h : k < l.length) : all p (l.take (k + 1)) = on (all p (l.take k)) l[k] := by
  rw [List.take_succ_eq_append_getElem h, all_snoc]
theorem all_size (p : ByteArray × Bool) (n : Nat) (h : 8 ≤ n) (hp : p.1.size ≤ n) (l : List Up) (hl : ∀ u ∈ l, u.value.size ≤ n) : (all p l).1.size ≤ n := by
  unfold all
  have h0 := got_size p n hp
  have h1 : (if p.2 then p.1 else ByteArray.empty, p.2).1.size ≤ n := h0
  clear h0
  generalize (if p.2 then p.1 else ByteArray.empty, p.2) = q at *
  induction l generalizing q with
  | nil => exact h1
  | cons u l ih => exact ih (fun v hv => hl v (by simp [hv])) _ (on_size q u n h h1 (hl u (by simp)))
/-- the update that does what two do -/
def join (a b : Up) : Up :=
  if b.kind ≠ 3 then b
  else if a.kind = 3 then ⟨3, b.key, b.value, (b.delta + a.delta) % 18446744073709551616⟩
  else ⟨1, b.key, (on (on (ByteArray.empty, false) a) b).1, 0⟩
end Go.Proofs.Ytemhflafiephpaa.Msg
