/- Adds, on values: what they make of nothing, of a number, of what is no number; what they are, joined. -/
import Derived.Test.YtemhflafiephpaaMsgSpec
namespace Go.Proofs.Ytemhflafiephpaa.Msg
def addU (k : ByteArray) (n : Nat) : Up := ⟨3, k, ByteArray.empty, n⟩
def M64 : Nat := 18446744073709551616
theorem mod_add (a b c : Nat) : ((a % 18446744073709551616 + b) % 18446744073709551616 + c) % 18446744073709551616 = (a + (b + c)) % 18446744073709551616 := by omega
theorem foldl_num (k : ByteArray) : ∀ (ns : List Nat) (n : Nat), (ns.map (addU k)).foldl on (val (n % 18446744073709551616), true) = (val ((n + ns.sum) % 18446744073709551616), true)
  | [], n => by simp
  | x :: ns, n => by
    have e : on (val (n % 18446744073709551616), true) (addU k x) = (val ((n + x) % 18446744073709551616), true) := by
      rw [on_add_num _ _ rfl (val_size _), num_val]
      have : (n % 18446744073709551616 % 18446744073709551616 + x) % 18446744073709551616 = (n + x) % 18446744073709551616 := by omega
      show (val _, true) = _
      rw [show (addU k x).delta = x from rfl, this]
    rw [List.map_cons, List.foldl_cons, e, foldl_num k ns, List.sum_cons, Nat.add_assoc]
theorem all_num (k : ByteArray) (ns : List Nat) (n : Nat) (hn : n < 18446744073709551616) : all (val n, true) (ns.map (addU k)) = (val ((n + ns.sum) % 18446744073709551616), true) := by
  have := foldl_num k ns n
  rw [Nat.mod_eq_of_lt hn] at this
  exact this
theorem all_none (k : ByteArray) (ns : List Nat) (h0 : 0 < ns.length) (hs : ∀ n ∈ ns, n < 18446744073709551616) (s : ByteArray) : all (s, false) (ns.map (addU k)) = (val (ns.sum % 18446744073709551616), true) := by
  match ns, h0 with
  | x :: ns, _ =>
    have hx := hs x (by simp)
    show (ns.map (addU k)).foldl on (on (ByteArray.empty, false) (addU k x)) = _
    rw [on_add_new _ _ rfl, show (addU k x).delta = x from rfl]
    have := foldl_num k ns x
    rw [Nat.mod_eq_of_lt hx] at this
    rw [this, List.sum_cons]
theorem all_text (k : ByteArray) (s : ByteArray) (hs : ¬ s.size = 8) : ∀ (ns : List Nat), all (s, true) (ns.map (addU k)) = (s, true)
  | [] => rfl
  | x :: ns => by
    show (ns.map (addU k)).foldl on (on (s, true) (addU k x)) = _
    rw [on_add_text _ _ rfl hs]
    exact all_text k s hs ns
theorem join_add (k : ByteArray) (a b : Nat) : join (addU k (a % 18446744073709551616)) (addU k b) = addU k ((a + b) % 18446744073709551616) := by
  have : (b + a % 18446744073709551616) % 18446744073709551616 = (a + b) % 18446744073709551616 := by omega
  show (⟨3, k, ByteArray.empty, (b + a % 18446744073709551616) % 18446744073709551616⟩ : Up) = _
  rw [this]; rfl
theorem sum_take {ns : List Nat} {k : Nat} (h : k < ns.length) : (ns.take (k + 1)).sum = (ns.take k).sum + ns[k] := by
  rw [List.take_succ_eq_append_getElem h, List.sum_append]; simp
theorem map_take {ns : List Nat} {k : Nat} (h : k < ns.length) (y : ByteArray) : (ns.take (k + 1)).map (addU y) = (ns.take k).map (addU y) ++ [addU y ns[k]] := by
  rw [List.take_succ_eq_append_getElem h, List.map_append]; rfl
end Go.Proofs.Ytemhflafiephpaa.Msg
