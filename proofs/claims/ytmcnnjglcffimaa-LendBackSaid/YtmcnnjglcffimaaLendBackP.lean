/- Plain laws for LendBack: tight widths. -/
import Derived.Test.YtmcnnjglcffimaaOwnI
namespace Go.Proofs.Ytmcnnjglcffimaa
namespace Lend
open Go.Proofs.Ytmcnnjglcffimaa.Crc (le)
def Tight (x n : Nat) : Prop := 1 ≤ x ∧ x ≤ 8 ∧ n < 256 ^ x ∧ (x = 1 ∨ 256 ^ (x - 1) ≤ n)
def tightAll : List Int → List Nat → Prop
  | v :: V, n :: M => (∃ x : Nat, v = (x : Int) ∧ Tight x n) ∧ tightAll V M
  | [], [] => True
  | _, _ => False
theorem tightAll_length : ∀ {V : List Int} {M : List Nat}, tightAll V M → V.length = M.length
  | [], [], _ => rfl
  | _ :: V, _ :: M, h => by rw [List.length_cons, List.length_cons, tightAll_length h.2]
  | [], _ :: _, h => h.elim
  | _ :: _, [], h => h.elim
theorem tightAll_snoc : ∀ {V : List Int} {M : List Nat} {x n : Nat}, tightAll V M → Tight x n → tightAll (V ++ [(x : Int)]) (M ++ [n])
  | [], [], x, _, _, h => ⟨⟨x, rfl, h⟩, trivial⟩
  | _ :: _, _ :: _, _, _, h, h2 => ⟨h.1, tightAll_snoc h.2 h2⟩
  | [], _ :: _, _, _, h, _ => h.elim
  | _ :: _, [], _, _, h, _ => h.elim
theorem tightAll_at : ∀ {V : List Int} {M : List Nat}, tightAll V M → ∀ i (h1 : i < V.length) (h2 : i < M.length), ∃ x : Nat, V[i] = (x : Int) ∧ Tight x M[i]
  | _ :: V, _ :: M, h, 0, _, _ => h.1
  | _ :: V, _ :: M, h, i + 1, h1, h2 => tightAll_at h.2 i (by simpa using h1) (by simpa using h2)
  | [], _, _, _, h1, _ => by simp at h1
  | _ :: _, [], h, _, _, _ => h.elim
theorem tightAll_ok : ∀ {V : List Int} {M : List Nat}, tightAll V M → V.all okW = true
  | [], [], _ => rfl
  | _ :: V, _ :: M, h => by
    obtain ⟨⟨x, rfl, h1, h2, _⟩, h3⟩ := h
    rw [List.all_cons, tightAll_ok h3, okW_true (by omega) (by omega)]; rfl
  | [], _ :: _, h => h.elim
  | _ :: _, [], h => h.elim
theorem tightAll_fit {V : List Int} {M : List Nat} (h : tightAll V M) : fit V M = true :=
  (fit_iff (tightAll_length h)).2 fun i h1 h2 => by
    obtain ⟨x, e, _, _, h3, _⟩ := tightAll_at h i h1 h2
    rw [e]; exact h3
theorem cat_length_eq : ∀ {V : List Int} {M : List Nat}, V.length = M.length → (cat V M).length = total V
  | [], [], _ => rfl
  | v :: V, n :: M, h => by rw [cat, List.length_append, put_length, cat_length_eq (by simpa using h), total_cons]
  | [], _ :: _, h => by simp at h
  | _ :: _, [], h => by simp at h
theorem tightAll_cut : ∀ {V : List Int} {M : List Nat}, tightAll V M → ∀ r, cut V (cat V M ++ r) = M
  | [], [], _, _ => rfl
  | _ :: V, n :: M, h, r => by
    obtain ⟨⟨x, rfl, h1, h2, h3, _⟩, h4⟩ := h
    have e1 : (put x n ++ cat V M ++ r).take x = put x n := by
      rw [List.append_assoc]
      have := put_length x n
      rw [List.take_append_of_le_length (by omega), List.take_of_length_le (by omega)]
    have e2 : (put x n ++ cat V M ++ r).drop x = cat V M ++ r := by
      rw [List.append_assoc]
      have := put_length x n
      rw [List.drop_append_of_le_length (by omega), List.drop_of_length_le (by omega)]; rfl
    show le ((put x n ++ cat V M ++ r).take x) :: cut V ((put x n ++ cat V M ++ r).drop x) = n :: M
    rw [e1, e2, tightAll_cut h4 r, le_put, Nat.mod_eq_of_lt h3]
  | [], _ :: _, h, _ => h.elim
  | _ :: _, [], h, _ => h.elim
theorem tight_nums {V : List Int} {M : List Nat} (h : tightAll V M) (r : List UInt8) : nums V (cat V M ++ r) = some (M, r) := by
  have hl := cat_length_eq (tightAll_length h)
  rw [nums_eq, tightAll_ok h, tightAll_cut h r, if_pos (by simp; omega), ← hl]
  simp
theorem tight_short {V : List Int} {M : List Nat} (h : tightAll V M) {l : List UInt8} (hl : l.length < (cat V M).length) : nums V l = none := by
  have h2 := cat_length_eq (tightAll_length h)
  rw [nums_eq, if_neg]
  simp; intro _; omega
theorem tight_bytes {V : List Int} {M : List Nat} (h : tightAll V M) : bytes V M = some (cat V M) := by
  rw [bytes_eq (tightAll_length h), tightAll_ok h, tightAll_fit h]; rfl
theorem tight_less {V : List Int} {M : List Nat} (h : tightAll V M) (i : Nat) (h1 : i < V.length) (hp : 0 < V[i] - 1) : bytes (V.set i (V[i] - 1)) M = none := by
  have hlen := tightAll_length h
  have h2 : i < M.length := by omega
  obtain ⟨x, e, t1, t2, t3, t4⟩ := tightAll_at h i h1 h2
  have hf : fit (V.set i (V[i] - 1)) M = false := by
    cases hf : fit (V.set i (V[i] - 1)) M with
    | false => rfl
    | true =>
      have := (fit_iff (by rw [List.length_set]; exact hlen)).1 hf i (by rw [List.length_set]; exact h1) h2
      rw [List.getElem_set_self, e, show ((x : Int) - 1).toNat = x - 1 by omega] at this
      omega
  rw [bytes_eq (by rw [List.length_set]; exact hlen), hf, Bool.and_false]; rfl
theorem tight_step {n j : Nat} (hK : 0 < n / 256 ^ j) : (j + 1 = 1 ∨ 256 ^ (j + 1 - 1) ≤ n) := by
  right
  rw [Nat.add_sub_cancel]
  rcases Nat.lt_or_ge n (256 ^ j) with h1 | h1
  · rw [Nat.div_eq_of_lt h1] at hK; omega
  · exact h1
theorem tight_bound {n j : Nat} (hn : n < 18446744073709551616) (h : j = 1 ∨ 256 ^ (j - 1) ≤ n) : j ≤ 8 := by
  rcases h with h | h
  · omega
  · rcases Nat.lt_or_ge 8 j with h1 | h1
    · have : 256 ^ 8 ≤ 256 ^ (j - 1) := Nat.pow_le_pow_right (by decide) (by omega)
      have e : 256 ^ 8 = 18446744073709551616 := by decide
      omega
    · exact h1
theorem tight_end {n j : Nat} (hn : n < 18446744073709551616) (h : j = 1 ∨ 256 ^ (j - 1) ≤ n) (hj : 1 ≤ j) (hK : n / 256 ^ j = 0) : Tight j n := by
  refine ⟨hj, tight_bound hn h, ?_, h⟩
  rcases Nat.lt_or_ge n (256 ^ j) with h1 | h1
  · exact h1
  · have := Nat.div_pos h1 (Nat.pow_pos (by decide)); omega
end Lend
end Go.Proofs.Ytmcnnjglcffimaa
