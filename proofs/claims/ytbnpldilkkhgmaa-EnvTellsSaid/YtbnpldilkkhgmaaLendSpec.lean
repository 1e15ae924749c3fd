/- What layer 1 computes, on lists. -/
import Derived.Test.YtbnpldilkkhgmaaCrc
namespace Go.Proofs.Ytbnpldilkkhgmaa.Lend
open Go.Proofs.Ytbnpldilkkhgmaa.Crc (le)
def okW (w : Int) : Bool := decide (1 ≤ w) && decide (w ≤ 8)
theorem okW_true {w : Int} (h1 : 1 ≤ w) (h2 : w ≤ 8) : okW w = true := by simp [okW, h1, h2]
theorem okW_lo {w : Int} (h : w < 1) : okW w = false := by simp [okW]; omega
theorem okW_hi {w : Int} (h : 8 < w) : okW w = false := by simp [okW]; omega
theorem okW_iff {w : Int} : okW w = true ↔ 1 ≤ w ∧ w ≤ 8 := by simp [okW]
def total (ws : List Int) : Nat := (ws.map Int.toNat).sum
theorem total_nil : total [] = 0 := rfl
theorem total_cons (w : Int) (ws : List Int) : total (w :: ws) = w.toNat + total ws := by simp [total]
theorem total_append (a b : List Int) : total (a ++ b) = total a + total b := by simp [total]
def size (ws : List Int) : Nat := if ws.all okW then total ws else 0
theorem total_le {ws : List Int} (h : ws.all okW = true) : total ws ≤ 8 * ws.length := by
  induction ws with
  | nil => simp [total]
  | cons w ws ih =>
    simp only [List.all_cons, Bool.and_eq_true] at h
    have h1 := okW_iff.1 h.1
    have h2 := ih h.2
    rw [total_cons, List.length_cons]; omega
theorem size_le (ws : List Int) : size ws ≤ 8 * ws.length := by
  unfold size; split
  · exact total_le ‹_›
  · omega
theorem le_total {ws : List Int} (h : ws.all okW = true) : ws.length ≤ total ws := by
  induction ws with
  | nil => simp
  | cons w ws ih =>
    simp only [List.all_cons, Bool.and_eq_true] at h
    have h1 := okW_iff.1 h.1
    have h2 := ih h.2
    rw [total_cons, List.length_cons]; omega
theorem all_take_succ {ws : List Int} {k : Nat} (h : k < ws.length) (h1 : (ws.take k).all okW = true) (h2 : okW ws[k] = true) : (ws.take (k + 1)).all okW = true := by
  rw [List.take_succ_eq_append_getElem h, List.all_append, h1]; simp [h2]
theorem total_take_succ {ws : List Int} {k : Nat} (h : k < ws.length) : total (ws.take (k + 1)) = total (ws.take k) + ws[k].toNat := by
  rw [List.take_succ_eq_append_getElem h, total_append]; simp [total]
theorem size_bad {ws : List Int} {k : Nat} (h : k < ws.length) (h2 : okW ws[k] = false) : ws.all okW = false ∧ size ws = 0 := by
  have : ws.all okW = false := by
    rw [List.all_eq_false]
    exact ⟨ws[k], by simp, by simp [h2]⟩
  exact ⟨this, by simp [size, this]⟩
/-- A number's bytes in a width. -/
def put : Nat → Nat → List UInt8
  | 0, _ => []
  | w + 1, n => UInt8.ofNat (n % 256) :: put w (n / 256)
theorem put_length : ∀ (w n : Nat), (put w n).length = w
  | 0, _ => rfl
  | w + 1, n => by simp [put, put_length w]
theorem put_snoc : ∀ (w n : Nat), put (w + 1) n = put w n ++ [UInt8.ofNat (n / 256 ^ w % 256)]
  | 0, n => by simp [put]
  | w + 1, n => by
    rw [put, put_snoc w (n / 256), put, List.cons_append, Nat.div_div_eq_div_mul, Nat.pow_succ, Nat.mul_comm (256 ^ w)]
theorem byte_toNat (n : Nat) : (UInt8.ofNat (n % 256)).toNat = n % 256 := UInt8.toNat_ofNat_of_lt (Nat.mod_lt _ (by decide))
theorem le_put : ∀ (w n : Nat), le (put w n) = n % 256 ^ w
  | 0, n => by simp [put, le, Nat.mod_one]
  | w + 1, n => by
    have := Nat.mod_mul (x := n) (a := 256) (b := 256 ^ w)
    rw [put, le, byte_toNat, le_put w, Nat.pow_succ, Nat.mul_comm (256 ^ w), this]
theorem le_lt : ∀ (l : List UInt8), le l < 256 ^ l.length
  | [] => by simp [le]
  | c :: l => by
    have h1 := le_lt l
    have h2 := c.toNat_lt
    rw [le, List.length_cons, Nat.pow_succ]
    omega
theorem put_le : ∀ (l : List UInt8), put l.length (le l) = l
  | [] => rfl
  | c :: l => by
    have h2 := c.toNat_lt
    have e1 : (c.toNat + 256 * le l) % 256 = c.toNat := by omega
    have e2 : (c.toNat + 256 * le l) / 256 = le l := by omega
    rw [List.length_cons, put, le, e1, e2, put_le l]
    simp
/-- The bytes of numbers in widths. -/
def bytes : List Int → List Nat → Option (List UInt8)
  | [], [] => some []
  | w :: ws, n :: ns => if okW w && decide (n < 256 ^ w.toNat) then (bytes ws ns).map (put w.toNat n ++ ·) else none
  | _, _ => none
/-- The numbers of bytes by widths, and what is left. -/
def nums : List Int → List UInt8 → Option (List Nat × List UInt8)
  | [], s => some ([], s)
  | w :: ws, s => if okW w && decide (w.toNat ≤ s.length) then (nums ws (s.drop w.toNat)).map (fun p => (le (s.take w.toNat) :: p.1, p.2)) else none
/-- a text with its length ahead -/
def split : List UInt8 → Option (List UInt8 × List UInt8)
  | [] => none
  | c :: s => if c.toNat ≤ s.length then some (s.take c.toNat, s.drop c.toNat) else none
end Go.Proofs.Ytbnpldilkkhgmaa.Lend
