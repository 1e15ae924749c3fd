/- What layer 4 computes: images. -/
import Derived.Test.YtbnpldilkkhgmaaLendW
import Derived.Test.YtbnpldilkkhgmaaLendS
namespace Go.Proofs.Ytbnpldilkkhgmaa.Env
def okSize (n : Int) : Bool := decide (128 ≤ n) && decide (n ≤ 1024)
def okAddr (a : Int) : Bool := decide (0 ≤ a) && decide (a ≤ 2147483647)
/-- a head -/
structure Hd where
  kind : Nat
  addr : Int
  gen : Nat
def okHead (h : Hd) : Bool := (decide (1 ≤ h.kind) && decide (h.kind ≤ 5)) && okAddr h.addr
theorem okSize_iff {n : Int} : okSize n = true ↔ 128 ≤ n ∧ n ≤ 1024 := by simp [okSize]
theorem okAddr_iff {n : Int} : okAddr n = true ↔ 0 ≤ n ∧ n ≤ 2147483647 := by simp [okAddr]
theorem okHead_iff {h : Hd} : okHead h = true ↔ (1 ≤ h.kind ∧ h.kind ≤ 5) ∧ 0 ≤ h.addr ∧ h.addr ≤ 2147483647 := by simp [okHead, okAddr]
def nums (h : Hd) (n : Nat) : List Nat := [h.kind, 0, n, h.addr.toNat, h.gen]
def ws : List Int := [1, 1, 2, 4, 8]
def magic : List UInt8 := [84, 82, 78, 76]
/-- the image of a size, a head, a payload and a check -/
def img (size : Nat) (h : Hd) (p : List UInt8) (c : Nat) : List UInt8 :=
  magic ++ Lend.cat ws (nums h p.length) ++ Lend.put 4 c ++ p ++ List.replicate (size - 24 - p.length) 0
theorem cat_len (h : Hd) (n : Nat) : (Lend.cat ws (nums h n)).length = 16 := by
  simp [ws, nums, Lend.cat, Lend.put_length]
theorem img_length {size : Nat} {h : Hd} {p : List UInt8} {c : Nat} (hs : 24 + p.length ≤ size) : (img size h p c).length = size := by
  simp [img, magic, cat_len, Lend.put_length]; omega
theorem bytes_ok {h : Hd} {n : Nat} (hk : h.kind < 256) (hn : n < 65536) (ha : h.addr.toNat < 4294967296) (hg : h.gen < 18446744073709551616) : Lend.bytes ws (nums h n) = some (Lend.cat ws (nums h n)) := by
  rw [Lend.bytes_eq rfl, if_pos]
  rw [Bool.and_eq_true]
  refine ⟨by decide, (Lend.fit_iff rfl).2 fun k h1 h2 => ?_⟩
  match k, h1 with
  | 0, _ => exact hk
  | 1, _ => exact (by decide : (0 : Nat) < 256)
  | 2, _ => exact hn
  | 3, _ => exact ha
  | 4, _ => exact hg
end Go.Proofs.Ytbnpldilkkhgmaa.Env
