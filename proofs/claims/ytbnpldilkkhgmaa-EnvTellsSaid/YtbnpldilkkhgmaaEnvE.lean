/- Contract of env.parts. -/
import Derived.Test.YtbnpldilkkhgmaaEnvD
import Derived.Test.YtbnpldilkkhgmaaOwnJ
namespace Go.Proofs.Ytbnpldilkkhgmaa
open Go.RowKit
namespace Env
def ws6 : List Int := [1, 1, 2, 4, 8, 4]
/-- the numbers of an image behind the magic -/
structure Six where
  k : Nat
  z : Nat
  n : Nat
  a : Nat
  g : Nat
  c : Nat
def six (l : List UInt8) : Six := ⟨Crc.le (l.take 1), Crc.le ((l.drop 1).take 1), Crc.le ((l.drop 2).take 2), Crc.le ((l.drop 4).take 4), Crc.le ((l.drop 8).take 8), Crc.le ((l.drop 16).take 4)⟩
theorem cut6 (l : List UInt8) : Lend.cut ws6 l = [(six l).k, (six l).z, (six l).n, (six l).a, (six l).g, (six l).c] := by
  simp [Lend.cut, ws6, six, List.drop_drop]
theorem le_take {l : List UInt8} (n : Nat) : Crc.le (l.take n) < 256 ^ n := by
  have h := Lend.le_lt (l.take n)
  have : (l.take n).length ≤ n := by rw [List.length_take]; omega
  exact Nat.lt_of_lt_of_le h (Nat.pow_le_pow_right (by decide) this)
theorem six_lt (l : List UInt8) : (six l).k < 256 ∧ (six l).n < 65536 ∧ (six l).a < 4294967296 ∧ (six l).g < 18446744073709551616 ∧ (six l).c < 4294967296 :=
  ⟨le_take 1, le_take 2, le_take 4, le_take 8, le_take 4⟩
/-- what an image says of itself, its payload, its check -/
def parts (s : ByteArray) : Option (Hd × ByteArray × Nat) :=
  let q := six (s.data.toList.drop 4)
  if (Lib.hasPrefix s.data.toList magic && okSize s.size) && (okHead ⟨q.k, q.a, q.g⟩ && decide (q.n ≤ s.size - 24)) then some (⟨q.k, q.a, q.g⟩, s.extract 24 (24 + q.n), q.c) else none
end Env
theorem own_widths (w : World) : Calls Try.prog 54 #[] w fun e w' => (∃ v, e = .returned v ∧ OwnI w' w.heap.size v Env.ws) ∧ Ext w w' := by
  go_enter Try.func54, Try.ntmps54
  go_wp2_with fail
  go_ret
  exact ⟨⟨_, rfl, rfl, .inr ⟨w.heap.size, 5, _, rfl, Nat.le_refl _, heap_alloc_new w _, by decide, by decide, rfl, rfl⟩⟩, Ext.alloc _ _⟩
/-- the reading of the six numbers -/
theorem read6 (s : ByteArray) (a : Option Addr) (ca : Nat) (w : World) (hs : 20 ≤ s.size) (hm : s.size ≤ maxLen) (hI : Ints .i64 w a Env.ws6) : Calls Try.prog 47 #[.slice a 6 ca, .string s] w fun e w' =>
    ∃ b o d, e = .returned (.tuple #[.slice (some ⟨b, o, none⟩) 6 d, .string (s.extract 20 s.size), .bool true]) ∧
      (w'.cell? ⟨b, o, none⟩ = some (.int .u64 ((Env.six s.data.toList).k : Int)) ∧ w'.cell? ⟨b, o + 2, none⟩ = some (.int .u64 ((Env.six s.data.toList).n : Int)) ∧ w'.cell? ⟨b, o + 3, none⟩ = some (.int .u64 ((Env.six s.data.toList).a : Int)) ∧
       w'.cell? ⟨b, o + 4, none⟩ = some (.int .u64 ((Env.six s.data.toList).g : Int)) ∧ w'.cell? ⟨b, o + 5, none⟩ = some (.int .u64 ((Env.six s.data.toList).c : Int))) ∧ Ext w w' := by
  have hn : Lend.nums Env.ws6 s.data.toList = some (Lend.cut Env.ws6 s.data.toList, s.data.toList.drop 20) := by
    rw [Lend.nums_eq, if_pos]
    · rfl
    · rw [Bool.and_eq_true]; exact ⟨by decide, decide_eq_true (by show 20 ≤ s.data.toList.length; simpa using hs)⟩
  rw [Env.cut6] at hn
  refine (read_any Env.ws6 s a ca w (by decide) hm hI).mono fun e w' hp => ?_
  obtain ⟨x, d, rfl, h1, h2⟩ := readPost_some hn hp
  obtain ⟨b, o, rfl, c0⟩ := h1.at 0 (by simp)
  obtain ⟨b', o', e', c2⟩ := h1.at 2 (by simp)
  cases e'
  obtain ⟨b', o', e', c3⟩ := h1.at 3 (by simp)
  cases e'
  obtain ⟨b', o', e', c4⟩ := h1.at 4 (by simp)
  cases e'
  obtain ⟨b', o', e', c5⟩ := h1.at 5 (by simp)
  cases e'
  have e : s.extract 20 s.size = ⟨(s.data.toList.drop 20).toArray⟩ := bytes_ext (by rw [ext_data, List.take_of_length_le (by simp)])
  exact ⟨b, o, d, by rw [e]; rfl, ⟨c0, c2, c3, c4, c5⟩, h2⟩
def hdZ : Array Value := #[.int .u8 0, .int .i64 0, .int .u64 0]
def hdC (k : Nat) (a : Int) (g : Nat) : Array Value := #[.int .u8 (k : Int), .int .i64 a, .int .u64 (g : Int)]
/-- what parts answers -/
def partsAns (s : ByteArray) : Value := match Env.parts s with
  | some (h, p, c) => .tuple #[.agg (hdC h.kind h.addr h.gen), .string p, .int .u32 (c : Int), .bool true]
  | none => .tuple #[.agg hdZ, .string ⟨#[]⟩, .int .u32 0, .bool false]
theorem parts_none {s : ByteArray} (h : Env.parts s = none) : partsAns s = .tuple #[.agg hdZ, .string ⟨#[]⟩, .int .u32 0, .bool false] := by unfold partsAns; rw [h]
theorem parts_some {s : ByteArray} {h : Env.Hd} {p : ByteArray} {c : Nat} (e : Env.parts s = some (h, p, c)) : partsAns s = .tuple #[.agg (hdC h.kind h.addr h.gen), .string p, .int .u32 (c : Int), .bool true] := by unfold partsAns; rw [e]
end Go.Proofs.Ytbnpldilkkhgmaa
