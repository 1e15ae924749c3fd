/- Contracts of msg.Number and msg.Value, and of lend.Read and lend.Write by one width of 8. -/
import Derived.Test.YtemhflafiephpaaMsgSpec
import Derived.Test.YtemhflafiephpaaLendRead
namespace Go.Proofs.Ytemhflafiephpaa
open Go.RowKit
theorem ints_new1 (w : World) (x : Int) (k : IntKind) (T : TypeId) : Ints k (w.alloc (.cells #[.int k x] T)) (some ⟨w.heap.size, 0, none⟩) [x] := by
  intro i h
  refine ⟨w.heap.size, 0, rfl, ?_⟩
  match i, h with
  | 0, _ => exact World.cell?_alloc_new _ _ _ _
theorem world_size (w : World) (o : Obj) : (w.alloc o).heap.size = w.heap.size + 1 := by simp
theorem nums8 (l : List UInt8) : Lend.nums [8] l = if 8 ≤ l.length then some ([Crc.le (l.take 8)], l.drop 8) else none := by
  rw [Lend.nums_eq]
  have e : Lend.total [8] = 8 := rfl
  have e2 : ([8] : List Int).all Lend.okW = true := by decide
  rw [e, e2]
  by_cases h : 8 ≤ l.length <;> simp [h, Lend.cut]
theorem read8_no (s : ByteArray) (T : TypeId) (c : Nat) (w : World) (h : s.size < 8) : Calls Try.prog 42 #[.slice (some ⟨w.heap.size, 0, none⟩) 1 c, .string s] (w.alloc (.cells #[.int .i64 8] T)) fun e w' =>
    e = .returned (.tuple #[.slice none 0 0, .string ⟨#[]⟩, .bool false]) ∧ Ext w w' := by
  refine (read_any [8] s _ c _ (by decide) (by unfold maxLen; omega) (ints_new1 w 8 .i64 T)).mono fun e w' hp => ?_
  obtain ⟨h1, h2⟩ := readPost_none (by rw [nums8, if_neg (by simp; omega)]) hp
  exact ⟨h1, (Ext.alloc _ _).trans h2⟩
theorem read8_yes (s : ByteArray) (T : TypeId) (c : Nat) (w : World) (h : 8 ≤ s.size) (hs : s.size ≤ maxLen) : Calls Try.prog 42 #[.slice (some ⟨w.heap.size, 0, none⟩) 1 c, .string s] (w.alloc (.cells #[.int .i64 8] T)) fun e w' =>
    ∃ b o d, e = .returned (.tuple #[.slice (some ⟨b, o, none⟩) 1 d, .string (s.extract 8 s.size), .bool true]) ∧ w'.cell? ⟨b, o, none⟩ = some (.int .u64 (Crc.le (s.data.toList.take 8) : Nat)) ∧ Ext w w' := by
  refine (read_any [8] s _ c _ (by decide) hs (ints_new1 w 8 .i64 T)).mono fun e w' hp => ?_
  obtain ⟨a, d, rfl, h1, h2⟩ := readPost_some (by rw [nums8, if_pos (by simpa using h)]) hp
  obtain ⟨b, o, rfl, h3⟩ := h1.at 0 (by simp)
  have e : s.extract 8 s.size = ⟨(s.data.toList.drop 8).toArray⟩ := bytes_ext (by rw [ext_data, List.take_of_length_le (by simp)])
  exact ⟨b, o, d, by rw [e]; rfl, h3, (Ext.alloc _ _).trans h2⟩
theorem write8_ans (n : Nat) (hn : n < 18446744073709551616) : wAns [8] [n] = .tuple #[.string (Msg.val n), .bool true] := by
  rw [wAns_some (l := Lend.put 8 n)]
  · rfl
  · have e : Lend.okW 8 = true := by decide
    simpa [Lend.bytes, e] using hn
theorem write8_new (n : Nat) (T U : TypeId) (c d : Nat) (w : World) (hn : n < 18446744073709551616) : Calls Try.prog 43 #[.slice (some ⟨w.heap.size, 0, none⟩) 1 c, .slice (some ⟨w.heap.size + 1, 0, none⟩) 1 d] ((w.alloc (.cells #[.int .i64 8] T)).alloc (.cells #[.int .u64 (n : Int)] U)) fun e w' =>
    e = .returned (.tuple #[.string (Msg.val n), .bool true]) ∧ Ext w w' := by
  have e1 := (Ext.alloc w (.cells #[.int .i64 8] T))
  have h1 := ints_new1 w 8 .i64 T
  generalize hw1 : w.alloc (.cells #[.int .i64 8] T) = w1 at *
  have hz : w1.heap.size = w.heap.size + 1 := by rw [← hw1, world_size]
  rw [← hz]
  have h := write_any [8] [n] (some ⟨w.heap.size, 0, none⟩) (some ⟨w1.heap.size, 0, none⟩) c d (w1.alloc (.cells #[.int .u64 (n : Int)] U)) (by decide) (by intro x hx; simp at hx; omega) (h1.ext (Ext.alloc _ _)) (ints_new1 w1 n .u64 U)
  rw [write8_ans n hn] at h
  exact h.mono fun e w' ⟨h1, h2⟩ => ⟨h1, e1.trans ((Ext.alloc _ _).trans h2)⟩
/-- what Number answers -/
def numAns (s : ByteArray) : Value := if s.size = 8 then .tuple #[.int .u64 (Msg.num s : Nat), .bool true] else .tuple #[.int .u64 0, .bool false]
theorem numAns_yes {s : ByteArray} (h : s.size = 8) : numAns s = .tuple #[.int .u64 (Msg.num s : Nat), .bool true] := if_pos h
theorem numAns_no {s : ByteArray} (h : ¬ s.size = 8) : numAns s = .tuple #[.int .u64 0, .bool false] := if_neg h
theorem number_any (s : ByteArray) (w : World) (hs : s.size ≤ maxLen) : Calls Try.prog 13 #[.string s] w fun e w' => e = .returned (numAns s) ∧ Ext w w' := by
  by_cases h8 : s.size < 8
  · rw [numAns_no (by omega)]
    go_enter Try.func13, Try.ntmps13
    go_wp2_with fail
    refine (read8_no s _ _ _ h8).mono ?_
    rintro e w1 ⟨rfl, he1⟩
    go_wp2_with fail
    go_ret2
    exact ⟨rfl, he1⟩
  · by_cases h9 : s.size = 8
    · rw [numAns_yes h9]
      have hnum : Crc.le (s.data.toList.take 8) = Msg.num s := by rw [Msg.num, List.take_of_length_le (by simp; omega)]
      have hx : s.extract 8 s.size = ByteArray.empty := by apply ByteArray.ext; simp; omega
      go_enter Try.func13, Try.ntmps13
      go_wp2_with fail
      refine (read8_yes s _ _ _ (by omega) hs).mono ?_
      rintro e w1 ⟨b, o, d, rfl, hc, he1⟩
      rw [hx]
      rw [hnum] at hc
      go_wp2_with fail
      go_ret2
      exact ⟨rfl, he1⟩
    · rw [numAns_no h9]
      go_enter Try.func13, Try.ntmps13
      have hR : 0 < (s.extract 8 s.size).size := by simp; omega
      obtain ⟨n1, n2⟩ := isEmpty_of_pos hR
      generalize hRR : s.extract 8 s.size = R at *
      have HRR := Lib.hid hRR; clear hRR
      go_wp2_with fail
      refine (read8_yes s _ _ _ (by omega) hs).mono ?_
      rintro e w1 ⟨b, o, d, rfl, hc, he1⟩
      rw [HRR.out]
      go_wp2_with fail
      go_ret2
      exact ⟨rfl, he1⟩
theorem value_any (n : Nat) (w : World) (hn : n < 18446744073709551616) : Calls Try.prog 15 #[.int .u64 n] w fun e w' => e = .returned (.string (Msg.val n)) ∧ Ext w w' := by
  go_enter Try.func15, Try.ntmps15
  go_wp2_with fail
  refine (write8_new n _ _ _ _ _ hn).mono ?_
  rintro e w1 ⟨rfl, he1⟩
  go_wp2_with fail
  go_ret
  exact ⟨rfl, he1⟩
end Go.Proofs.Ytemhflafiephpaa
