/- Contracts of env.bare and env.with. -/
import Derived.Test.YtbnpldilkkhgmaaEnvA
import Derived.Test.YtbnpldilkkhgmaaShelf
namespace Go.Proofs.Ytbnpldilkkhgmaa
open Go.RowKit
theorem repeat0 : ∀ c : Nat, Lib.repeatL [0] c = List.replicate c (0 : UInt8)
  | 0 => rfl
  | c + 1 => by rw [Lib.repeatL, repeat0 c, List.replicate_succ]; rfl
theorem repeat_any (c : Nat) (w : World) (hc : c ≤ 1000000) : Calls Try.prog 55 #[.string ⟨#[0]⟩, .int .i64 (c : Int)] w fun e w' => e = .returned (.string ⟨(List.replicate c 0).toArray⟩) ∧ Ext w w' := by
  have h := Try.strings_Repeat ⟨#[0]⟩ c w (by omega) (by show 1 * c ≤ _; omega)
  have e : Lib.repeatL (⟨#[0]⟩ : ByteArray).data.toList c = List.replicate c 0 := repeat0 c
  rw [e] at h
  exact h
theorem bytes_one {x : Int} {n : Nat} (hx : Lend.okW x = true) (hn : n < 256 ^ x.toNat) : Lend.bytes [x] [n] = some (Lend.put x.toNat n) := by
  simp [Lend.bytes, hx, hn]
theorem ints_one (w : World) (x : Int) (k : IntKind) (T : TypeId) : Ints k (w.alloc (.cells #[.int k x] T)) (some ⟨w.heap.size, 0, none⟩) [x] := ints_new w k T [x] rfl
theorem write1_new (x : Int) (n : Nat) (T U : TypeId) (c d : Nat) (w : World) (hx : Lend.okW x = true) (hn : n < 256 ^ x.toNat) (hs : n < 18446744073709551616) : Calls Try.prog 44 #[.slice (some ⟨w.heap.size, 0, none⟩) 1 c, .slice (some ⟨w.heap.size + 1, 0, none⟩) 1 d] ((w.alloc (.cells #[.int .i64 x] T)).alloc (.cells #[.int .u64 (n : Int)] U)) fun e w' =>
    e = .returned (.tuple #[.string ⟨(Lend.put x.toNat n).toArray⟩, .bool true]) ∧ Ext w w' := by
  have e1 := (Ext.alloc w (.cells #[.int .i64 x] T))
  have h1 := ints_one w x .i64 T
  generalize hw1 : w.alloc (.cells #[.int .i64 x] T) = w1 at *
  have hz : w1.heap.size = w.heap.size + 1 := by rw [← hw1]; simp
  rw [← hz]
  have h := write_any [x] [n] (some ⟨w.heap.size, 0, none⟩) (some ⟨w1.heap.size, 0, none⟩) c d (w1.alloc (.cells #[.int .u64 (n : Int)] U)) (by simp) (by intro y hy; simp at hy; omega) (h1.ext (Ext.alloc _ _)) (ints_one w1 n .u64 U)
  rw [wAns_some (bytes_one hx hn)] at h
  exact h.mono fun e w' ⟨h1, h2⟩ => ⟨h1, e1.trans ((Ext.alloc _ _).trans h2)⟩
theorem write_ok {vs : List Int} {ns : List Nat} {l : List UInt8} {v b : Value} {n : Nat} (hn : vs.length = n) (hm : ns.length = n) (hl : n ≤ 1000) (hb : Lend.bytes vs ns = some l) (hs : SmallN ns) (w : World) (hv : SlI .i64 n vs v w) (hb2 : SlI .u64 n (ns.map Int.ofNat) b w) :
    Calls Try.prog 44 #[v, b] w fun e w' => e = .returned (.tuple #[.string ⟨l.toArray⟩, .bool true]) ∧ Ext w w' := by
  obtain ⟨a, ca, rfl, hI⟩ := hv
  obtain ⟨b, cb, rfl, hJ⟩ := hb2
  subst hn
  have h := write_any vs ns a b ca cb w hl hs hI hJ
  rw [hm, wAns_some hb] at h
  exact h
theorem with_any (s : ByteArray) (c : Nat) (w : World) (hl : 24 ≤ s.size) (hl2 : s.size ≤ maxLen) (hc : c < 4294967296) : Calls Try.prog 37 #[.string s, .int .u32 (c : Int)] w fun e w' => e = .returned (.string ⟨(s.data.toList.take 20 ++ Lend.put 4 c ++ s.data.toList.drop 24).toArray⟩) ∧ Ext w w' := by
  have e : (⟨(s.data.toList.take 20 ++ Lend.put 4 c ++ s.data.toList.drop 24).toArray⟩ : ByteArray) = s.extract 0 20 ++ ⟨(Lend.put 4 c).toArray⟩ ++ s.extract 24 s.size := bytes_ext (by
    simp only [ByteArray.data_append, Array.toList_append, ext_data]
    rw [List.take_of_length_le (show s.data.toList.length ≤ s.size by simp)]
    simp)
  rw [e]
  clear e
  unfold maxLen at hl2
  have hb1 : (20 : Int) ≤ (s.size : Int) := by omega
  have hb2 : (24 : Int) ≤ (s.size : Int) := by omega
  have hA1 : (s.extract 0 20).size = 20 := by simp; omega
  have hC1 : (s.extract 24 s.size).size ≤ s.size - 24 := by simp
  have hB1 : (⟨(Lend.put 4 c).toArray⟩ : ByteArray).size = 4 := by show (Lend.put 4 c).toArray.size = 4; rw [List.size_toArray, Lend.put_length]
  have hw := write1_new 4 c
  obtain ⟨A, hA⟩ : ∃ A, s.extract 0 20 = A := ⟨_, rfl⟩
  obtain ⟨C, hC⟩ : ∃ C, s.extract 24 s.size = C := ⟨_, rfl⟩
  obtain ⟨B, hB⟩ : ∃ B : ByteArray, ⟨(Lend.put 4 c).toArray⟩ = B := ⟨_, rfl⟩
  rw [hA] at hA1
  rw [hC] at hC1
  rw [hB] at hB1
  rw [hA, hB, hC]
  have HB := Lib.hid hB; clear hB
  have hAB : (A ++ B).size = 24 := by rw [ByteArray.size_append]; omega
  have hq1 : ¬ 9223372036854775807 < 24 + C.size := by omega
  go_enter Try.func37, Try.ntmps37
  go_wp2_with fail
  refine (hw _ _ _ _ _ (by decide) hc (by omega)).mono ?_
  rw [show (⟨(Lend.put (4 : Int).toNat c).toArray⟩ : ByteArray) = B from HB.out]
  clear hw
  rintro e w1 ⟨rfl, he1⟩
  go_wp2_with fail
  go_quiet (fail)
  go_wp2_with fail
  go_ret
  exact ⟨rfl, he1.trans (Ext.drewN _ _)⟩
end Go.Proofs.Ytbnpldilkkhgmaa
