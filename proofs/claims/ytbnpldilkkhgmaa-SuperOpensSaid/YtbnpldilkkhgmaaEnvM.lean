/- Contracts of the reference of layer 4: sized, right, laid. Conditions: a size up to 65535, a payload that fits. -/
import Derived.Test.YtbnpldilkkhgmaaEnvD
import Derived.Test.YtbnpldilkkhgmaaLendR
import Derived.Test.YtbnpldilkkhgmaaRefSum
namespace Go.Proofs.Ytbnpldilkkhgmaa
open Go.RowKit
theorem refsized_any (x : Int) (w : World) : Calls Try.prog 38 #[.int .i64 x] w fun e w' => e = .returned (.bool (Env.okSize x)) ∧ w = w' := by
  unfold Env.okSize
  by_cases h1 : 128 ≤ x
  · by_cases h2 : x ≤ 1024
    · rw [decide_eq_true h1, decide_eq_true h2]
      go_enter Try.func38, Try.ntmps38
      go_wp2
      go_ret
      exact ⟨rfl, rfl⟩
    · have h2' : decide (x ≤ 1024) = false := decide_eq_false h2
      rw [decide_eq_true h1, h2']
      go_enter Try.func38, Try.ntmps38
      go_wp2
      go_ret
      exact ⟨rfl, rfl⟩
  · have h1' : decide (128 ≤ x) = false := decide_eq_false h1
    rw [h1']
    go_enter Try.func38, Try.ntmps38
    go_wp2
    go_ret
    exact ⟨rfl, rfl⟩
theorem refright_any (k g : Nat) (x : Int) (w : World) : Calls Try.prog 39 #[.agg #[.int .u8 (k : Int), .int .i64 x, .int .u64 (g : Int)]] w fun e w' => e = .returned (.bool (Env.okHead ⟨k, x, g⟩)) ∧ Ext w w' := by
  unfold Env.okHead Env.okAddr
  simp only
  by_cases h1 : 1 ≤ k
  · have q1 : decide ((1 : Int) ≤ (k : Int)) = true := decide_eq_true (by omega)
    by_cases h2 : k ≤ 5
    · have q2 : decide ((k : Int) ≤ 5) = true := decide_eq_true (by omega)
      rw [decide_eq_true h1, decide_eq_true h2]
      clear h1 h2
      by_cases h3 : 0 ≤ x
      · by_cases h4 : x ≤ 2147483647
        · rw [decide_eq_true h3, decide_eq_true h4]
          go_enter Try.func39, Try.ntmps39
          go_wp2_with fail
          go_ret
          exact ⟨rfl, Ext.alloc _ _⟩
        · have h4' : decide (x ≤ 2147483647) = false := decide_eq_false h4
          rw [decide_eq_true h3, h4']
          go_enter Try.func39, Try.ntmps39
          go_wp2_with fail
          go_ret
          exact ⟨rfl, Ext.alloc _ _⟩
      · have h3' : decide (0 ≤ x) = false := decide_eq_false h3
        rw [h3']
        go_enter Try.func39, Try.ntmps39
        go_wp2_with fail
        go_ret
        exact ⟨rfl, Ext.alloc _ _⟩
    · have q2 : decide ((k : Int) ≤ 5) = false := decide_eq_false (by omega)
      rw [decide_eq_true h1, decide_eq_false h2]
      clear h1 h2
      go_enter Try.func39, Try.ntmps39
      go_wp2_with fail
      go_ret
      exact ⟨rfl, Ext.alloc _ _⟩
  · have q1 : decide ((1 : Int) ≤ (k : Int)) = false := decide_eq_false (by omega)
    rw [decide_eq_false h1]
    clear h1
    go_enter Try.func39, Try.ntmps39
    go_wp2_with fail
    go_ret
    exact ⟨rfl, Ext.alloc _ _⟩
/-- the bytes of a number, as a text -/
def putT (x n : Nat) : ByteArray := ⟨(Lend.put x n).toArray⟩
theorem putT_size (x n : Nat) : (putT x n).size = x := by
  show (Lend.put x n).toArray.size = x
  rw [List.size_toArray, Lend.put_length]
theorem put_w (x n : Nat) (w : World) (hn : n < 18446744073709551616) (h1 : 1 ≤ x) (h2 : x ≤ 8) : Calls Try.prog 46 #[.int .u64 (n : Int), .int .i64 (x : Int)] w fun e w' => e = .returned (.tuple #[.string (putT x n), .bool (decide (n < 256 ^ x))]) ∧ Ext w w' := by
  have h := put_any n (x : Int) w hn
  rw [putAns, Lend.okW_true (by omega) (by omega)] at h
  exact h
theorem img_parts (size k X g : Nat) (p : ByteArray) (c : Nat) (hk : k < 256) : imgT size ⟨k, (X : Int), g⟩ p c =
    (((((((⟨#[84, 82, 78, 76]⟩ : ByteArray) ++ ⟨#[UInt8.ofNat k, 0]⟩) ++ putT 2 p.size) ++ putT 4 X) ++ putT 8 g) ++ putT 4 c) ++ p) ++ ⟨(List.replicate (size - 24 - p.size) 0).toArray⟩ := bytes_ext (by
  simp only [imgT_list, ByteArray.data_append, Array.toList_append, Env.img, putT]
  rw [show p.data.toList.length = p.size by simp]
  have e : Lend.put 1 k = [UInt8.ofNat k] := by simp [Lend.put, Nat.mod_eq_of_lt hk]
  have e0 : Lend.put 1 0 = [0] := rfl
  simp only [Env.ws, Env.nums, Lend.cat, Env.magic]
  show [84, 82, 78, 76] ++ (Lend.put 1 k ++ (Lend.put 1 0 ++ (Lend.put 2 p.size ++ (Lend.put 4 X ++ (Lend.put 8 g ++ []))))) ++ Lend.put 4 c ++ p.data.toList ++ List.replicate (size - 24 - p.size) 0 = _
  rw [e, e0]
  simp only [List.append_assoc, List.append_nil]
  rfl)
set_option maxRecDepth 100000 in
set_option maxHeartbeats 2000000 in
theorem laid_any (size k X g : Nat) (p : ByteArray) (c : Nat) (w : World) (hk : k < 256) (hX : X < 4294967296) (hg : g < 18446744073709551616) (hc : c < 4294967296) (hs : 24 + p.size ≤ size) (hs2 : size ≤ 65535) :
    Calls Try.prog 40 #[.int .i64 (size : Int), .agg #[.int .u8 (k : Int), .int .i64 (X : Int), .int .u64 (g : Int)], .string p, .int .u64 (c : Int)] w fun e w' => e = .returned (.string (imgT size ⟨k, X, g⟩ p c)) ∧ Ext w w' := by
  rw [img_parts size k X g p c hk]
  have hpn := fun w => put_w 2 p.size w (by omega) (by decide) (by decide)
  have hpa := fun w => put_w 4 X w (by omega) (by decide) (by decide)
  have hpg := fun w => put_w 8 g w hg (by decide) (by decide)
  have hpc := fun w => put_w 4 c w (by omega) (by decide) (by decide)
  have sn := putT_size 2 p.size
  have sa := putT_size 4 X
  have sg := putT_size 8 g
  have sc := putT_size 4 c
  generalize putT 2 p.size = N at *
  generalize putT 4 X = A at *
  generalize putT 8 g = G at *
  generalize putT 4 c = C at *
  generalize decide (p.size < 256 ^ 2) = B1 at *
  generalize decide (X < 256 ^ 4) = B2 at *
  generalize decide (g < 256 ^ 8) = B3 at *
  generalize decide (c < 256 ^ 4) = B4 at *
  have hcv : ∀ w : World, (convert 48 9 (.slice (some ⟨w.heap.size, 0, none⟩) 2 2)).run Try.prog (w.alloc (.cells #[.int .u8 (k : Int), .int .u8 0] 5)) = .ok (.string ⟨#[UInt8.ofNat k, 0]⟩) (w.alloc (.cells #[.int .u8 (k : Int), .int .u8 0] 5)) := by
    intro w
    have h9 := conv_two w (UInt8.ofNat k) 0 2
    rw [show (UInt8.ofNat k).toNat = k from (UInt8.toNat_ofNat).trans (Nat.mod_eq_of_lt hk)] at h9
    exact h9
  obtain ⟨K, hK0⟩ : ∃ K : ByteArray, ⟨#[UInt8.ofNat k, 0]⟩ = K := ⟨_, rfl⟩
  have sk : K.size = 2 := by rw [← hK0]; rfl
  rw [hK0] at hcv ⊢
  clear hK0
  obtain ⟨R, hR0⟩ : ∃ R : ByteArray, ⟨(List.replicate (size - 24 - p.size) 0).toArray⟩ = R := ⟨_, rfl⟩
  have hR : R.size = size - 24 - p.size := by
    rw [← hR0]
    show (List.replicate (size - 24 - p.size) (0 : UInt8)).toArray.size = _
    simp
  rw [hR0]
  have HR := Lib.hid hR0; clear hR0
  have hw1 : IntKind.u64.wrap (p.size : Int) = (p.size : Int) := by rw [IntKind.wrap_u64]; omega
  have hw3 : IntKind.u64.wrap (X : Int) = (X : Int) := by rw [IntKind.wrap_u64]; omega
  have s1 : ((⟨#[84, 82, 78, 76]⟩ : ByteArray) ++ K).size = 6 := by rw [ByteArray.size_append]; show 4 + K.size = 6; omega
  have s2 : ((⟨#[84, 82, 78, 76]⟩ : ByteArray) ++ K ++ N).size = 8 := by rw [ByteArray.size_append]; omega
  have s3 : ((⟨#[84, 82, 78, 76]⟩ : ByteArray) ++ K ++ N ++ A).size = 12 := by rw [ByteArray.size_append]; omega
  have s4 : ((⟨#[84, 82, 78, 76]⟩ : ByteArray) ++ K ++ N ++ A ++ G).size = 20 := by rw [ByteArray.size_append]; omega
  have s5 : ((⟨#[84, 82, 78, 76]⟩ : ByteArray) ++ K ++ N ++ A ++ G ++ C).size = 24 := by rw [ByteArray.size_append]; omega
  have s6 : ((⟨#[84, 82, 78, 76]⟩ : ByteArray) ++ K ++ N ++ A ++ G ++ C ++ p).size = 24 + p.size := by rw [ByteArray.size_append]; omega
  go_enter Try.func40, Try.ntmps40
  go_wp2_with fail
  refine (hpn _).mono ?_
  rintro e w1 ⟨rfl, he1⟩
  have c0 := cell_ext (World.cell?_alloc_new w _ _ 0) he1
  have c1 := cell_ext (World.cell?_alloc_new w _ _ 1) he1
  have c2 := cell_ext (World.cell?_alloc_new w _ _ 2) he1
  replace he1 := (Ext.alloc w _).trans he1
  go_wp2_with fail
  refine (hpa _).mono ?_
  rintro e w2 ⟨rfl, he2⟩
  replace c0 := cell_ext c0 he2
  replace c2 := cell_ext c2 he2
  go_wp2_with fail
  refine (hpg _).mono ?_
  rintro e w3 ⟨rfl, he3⟩
  replace c0 := cell_ext c0 he3
  go_wp2_with fail
  refine (hpc _).mono ?_
  rintro e w4 ⟨rfl, he4⟩
  replace c0 := cell_ext c0 he4
  go_wp2_with fail
  obtain ⟨z, hz⟩ : ∃ z, size - 24 - p.size = z := ⟨_, rfl⟩
  rw [hz] at hR HR
  rw [show (size : Int) - (24 + (p.size : Int)) = (z : Int) by omega]
  have he5 := Ext.alloc w4 (.cells #[.int .u8 (k : Int), .int .u8 0] 5)
  generalize w4.alloc (.cells #[.int .u8 (k : Int), .int .u8 0] 5) = w5 at *
  obtain ⟨w6, hmk, hrow, he6, _⟩ := make_bytes w5 z (by omega)
  have hcv2 := conv_string w6 w5.heap.size z _ hrow
  rw [List.length_replicate, HR.out] at hcv2
  have hq : ¬ 9223372036854775807 < 24 + p.size + R.size := by omega
  rw [hmk]
  clear hrow hmk
  go_wp2_with fail
  go_ret
  exact ⟨rfl, he1.trans (he2.trans (he3.trans (he4.trans (he5.trans he6))))⟩
end Go.Proofs.Ytbnpldilkkhgmaa
