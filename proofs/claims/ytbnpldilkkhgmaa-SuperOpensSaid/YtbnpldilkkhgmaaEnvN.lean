/- Contract of the reference's Seal. -/
import Derived.Test.YtbnpldilkkhgmaaEnvM
namespace Go.Proofs.Ytbnpldilkkhgmaa
open Go.RowKit
set_option maxRecDepth 100000 in
set_option maxHeartbeats 2000000 in
theorem refseal_bad (size : Int) (k g : Nat) (x : Int) (p : ByteArray) (w : World) (hb : (Env.okSize size && Env.okHead ⟨k, x, g⟩) = false) : Calls Try.prog 15 #[.int .i64 size, .agg #[.int .u8 (k : Int), .int .i64 x, .int .u64 (g : Int)], .string p] w fun e w' =>
    e = .returned (.tuple #[.string ⟨#[]⟩, .int .u64 0, .int .i64 2]) ∧ Ext w w' := by
  cases h1 : Env.okSize size with
  | false =>
    have H1 := Lib.hid h1; clear h1 hb
    obtain ⟨B, hB⟩ : ∃ B, Env.okHead ⟨k, x, g⟩ = B := ⟨_, rfl⟩
    have HB := Lib.hid hB; clear hB
    go_enter Try.func15, Try.ntmps15
    go_wp2_with fail
    refine (refsized_any _ _).mono ?_
    rw [H1.out]
    rintro e w1 ⟨rfl, he⟩
    subst he
    go_wp2_with fail
    refine (refright_any k g x _).mono ?_
    rw [HB.out]
    rintro e w1 ⟨rfl, he1⟩
    go_wp2_with fail
    go_ret3
    exact ⟨rfl, (Ext.alloc _ _).trans he1⟩
  | true =>
    rw [h1, Bool.true_and] at hb
    have H1 := Lib.hid h1; have H2 := Lib.hid hb; clear h1 hb
    go_enter Try.func15, Try.ntmps15
    go_wp2_with fail
    refine (refsized_any _ _).mono ?_
    rw [H1.out]
    rintro e w1 ⟨rfl, he⟩
    subst he
    go_wp2_with fail
    refine (refright_any k g x _).mono ?_
    rw [H2.out]
    rintro e w1 ⟨rfl, he1⟩
    go_wp2_with fail
    go_ret3
    exact ⟨rfl, (Ext.alloc _ _).trans he1⟩
set_option maxRecDepth 100000 in
set_option maxHeartbeats 2000000 in
theorem refseal_long (size : Int) (k g : Nat) (x : Int) (p : ByteArray) (w : World) (h1 : Env.okSize size = true) (h2 : Env.okHead ⟨k, x, g⟩ = true) (hl : size - 24 < p.size) : Calls Try.prog 15 #[.int .i64 size, .agg #[.int .u8 (k : Int), .int .i64 x, .int .u64 (g : Int)], .string p] w fun e w' =>
    e = .returned (.tuple #[.string ⟨#[]⟩, .int .u64 0, .int .i64 20]) ∧ Ext w w' := by
  have hb := Env.okSize_iff.1 h1
  have H1 := Lib.hid h1; have H2 := Lib.hid h2; clear h1 h2
  have hd : decide (size - 24 < (p.size : Int)) = true := decide_eq_true hl
  go_enter Try.func15, Try.ntmps15
  go_wp2_with fail
  refine (refsized_any _ _).mono ?_
  rw [H1.out]
  rintro e w1 ⟨rfl, he⟩
  subst he
  go_wp2_with fail
  refine (refright_any k g x _).mono ?_
  rw [H2.out]
  rintro e w1 ⟨rfl, he1⟩
  go_wp2_with fail
  go_ret3
  exact ⟨rfl, (Ext.alloc _ _).trans he1⟩
set_option maxRecDepth 100000 in
set_option maxHeartbeats 2000000 in
theorem refseal_ok (size k X g : Nat) (p : ByteArray) (w : World) (hh : Env.okHead ⟨k, X, g⟩ = true) (hg : g < 18446744073709551616) (hs : 24 + p.size ≤ size) (hs1 : 128 ≤ size) (hs2 : size ≤ 1024) :
    Calls Try.prog 15 #[.int .i64 (size : Int), .agg #[.int .u8 (k : Int), .int .i64 (X : Int), .int .u64 (g : Int)], .string p] w fun e w' =>
      e = .returned (.tuple #[.string (imgT size ⟨k, X, g⟩ p (sumT size ⟨k, X, g⟩ p)), .int .u64 (sumT size ⟨k, X, g⟩ p : Nat), .int .i64 0]) ∧ Ext w w' := by
  have hhb := Env.okHead_iff.1 hh
  simp only at hhb
  have hok := Lib.hid (Env.okSize_iff.2 (show 128 ≤ (size : Int) ∧ (size : Int) ≤ 1024 by omega))
  have HH := Lib.hid hh; clear hh
  have hcl : sumT size ⟨k, X, g⟩ p < 4294967296 := Crc.sum_lt _
  have hsz := imgT_size (h := ⟨k, X, g⟩) (c := 0) hs
  have hsum := Lib.hid (show Crc.sum (imgT size ⟨k, X, g⟩ p 0).data.toList = sumT size ⟨k, X, g⟩ p from rfl)
  have hl0 := fun w => laid_any size k X g p 0 w (by omega) (by omega) hg (by decide) hs (by omega)
  have hl1 := fun w => laid_any size k X g p _ w (by omega) (by omega) hg hcl hs (by omega)
  generalize sumT size ⟨k, X, g⟩ p = c at *
  generalize imgT size ⟨k, X, g⟩ p c = T at *
  generalize imgT size ⟨k, X, g⟩ p 0 = I at *
  have hnl : decide ((size : Int) - 24 < (p.size : Int)) = false := decide_eq_false (by omega)
  go_enter Try.func15, Try.ntmps15
  go_wp2_with fail
  refine (refsized_any _ _).mono ?_
  rw [hok.out]
  rintro e w1 ⟨rfl, he⟩
  subst he
  go_wp2_with fail
  refine (refright_any k g X _).mono ?_
  rw [HH.out]
  rintro e w1 ⟨rfl, he1⟩
  have c0 := cell_ext (World.cell?_alloc_new w _ _ 0) he1
  have c1 := cell_ext (World.cell?_alloc_new w _ _ 1) he1
  have c2 := cell_ext (World.cell?_alloc_new w _ _ 2) he1
  have he1 := (Ext.alloc w _).trans he1
  go_wp2_with fail
  refine (hl0 _).mono ?_
  rintro e w2 ⟨rfl, he2⟩
  replace c0 := cell_ext c0 he2
  replace c1 := cell_ext c1 he2
  replace c2 := cell_ext c2 he2
  go_wp2_with fail
  refine (refof_any I _ (by unfold maxLen; omega)).mono ?_
  rw [hsum.out]
  rintro e w3 ⟨rfl, he⟩
  subst he
  go_wp2_with fail
  refine (hl1 _).mono ?_
  rintro e w3 ⟨rfl, he3⟩
  go_wp2_with fail
  go_ret3
  exact ⟨rfl, he1.trans (he2.trans he3)⟩
end Go.Proofs.Ytbnpldilkkhgmaa
