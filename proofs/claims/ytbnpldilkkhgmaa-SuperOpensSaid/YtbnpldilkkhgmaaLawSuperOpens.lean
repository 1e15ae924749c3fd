/- The walk of law05.SuperOpens. -/
import Derived.Test.YtbnpldilkkhgmaaSupI
import Derived.Test.YtbnpldilkkhgmaaLaw05
namespace Go.Proofs.Ytbnpldilkkhgmaa
open Go.RowKit
/-- a slice of texts -/
def SlT (l : List ByteArray) (v : Value) (w : World) : Prop := ∃ b, v = .slice (some ⟨b, 0, none⟩) l.length l.length ∧ ∀ i (h : i < l.length), w.cell? ⟨b, i, none⟩ = some (.string l[i])
set_option maxRecDepth 100000 in
set_option maxHeartbeats 8000000 in
theorem superOpens_walk (g : Nat) (a : Int) (r u : Nat) (h : Int) (s c : Nat) (h0 h1 : Int) (raw : ByteArray) (w : World) (hg : g < 18446744073709551616) (_ha1 : -9223372036854775808 ≤ a) (ha2 : a ≤ 9223372036854775807) (hr : r < 18446744073709551616) (hu : u < 4294967296) (_hh1 : -9223372036854775808 ≤ h) (hh2 : h ≤ 9223372036854775807) (hs : s < 18446744073709551616) (hc : c < 4294967296) (_hx0 : -9223372036854775808 ≤ h0) (hx1 : h0 ≤ 9223372036854775807) (_hy0 : -9223372036854775808 ≤ h1) (hy1 : h1 ≤ 9223372036854775807) (hraw : raw.size ≤ maxLen) :
    Calls Try.prog 8 #[.agg #[.int .u64 (g : Int), .int .i64 a, .int .u64 (r : Int), .int .u32 (u : Int), .int .i64 h, .int .u64 (s : Int), .int .u32 (c : Int)], .agg #[.int .i64 h0, .int .i64 h1], .string raw] w fun e w' => e = .returned (.bool true) ∧ Ext w w' := by
  unfold maxLen at hraw
  have htm := fun w => tame05_any g a r u h s c w ha2 hh2
  have hX31 : tameX a ≤ 2147483647 := by unfold tameX; omega
  have hGb : tameG g < 18446744073709551616 := by unfold tameG; omega
  have hRb : tameR g r < 18446744073709551616 := by unfold tameR; omega
  have hok := tame_okB g r h
  generalize tameR g r = R at *
  generalize tameG g = G at *
  generalize tameX a = X at *
  generalize tameH h = H at *
  have him := fun w => refsup_image G X R u H s c w hGb hX31 hRb hu hs hc hok
  have hsz := supT_size G X R u H s c
  generalize supT G X R u H s c = I at *
  obtain ⟨m, hm1, hm2, hm3⟩ : ∃ m : Nat, min (raw.size : Int) 300 = (m : Int) ∧ m ≤ raw.size ∧ m ≤ 300 := ⟨min raw.size 300, by omega, by omega, by omega⟩
  obtain ⟨P, hP⟩ : ∃ P, raw.extract 0 m = P := ⟨_, rfl⟩
  have hPs : P.size ≤ 300 := by rw [← hP]; simp; omega
  obtain ⟨m2, hn1, hn2, hn3⟩ : ∃ m : Nat, min (P.size : Int) 104 = (m : Int) ∧ m ≤ P.size ∧ m ≤ 104 := ⟨min P.size 104, by omega, by omega, by omega⟩
  obtain ⟨P2, hP2⟩ : ∃ P2, P.extract 0 m2 = P2 := ⟨_, rfl⟩
  obtain ⟨M0, hM0, hM0b⟩ : ∃ M : Int, max 0 h0 = M ∧ 0 ≤ M := ⟨_, rfl, by omega⟩
  obtain ⟨M1, hM1, hM1b⟩ : ∃ M : Int, max 0 h1 = M ∧ 0 ≤ M := ⟨_, rfl, by omega⟩
  obtain ⟨R5, hR5, hR5b⟩ : ∃ R : Int, M0.tmod 5 = R ∧ 0 ≤ R ∧ R < 5 := ⟨_, rfl, by rw [Int.tmod_eq_emod_of_nonneg hM0b]; omega⟩
  obtain ⟨R2, hR2, hR2b⟩ : ∃ R : Int, M0.tmod 2 = R ∧ 0 ≤ R ∧ R < 2 := ⟨_, rfl, by rw [Int.tmod_eq_emod_of_nonneg hM0b]; omega⟩
  obtain ⟨A2, hA2⟩ : ∃ A : Int, M1.tmod 3 = A := ⟨_, rfl⟩
  obtain ⟨K2, hK2, hK3⟩ : ∃ K : Nat, IntKind.i64.wrap (1 + R5) = (K : Int) ∧ K < 256 := ⟨(1 + R5).toNat, by rw [IntKind.wrap_i64]; omega, by omega⟩
  obtain ⟨B2, hB2, hB3⟩ : ∃ B : Nat, IntKind.i64.wrap (53 + R2) = (B : Int) ∧ 53 ≤ B ∧ B ≤ 54 := ⟨(53 + R2).toNat, by rw [IntKind.wrap_i64]; omega, by omega, by omega⟩
  have hK2u : IntKind.u8.wrap (K2 : Int) = (K2 : Int) := by rw [IntKind.wrap_u8]; omega
  obtain ⟨PP, hPP⟩ : ∃ PP, I.extract 24 B2 = PP := ⟨_, rfl⟩
  obtain ⟨S2, a2, g2, c2, E2, ⟨hS2, _⟩, _, _, hrf2⟩ := seal_both 128 K2 g A2 PP hg
  obtain ⟨S3, a3, g3, c3, E3, ⟨hS3, _⟩, _, _, hrf3⟩ := seal_both 128 1 g ((g % 2 : Nat) : Int) P2 hg
  obtain ⟨I2, hI2⟩ : ∃ I2, I.extract 0 127 = I2 := ⟨_, rfl⟩
  have hI2s : I2.size ≤ maxLen := by rw [← hI2]; simp; unfold maxLen; omega
  have hall : ∀ i (hi : i < [P, I, S2, S3, I2].length), ([P, I, S2, S3, I2][i]).size ≤ maxLen := fun i hi => by
    match i, hi with
    | 0, _ => show P.size ≤ maxLen; unfold maxLen; omega
    | 1, _ => show I.size ≤ maxLen; unfold maxLen; omega
    | 2, _ => exact hS2
    | 3, _ => exact hS3
    | 4, _ => exact hI2s
  obtain ⟨mg, hmg⟩ : ∃ mg, g % 2 = mg := ⟨_, rfl⟩
  rw [hmg] at hrf3
  have HTM := Lib.hid htm; have HIM := Lib.hid him; have HR2 := Lib.hid hrf2; have HR3 := Lib.hid hrf3; have HALL := Lib.hid hall; have HMG := Lib.hid hmg
  have HS23 := Lib.hid (And.intro hS2 hS3)
  clear htm him hrf2 hrf3 hall hmg hok hS2 hS3 hI2s
  have hGm : (g : Int).tmod 2 = (mg : Int) := by rw [Int.tmod_eq_emod_of_nonneg (by omega)]; have := HMG.out; omega
  have hmgw : IntKind.i64.wrap (mg : Int) = (mg : Int) := by have := HMG.out; rw [IntKind.wrap_i64]; omega
  have H5 := Lib.hid (And.intro hGm hmgw); have H6 := Lib.hid (And.intro hR5 (And.intro hR2 (And.intro hM0 (And.intro hM1 hK2u))))
  clear hGm hmgw hR5 hR2 hM0 hM1 hK2u
  have hHB2 := Lib.hid hB2; have hHP2 := Lib.hid hP2; have hHPP := Lib.hid hPP; have hHK2 := Lib.hid hK2; have hHA2 := Lib.hid hA2; have hHn1 := Lib.hid hn1; have hHI2 := Lib.hid hI2
  clear hB2 hP2 hPP hK2 hA2 hn1 hI2
  go_enter Try.func8, Try.ntmps8
  go_wp2_with fail
  refine (make_ext _).mono ?_
  rintro e w1 ⟨b, rfl, ht, he1⟩
  have c0 := cell_ext (cell_ext (World.cell?_alloc_new w _ _ 0) (Ext.alloc _ _)) he1
  have c1 := cell_ext (cell_ext (World.cell?_alloc_new w _ _ 1) (Ext.alloc _ _)) he1
  have c2' := cell_ext (cell_ext (World.cell?_alloc_new w _ _ 2) (Ext.alloc _ _)) he1
  have c3' := cell_ext (cell_ext (World.cell?_alloc_new w _ _ 3) (Ext.alloc _ _)) he1
  have c4 := cell_ext (cell_ext (World.cell?_alloc_new w _ _ 4) (Ext.alloc _ _)) he1
  have c5 := cell_ext (cell_ext (World.cell?_alloc_new w _ _ 5) (Ext.alloc _ _)) he1
  have c6 := cell_ext (cell_ext (World.cell?_alloc_new w _ _ 6) (Ext.alloc _ _)) he1
  have d0 := cell_ext (cell_new2 w _ _ _ 0) he1
  have d1 := cell_ext (cell_new2 w _ _ _ 1) he1
  have hE1 := (Ext.alloc w _).trans ((Ext.alloc _ _).trans he1)
  go_wp2_with fail
  refine (HTM.out _).mono ?_
  rintro e w2 ⟨rfl, he2⟩
  go_wp2_with fail
  refine (HIM.out _).mono ?_
  rintro e w3 ⟨rfl, he3⟩
  replace he3 := he2.trans he3
  replace c0 := cell_ext c0 he3
  replace d0 := cell_ext d0 he3
  replace d1 := cell_ext d1 he3
  replace ht := ht.ext he3
  replace hE1 := hE1.trans he3
  clear c1 c2' c3' c4 c5 c6 he2 he3 he1 HTM HIM
  go_upto_region 4 with (fail)
  generalize w.heap.size = B0 at *
  obtain ⟨f1, f2, f3, f4, f5⟩ := H6.out
  have f6 := hHK2.out
  have f7 := hHB2.out
  have f8 := hHA2.out
  have g1 : (24 : Int) ≤ (B2 : Int) := by omega
  have g2 : (B2 : Int) ≤ (I.size : Int) := by omega
  have g3 : 24 ≤ B2 := by omega
  have g4 : B2 ≤ 128 := by omega
  have g5 : (B2 : Int) ≤ 128 := by omega
  refine wp_region_drift_lit (n := 121) (by kernel_rfl) (by kernel_rfl) (by rfl) ?_
  apply chain_val
  · intro w2 hx  K hK
    simp only [Act.put, List.setIfInBounds_toArray, List.set_cons_zero, List.set_cons_succ] at hK ⊢
    go_simp
    exact hK _ _ (Ext.refl _) rfl
  apply chain_val (.int .i64 h0)
  · intro w2 hx  K hK
    simp only [Act.put, List.setIfInBounds_toArray, List.set_cons_zero, List.set_cons_succ] at hK ⊢
    have x0 := cell_ext d0 hx
    go_simp
    exact hK _ _ (Ext.refl _) rfl
  apply chain_val (.int .i64 M0)
  · intro w2 hx  K hK
    simp only [Act.put, List.setIfInBounds_toArray, List.set_cons_zero, List.set_cons_succ] at hK ⊢
    go_simp
    exact hK _ _ (Ext.refl _) rfl
  apply chain_val (.int .i64 R5)
  · intro w2 hx  K hK
    simp only [Act.put, List.setIfInBounds_toArray, List.set_cons_zero, List.set_cons_succ] at hK ⊢
    go_simp
    exact hK _ _ (Ext.refl _) rfl
  apply chain_val (.int .i64 (K2 : Int))
  · intro w2 hx  K hK
    simp only [Act.put, List.setIfInBounds_toArray, List.set_cons_zero, List.set_cons_succ] at hK ⊢
    go_simp
    exact hK _ _ (Ext.refl _) rfl
  apply chain_val (.int .u8 (K2 : Int))
  · intro w2 hx  K hK
    simp only [Act.put, List.setIfInBounds_toArray, List.set_cons_zero, List.set_cons_succ] at hK ⊢
    go_simp
    exact hK _ _ (Ext.refl _) rfl
  apply chain_val
  · intro w2 hx  K hK
    simp only [Act.put, List.setIfInBounds_toArray, List.set_cons_zero, List.set_cons_succ] at hK ⊢
    go_simp
    exact hK _ _ (Ext.refl _) rfl
  apply chain_val (.int .i64 h1)
  · intro w2 hx  K hK
    simp only [Act.put, List.setIfInBounds_toArray, List.set_cons_zero, List.set_cons_succ] at hK ⊢
    have x0 := cell_ext d1 hx
    go_simp
    exact hK _ _ (Ext.refl _) rfl
  apply chain_val (.int .i64 M1)
  · intro w2 hx  K hK
    simp only [Act.put, List.setIfInBounds_toArray, List.set_cons_zero, List.set_cons_succ] at hK ⊢
    go_simp
    exact hK _ _ (Ext.refl _) rfl
  apply chain_val (.int .i64 A2)
  · intro w2 hx  K hK
    simp only [Act.put, List.setIfInBounds_toArray, List.set_cons_zero, List.set_cons_succ] at hK ⊢
    go_simp
    exact hK _ _ (Ext.refl _) rfl
  apply chain_val
  · intro w2 hx  K hK
    simp only [Act.put, List.setIfInBounds_toArray, List.set_cons_zero, List.set_cons_succ] at hK ⊢
    go_simp
    exact hK _ _ (Ext.refl _) rfl
  apply chain_val (.int .u64 (g : Int))
  · intro w2 hx  K hK
    simp only [Act.put, List.setIfInBounds_toArray, List.set_cons_zero, List.set_cons_succ] at hK ⊢
    have x0 := cell_ext c0 hx
    go_simp
    exact hK _ _ (Ext.refl _) rfl
  apply chain_val
  · intro w2 hx  K hK
    simp only [Act.put, List.setIfInBounds_toArray, List.set_cons_zero, List.set_cons_succ] at hK ⊢
    go_simp
    exact hK _ _ (Ext.refl _) rfl
  apply chain_val
  · intro w2 hx  K hK
    simp only [Act.put, List.setIfInBounds_toArray, List.set_cons_zero, List.set_cons_succ] at hK ⊢
    go_simp
    exact hK _ _ (Ext.refl _) rfl
  apply chain_val
  · intro w2 hx  K hK
    simp only [Act.put, List.setIfInBounds_toArray, List.set_cons_zero, List.set_cons_succ] at hK ⊢
    go_simp
    exact hK _ _ (Ext.refl _) rfl
  apply chain_val (.int .i64 h0)
  · intro w2 hx  K hK
    simp only [Act.put, List.setIfInBounds_toArray, List.set_cons_zero, List.set_cons_succ] at hK ⊢
    have x0 := cell_ext d0 hx
    go_simp
    exact hK _ _ (Ext.refl _) rfl
  apply chain_val (.int .i64 M0)
  · intro w2 hx  K hK
    simp only [Act.put, List.setIfInBounds_toArray, List.set_cons_zero, List.set_cons_succ] at hK ⊢
    go_simp
    exact hK _ _ (Ext.refl _) rfl
  apply chain_val (.int .i64 R2)
  · intro w2 hx  K hK
    simp only [Act.put, List.setIfInBounds_toArray, List.set_cons_zero, List.set_cons_succ] at hK ⊢
    go_simp
    exact hK _ _ (Ext.refl _) rfl
  apply chain_val (.int .i64 (B2 : Int))
  · intro w2 hx  K hK
    simp only [Act.put, List.setIfInBounds_toArray, List.set_cons_zero, List.set_cons_succ] at hK ⊢
    go_simp
    exact hK _ _ (Ext.refl _) rfl
  apply chain_val (.string PP)
  · intro w2 hx  K hK
    simp only [Act.put, List.setIfInBounds_toArray, List.set_cons_zero, List.set_cons_succ] at hK ⊢
    go_simp
    refine hK _ _ (Ext.refl _) ?_
    show Value.string _ = _
    rw [← hHPP.out]
  apply chain_val (.tuple #[.string S2, .int .u64 (c2 : Int), .int .i64 E2])
  · intro w2 hx  K hK
    simp only [Act.put, List.setIfInBounds_toArray, List.set_cons_zero, List.set_cons_succ] at hK ⊢
    go_simp
    refine (HR2.out _).mono ?_
    rintro e w9 ⟨rfl, he9⟩
    exact hK _ _ he9 rfl
  apply chain_val
  · intro w2 hx  K hK
    simp only [Act.put, List.setIfInBounds_toArray, List.set_cons_zero, List.set_cons_succ] at hK ⊢
    go_simp
    exact hK _ _ (Ext.refl _) rfl
  apply chain_val
  · intro w2 hx  K hK
    simp only [Act.put, List.setIfInBounds_toArray, List.set_cons_zero, List.set_cons_succ] at hK ⊢
    go_simp
    exact hK _ _ (Ext.refl _) rfl
  apply chain_val
  · intro w2 hx  K hK
    simp only [Act.put, List.setIfInBounds_toArray, List.set_cons_zero, List.set_cons_succ] at hK ⊢
    go_simp
    exact hK _ _ (Ext.refl _) rfl
  apply chain_val
  · intro w2 hx  K hK
    simp only [Act.put, List.setIfInBounds_toArray, List.set_cons_zero, List.set_cons_succ] at hK ⊢
    go_simp
    exact hK _ _ (Ext.refl _) rfl
  apply chain_val
  · intro w2 hx  K hK
    simp only [Act.put, List.setIfInBounds_toArray, List.set_cons_zero, List.set_cons_succ] at hK ⊢
    go_simp
    exact hK _ _ (Ext.refl _) rfl
  apply chain_val
  · intro w2 hx  K hK
    simp only [Act.put, List.setIfInBounds_toArray, List.set_cons_zero, List.set_cons_succ] at hK ⊢
    go_simp
    exact hK _ _ (Ext.refl _) rfl
  apply chain_val
  · intro w2 hx  K hK
    simp only [Act.put, List.setIfInBounds_toArray, List.set_cons_zero, List.set_cons_succ] at hK ⊢
    go_simp
    exact hK _ _ (Ext.refl _) rfl
  refine chain_end fun w2 hx => ?_
  simp only [List.reverse_cons, List.reverse_nil, List.nil_append, List.cons_append, withDeps, Act.put, List.setIfInBounds_toArray, List.set_cons_zero, List.set_cons_succ]
  have he4 := hx
  clear f1 f2 f3 f4 f5 f6 f7 f8 g1 g2 g3 g4 g5 d0 d1 hx H6 hHB2 hHK2 hHA2 HR2 hHPP
  replace c0 := cell_ext c0 he4
  replace ht := ht.ext he4
  replace hE1 := hE1.trans he4
  clear he4
  go_upto_region 5 with (fail)
  obtain ⟨f1, f2⟩ := H5.out
  have f3 := hHn1.out
  have HE1 := Lib.hid hE1
  clear hE1
  refine wp_region_drift_lit (n := 121) (by kernel_rfl) (by kernel_rfl) (by rfl) ?_
  apply chain_val
  · intro w2 hx  K hK
    simp only [Act.put, List.setIfInBounds_toArray, List.set_cons_zero, List.set_cons_succ] at hK ⊢
    go_simp
    exact hK _ _ (Ext.refl _) rfl
  apply chain_val (.int .u64 (g : Int))
  · intro w2 hx  K hK
    simp only [Act.put, List.setIfInBounds_toArray, List.set_cons_zero, List.set_cons_succ] at hK ⊢
    have x0 := cell_ext c0 hx
    go_simp
    exact hK _ _ (Ext.refl _) rfl
  apply chain_val (.int .u64 (mg : Int))
  · intro w2 hx  K hK
    simp only [Act.put, List.setIfInBounds_toArray, List.set_cons_zero, List.set_cons_succ] at hK ⊢
    go_simp
    exact hK _ _ (Ext.refl _) rfl
  apply chain_val (.int .i64 (mg : Int))
  · intro w2 hx  K hK
    simp only [Act.put, List.setIfInBounds_toArray, List.set_cons_zero, List.set_cons_succ] at hK ⊢
    go_simp
    exact hK _ _ (Ext.refl _) rfl
  apply chain_val
  · intro w2 hx  K hK
    simp only [Act.put, List.setIfInBounds_toArray, List.set_cons_zero, List.set_cons_succ] at hK ⊢
    go_simp
    exact hK _ _ (Ext.refl _) rfl
  apply chain_val (.int .u64 (g : Int))
  · intro w2 hx  K hK
    simp only [Act.put, List.setIfInBounds_toArray, List.set_cons_zero, List.set_cons_succ] at hK ⊢
    have x0 := cell_ext c0 hx
    go_simp
    exact hK _ _ (Ext.refl _) rfl
  apply chain_val
  · intro w2 hx  K hK
    simp only [Act.put, List.setIfInBounds_toArray, List.set_cons_zero, List.set_cons_succ] at hK ⊢
    go_simp
    exact hK _ _ (Ext.refl _) rfl
  apply chain_val
  · intro w2 hx  K hK
    simp only [Act.put, List.setIfInBounds_toArray, List.set_cons_zero, List.set_cons_succ] at hK ⊢
    go_simp
    exact hK _ _ (Ext.refl _) rfl
  apply chain_val
  · intro w2 hx  K hK
    simp only [Act.put, List.setIfInBounds_toArray, List.set_cons_zero, List.set_cons_succ] at hK ⊢
    go_simp
    exact hK _ _ (Ext.refl _) rfl
  apply chain_val
  · intro w2 hx  K hK
    simp only [Act.put, List.setIfInBounds_toArray, List.set_cons_zero, List.set_cons_succ] at hK ⊢
    go_simp
    exact hK _ _ (Ext.refl _) rfl
  apply chain_val (.int .i64 (m2 : Int))
  · intro w2 hx  K hK
    simp only [Act.put, List.setIfInBounds_toArray, List.set_cons_zero, List.set_cons_succ] at hK ⊢
    go_simp
    exact hK _ _ (Ext.refl _) rfl
  apply chain_val (.string P2)
  · intro w2 hx  K hK
    simp only [Act.put, List.setIfInBounds_toArray, List.set_cons_zero, List.set_cons_succ] at hK ⊢
    go_simp
    refine hK _ _ (Ext.refl _) ?_
    show Value.string _ = _
    rw [← hHP2.out]
  apply chain_val (.tuple #[.string S3, .int .u64 (c3 : Int), .int .i64 E3])
  · intro w2 hx  K hK
    simp only [Act.put, List.setIfInBounds_toArray, List.set_cons_zero, List.set_cons_succ] at hK ⊢
    go_simp
    refine (HR3.out _).mono ?_
    rintro e w9 ⟨rfl, he9⟩
    exact hK _ _ he9 rfl
  apply chain_val
  · intro w2 hx  K hK
    simp only [Act.put, List.setIfInBounds_toArray, List.set_cons_zero, List.set_cons_succ] at hK ⊢
    go_simp
    exact hK _ _ (Ext.refl _) rfl
  apply chain_val
  · intro w2 hx  K hK
    simp only [Act.put, List.setIfInBounds_toArray, List.set_cons_zero, List.set_cons_succ] at hK ⊢
    go_simp
    exact hK _ _ (Ext.refl _) rfl
  apply chain_val
  · intro w2 hx  K hK
    simp only [Act.put, List.setIfInBounds_toArray, List.set_cons_zero, List.set_cons_succ] at hK ⊢
    go_simp
    exact hK _ _ (Ext.refl _) rfl
  apply chain_val
  · intro w2 hx  K hK
    simp only [Act.put, List.setIfInBounds_toArray, List.set_cons_zero, List.set_cons_succ] at hK ⊢
    go_simp
    exact hK _ _ (Ext.refl _) rfl
  apply chain_val
  · intro w2 hx  K hK
    simp only [Act.put, List.setIfInBounds_toArray, List.set_cons_zero, List.set_cons_succ] at hK ⊢
    go_simp
    exact hK _ _ (Ext.refl _) rfl
  apply chain_val
  · intro w2 hx  K hK
    simp only [Act.put, List.setIfInBounds_toArray, List.set_cons_zero, List.set_cons_succ] at hK ⊢
    go_simp
    exact hK _ _ (Ext.refl _) rfl
  apply chain_val
  · intro w2 hx  K hK
    simp only [Act.put, List.setIfInBounds_toArray, List.set_cons_zero, List.set_cons_succ] at hK ⊢
    go_simp
    exact hK _ _ (Ext.refl _) rfl
  refine chain_end fun w2 hx => ?_
  simp only [List.reverse_cons, List.reverse_nil, List.nil_append, List.cons_append, withDeps, Act.put, List.setIfInBounds_toArray, List.set_cons_zero, List.set_cons_succ]
  have he5 := hx
  clear f1 f2 f3 c0 hx H5 HR3 hHP2 hHn1
  replace ht := ht.ext he5
  have hE1 := HE1.out.trans he5
  clear he5 HE1
  have f1 := hHI2.out
  go_wp2_with fail
  have hST : ∀ i (hi : i < [P, I, S2, S3, I2].length), (w2.alloc (.cells #[.string P, .string I, .string S2, .string S3, .string I2] 9)).cell? ⟨w2.heap.size, i, none⟩ = some (.string ([P, I, S2, S3, I2][i])) := fun i hi => by
    rw [World.cell?_alloc_new]
    match i, hi with
    | 0, _ => rfl
    | 1, _ => rfl
    | 2, _ => rfl
    | 3, _ => rfl
    | 4, _ => rfl
  have he6 := Ext.alloc w2 (.cells #[.string P, .string I, .string S2, .string S3, .string I2] 9)
  replace ht := ht.ext he6
  replace hE1 := hE1.trans he6
  generalize w2.alloc (.cells #[.string P, .string I, .string S2, .string S3, .string I2] 9) = w6 at *
  generalize w2.heap.size = D at *
  have HST := Lib.hid hST
  clear hST he6 f1
  go_loopw [86] (fun i wx => ∃ j : Nat, j ≤ 5 ∧ i = .int .i64 j ∧ Ext w6 wx) (fun i _ => 5 - (intOf i).toNat)
  case atStart => exact ⟨0, by omega, rfl, Ext.refl _⟩
  case round =>
    obtain ⟨j, hj, rfl, hex⟩ := hrel
    by_cases hlt : j < 5
    · have hc0 := cell_ext (HST.out j hlt) hex
      have hsm := HALL.out j hlt
      obtain ⟨g', a', r', u', h', q', c', E', hop, hro⟩ := both_open _ hsm
      have HT := ht.ext hex
      have hlt' : decide ((j : Int) < 5) = true := decide_eq_true (by omega)
      generalize [P, I, S2, S3, I2][j] = z at *
      have HOP := Lib.hid hop; have HRO := Lib.hid hro
      clear hop hro
      go_wp2_with fail
      refine (HOP.out b _ HT).mono ?_
      rintro e w7 ⟨rfl, he7⟩
      have r18 := RowIs.new w7 70 #[.int .u64 (g' : Int), .int .i64 a', .int .u64 (r' : Int), .int .u32 (u' : Int), .int .i64 h', .int .u64 (q' : Int), .int .u32 (c' : Int)]
      have he7' := he7.trans (Ext.alloc w7 (.cells #[.int .u64 (g' : Int), .int .i64 a', .int .u64 (r' : Int), .int .u32 (u' : Int), .int .i64 h', .int .u64 (q' : Int), .int .u32 (c' : Int)] 70))
      go_wp2_with fail
      refine (HRO.out _).mono ?_
      rintro e w8 ⟨rfl, he8⟩
      replace r18 := r18.ext he8
      have r20 := RowIs.new w8 75 #[.int .u64 (g' : Int), .int .i64 a', .int .u64 (r' : Int), .int .u32 (u' : Int), .int .i64 h', .int .u64 (q' : Int), .int .u32 (c' : Int)]
      replace r18 := r18.ext (Ext.alloc w8 (.cells #[.int .u64 (g' : Int), .int .i64 a', .int .u64 (r' : Int), .int .u32 (u' : Int), .int .i64 h', .int .u64 (q' : Int), .int .u32 (c' : Int)] 75))
      have he8' := (he7'.trans he8).trans (Ext.alloc w8 (.cells #[.int .u64 (g' : Int), .int .i64 a', .int .u64 (r' : Int), .int .u32 (u' : Int), .int .i64 h', .int .u64 (q' : Int), .int .u32 (c' : Int)] 75))
      go_upto_region 11 with (fail)
      generalize w8.alloc (.cells #[.int .u64 (g' : Int), .int .i64 a', .int .u64 (r' : Int), .int .u32 (u' : Int), .int .i64 h', .int .u64 (q' : Int), .int .u32 (c' : Int)] 75) = w9 at *
      generalize w8.heap.size = D2 at *
      generalize w7.heap.size = D1 at *
      have k0 := r18.cell 0 (.int .u64 (g' : Int)) rfl
      have k1 := r18.cell 1 (.int .i64 a') rfl
      have k2 := r18.cell 2 (.int .u64 (r' : Int)) rfl
      have k3 := r18.cell 3 (.int .u32 (u' : Int)) rfl
      have k4 := r18.cell 4 (.int .i64 h') rfl
      have k5 := r18.cell 5 (.int .u64 (q' : Int)) rfl
      have k6 := r18.cell 6 (.int .u32 (c' : Int)) rfl
      have z0 := r20.cell 0 (.int .u64 (g' : Int)) rfl
      have z1 := r20.cell 1 (.int .i64 a') rfl
      have z2 := r20.cell 2 (.int .u64 (r' : Int)) rfl
      have z3 := r20.cell 3 (.int .u32 (u' : Int)) rfl
      have z4 := r20.cell 4 (.int .i64 h') rfl
      have z5 := r20.cell 5 (.int .u64 (q' : Int)) rfl
      have z6 := r20.cell 6 (.int .u32 (c' : Int)) rfl
      clear r18 r20 HOP HRO he7 he7' he8 hlt'
      refine wp_region_drift_lit (n := 121) (by kernel_rfl) (by kernel_rfl) (by rfl) ?_
      apply chain_val (.agg #[.int .u64 (g' : Int), .int .i64 a', .int .u64 (r' : Int), .int .u32 (u' : Int), .int .i64 h', .int .u64 (q' : Int), .int .u32 (c' : Int)])
      · intro w2 hx  K hK
        simp only [Act.put, List.setIfInBounds_toArray, List.set_cons_zero, List.set_cons_succ] at hK ⊢
        have x0 := cell_ext k0 hx
        have x1 := cell_ext k1 hx
        have x2 := cell_ext k2 hx
        have x3 := cell_ext k3 hx
        have x4 := cell_ext k4 hx
        have x5 := cell_ext k5 hx
        have x6 := cell_ext k6 hx
        go_simp
        exact hK _ _ (Ext.refl _) rfl
      apply chain_val (.agg #[.int .u64 (g' : Int), .int .i64 a', .int .u64 (r' : Int), .int .u32 (u' : Int), .int .i64 h', .int .u64 (q' : Int), .int .u32 (c' : Int)])
      · intro w2 hx  K hK
        simp only [Act.put, List.setIfInBounds_toArray, List.set_cons_zero, List.set_cons_succ] at hK ⊢
        have x0 := cell_ext z0 hx
        have x1 := cell_ext z1 hx
        have x2 := cell_ext z2 hx
        have x3 := cell_ext z3 hx
        have x4 := cell_ext z4 hx
        have x5 := cell_ext z5 hx
        have x6 := cell_ext z6 hx
        go_simp
        exact hK _ _ (Ext.refl _) rfl
      apply chain_val (.agg #[.int .u64 (g' : Int), .int .i64 a', .int .u64 (r' : Int), .int .u32 (u' : Int), .int .i64 h', .int .u64 (q' : Int), .int .u32 (c' : Int)])
      · intro w2 hx  K hK
        simp only [Act.put, List.setIfInBounds_toArray, List.set_cons_zero, List.set_cons_succ] at hK ⊢
        go_simp
        refine (of05_any _ _ _ _ _ _ _ _).mono ?_
        rintro e w19 ⟨rfl, he19⟩
        exact hK _ _ he19 rfl
      apply chain_val (.bool false)
      · intro w2 hx  K hK
        simp only [Act.put, List.setIfInBounds_toArray, List.set_cons_zero, List.set_cons_succ] at hK ⊢
        go_simp
        exact hK _ _ (Ext.refl _) rfl
      apply chain_val
      · intro w2 hx  K hK
        simp only [Act.put, List.setIfInBounds_toArray, List.set_cons_zero, List.set_cons_succ] at hK ⊢
        go_simp
        exact hK _ _ (Ext.refl _) rfl
      apply chain_val
      · intro w2 hx  K hK
        simp only [Act.put, List.setIfInBounds_toArray, List.set_cons_zero, List.set_cons_succ] at hK ⊢
        go_simp
        exact hK _ _ (Ext.refl _) rfl
      apply chain_val
      · intro w2 hx  K hK
        simp only [Act.put, List.setIfInBounds_toArray, List.set_cons_zero, List.set_cons_succ] at hK ⊢
        go_simp
        exact hK _ _ (Ext.refl _) rfl
      apply chain_val (.bool false)
      · intro w2 hx  K hK
        simp only [Act.put, List.setIfInBounds_toArray, List.set_cons_zero, List.set_cons_succ] at hK ⊢
        go_simp
        exact hK _ _ (Ext.refl _) rfl
      apply chain_val (.bool false)
      · intro w2 hx  K hK
        simp only [Act.put, List.setIfInBounds_toArray, List.set_cons_zero, List.set_cons_succ] at hK ⊢
        go_simp
        exact hK _ _ (Ext.refl _) rfl
      refine chain_end fun w2 hx => ?_
      simp only [List.reverse_cons, List.reverse_nil, List.nil_append, List.cons_append, withDeps, Act.put, List.setIfInBounds_toArray, List.set_cons_zero, List.set_cons_succ]
      go_wp2_with fail
      go_roundw
      case rel => exact ⟨j + 1, by omega, by go_num, hex.trans (he8'.trans hx)⟩
      case measure => simp [intOf]; omega
    · obtain rfl : j = 5 := by omega
      go_wp2_with fail
      refine (sopen_nil I _).mono ?_
      unfold blkZ
      rintro e w7 ⟨rfl, he7⟩
      go_wp2_with fail
      refine (wakes05 _).mono ?_
      rintro e w8 ⟨rfl, he8⟩
      go_wp2_with fail
      go_ret
      exact ⟨rfl, hE1.trans (hex.trans (he7.trans ((Ext.alloc _ _).trans he8)))⟩
end Go.Proofs.Ytbnpldilkkhgmaa
