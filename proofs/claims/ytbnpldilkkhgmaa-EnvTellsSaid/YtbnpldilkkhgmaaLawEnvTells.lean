/- The walk of law04.EnvTells. -/
import Derived.Test.YtbnpldilkkhgmaaEnvP
import Derived.Test.YtbnpldilkkhgmaaTwoBox
import Derived.Deep.DeepCutAuto
import Derived.Outline
import Derived.Laws.Bits128
import Derived.Laws.BitsAllLaws
namespace Go.Proofs.Ytbnpldilkkhgmaa
open Go.RowKit
theorem bytes_ext' {x y : ByteArray} (h : x.data.toList = y.data.toList) : x = y := by
  cases x; cases y; simpa using h
theorem xor_byte (x y : UInt8) : bits .xor .u8 (x.toNat : Int) (y.toNat : Int) = (((x ^^^ y).toNat : Nat) : Int) := by
  rw [u8_xor_nat _ _ x.toNat_lt y.toNat_lt, UInt8.toNat_xor]
theorem extract_turn {s : ByteArray} {a : Nat} {z : UInt8} (ha : a < s.size) : s.extract 0 a ++ ⟨#[z]⟩ ++ s.extract (a + 1) s.size = ⟨(s.data.toList.set a z).toArray⟩ := by
  apply bytes_ext'
  simp only [ByteArray.data_append, Array.toList_append, ByteArray.data_extract, Array.toList_extract]
  apply List.ext_getElem?
  intro i
  have hs : s.data.toList.length = s.size := by rw [Array.length_toList]; rfl
  simp only [List.extract_eq_take_drop, List.drop_zero, Nat.sub_zero]
  by_cases h1 : i < a
  · rw [List.append_assoc, List.getElem?_append_left (by rw [List.length_take]; omega), List.getElem?_take, if_pos h1, List.getElem?_set_ne (by omega)]
  · by_cases h2 : i = a
    · subst h2
      rw [List.append_assoc, List.getElem?_append_right (by rw [List.length_take]; omega), List.length_take, Nat.min_eq_left (by omega), Nat.sub_self, List.getElem?_set_self (by omega)]
      rfl
    · rw [List.getElem?_append_right (by rw [List.length_append, List.length_take]; simp; omega), List.getElem?_set_ne (by omega), List.getElem?_take, List.getElem?_drop]
      simp only [List.length_append, List.length_take]
      have e : a + 1 + (i - (min a s.data.toList.length + #[z].toList.length)) = i := by simp; omega
      rw [e]
      split
      · rfl
      · rw [List.getElem?_eq_none (by simp at *; omega)]
/-- a fresh slice of one byte -/
def OneB (z : UInt8) (v : Value) (w : World) : Prop := ∃ b c, v = .slice (some ⟨b, 0, none⟩) 1 c ∧ w.cell? ⟨b, 0, none⟩ = some (.int .u8 (z.toNat : Int))
theorem OneB.ext {z : UInt8} {v : Value} {w w' : World} (h : OneB z v w) (e : Ext w w') : OneB z v w' := by
  obtain ⟨b, c, rfl, hc⟩ := h
  exact ⟨b, c, rfl, cell_ext hc e⟩
theorem conv_oneB {z : UInt8} {w : World} {b c : Nat} (h : w.cell? ⟨b, 0, none⟩ = some (.int .u8 (z.toNat : Int))) : (convert 48 9 (.slice (some ⟨b, 0, none⟩) 1 c)).run Try.prog w = .ok (.string ⟨#[z]⟩) w :=
  run_convert_bytes_back (P := Try.prog) w 48 9 5 ⟨b, 0, none⟩ c [z] Try.underlying48 Try.underlying5 Try.underlying9 (by
    intro j hj
    match j, hj with
    | 0, _ => exact h)
set_option maxRecDepth 100000 in
set_option maxHeartbeats 300000 in
theorem envTells_walk (k : Nat) (x : Int) (n k2 : Nat) (x2 : Int) (n2 : Nat) (s s2 : ByteArray) (w : World) (hk : k < 256) (_hx1 : -9223372036854775808 ≤ x) (hx2 : x ≤ 9223372036854775807) (hn : n < 18446744073709551616) (hk2 : k2 < 256) (_hy1 : -9223372036854775808 ≤ x2) (hy2 : x2 ≤ 9223372036854775807) (hn2 : n2 < 18446744073709551616) (hs : s.size ≤ maxLen) (hs2 : s2.size ≤ maxLen) :
    Calls Try.prog 4 #[.agg #[.int .u8 (k : Int), .int .i64 x, .int .u64 (n : Int)], .agg #[.int .u8 (k2 : Int), .int .i64 x2, .int .u64 (n2 : Int)], .agg #[.string s, .string s2]] w fun e w' => e = .returned (.bool true) ∧ Ext w w' := by
  unfold maxLen at hs hs2
  have htm := fun w => tame04_any k n x w hk hx2
  have htm2 := fun w => tame04_any k2 n2 x2 w hk2 hy2
  have hok := tame_ok k x n
  have hok2 := tame_ok k2 x2 n2
  obtain ⟨K, hK⟩ : ∃ K, tameK k = K := ⟨_, rfl⟩
  obtain ⟨X, hX⟩ : ∃ X, tameX x = X := ⟨_, rfl⟩
  obtain ⟨K2, hK2⟩ : ∃ K, tameK k2 = K := ⟨_, rfl⟩
  obtain ⟨X2, hX2⟩ : ∃ X, tameX x2 = X := ⟨_, rfl⟩
  rw [hK, hX] at htm hok
  rw [hK2, hX2] at htm2 hok2
  clear hK hX hK2 hX2
  go_enter Try.func4, Try.ntmps4
  go_wp2_with fail
  refine (make_ext _).mono ?_
  rintro e w1 ⟨b, rfl, ht, he1⟩
  have c0 := cell_ext (cell_ext (cell_ext (World.cell?_alloc_new w _ _ 0) (Ext.alloc _ _)) (Ext.alloc _ _)) he1
  have c1 := cell_ext (cell_ext (cell_ext (World.cell?_alloc_new w _ _ 1) (Ext.alloc _ _)) (Ext.alloc _ _)) he1
  have c2 := cell_ext (cell_ext (cell_ext (World.cell?_alloc_new w _ _ 2) (Ext.alloc _ _)) (Ext.alloc _ _)) he1
  have d0 := cell_ext (cell_ext (cell_new2 w _ _ _ 0) (Ext.alloc _ _)) he1
  have d1 := cell_ext (cell_ext (cell_new2 w _ _ _ 1) (Ext.alloc _ _)) he1
  have d2 := cell_ext (cell_ext (cell_new2 w _ _ _ 2) (Ext.alloc _ _)) he1
  simp only [List.getElem_toArray, List.getElem_cons_zero, List.getElem_cons_succ] at c0 c1 c2 d0 d1 d2
  have rS := (RowIs.new3 w _ _ _ _).ext he1
  have hE1 := (Ext.alloc w _).trans ((Ext.alloc _ _).trans ((Ext.alloc _ _).trans he1))
  go_upto_region 2 with (fail)
  have HTM := Lib.hid htm
  have HTM2 := Lib.hid htm2
  have RS := Lib.hid rS
  have HE1 := Lib.hid hE1
  clear rS he1 hE1 htm htm2
  refine RJ.wp_region (n := 128) (TwoJ 4 5 6 7 w1 24 #[.int .u8 0, .int .i64 0, .int .u64 0] #[.int .u8 (K : Int), .int .i64 (X : Int), .int .u64 (n : Int)] #[.int .u8 (K2 : Int), .int .i64 (X2 : Int), .int .u64 (n2 : Int)])
    [some (.agg #[.int .u8 (k : Int), .int .i64 x, .int .u64 (n : Int)]), some (.agg #[.int .u8 (K : Int), .int .i64 (X : Int), .int .u64 (n : Int)]), some (.agg #[.int .u8 (k2 : Int), .int .i64 x2, .int .u64 (n2 : Int)]), some (.agg #[.int .u8 (K2 : Int), .int .i64 (X2 : Int), .int .u64 (n2 : Int)])] ?_ ?_ ?_ ?_ ?_ ?_
  · kernel_rfl
  · kernel_rfl
  · rfl
  · exact TwoJ.start (Ext.drew _)
  · refine ⟨?_, ?_, ?_, ?_, ?_, ?_, ?_, ?_, trivial⟩
    · intro vs w2 hj hi K9 hK
      have a0 := cell_ext c0 hj.ext
      have a1 := cell_ext c1 hj.ext
      have a2 := cell_ext c2 hj.ext
      go_simp
      exact hK _ _ rfl (hj.keep 0 _ (by decide) (Ext.refl _))
    · intro vs w2 hj hi K9 hK
      simp only [RJ.dstOf, List.getElem?_toArray, List.getElem?_cons_zero, Option.bind_some, Act.put, List.setIfInBounds_toArray, List.set_cons_zero, List.set_cons_succ] at hK ⊢
      go_simp
      refine (HTM.out _).mono ?_
      rintro e w4 ⟨rfl, he9⟩
      exact hK _ _ rfl (hj.keep 1 _ (by decide) he9)
    · intro vs w2 hj hi K9 hK
      have a0 := cell_ext d0 hj.ext
      have a1 := cell_ext d1 hj.ext
      have a2 := cell_ext d2 hj.ext
      go_simp
      exact hK _ _ rfl (hj.keep 2 _ (by decide) (Ext.refl _))
    · intro vs w2 hj hi K9 hK
      simp only [RJ.dstOf, List.getElem?_toArray, List.getElem?_cons_zero, List.getElem?_cons_succ, Option.bind_some, Act.put, List.setIfInBounds_toArray, List.set_cons_zero, List.set_cons_succ] at hK ⊢
      go_simp
      refine (HTM2.out _).mono ?_
      rintro e w4 ⟨rfl, he9⟩
      exact hK _ _ rfl (hj.keep 3 _ (by decide) he9)
    · intro vs w2 hj hi K9 hK
      go_simp
      exact hK _ _ trivial (hj.make1 hi (by decide))
    · intro vs w2 hj hi K9 hK
      go_simp
      exact hK _ _ trivial (hj.make2 hi (by decide))
    · intro vs w2 hj hi _ _ v4 h4 v5 h5
      obtain ⟨b4, rfl, hr, hj'⟩ := hj.put1 (x := undef) h4 hi (by decide)
      intro K9 hK
      simp only [RJ.dstOf, List.getElem?_toArray, List.getElem?_cons_zero, List.getElem?_cons_succ, Option.bind_some, Act.put, List.setIfInBounds_toArray, List.set_cons_zero, List.set_cons_succ] at hK ⊢
      exact step_store rfl rfl rfl rfl hr (by kernel_rfl) rfl (by simp [Value.oneCell']) (hK undef _ trivial hj')
    · intro vs w2 hj hi _ _ _ _ v4 h4 v5 h5 v6 h6
      obtain ⟨b5, rfl, hr, hj'⟩ := hj.put2 (x := undef) h5 hi (by decide)
      intro K9 hK
      simp only [RJ.dstOf, List.getElem?_toArray, List.getElem?_cons_zero, List.getElem?_cons_succ, Option.bind_some, Act.put, List.setIfInBounds_toArray, List.set_cons_zero, List.set_cons_succ] at hK ⊢
      exact step_store rfl rfl rfl rfl hr (by kernel_rfl) rfl (by simp [Value.oneCell']) (hK undef _ trivial hj')
  · intro vs w2 hj v4 h4 v5 h5 v6 h6 v7 h7
    simp only [RJ.bind, RJ.dstOf, List.getElem?_toArray, List.getElem?_cons_zero, List.getElem?_cons_succ, Option.bind_some, Act.put, List.setIfInBounds_toArray, List.set_cons_zero, List.set_cons_succ]
    obtain ⟨b4, rfl, hb4, r4⟩ := hj.one _ h4
    obtain ⟨b5, rfl, hb5, r5⟩ := hj.two _ h5
    have hne := hj.ne _ _ h4 h5
    have he2 := hj.ext
    simp only [h6] at r4
    simp only [h7] at r5
    clear h4 h5 h6 h7 hj
    have hE2 := HE1.out.trans he2
    have r3 := RS.out.ext he2
    have q0 := (RowIs.cell r3 0 _ rfl)
    have q1 := (RowIs.cell r3 1 _ rfl)
    replace c1 := cell_ext c1 he2
    replace ht := ht.ext he2
    have h34 : b4 ≠ b5 := fun h => hne (by rw [h])
    clear HE1 RS HTM HTM2 c0 c2 d0 d1 d2 r3 hne
    go_upto_region 3 with (fail)
    obtain ⟨m, hm1, hm2, hm3⟩ : ∃ m : Nat, min (s.size : Int) 104 = (m : Int) ∧ m ≤ s.size ∧ m ≤ 104 := ⟨min s.size 104, by omega, by omega, by omega⟩
    obtain ⟨m', hm1', hm2', hm3'⟩ : ∃ m : Nat, min (s2.size : Int) 104 = (m : Int) ∧ m ≤ s2.size ∧ m ≤ 104 := ⟨min s2.size 104, by omega, by omega, by omega⟩
    obtain ⟨P, hP⟩ : ∃ P, s.extract 0 m = P := ⟨_, rfl⟩
    obtain ⟨P', hP'⟩ : ∃ P, s2.extract 0 m' = P := ⟨_, rfl⟩
    have hPs : P.size ≤ 104 := by rw [← hP]; simp; omega
    have hPs' : P'.size ≤ 104 := by rw [← hP']; simp; omega
    refine wp_region_drift_lit (n := 128) (by kernel_rfl) (by kernel_rfl) (by rfl) ?_
    apply chain_val
    · intro w2 hx  K hK
      simp only [Act.put, List.setIfInBounds_toArray, List.set_cons_zero, List.set_cons_succ] at hK ⊢
      go_simp
      exact hK _ _ (Ext.refl _) rfl
    apply chain_val (.string s)
    · intro w2 hx  K hK
      simp only [Act.put, List.setIfInBounds_toArray, List.set_cons_zero, List.set_cons_succ] at hK ⊢
      have a0 := cell_ext q0 hx
      go_simp
      exact hK _ _ (Ext.refl _) rfl
    apply chain_val
    · intro w2 hx  K hK
      simp only [Act.put, List.setIfInBounds_toArray, List.set_cons_zero, List.set_cons_succ] at hK ⊢
      go_simp
      exact hK _ _ (Ext.refl _) rfl
    apply chain_val (.string s)
    · intro w2 hx  K hK
      simp only [Act.put, List.setIfInBounds_toArray, List.set_cons_zero, List.set_cons_succ] at hK ⊢
      have a0 := cell_ext q0 hx
      go_simp
      exact hK _ _ (Ext.refl _) rfl
    apply chain_val
    · intro w2 hx  K hK
      simp only [Act.put, List.setIfInBounds_toArray, List.set_cons_zero, List.set_cons_succ] at hK ⊢
      go_simp
      exact hK _ _ (Ext.refl _) rfl
    apply chain_val (.int .i64 (m : Int))
    · intro w2 hx  K hK
      simp only [Act.put, List.setIfInBounds_toArray, List.set_cons_zero, List.set_cons_succ] at hK ⊢
      go_simp
      exact hK _ _ (Ext.refl _) rfl
    apply chain_val (.string P)
    · intro w2 hx  K hK
      simp only [Act.put, List.setIfInBounds_toArray, List.set_cons_zero, List.set_cons_succ] at hK ⊢
      go_simp
      refine hK _ _ (Ext.refl _) ?_
      show Value.string _ = _
      rw [← hP]
    apply chain_val
    · intro w2 hx  K hK
      simp only [Act.put, List.setIfInBounds_toArray, List.set_cons_zero, List.set_cons_succ] at hK ⊢
      go_simp
      exact hK _ _ (Ext.refl _) rfl
    apply chain_val (.string s2)
    · intro w2 hx  K hK
      simp only [Act.put, List.setIfInBounds_toArray, List.set_cons_zero, List.set_cons_succ] at hK ⊢
      have a0 := cell_ext q1 hx
      go_simp
      exact hK _ _ (Ext.refl _) rfl
    apply chain_val
    · intro w2 hx  K hK
      simp only [Act.put, List.setIfInBounds_toArray, List.set_cons_zero, List.set_cons_succ] at hK ⊢
      go_simp
      exact hK _ _ (Ext.refl _) rfl
    apply chain_val (.string s2)
    · intro w2 hx  K hK
      simp only [Act.put, List.setIfInBounds_toArray, List.set_cons_zero, List.set_cons_succ] at hK ⊢
      have a0 := cell_ext q1 hx
      go_simp
      exact hK _ _ (Ext.refl _) rfl
    apply chain_val
    · intro w2 hx  K hK
      simp only [Act.put, List.setIfInBounds_toArray, List.set_cons_zero, List.set_cons_succ] at hK ⊢
      go_simp
      exact hK _ _ (Ext.refl _) rfl
    apply chain_val (.int .i64 (m' : Int))
    · intro w2 hx  K hK
      simp only [Act.put, List.setIfInBounds_toArray, List.set_cons_zero, List.set_cons_succ] at hK ⊢
      go_simp
      exact hK _ _ (Ext.refl _) rfl
    apply chain_val (.string P')
    · intro w2 hx  K hK
      simp only [Act.put, List.setIfInBounds_toArray, List.set_cons_zero, List.set_cons_succ] at hK ⊢
      go_simp
      refine hK _ _ (Ext.refl _) ?_
      show Value.string _ = _
      rw [← hP']
    apply chain_val
    · intro w2 hx  K hK
      simp only [Act.put, List.setIfInBounds_toArray, List.set_cons_zero, List.set_cons_succ] at hK ⊢
      go_simp
      exact hK _ _ (Ext.refl _) rfl
    apply chain_val
    · intro w2 hx  K hK
      simp only [Act.put, List.setIfInBounds_toArray, List.set_cons_zero, List.set_cons_succ] at hK ⊢
      go_simp
      exact hK _ _ (Ext.refl _) rfl
    refine chain_end fun w2 hx => ?_
    simp only [List.reverse_cons, List.reverse_nil, List.nil_append, List.cons_append, withDeps, Act.put, List.setIfInBounds_toArray, List.set_cons_zero, List.set_cons_succ]
    clear q0 q1 he2
    obtain ⟨w3, rfl⟩ : ∃ w3, w3 = w2 := ⟨_, rfl⟩
    replace hE2 := hE2.trans hx
    replace r4 := r4.ext hx
    replace r5 := r5.ext hx
    replace c1 := cell_ext c1 hx
    replace ht := ht.ext hx
    clear hx hb4 hb5
    have d0 := RowIs.cell r4 0 _ rfl
    have d1 := RowIs.cell r4 1 _ rfl
    have d2 := RowIs.cell r4 2 _ rfl
    simp only [List.getElem_toArray, List.getElem_cons_zero, List.getElem_cons_succ] at d0 d1 d2
    go_wp2_with fail
    refine (of04_any _ _ _ _).mono ?_
    rintro e w4 ⟨rfl, he6⟩
    replace hE2 := hE2.trans he6
    replace r4 := r4.ext he6
    replace r5 := r5.ext he6
    replace c1 := cell_ext c1 he6
    replace ht := ht.ext he6
    clear he6 d0 d1 d2
    have hse := fun w ht => seal_ok b 128 K X n P w ht hok hn (by omega) (by decide) (by decide)
    unfold ptrC at hse
    obtain ⟨I, hI⟩ : ∃ I, imgT 128 ⟨K, ((X : Nat) : Int), n⟩ P (sumT 128 ⟨K, ((X : Nat) : Int), n⟩ P) = I := ⟨_, rfl⟩
    rw [hI] at hse
    obtain ⟨c, hc⟩ : ∃ c, sumT 128 ⟨K, ((X : Nat) : Int), n⟩ P = c := ⟨_, rfl⟩
    rw [hc] at hse
    have HI := Lib.hid hI
    clear hI hc
    go_wp2_with fail
    refine (hse _ ht).mono ?_
    rintro e w5 ⟨rfl, he6⟩
    replace hE2 := hE2.trans he6
    replace r4 := r4.ext he6
    replace r5 := r5.ext he6
    replace c1 := cell_ext c1 he6
    replace ht := ht.ext he6
    clear he6 hse
    go_upto_region 5 with (fail)
    have he6 := Ext.alloc w5 (.cells #[.int .i64 (X : Int), .int .u64 (n : Int), .int .u32 (c : Int)] 32)
    obtain ⟨w6, hw6⟩ : ∃ w9, w5.alloc (.cells #[.int .i64 (X : Int), .int .u64 (n : Int), .int .u32 (c : Int)] 32) = w9 := ⟨_, rfl⟩
    rw [hw6] at he6 ⊢
    replace hE2 := hE2.trans he6
    replace r4 := r4.ext he6
    replace r5 := r5.ext he6
    replace c1 := cell_ext c1 he6
    replace ht := ht.ext he6
    clear he6 hw6
    have d0 := RowIs.cell r5 0 _ rfl
    have d1 := RowIs.cell r5 1 _ rfl
    have d2 := RowIs.cell r5 2 _ rfl
    simp only [List.getElem_toArray, List.getElem_cons_zero, List.getElem_cons_succ] at d0 d1 d2
    go_wp2_with fail
    refine (of04_any _ _ _ _).mono ?_
    rintro e w7 ⟨rfl, he6⟩
    replace hE2 := hE2.trans he6
    replace r4 := r4.ext he6
    replace r5 := r5.ext he6
    replace c1 := cell_ext c1 he6
    replace ht := ht.ext he6
    clear he6 d0 d1 d2
    have hse := fun w ht => seal_ok b 128 K2 X2 n2 P' w ht hok2 hn2 (by omega) (by decide) (by decide)
    unfold ptrC at hse
    obtain ⟨I2, hI2⟩ : ∃ I, imgT 128 ⟨K2, ((X2 : Nat) : Int), n2⟩ P' (sumT 128 ⟨K2, ((X2 : Nat) : Int), n2⟩ P') = I := ⟨_, rfl⟩
    rw [hI2] at hse
    obtain ⟨c2, hc2⟩ : ∃ c, sumT 128 ⟨K2, ((X2 : Nat) : Int), n2⟩ P' = c := ⟨_, rfl⟩
    rw [hc2] at hse
    have HI2 := Lib.hid hI2
    clear hI2 hc2
    go_wp2_with fail
    refine (hse _ ht).mono ?_
    rintro e w8 ⟨rfl, he6⟩
    replace hE2 := hE2.trans he6
    replace r4 := r4.ext he6
    replace r5 := r5.ext he6
    replace c1 := cell_ext c1 he6
    replace ht := ht.ext he6
    clear he6 hse
    go_upto_region 6 with (fail)
    have he6 := Ext.alloc w8 (.cells #[.int .i64 (X2 : Int), .int .u64 (n2 : Int), .int .u32 (c2 : Int)] 32)
    obtain ⟨w9, hw9⟩ : ∃ w9, w8.alloc (.cells #[.int .i64 (X2 : Int), .int .u64 (n2 : Int), .int .u32 (c2 : Int)] 32) = w9 := ⟨_, rfl⟩
    rw [hw9] at he6 ⊢
    replace hE2 := hE2.trans he6
    replace r4 := r4.ext he6
    replace r5 := r5.ext he6
    replace c1 := cell_ext c1 he6
    replace ht := ht.ext he6
    clear he6 hw9
    have hsz : I.size = 128 := by rw [← HI.out]; exact imgT_size (by omega)
    have hsz2 : I2.size = 128 := by rw [← HI2.out]; exact imgT_size (by omega)
    have hinj := img_inj (p := P) (p' := P') hok hn (by omega) hok2 hn2 (by omega)
    rw [HI.out, HI2.out] at hinj
    have HINJ := Lib.hid hinj
    have HSZ := Lib.hid hsz
    have hszI : (I.size : Int) = 128 := by rw [hsz]; rfl
    have HE2 := Lib.hid hE2
    clear hinj hsz hsz2 hE2 hP hP' hm1 hm1'
    go_cut [88] (fun v wx => v = .bool false ∧ Ext w9 wx)
    case first =>
      have d0 := RowIs.cell r4 0 _ rfl
      have d1 := RowIs.cell r4 1 _ rfl
      have d2 := RowIs.cell r4 2 _ rfl
      have f0 := RowIs.cell r5 0 _ rfl
      have f1 := RowIs.cell r5 1 _ rfl
      have f2 := RowIs.cell r5 2 _ rfl
      simp only [List.getElem_toArray, List.getElem_cons_zero, List.getElem_cons_succ] at d0 d1 d2 f0 f1 f2
      go_wp2_with fail
      refine (wakes04 _).mono ?_
      rintro e wa ⟨rfl, he9⟩
      replace d0 := cell_ext d0 he9
      replace d1 := cell_ext d1 he9
      replace d2 := cell_ext d2 he9
      replace f0 := cell_ext f0 he9
      replace f1 := cell_ext f1 he9
      replace f2 := cell_ext f2 he9
      by_cases hA : (K = K2 ∧ X = X2 ∧ n = n2) ∧ P = P'
      · obtain rfl := HINJ.out.2 hA
        obtain ⟨⟨rfl, rfl, rfl⟩, rfl⟩ := hA
        go_wp2_with fail
        go_meet
        exact ⟨rfl, he9⟩
      · have hIn : ¬ I = I2 := fun h => hA (HINJ.out.1 h)
        have hIb : (I.toList == I2.toList) = false := str_ne hIn
        clear HINJ
        by_cases q1 : K = K2
        · obtain rfl := q1
          by_cases q2 : X = X2
          · obtain rfl := q2
            by_cases q3 : n = n2
            · obtain rfl := q3
              have q4 : ¬ P = P' := fun h => hA ⟨⟨rfl, rfl, rfl⟩, h⟩
              have q5 : (P.toList == P'.toList) = false := str_ne q4
              clear hA
              go_wp2_with fail
              go_meet
              exact ⟨rfl, he9⟩
            · have q4 : ¬ (n : Int) = n2 := by omega
              clear hA
              go_wp2_with fail
              go_meet
              exact ⟨rfl, he9⟩
          · have q4 : ¬ (X : Int) = X2 := by omega
            clear hA
            go_wp2_with fail
            go_meet
            exact ⟨rfl, he9⟩
        · have q4 : ¬ (K : Int) = K2 := by omega
          clear hA
          go_wp2_with fail
          go_meet
          exact ⟨rfl, he9⟩
    obtain ⟨rfl, he9⟩ := hcut
    have HE3 := Lib.hid (HE2.out.trans he9)
    replace ht := ht.ext he9
    replace c1 := cell_ext c1 he9
    have hop : ∀ (q : Nat) (z : UInt8) (hq : q < I.data.toList.length), z ≠ I.data.toList[q] → ∃ e : Int, openAns ⟨(I.data.toList.set q z).toArray⟩ = .tuple #[.agg hdZ, .string ⟨#[]⟩, .int .i64 e] ∧ (e = 4 ∨ e = 5) := by
      intro q z hq hz
      have e := HI.out
      subst e
      exact open_turned (p := P) (by omega) hq hz
    have HOP := Lib.hid hop
    obtain ⟨d, hd1, hd2⟩ : ∃ d : Nat, bits .and .i64 x 127 = (d : Int) ∧ d ≤ 127 := ⟨(x % 128).toNat, by rw [i64_and127]; omega, by omega⟩
    have HD := Lib.hid hd1
    have hl : I.data.toList.length = 128 := by rw [Array.length_toList]; exact HSZ.out
    have HL := Lib.hid hl
    clear hop HINJ HI HI2 HE2 r4 r5 he9 hd1 hl hPs hPs' hok hok2
    go_wp2_with fail
    go_loopw [91] (fun i wr => ∃ q : Nat, q ≤ 128 ∧ i = .int .i64 (q : Int) ∧ Ext wc wr) (fun i _ => 128 - (intOf i).toNat)
    case atStart => exact ⟨0, by omega, rfl, Ext.refl _⟩
    case round =>
      obtain ⟨q, hq, rfl, hx⟩ := hrel
      replace ht := ht.ext hx
      replace c1 := cell_ext c1 hx
      by_cases hlt : q < 128
      · go_wp2_with fail
        have hqs : q < I.size := by rw [HSZ.out]; exact hlt
        have hqs' : q < I.data.toList.length := by rw [HL.out]; exact hlt
        obtain ⟨y, hy⟩ : ∃ y : UInt8, y.toNat = d + 1 := ⟨UInt8.ofNat (d + 1), by rw [UInt8.toNat_ofNat']; omega⟩
        have hx1 := xor_byte I.data.toList[q] y
        have hzn : I.data.toList[q] ^^^ y ≠ I.data.toList[q] := by
          intro h
          have h2 := congrArg (fun u => I.data.toList[q] ^^^ u) h
          simp only [UInt8.xor_self, ← UInt8.xor_assoc, UInt8.zero_xor] at h2
          rw [h2] at hy
          simp at hy
        obtain ⟨e9, hoe, hoe2⟩ := HOP.out q _ hqs' hzn
        have HX := Lib.hid (extract_turn (z := I.data.toList[q] ^^^ y) hqs)
        have HBX := Lib.hid (show I[q]'hqs = I.data.toList[q] from rfl)
        have hopn := fun wz hz => open_any b ⟨(I.data.toList.set q (I.data.toList[q] ^^^ y)).toArray⟩ wz hz (by unfold maxLen; show (List.toArray _).size ≤ _; rw [List.size_toArray, List.length_set, HL.out]; decide)
        rw [hoe] at hopn
        rw [← HX.out] at hopn
        have HXs : (I.extract 0 q ++ ⟨#[I.data.toList[q] ^^^ y]⟩ ++ I.extract (q + 1) I.size).size = 128 := by
          rw [HX.out]; show (List.toArray _).size = _; rw [List.size_toArray, List.length_set, HL.out]
        clear hoe hzn
        rw [hy] at hx1
        simp only [Int.natCast_add, Int.cast_ofNat_Int] at hx1
        have hIs : I.size ≤ 128 := by rw [HSZ.out]; exact Nat.le_refl _
        generalize I.data.toList[q] = x9 at *
        generalize x9 ^^^ y = z at *
        have hw1 : IntKind.u8.wrap (d : Int) = (d : Int) := by rw [IntKind.wrap_u8]; omega
        have hw2 : IntKind.u8.wrap (1 + (d : Int)) = ((d + 1 : Nat) : Int) := by rw [IntKind.wrap_u8]; omega
        have hwp : IntKind.i64.wrap ((q : Int) + 1) = (q : Int) + 1 := by rw [IntKind.wrap_i64]; omega
        have h0 : 0 ≤ (q : Int) ∧ (q : Int) < (I.size : Int) := by omega
        have h1 : (q : Int) ≤ (I.size : Int) := by omega
        have h2 : (q : Int) + 1 ≤ (I.size : Int) := by omega
        obtain ⟨wl, rfl⟩ : ∃ wl, wl = wr := ⟨_, rfl⟩
        have HX0 := hx
        clear hx hy hszI
        generalize decide ((q : Int) < 128) = bq
        refine wp_region_drift_lit (n := 128) (by kernel_rfl) (by kernel_rfl) (by rfl) ?_
        apply chain_val
        · intro w2 hx  K hK
          simp only [Act.put, List.setIfInBounds_toArray, List.set_cons_zero, List.set_cons_succ] at hK ⊢
          go_simp
          exact hK _ _ (Ext.refl _) rfl
        apply chain_val
        · intro w2 hx  K hK
          simp only [Act.put, List.setIfInBounds_toArray, List.set_cons_zero, List.set_cons_succ] at hK ⊢
          go_simp
          exact hK _ _ (Ext.refl _) rfl
        apply chain_val (.string (I.extract 0 q))
        · intro w2 hx  K hK
          simp only [Act.put, List.setIfInBounds_toArray, List.set_cons_zero, List.set_cons_succ] at hK ⊢
          go_simp
          exact hK _ _ (Ext.refl _) rfl
        apply chain_val
        · intro w2 hx  K hK
          simp only [Act.put, List.setIfInBounds_toArray, List.set_cons_zero, List.set_cons_succ] at hK ⊢
          go_simp
          exact hK _ _ (Ext.refl _) rfl
        apply chain_val
        · intro w2 hx  K hK
          simp only [Act.put, List.setIfInBounds_toArray, List.set_cons_zero, List.set_cons_succ] at hK ⊢
          go_simp
          exact hK _ _ (Ext.refl _) rfl
        apply chain_val (.int .u8 (x9.toNat : Int))
        · intro w2 hx  K hK
          simp only [Act.put, List.setIfInBounds_toArray, List.set_cons_zero, List.set_cons_succ] at hK ⊢
          go_simp
          refine hK _ _ (Ext.refl _) ?_
          rw [← HBX.out]
          rfl
        apply chain_val
        · intro w2 hx  K hK
          simp only [Act.put, List.setIfInBounds_toArray, List.set_cons_zero, List.set_cons_succ] at hK ⊢
          go_simp
          exact hK _ _ (Ext.refl _) rfl
        apply chain_val (.int .i64 x)
        · intro w2 hx  K hK
          simp only [Act.put, List.setIfInBounds_toArray, List.set_cons_zero, List.set_cons_succ] at hK ⊢
          have a1 := cell_ext c1 hx
          go_simp
          exact hK _ _ (Ext.refl _) rfl
        apply chain_val (.int .i64 (d : Int))
        · intro w2 hx  K hK
          simp only [Act.put, List.setIfInBounds_toArray, List.set_cons_zero, List.set_cons_succ] at hK ⊢
          have a1 := HD.out
          go_simp
          exact hK _ _ (Ext.refl _) rfl
        apply chain_val (.int .u8 (d : Int))
        · intro w2 hx  K hK
          simp only [Act.put, List.setIfInBounds_toArray, List.set_cons_zero, List.set_cons_succ] at hK ⊢
          go_simp
          exact hK _ _ (Ext.refl _) rfl
        apply chain_val (.int .u8 ((d + 1 : Nat) : Int))
        · intro w2 hx  K hK
          simp only [Act.put, List.setIfInBounds_toArray, List.set_cons_zero, List.set_cons_succ] at hK ⊢
          go_simp
          exact hK _ _ (Ext.refl _) rfl
        apply chain_val (.int .u8 (z.toNat : Int))
        · intro w2 hx  K hK
          simp only [Act.put, List.setIfInBounds_toArray, List.set_cons_zero, List.set_cons_succ] at hK ⊢
          go_simp
          exact hK _ _ (Ext.refl _) rfl
        refine chain_pred (OneB z) (fun _ _ _ e h => OneB.ext h e) ?_ ?_
        · intro w2 hx  K hK
          simp only [Act.put, List.setIfInBounds_toArray, List.set_cons_zero, List.set_cons_succ] at hK ⊢
          go_simp
          exact hK _ _ (Ext.alloc _ _) ⟨_, _, rfl, World.cell?_alloc_new _ _ _ 0⟩
        apply chain_val (.string ⟨#[z]⟩)
        · intro w2 hx v12 h12 K hK
          simp only [Act.put, List.setIfInBounds_toArray, List.set_cons_zero, List.set_cons_succ] at hK ⊢
          obtain ⟨b8, c8, rfl, k8⟩ := h12
          have hcv := conv_oneB (c := c8) k8
          go_simp
          exact hK _ _ (Ext.refl _) rfl
        apply chain_val (.string (I.extract 0 q ++ ⟨#[z]⟩))
        · intro w2 hx  K hK
          simp only [Act.put, List.setIfInBounds_toArray, List.set_cons_zero, List.set_cons_succ] at hK ⊢
          have q9 : ¬ (9223372036854775807 < min q I.size + 1) := by omega
          go_simp
          exact hK _ _ (Ext.refl _) rfl
        apply chain_val
        · intro w2 hx  K hK
          simp only [Act.put, List.setIfInBounds_toArray, List.set_cons_zero, List.set_cons_succ] at hK ⊢
          go_simp
          exact hK _ _ (Ext.refl _) rfl
        apply chain_val
        · intro w2 hx  K hK
          simp only [Act.put, List.setIfInBounds_toArray, List.set_cons_zero, List.set_cons_succ] at hK ⊢
          go_simp
          exact hK _ _ (Ext.refl _) rfl
        apply chain_val (.int .i64 ((q : Int) + 1))
        · intro w2 hx  K hK
          simp only [Act.put, List.setIfInBounds_toArray, List.set_cons_zero, List.set_cons_succ] at hK ⊢
          go_simp
          exact hK _ _ (Ext.refl _) rfl
        apply chain_val (.string (I.extract (q + 1) I.size))
        · intro w2 hx  K hK
          simp only [Act.put, List.setIfInBounds_toArray, List.set_cons_zero, List.set_cons_succ] at hK ⊢
          go_simp
          exact hK _ _ (Ext.refl _) rfl
        apply chain_val (.string (I.extract 0 q ++ ⟨#[z]⟩ ++ I.extract (q + 1) I.size))
        · intro w2 hx  K hK
          simp only [Act.put, List.setIfInBounds_toArray, List.set_cons_zero, List.set_cons_succ] at hK ⊢
          have q9 : ¬ (9223372036854775807 < min q I.size + 1 + (I.size - (q + 1))) := by omega
          go_simp
          exact hK _ _ (Ext.refl _) rfl
        apply chain_val (.string (I.extract 0 q ++ ⟨#[z]⟩ ++ I.extract (q + 1) I.size))
        · intro w2 hx v12 h12 K hK
          simp only [Act.put, List.setIfInBounds_toArray, List.set_cons_zero, List.set_cons_succ] at hK ⊢
          go_simp
          exact hK _ _ (Ext.refl _) rfl
        refine chain_end fun w2 hx => ?_
        simp only [List.reverse_cons, List.reverse_nil, List.nil_append, List.cons_append, withDeps, Act.put, List.setIfInBounds_toArray, List.set_cons_zero, List.set_cons_succ]
        intro v12 h12
        replace ht := ht.ext hx
        generalize I.extract 0 q ++ ⟨#[z]⟩ ++ I.extract (q + 1) I.size = T at *
        have HX2 := HX0.trans hx
        clear hx HX0 h12 HX HBX HXs c1 hw1 hw2 hx1
        unfold hdZ at hopn
        go_wp2_with fail
        refine (hopn _ ht).mono ?_
        rintro e wo ⟨rfl, hx⟩
        replace HX2 := HX2.trans hx
        clear hopn hx
        rcases hoe2 with rfl | rfl
        all_goals
          go_wp2_with fail
          go_roundw
          case rel => exact ⟨q + 1, by omega, by go_num, HX2.trans (Ext.alloc _ _)⟩
          case measure => simp [intOf]; omega
      · go_wp2_with fail
        go_ret
        exact ⟨rfl, HE3.out.trans hx⟩
end Go.Proofs.Ytbnpldilkkhgmaa
