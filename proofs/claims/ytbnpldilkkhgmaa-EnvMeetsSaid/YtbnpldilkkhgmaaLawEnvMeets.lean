/- The walk of law04.EnvMeets. -/
import Derived.Test.YtbnpldilkkhgmaaEnvL
namespace Go.Proofs.Ytbnpldilkkhgmaa
open Go.RowKit
theorem bits_xor_u64 (x y : Int) : ∃ n : Nat, bits .xor .u64 x y = (n : Int) := by
  show ∃ n : Nat, IntKind.u64.wrap _ = (n : Int)
  rw [IntKind.wrap_u64]
  exact ⟨_, (Int.toNat_of_nonneg (Int.emod_nonneg _ (by decide))).symm⟩
theorem bits_xor_u32 (x y : Int) : ∃ n : Nat, bits .xor .u32 x y = (n : Int) := by
  show ∃ n : Nat, IntKind.u32.wrap _ = (n : Int)
  rw [IntKind.wrap_u32]
  exact ⟨_, (Int.toNat_of_nonneg (Int.emod_nonneg _ (by decide))).symm⟩
set_option maxRecDepth 100000 in
set_option maxHeartbeats 6000000 in
theorem envMeets_walk (k : Nat) (x : Int) (n : Nat) (s : ByteArray) (b0 b1 b2 : Nat) (w : World) (hk : k < 256) (_hx1 : -9223372036854775808 ≤ x) (hx2 : x ≤ 9223372036854775807) (hn : n < 18446744073709551616) (hs : s.size ≤ maxLen) (hb0 : b0 < 4294967296) (hb1 : b1 < 4294967296) (_hb2 : b2 < 4294967296) :
    Calls Try.prog 6 #[.agg #[.int .u8 (k : Int), .int .i64 x, .int .u64 (n : Int)], .string s, .agg #[.int .u32 (b0 : Int), .int .u32 (b1 : Int), .int .u32 (b2 : Int)]] w fun e w' => e = .returned (.bool true) ∧ Ext w w' := by
  unfold maxLen at hs
  have hok := tame_ok k x n
  have htm := fun w => tame04_any k n x w hk hx2
  obtain ⟨K, hK⟩ : ∃ K, tameK k = K := ⟨_, rfl⟩
  obtain ⟨X, hX⟩ : ∃ X, tameX x = X := ⟨_, rfl⟩
  rw [hK, hX] at hok htm
  have hX31 := (Env.okHead_iff.1 hok).2
  simp only at hX31
  clear hK hX
  obtain ⟨m, hm⟩ : ∃ m : Nat, min (s.size : Int) 168 = (m : Int) ∧ m ≤ s.size ∧ m ≤ 168 := ⟨min s.size 168, by omega, by omega, by omega⟩
  obtain ⟨hm1, hm2, hm3⟩ := hm
  obtain ⟨P, hP⟩ : ∃ P, s.extract 0 m = P := ⟨_, rfl⟩
  have hPs : P.size ≤ 168 := by rw [← hP]; simp; omega
  have hse := fun b w ht => seal_ok b 192 K X n P w ht hok hn (by omega) (by decide) (by decide)
  obtain ⟨_, hme⟩ := open_img (size := 192) (p := P) hok hn (by omega) (by decide) (by decide)
  have hsz := imgT_size (size := 192) (h := ⟨K, ((X : Nat) : Int), n⟩) (p := P) (c := sumT 192 ⟨K, ((X : Nat) : Int), n⟩ P) (by omega)
  generalize imgT 192 ⟨K, ((X : Nat) : Int), n⟩ P (sumT 192 ⟨K, ((X : Nat) : Int), n⟩ P) = I at *
  have hcl : sumT 192 ⟨K, ((X : Nat) : Int), n⟩ P < 4294967296 := Crc.sum_lt _
  generalize sumT 192 ⟨K, ((X : Nat) : Int), n⟩ P = c at *
  have hmts := fun b (a : Int) g c w ht => meets_any b a g c I w ht (by unfold maxLen; omega)
  have htx := fun w => text_yes X n c w (by omega) hn hcl
  have hpb := fun w => parse_any (ptrT X n c) w (by rw [ptrT_size]; unfold maxLen; omega)
  have hpp := parse_ptr X n c ⟨#[]⟩ (by omega) hn hcl
  rw [show ptrT X n c ++ (⟨#[]⟩ : ByteArray) = ptrT X n c from ByteArray.append_empty] at hpp
  rw [hpp] at hpb
  clear hpp
  have htx' : ∀ w, Calls Try.prog 20 #[.agg #[.int .i64 (X : Int), .int .u64 (n : Int), .int .u32 (c : Int)]] w fun e w' => e = .returned (.tuple #[.string (ptrT X n c), .bool true]) ∧ Ext w w' := htx
  clear htx
  generalize ptrT X n c = T at *
  unfold ptrC at hpb hse
  go_enter Try.func6, Try.ntmps6
  go_wp2_with fail
  refine (make_ext _).mono ?_
  rintro e w1 ⟨b, rfl, ht, he1⟩
  have hd0 := cell_ext (cell_ext (World.cell?_alloc_new w _ _ 0) (Ext.alloc _ _)) he1
  have hd1 := cell_ext (cell_ext (World.cell?_alloc_new w _ _ 1) (Ext.alloc _ _)) he1
  have hd2 := cell_ext (cell_ext (World.cell?_alloc_new w _ _ 2) (Ext.alloc _ _)) he1
  have hr5 := (RowIs.new2 w _ _ _).ext he1
  have hE1 := (Ext.alloc w _).trans ((Ext.alloc _ _).trans he1)
  go_upto_region 2 with (fail)
  have ho : OneEach [(32, ptrZ, ptrC X n c)] := by intro p hp q hq _; simp only [List.mem_singleton] at hp hq; rw [hp, hq]
  have p1 : (32, ptrZ, ptrC X n c) ∈ [(32, ptrZ, ptrC X n c)] := List.mem_singleton.2 rfl
  refine RR.wp_region_drift_lit (n := 98) (Slots.rel ho (B := w1.heap.size)) (by kernel_rfl) (by kernel_rfl) (by rfl) ?_
  apply RR.chain_val
  · rfl
  · intro w2 hx  K hK
    simp only [Act.put, List.setIfInBounds_toArray, List.set_cons_zero, List.set_cons_succ] at hK ⊢
    go_simp
    exact hK _ _ (RR.Rel.refl (Slots.rel ho (B := w1.heap.size)) _) rfl
  apply RR.chain_val (.agg #[.int .u8 (k : Int), .int .i64 x, .int .u64 (n : Int)])
  · rfl
  · intro w2 hx  K hK
    simp only [Act.put, List.setIfInBounds_toArray, List.set_cons_zero, List.set_cons_succ] at hK ⊢
    have he := Slots.ext (Ext.refl _) hx (Nat.le_refl _)
    have c0 := cell_ext hd0 he
    have c1 := cell_ext hd1 he
    have c2 := cell_ext hd2 he
    go_simp
    exact hK _ _ ((Slots.rel ho).refl _) rfl
  apply RR.chain_val (.agg #[.int .u8 (K : Int), .int .i64 (X : Int), .int .u64 (n : Int)])
  · rfl
  · intro w2 hx  K hK
    simp only [Act.put, List.setIfInBounds_toArray, List.set_cons_zero, List.set_cons_succ] at hK ⊢
    go_simp
    refine (htm _).mono ?_
    rintro e w6 ⟨rfl, he6⟩
    exact hK _ _ (Slots.of he6) rfl
  apply RR.chain_val (.agg #[.int .u8 (K : Int), .int .i64 (X : Int), .int .u64 (n : Int)])
  · rfl
  · intro w2 hx  K hK
    simp only [Act.put, List.setIfInBounds_toArray, List.set_cons_zero, List.set_cons_succ] at hK ⊢
    go_simp
    refine (of04_any _ _ _ _).mono ?_
    rintro e w6 ⟨rfl, he6⟩
    exact hK _ _ (Slots.of he6) rfl
  apply RR.chain_val
  · rfl
  · intro w2 hx  K hK
    simp only [Act.put, List.setIfInBounds_toArray, List.set_cons_zero, List.set_cons_succ] at hK ⊢
    go_simp
    exact hK _ _ (RR.Rel.refl (Slots.rel ho (B := w1.heap.size)) _) rfl
  apply RR.chain_val
  · rfl
  · intro w2 hx  K hK
    simp only [Act.put, List.setIfInBounds_toArray, List.set_cons_zero, List.set_cons_succ] at hK ⊢
    go_simp
    exact hK _ _ (RR.Rel.refl (Slots.rel ho (B := w1.heap.size)) _) rfl
  apply RR.chain_val
  · rfl
  · intro w2 hx  K hK
    simp only [Act.put, List.setIfInBounds_toArray, List.set_cons_zero, List.set_cons_succ] at hK ⊢
    go_simp
    exact hK _ _ (RR.Rel.refl (Slots.rel ho (B := w1.heap.size)) _) rfl
  apply RR.chain_val (.int .i64 (m : Int))
  · rfl
  · intro w2 hx  K hK
    simp only [Act.put, List.setIfInBounds_toArray, List.set_cons_zero, List.set_cons_succ] at hK ⊢
    go_simp
    exact hK _ _ ((Slots.rel ho).refl _) rfl
  apply RR.chain_val (.string P)
  · rfl
  · intro w2 hx  K hK
    simp only [Act.put, List.setIfInBounds_toArray, List.set_cons_zero, List.set_cons_succ] at hK ⊢
    go_simp
    refine hK _ _ ((Slots.rel ho).refl _) ?_
    show Value.string _ = _
    rw [← hP]
  apply RR.chain_val (.tuple #[.string I, .agg #[.int .i64 (X : Int), .int .u64 (n : Int), .int .u32 (c : Int)], .int .i64 0])
  · rfl
  · intro w2 hx  K hK
    simp only [Act.put, List.setIfInBounds_toArray, List.set_cons_zero, List.set_cons_succ] at hK ⊢
    go_simp
    refine (hse b _ (ht.ext (Slots.ext (Ext.refl _) hx (Nat.le_refl _)))).mono ?_
    rintro e w6 ⟨rfl, he6⟩
    exact hK _ _ (Slots.of he6) rfl
  apply RR.chain_val
  · rfl
  · intro w2 hx  K hK
    simp only [Act.put, List.setIfInBounds_toArray, List.set_cons_zero, List.set_cons_succ] at hK ⊢
    go_simp
    exact hK _ _ (RR.Rel.refl (Slots.rel ho (B := w1.heap.size)) _) rfl
  apply RR.chain_val
  · rfl
  · intro w2 hx  K hK
    simp only [Act.put, List.setIfInBounds_toArray, List.set_cons_zero, List.set_cons_succ] at hK ⊢
    go_simp
    exact hK _ _ (RR.Rel.refl (Slots.rel ho (B := w1.heap.size)) _) rfl
  apply RR.chain_val
  · rfl
  · intro w2 hx  K hK
    simp only [Act.put, List.setIfInBounds_toArray, List.set_cons_zero, List.set_cons_succ] at hK ⊢
    go_simp
    exact hK _ _ (RR.Rel.refl (Slots.rel ho (B := w1.heap.size)) _) rfl
  apply RR.chain_val
  · rfl
  · intro w2 hx  K hK
    simp only [Act.put, List.setIfInBounds_toArray, List.set_cons_zero, List.set_cons_succ] at hK ⊢
    go_simp
    exact hK _ _ (RR.Rel.refl (Slots.rel ho (B := w1.heap.size)) _) rfl
  refine RR.chain_pred (Fresh w1.heap.size 32 ptrZ (ptrC X n c)) (fun _ _ _ e h => Fresh.kept ho p1 h e) rfl ?_ ?_
  · intro w2 hx  K hK
    simp only [Act.put, List.setIfInBounds_toArray, List.set_cons_zero, List.set_cons_succ] at hK ⊢
    go_simp
    exact hK _ _ (Slots.of (Ext.alloc _ _)) (Fresh.new hx.size)
  apply RR.chain_val
  · rfl
  · intro w2 hx v14 h14 K hK
    simp only [Act.put, List.setIfInBounds_toArray, List.set_cons_zero, List.set_cons_succ] at hK ⊢
    go_simp
    exact hK _ _ (RR.Rel.refl (Slots.rel ho (B := w1.heap.size)) _) rfl
  refine RR.chain_store (Done w1.heap.size 32 (ptrC X n c)) (fun _ _ _ e h => Done.kept ho p1 h e) rfl rfl ?_ ?_
  · intro w2 hx _ _ v14 h14 K hK
    simp only [Act.put, List.setIfInBounds_toArray, List.set_cons_zero, List.set_cons_succ] at hK ⊢
    obtain ⟨b1, rfl, hb1, c, hr, hc⟩ := h14
    have hs : c.size = 3 := by rcases hc with rfl | rfl <;> rfl
    exact step_store rfl rfl rfl rfl hr (by kernel_rfl) hs (by simp [Value.oneCell']) (let ⟨e, q⟩ := Slots.setRow p1 hb1 hr hc; hK _ e ⟨b1, rfl, hb1, q⟩)
  apply RR.chain_val
  · rfl
  · intro w2 hx _ _ v14 h14 v16 h16 K hK
    simp only [Act.put, List.setIfInBounds_toArray, List.set_cons_zero, List.set_cons_succ] at hK ⊢
    go_simp
    exact hK _ _ (RR.Rel.refl (Slots.rel ho (B := w1.heap.size)) _) rfl
  refine RR.chain_end fun w2 hx => ?_
  simp only [List.reverse_cons, List.reverse_nil, List.nil_append, List.cons_append, RR.withDeps, Act.put, List.setIfInBounds_toArray, List.set_cons_zero, List.set_cons_succ]
  intro v14 h14 v16 h16
  obtain ⟨b9, rfl, hb9, r9⟩ := h16
  have he2 := Slots.ext (Ext.refl _) hx (Nat.le_refl _)
  have d0 := r9.cell 0 (.int .i64 (X : Int)) rfl
  have d1 := r9.cell 1 (.int .u64 (n : Int)) rfl
  have d2 := r9.cell 2 (.int .u32 (c : Int)) rfl
  have r5 := hr5.ext he2
  have f0 := r5.cell 0 (.int .u32 (b0 : Int)) rfl
  have f1 := r5.cell 1 (.int .u32 (b1 : Int)) rfl
  have f2 := r5.cell 2 (.int .u32 (b2 : Int)) rfl
  replace ht := ht.ext he2
  replace hE1 := hE1.trans he2
  clear hx hr5 hd0 hd1 hd2 hse htm he2 r5 r9 ho p1 h14
  go_upto_region 4 with (fail)
  obtain ⟨A', hA'⟩ : ∃ A' : Int, bits .xor .i64 (X : Int) ((b0 : Int) / 2) = A' := ⟨_, rfl⟩
  obtain ⟨G', hG'⟩ : ∃ G' : Nat, bits .xor .u64 (n : Int) (b1 : Int) = (G' : Int) := bits_xor_u64 _ _
  obtain ⟨C', hC'⟩ : ∃ C' : Nat, bits .xor .u32 (c : Int) (b2 : Int) = (C' : Int) := bits_xor_u32 _ _
  rw [hA', hG', hC']
  have e0 := World.cell?_alloc_new w2 #[.int .i64 A', .int .u64 (G' : Int), .int .u32 (C' : Int)] 32 0
  have e1 := World.cell?_alloc_new w2 #[.int .i64 A', .int .u64 (G' : Int), .int .u32 (C' : Int)] 32 1
  have e2 := World.cell?_alloc_new w2 #[.int .i64 A', .int .u64 (G' : Int), .int .u32 (C' : Int)] 32 2
  have he3 := Ext.alloc w2 (.cells #[.int .i64 A', .int .u64 (G' : Int), .int .u32 (C' : Int)] 32)
  obtain ⟨w3, hw3⟩ : ∃ w3, w2.alloc (.cells #[.int .i64 A', .int .u64 (G' : Int), .int .u32 (C' : Int)] 32) = w3 := ⟨_, rfl⟩
  rw [hw3] at e0 e1 e2 he3 ⊢
  replace d0 := cell_ext d0 he3
  replace d1 := cell_ext d1 he3
  replace d2 := cell_ext d2 he3
  replace ht := ht.ext he3
  replace hE1 := hE1.trans he3
  clear hw3 hA' hG' hC' f0 f1 f2 he3
  go_wp2_with fail
  refine (htx' _).mono ?_
  rintro e w4 ⟨rfl, he4⟩
  go_wp2_with fail
  refine (hpb _).mono ?_
  rintro e w5 ⟨rfl, he5⟩
  replace e0 := fun o => cell_ext (cell_ext (cell_ext e0 he4) he5) (Ext.alloc w5 o)
  replace e1 := fun o => cell_ext (cell_ext (cell_ext e1 he4) he5) (Ext.alloc w5 o)
  replace e2 := fun o => cell_ext (cell_ext (cell_ext e2 he4) he5) (Ext.alloc w5 o)
  replace d0 := fun o => cell_ext (cell_ext (cell_ext d0 he4) he5) (Ext.alloc w5 o)
  replace d1 := fun o => cell_ext (cell_ext (cell_ext d1 he4) he5) (Ext.alloc w5 o)
  replace d2 := fun o => cell_ext (cell_ext (cell_ext d2 he4) he5) (Ext.alloc w5 o)
  replace ht := fun o => ((ht.ext he4).ext he5).ext (Ext.alloc w5 o)
  replace hE1 := (hE1.trans he4).trans he5
  go_upto_region 6 with (fail)
  have hT := ht (.cells #[.int .i64 (X : Int), .int .u64 (n : Int), .int .u32 (c : Int)] 32)
  replace d0 := d0 (.cells #[.int .i64 (X : Int), .int .u64 (n : Int), .int .u32 (c : Int)] 32)
  replace d1 := d1 (.cells #[.int .i64 (X : Int), .int .u64 (n : Int), .int .u32 (c : Int)] 32)
  replace d2 := d2 (.cells #[.int .i64 (X : Int), .int .u64 (n : Int), .int .u32 (c : Int)] 32)
  replace e0 := e0 (.cells #[.int .i64 (X : Int), .int .u64 (n : Int), .int .u32 (c : Int)] 32)
  replace e1 := e1 (.cells #[.int .i64 (X : Int), .int .u64 (n : Int), .int .u32 (c : Int)] 32)
  replace e2 := e2 (.cells #[.int .i64 (X : Int), .int .u64 (n : Int), .int .u32 (c : Int)] 32)
  have g0 := World.cell?_alloc_new w5 #[.int .i64 (X : Int), .int .u64 (n : Int), .int .u32 (c : Int)] 32 0
  have g1 := World.cell?_alloc_new w5 #[.int .i64 (X : Int), .int .u64 (n : Int), .int .u32 (c : Int)] 32 1
  have g2 := World.cell?_alloc_new w5 #[.int .i64 (X : Int), .int .u64 (n : Int), .int .u32 (c : Int)] 32 2
  replace hE1 := hE1.trans (Ext.alloc w5 (.cells #[.int .i64 (X : Int), .int .u64 (n : Int), .int .u32 (c : Int)] 32))
  generalize w5.alloc (.cells #[.int .i64 (X : Int), .int .u64 (n : Int), .int .u32 (c : Int)] 32) = w6 at *
  obtain ⟨E, hE⟩ : ∃ E, (((X : Int) == A' && (n : Int) == (G' : Int)) && (c : Int) == (C' : Int)) = E := ⟨_, rfl⟩
  have hM1 : meetsB (X : Int) n c I = true := by rw [hme]; simp
  have hM2 : meetsB A' G' C' I = E := by
    rw [hme, ← hE, Bool.eq_iff_iff]
    simp only [Bool.and_eq_true, beq_iff_eq]
    omega
  have hcmp : ∀ w : World, (if (X : Int) = A' then if (n : Int) = (G' : Int) then if (c : Int) = (C' : Int) then Result.ok (Next.value (.bool true)) w else Result.ok (Next.value (.bool false)) w else Result.ok (Next.value (.bool false)) w else Result.ok (Next.value (.bool false)) w) = Result.ok (Next.value (.bool E)) w := by
    intro w
    rw [← hE]
    split
    · rename_i q1
      rw [beq_iff_eq.2 q1]
      split
      · rename_i q2
        rw [beq_iff_eq.2 q2]
        split
        · rename_i q3
          rw [beq_iff_eq.2 q3]; rfl
        · rename_i q3
          rw [beq_eq_false_iff_ne.2 q3]; rfl
      · rename_i q2
        rw [beq_eq_false_iff_ne.2 q2]; simp
    · rename_i q1
      rw [beq_eq_false_iff_ne.2 q1]; simp
  refine wp_region_drift_lit (n := 98) (by kernel_rfl) (by kernel_rfl) (by rfl) ?_
  apply chain_val (.bool true)
  · intro w2 hx  K hK
    simp only [Act.put, List.setIfInBounds_toArray, List.set_cons_zero, List.set_cons_succ] at hK ⊢
    go_simp
    refine (wakes04 _).mono ?_
    rintro e w7 ⟨rfl, he7⟩
    exact hK _ _ he7 rfl
  apply chain_val
  · intro w2 hx  K hK
    simp only [Act.put, List.setIfInBounds_toArray, List.set_cons_zero, List.set_cons_succ] at hK ⊢
    go_simp
    exact hK _ _ (Ext.refl _) rfl
  apply chain_val
  · intro w2 hx  K hK
    simp only [Act.put, List.setIfInBounds_toArray, List.set_cons_zero, List.set_cons_succ] at hK ⊢
    go_simp
    exact hK _ _ (Ext.refl _) rfl
  apply chain_val (.bool true)
  · intro w2 hx  K hK
    simp only [Act.put, List.setIfInBounds_toArray, List.set_cons_zero, List.set_cons_succ] at hK ⊢
    go_simp
    exact hK _ _ (Ext.refl _) rfl
  apply chain_val (.bool true)
  · intro w2 hx  K hK
    simp only [Act.put, List.setIfInBounds_toArray, List.set_cons_zero, List.set_cons_succ] at hK ⊢
    go_simp
    exact hK _ _ (Ext.refl _) rfl
  apply chain_val
  · intro w2 hx  K hK
    simp only [Act.put, List.setIfInBounds_toArray, List.set_cons_zero, List.set_cons_succ] at hK ⊢
    go_simp
    exact hK _ _ (Ext.refl _) rfl
  apply chain_val (.agg #[.int .i64 (X : Int), .int .u64 (n : Int), .int .u32 (c : Int)])
  · intro w2 hx  K hK
    simp only [Act.put, List.setIfInBounds_toArray, List.set_cons_zero, List.set_cons_succ] at hK ⊢
    have c0 := cell_ext d0 hx
    have c1 := cell_ext d1 hx
    have c2 := cell_ext d2 hx
    go_simp
    exact hK _ _ (Ext.refl _) rfl
  apply chain_val
  · intro w2 hx  K hK
    simp only [Act.put, List.setIfInBounds_toArray, List.set_cons_zero, List.set_cons_succ] at hK ⊢
    go_simp
    exact hK _ _ (Ext.refl _) rfl
  apply chain_val
  · intro w2 hx  K hK
    simp only [Act.put, List.setIfInBounds_toArray, List.set_cons_zero, List.set_cons_succ] at hK ⊢
    go_simp
    exact hK _ _ (Ext.refl _) rfl
  apply chain_val (.bool true)
  · intro w2 hx  K hK
    simp only [Act.put, List.setIfInBounds_toArray, List.set_cons_zero, List.set_cons_succ] at hK ⊢
    go_simp
    refine (hmts b _ n c _ (hT.ext hx)).mono ?_
    rw [hM1]
    rintro e w7 ⟨rfl, he7⟩
    exact hK _ _ he7 rfl
  apply chain_val (.bool true)
  · intro w2 hx  K hK
    simp only [Act.put, List.setIfInBounds_toArray, List.set_cons_zero, List.set_cons_succ] at hK ⊢
    go_simp
    exact hK _ _ (Ext.refl _) rfl
  apply chain_val
  · intro w2 hx  K hK
    simp only [Act.put, List.setIfInBounds_toArray, List.set_cons_zero, List.set_cons_succ] at hK ⊢
    go_simp
    exact hK _ _ (Ext.refl _) rfl
  apply chain_val (.agg #[.int .i64 A', .int .u64 (G' : Int), .int .u32 (C' : Int)])
  · intro w2 hx  K hK
    simp only [Act.put, List.setIfInBounds_toArray, List.set_cons_zero, List.set_cons_succ] at hK ⊢
    have c0 := cell_ext e0 hx
    have c1 := cell_ext e1 hx
    have c2 := cell_ext e2 hx
    go_simp
    exact hK _ _ (Ext.refl _) rfl
  apply chain_val
  · intro w2 hx  K hK
    simp only [Act.put, List.setIfInBounds_toArray, List.set_cons_zero, List.set_cons_succ] at hK ⊢
    go_simp
    exact hK _ _ (Ext.refl _) rfl
  apply chain_val
  · intro w2 hx  K hK
    simp only [Act.put, List.setIfInBounds_toArray, List.set_cons_zero, List.set_cons_succ] at hK ⊢
    go_simp
    exact hK _ _ (Ext.refl _) rfl
  apply chain_val (.bool E)
  · intro w2 hx  K hK
    simp only [Act.put, List.setIfInBounds_toArray, List.set_cons_zero, List.set_cons_succ] at hK ⊢
    go_simp
    refine (hmts b _ G' C' _ (hT.ext hx)).mono ?_
    rw [hM2]
    rintro e w7 ⟨rfl, he7⟩
    exact hK _ _ he7 rfl
  apply chain_val (.agg #[.int .i64 (X : Int), .int .u64 (n : Int), .int .u32 (c : Int)])
  · intro w2 hx  K hK
    simp only [Act.put, List.setIfInBounds_toArray, List.set_cons_zero, List.set_cons_succ] at hK ⊢
    have c0 := cell_ext d0 hx
    have c1 := cell_ext d1 hx
    have c2 := cell_ext d2 hx
    go_simp
    exact hK _ _ (Ext.refl _) rfl
  apply chain_val (.agg #[.int .i64 A', .int .u64 (G' : Int), .int .u32 (C' : Int)])
  · intro w2 hx  K hK
    simp only [Act.put, List.setIfInBounds_toArray, List.set_cons_zero, List.set_cons_succ] at hK ⊢
    have c0 := cell_ext e0 hx
    have c1 := cell_ext e1 hx
    have c2 := cell_ext e2 hx
    go_simp
    exact hK _ _ (Ext.refl _) rfl
  apply chain_val (.bool E)
  · intro w2 hx  K hK
    simp only [Act.put, List.setIfInBounds_toArray, List.set_cons_zero, List.set_cons_succ] at hK ⊢
    go_simp
    exact hK _ _ (Ext.refl _) rfl
  apply chain_val (.bool true)
  · intro w2 hx  K hK
    simp only [Act.put, List.setIfInBounds_toArray, List.set_cons_zero, List.set_cons_succ] at hK ⊢
    go_simp
    exact hK _ _ (Ext.refl _) rfl
  apply chain_val (.bool true)
  · intro w2 hx  K hK
    simp only [Act.put, List.setIfInBounds_toArray, List.set_cons_zero, List.set_cons_succ] at hK ⊢
    go_simp
    exact hK _ _ (Ext.refl _) rfl
  apply chain_val
  · intro w2 hx  K hK
    simp only [Act.put, List.setIfInBounds_toArray, List.set_cons_zero, List.set_cons_succ] at hK ⊢
    go_simp
    exact hK _ _ (Ext.refl _) rfl
  apply chain_val
  · intro w2 hx  K hK
    simp only [Act.put, List.setIfInBounds_toArray, List.set_cons_zero, List.set_cons_succ] at hK ⊢
    go_simp
    exact hK _ _ (Ext.refl _) rfl
  apply chain_val (.bool true)
  · intro w2 hx  K hK
    simp only [Act.put, List.setIfInBounds_toArray, List.set_cons_zero, List.set_cons_succ] at hK ⊢
    go_simp
    exact hK _ _ (Ext.refl _) rfl
  apply chain_val
  · intro w2 hx  K hK
    simp only [Act.put, List.setIfInBounds_toArray, List.set_cons_zero, List.set_cons_succ] at hK ⊢
    go_simp
    exact hK _ _ (Ext.refl _) rfl
  apply chain_val
  · intro w2 hx  K hK
    simp only [Act.put, List.setIfInBounds_toArray, List.set_cons_zero, List.set_cons_succ] at hK ⊢
    go_simp
    exact hK _ _ (Ext.refl _) rfl
  apply chain_val (.bool true)
  · intro w2 hx  K hK
    simp only [Act.put, List.setIfInBounds_toArray, List.set_cons_zero, List.set_cons_succ] at hK ⊢
    go_simp
    exact hK _ _ (Ext.refl _) rfl
  apply chain_val
  · intro w2 hx  K hK
    simp only [Act.put, List.setIfInBounds_toArray, List.set_cons_zero, List.set_cons_succ] at hK ⊢
    go_simp
    exact hK _ _ (Ext.refl _) rfl
  apply chain_val
  · intro w2 hx  K hK
    simp only [Act.put, List.setIfInBounds_toArray, List.set_cons_zero, List.set_cons_succ] at hK ⊢
    go_simp
    exact hK _ _ (Ext.refl _) rfl
  apply chain_val (.bool true)
  · intro w2 hx  K hK
    simp only [Act.put, List.setIfInBounds_toArray, List.set_cons_zero, List.set_cons_succ] at hK ⊢
    go_simp
    exact hK _ _ (Ext.refl _) rfl
  apply chain_val (.bool true)
  · intro w2 hx  K hK
    simp only [Act.put, List.setIfInBounds_toArray, List.set_cons_zero, List.set_cons_succ] at hK ⊢
    go_simp
    exact hK _ _ (Ext.refl _) rfl
  apply chain_val
  · intro w2 hx  K hK
    simp only [Act.put, List.setIfInBounds_toArray, List.set_cons_zero, List.set_cons_succ] at hK ⊢
    go_simp
    exact hK _ _ (Ext.refl _) rfl
  apply chain_val (.agg #[.int .i64 (X : Int), .int .u64 (n : Int), .int .u32 (c : Int)])
  · intro w2 hx  K hK
    simp only [Act.put, List.setIfInBounds_toArray, List.set_cons_zero, List.set_cons_succ] at hK ⊢
    have c0 := cell_ext g0 hx
    have c1 := cell_ext g1 hx
    have c2 := cell_ext g2 hx
    go_simp
    exact hK _ _ (Ext.refl _) rfl
  apply chain_val (.agg #[.int .i64 (X : Int), .int .u64 (n : Int), .int .u32 (c : Int)])
  · intro w2 hx  K hK
    simp only [Act.put, List.setIfInBounds_toArray, List.set_cons_zero, List.set_cons_succ] at hK ⊢
    have c0 := cell_ext d0 hx
    have c1 := cell_ext d1 hx
    have c2 := cell_ext d2 hx
    go_simp
    exact hK _ _ (Ext.refl _) rfl
  apply chain_val (.bool true)
  · intro w2 hx  K hK
    simp only [Act.put, List.setIfInBounds_toArray, List.set_cons_zero, List.set_cons_succ] at hK ⊢
    go_simp
    exact hK _ _ (Ext.refl _) rfl
  apply chain_val (.bool true)
  · intro w2 hx  K hK
    simp only [Act.put, List.setIfInBounds_toArray, List.set_cons_zero, List.set_cons_succ] at hK ⊢
    go_simp
    exact hK _ _ (Ext.refl _) rfl
  apply chain_val
  · intro w2 hx  K hK
    simp only [Act.put, List.setIfInBounds_toArray, List.set_cons_zero, List.set_cons_succ] at hK ⊢
    go_simp
    exact hK _ _ (Ext.refl _) rfl
  refine chain_end fun w2 hx => ?_
  simp only [List.reverse_cons, List.reverse_nil, List.nil_append, List.cons_append, withDeps, Act.put, List.setIfInBounds_toArray, List.set_cons_zero, List.set_cons_succ]
  go_wp2_with fail
  go_ret
  exact ⟨rfl, hE1.trans hx⟩
end Go.Proofs.Ytbnpldilkkhgmaa
