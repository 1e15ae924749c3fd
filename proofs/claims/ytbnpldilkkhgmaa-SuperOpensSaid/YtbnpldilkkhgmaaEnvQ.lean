/- Contract of the reference's Open. -/
import Derived.Test.YtbnpldilkkhgmaaEnvN
import Derived.Test.YtbnpldilkkhgmaaEnvK
import Derived.Test.YtbnpldilkkhgmaaLendRR
namespace Go.Proofs.Ytbnpldilkkhgmaa
open Go.RowKit
/-- what the reference's Open answers -/
def refopenAns (s : ByteArray) : Value :=
  if Env.okSize s.size then
    if Env.okHead ⟨(Env.six (s.data.toList.drop 4)).k, (Env.six (s.data.toList.drop 4)).a, (Env.six (s.data.toList.drop 4)).g⟩ && decide ((Env.six (s.data.toList.drop 4)).n ≤ s.size - 24) then
      if imgT s.size ⟨(Env.six (s.data.toList.drop 4)).k, (Env.six (s.data.toList.drop 4)).a, (Env.six (s.data.toList.drop 4)).g⟩ (s.extract 24 (24 + (Env.six (s.data.toList.drop 4)).n)) (Env.six (s.data.toList.drop 4)).c = s then
        if sumT s.size ⟨(Env.six (s.data.toList.drop 4)).k, (Env.six (s.data.toList.drop 4)).a, (Env.six (s.data.toList.drop 4)).g⟩ (s.extract 24 (24 + (Env.six (s.data.toList.drop 4)).n)) = (Env.six (s.data.toList.drop 4)).c then
          .tuple #[.agg (hdC (Env.six (s.data.toList.drop 4)).k ((Env.six (s.data.toList.drop 4)).a : Nat) (Env.six (s.data.toList.drop 4)).g), .string (s.extract 24 (24 + (Env.six (s.data.toList.drop 4)).n)), .int .u64 ((Env.six (s.data.toList.drop 4)).c : Nat), .int .i64 0]
        else .tuple #[.agg hdZ, .string ⟨#[]⟩, .int .u64 0, .int .i64 5]
      else .tuple #[.agg hdZ, .string ⟨#[]⟩, .int .u64 0, .int .i64 4]
    else .tuple #[.agg hdZ, .string ⟨#[]⟩, .int .u64 0, .int .i64 4]
  else .tuple #[.agg hdZ, .string ⟨#[]⟩, .int .u64 0, .int .i64 4]
/-- the program's Open and the reference's, beside one another -/
theorem refopen_cases (s : ByteArray) : (∃ k X g p c, (Env.parts s = some (⟨k, ((X : Nat) : Int), g⟩, p, c) ∧ X ≤ 2147483647) ∧ openAns s = .tuple #[.agg (hdC k X g), .string p, .int .i64 0] ∧ refopenAns s = .tuple #[.agg (hdC k X g), .string p, .int .u64 (c : Nat), .int .i64 0]) ∨
    (∃ e : Int, openAns s = .tuple #[.agg hdZ, .string ⟨#[]⟩, .int .i64 e] ∧ (e = 4 ∨ e = 5) ∧ refopenAns s = .tuple #[.agg hdZ, .string ⟨#[]⟩, .int .u64 0, .int .i64 e]) := by
  cases h1 : Env.okSize s.size with
  | false => exact .inr ⟨4, by unfold openAns; rw [parts_no2 h1], .inl rfl, by unfold refopenAns; rw [h1]; rfl⟩
  | true =>
    cases h2 : (Env.okHead ⟨(Env.six (s.data.toList.drop 4)).k, (Env.six (s.data.toList.drop 4)).a, (Env.six (s.data.toList.drop 4)).g⟩ && decide ((Env.six (s.data.toList.drop 4)).n ≤ s.size - 24)) with
    | false => exact .inr ⟨4, by unfold openAns; rw [parts_no3 h2], .inl rfl, by unfold refopenAns; rw [h1, h2]; rfl⟩
    | true =>
      cases h3 : Lib.hasPrefix s.data.toList Env.magic with
      | false =>
        refine .inr ⟨4, by unfold openAns; rw [parts_no1 h3], .inl rfl, ?_⟩
        unfold refopenAns
        rw [h1, h2]
        simp only [if_true]
        rw [if_neg (fun e => ?_)]
        rw [← e, imgT_list, Env.img_prefix] at h3
        cases h3
      | true =>
        have hp := parts_yes h3 h1 h2
        have hX : (Env.six (s.data.toList.drop 4)).a ≤ 2147483647 := by
          have := (Env.okHead_iff.1 (Bool.and_eq_true_iff.1 h2).1).2
          simp only at this
          omega
        unfold openAns refopenAns
        rw [hp, h1, h2]
        simp only [if_true]
        split
        · split
          · exact .inl ⟨_, _, _, _, _, ⟨rfl, hX⟩, rfl, rfl⟩
          · exact .inr ⟨5, rfl, .inr rfl, rfl⟩
        · exact .inr ⟨4, rfl, .inl rfl, rfl⟩
theorem six_k {s : ByteArray} (h : 4 < s.size) : (Env.six (s.data.toList.drop 4)).k = s[4].toNat := by
  show Crc.le ((s.data.toList.drop 4).take 1) = _
  rw [List.drop_eq_getElem_cons (by simpa using h)]
  simp [Crc.le]
  rfl
theorem six_cut (s : ByteArray) : (Env.six (s.data.toList.drop 4)).n = Crc.le (s.extract 6 8).data.toList ∧ (Env.six (s.data.toList.drop 4)).a = Crc.le (s.extract 8 12).data.toList ∧ (Env.six (s.data.toList.drop 4)).g = Crc.le (s.extract 12 20).data.toList ∧ (Env.six (s.data.toList.drop 4)).c = Crc.le (s.extract 20 24).data.toList := by
  simp only [ext_mid]
  refine ⟨?_, ?_, ?_, ?_⟩ <;> simp [Env.six, List.drop_drop]
set_option maxRecDepth 100000 in
set_option maxHeartbeats 6000000 in
theorem refopen_any (s : ByteArray) (w : World) (hm : s.size ≤ maxLen) : Calls Try.prog 53 #[.string s] w fun e w' => e = .returned (refopenAns s) ∧ Ext w w' := by
  unfold maxLen at hm
  unfold refopenAns
  cases h1 : Env.okSize s.size with
  | false =>
    have H1 := Lib.hid h1
    clear h1
    go_enter Try.func53, Try.ntmps53
    go_wp2_with fail
    refine (refsized_any _ _).mono ?_
    rw [H1.out]
    rintro e w1 ⟨rfl, he⟩
    subst he
    go_wp2_with fail
    (try simp only [Exit.inBlock, Exit.then])
    refine bodyPost_ret (results_cttt Try.results53 _ _ rfl ((RowIs.new w 42 hdZ).ext (Ext.alloc _ _)) Try.underlying42 rfl (by kernel_rfl)) rfl ?_
    exact ⟨rfl, (Ext.alloc _ _).trans (Ext.alloc _ _)⟩
  | true =>
    have ⟨z1, z2⟩ := Env.okSize_iff.1 h1
    have h4 : 4 < s.size := by omega
    have hk := six_k h4
    obtain ⟨en, ea, eg, ec⟩ := six_cut s
    have hlt := Env.six_lt (s.data.toList.drop 4)
    have gn := fun w => get_any (s.extract 6 8) w (by simp; omega)
    have ga := fun w => get_any (s.extract 8 12) w (by simp; omega)
    have gg := fun w => get_any (s.extract 12 20) w (by simp; omega)
    have gc := fun w => get_any (s.extract 20 24) w (by simp; omega)
    rw [← en] at gn
    rw [← ea] at ga
    rw [← eg] at gg
    rw [← ec] at gc
    clear en ea eg ec
    generalize Env.six (s.data.toList.drop 4) = Q at *
    obtain ⟨k, z, n, X, g, c⟩ := Q
    simp only at hk hlt gn ga gg gc ⊢
    obtain ⟨l1, l2, l3, l4, l5⟩ := hlt
    obtain ⟨sn, hsn⟩ : ∃ sn, s.extract 6 8 = sn := ⟨_, rfl⟩
    obtain ⟨sa, hsa⟩ : ∃ sn, s.extract 8 12 = sn := ⟨_, rfl⟩
    obtain ⟨sg, hsg⟩ : ∃ sn, s.extract 12 20 = sn := ⟨_, rfl⟩
    obtain ⟨sc, hsc⟩ : ∃ sn, s.extract 20 24 = sn := ⟨_, rfl⟩
    rw [hsn] at gn
    rw [hsa] at ga
    rw [hsg] at gg
    rw [hsc] at gc
    have H1 := Lib.hid h1
    clear h1
    have v1 : IntKind.i64.wrap (n : Int) = (n : Int) := by rw [IntKind.wrap_i64]; omega
    have v2 : IntKind.i64.wrap (X : Int) = (X : Int) := by rw [IntKind.wrap_i64]; omega
    obtain ⟨P, hP⟩ : ∃ P, s.extract 24 (24 + n) = P := ⟨_, rfl⟩
    rw [hP]
    simp only [if_true]
    obtain ⟨A, hA⟩ : ∃ A : Value, (if (Env.okHead ⟨k, (X : Int), g⟩ && decide (n ≤ s.size - 24)) = true then
      if imgT s.size ⟨k, (X : Int), g⟩ P c = s then if sumT s.size ⟨k, (X : Int), g⟩ P = c then Value.tuple #[.agg (hdC k (X : Nat) g), .string P, .int .u64 (c : Nat), .int .i64 0] else .tuple #[.agg hdZ, .string ⟨#[]⟩, .int .u64 0, .int .i64 5] else .tuple #[.agg hdZ, .string ⟨#[]⟩, .int .u64 0, .int .i64 4] else .tuple #[.agg hdZ, .string ⟨#[]⟩, .int .u64 0, .int .i64 4]) = A := ⟨_, rfl⟩
    rw [hA]
    have HA := Lib.hid hA
    clear hA
    have b8 : (8 : Int) ≤ (s.size : Int) := by omega
    have b12 : (12 : Int) ≤ (s.size : Int) := by omega
    have b20 : (20 : Int) ≤ (s.size : Int) := by omega
    have b24 : (24 : Int) ≤ (s.size : Int) := by omega
    have b4 : (4 : Int) < (s.size : Int) := by omega
    go_enter Try.func53, Try.ntmps53
    go_wp2_with fail
    refine (refsized_any _ _).mono ?_
    rw [H1.out]
    rintro e w1 ⟨rfl, he⟩
    subst he
    go_wp2_with fail
    refine (gn _).mono ?_
    rintro e w1 ⟨rfl, he⟩
    subst he
    have r2 := (RowIs.new w 42 hdZ).ext (Ext.alloc _ (.cells hdZ 42))
    have r6 := RowIs.new2 w (.cells hdZ 42) 42 hdZ
    have hE0 := (Ext.alloc w (.cells hdZ 42)).trans (Ext.alloc _ (.cells hdZ 42))
    unfold hdZ at r2 r6 hE0
    go_upto_region 6 with (fail)
    generalize (w.alloc (.cells #[.int .u8 0, .int .i64 0, .int .u64 0] 42)).alloc (.cells #[.int .u8 0, .int .i64 0, .int .u64 0] 42) = w1 at *
    have HK4 := Lib.hid hk
    clear hk
    have ho : OneEach [(42, hdZ, hdC k (X : Int) g)] := by intro p hp q hq _; simp only [List.mem_singleton] at hp hq; rw [hp, hq]
    have p1 : (42, hdZ, hdC k (X : Int) g) ∈ [(42, hdZ, hdC k (X : Int) g)] := List.mem_singleton.2 rfl
    refine RR.wp_region_drift_lit (n := 83) (Slots.rel ho (B := w1.heap.size)) (by kernel_rfl) (by kernel_rfl) (by rfl) ?_
    apply RR.chain_val
    · rfl
    · intro w2 hx  K hK
      simp only [Act.put, List.setIfInBounds_toArray, List.set_cons_zero, List.set_cons_succ] at hK ⊢
      go_simp
      exact hK _ _ (RR.Rel.refl (Slots.rel ho (B := w1.heap.size)) _) rfl
    apply RR.chain_val (.int .u8 (k : Int))
    · rfl
    · intro w2 hx  K hK
      simp only [Act.put, List.setIfInBounds_toArray, List.set_cons_zero, List.set_cons_succ] at hK ⊢
      go_simp
      refine hK _ _ ((Slots.rel ho).refl _) ?_
      show Value.int .u8 _ = _
      rw [HK4.out]
    apply RR.chain_val
    · rfl
    · intro w2 hx  K hK
      simp only [Act.put, List.setIfInBounds_toArray, List.set_cons_zero, List.set_cons_succ] at hK ⊢
      go_simp
      exact hK _ _ (RR.Rel.refl (Slots.rel ho (B := w1.heap.size)) _) rfl
    apply RR.chain_val (.string sa)
    · rfl
    · intro w2 hx  K hK
      simp only [Act.put, List.setIfInBounds_toArray, List.set_cons_zero, List.set_cons_succ] at hK ⊢
      go_simp
      refine hK _ _ ((Slots.rel ho).refl _) ?_
      show Value.string _ = _
      rw [← hsa]
    apply RR.chain_val (.int .u64 (X : Int))
    · rfl
    · intro w2 hx  K hK
      simp only [Act.put, List.setIfInBounds_toArray, List.set_cons_zero, List.set_cons_succ] at hK ⊢
      go_simp
      refine (ga _).mono ?_
      rintro e w6 ⟨rfl, he6⟩
      subst he6
      exact hK _ _ ((Slots.rel ho).refl _) rfl
    apply RR.chain_val
    · rfl
    · intro w2 hx  K hK
      simp only [Act.put, List.setIfInBounds_toArray, List.set_cons_zero, List.set_cons_succ] at hK ⊢
      go_simp
      exact hK _ _ (RR.Rel.refl (Slots.rel ho (B := w1.heap.size)) _) rfl
    apply RR.chain_val
    · rfl
    · intro w2 hx  K hK
      simp only [Act.put, List.setIfInBounds_toArray, List.set_cons_zero, List.set_cons_succ] at hK ⊢
      go_simp
      exact hK _ _ (RR.Rel.refl (Slots.rel ho (B := w1.heap.size)) _) rfl
    apply RR.chain_val (.string sg)
    · rfl
    · intro w2 hx  K hK
      simp only [Act.put, List.setIfInBounds_toArray, List.set_cons_zero, List.set_cons_succ] at hK ⊢
      go_simp
      refine hK _ _ ((Slots.rel ho).refl _) ?_
      show Value.string _ = _
      rw [← hsg]
    apply RR.chain_val (.int .u64 (g : Int))
    · rfl
    · intro w2 hx  K hK
      simp only [Act.put, List.setIfInBounds_toArray, List.set_cons_zero, List.set_cons_succ] at hK ⊢
      go_simp
      refine (gg _).mono ?_
      rintro e w6 ⟨rfl, he6⟩
      subst he6
      exact hK _ _ ((Slots.rel ho).refl _) rfl
    apply RR.chain_val
    · rfl
    · intro w2 hx  K hK
      simp only [Act.put, List.setIfInBounds_toArray, List.set_cons_zero, List.set_cons_succ] at hK ⊢
      go_simp
      exact hK _ _ (RR.Rel.refl (Slots.rel ho (B := w1.heap.size)) _) rfl
    refine RR.chain_pred (Fresh w1.heap.size 42 hdZ (hdC k (X : Int) g)) (fun _ _ _ e h => Fresh.kept ho p1 h e) rfl ?_ ?_
    · intro w2 hx  K hK
      simp only [Act.put, List.setIfInBounds_toArray, List.set_cons_zero, List.set_cons_succ] at hK ⊢
      go_simp
      exact hK _ _ (Slots.of (Ext.alloc _ _)) (Fresh.new hx.size)
    refine RR.chain_store (Done w1.heap.size 42 (hdC k (X : Int) g)) (fun _ _ _ e h => Done.kept ho p1 h e) rfl rfl ?_ ?_
    · intro w2 hx _ _ v10 h10 K hK
      simp only [Act.put, List.setIfInBounds_toArray, List.set_cons_zero, List.set_cons_succ] at hK ⊢
      obtain ⟨b1, rfl, hb1, c, hr, hc⟩ := h10
      have hs : c.size = 3 := by rcases hc with rfl | rfl <;> rfl
      exact step_store rfl rfl rfl rfl hr (by kernel_rfl) hs (by simp [Value.oneCell']) (let ⟨e, q⟩ := Slots.setRow p1 hb1 hr hc; hK _ e ⟨b1, rfl, hb1, q⟩)
    refine RR.chain_end fun w2 hx => ?_
    simp only [List.reverse_cons, List.reverse_nil, List.nil_append, List.cons_append, RR.withDeps, Act.put, List.setIfInBounds_toArray, List.set_cons_zero, List.set_cons_succ]
    intro v10 h10 v11 h11
    obtain ⟨b9, rfl, hb9, r9⟩ := h11
    have he2 := Slots.ext (Ext.refl _) hx (Nat.le_refl _)
    replace r2 := r2.ext he2
    replace r6 := r6.ext he2
    replace hE0 := hE0.trans he2
    clear hx h10 ho p1 he2 ga gg gn hsn hsa hsg v1 v2 hb9
    have c0 := r9.cell 0 (.int .u8 (k : Int)) rfl
    have c1 := r9.cell 1 (.int .i64 (X : Int)) rfl
    have c2 := r9.cell 2 (.int .u64 (g : Int)) rfl
    have d0 := r6.cell 0 (.int .u8 0) rfl
    have d1 := r6.cell 1 (.int .i64 0) rfl
    have d2 := r6.cell 2 (.int .u64 0) rfl
    clear r9 r6
    go_wp2_with fail
    refine (refright_any k g X _).mono ?_
    rintro e w3 ⟨rfl, he3⟩
    replace r2 := r2.ext he3
    replace hE0 := hE0.trans he3
    replace c0 := cell_ext c0 he3
    replace c1 := cell_ext c1 he3
    replace c2 := cell_ext c2 he3
    replace d0 := cell_ext d0 he3
    replace d1 := cell_ext d1 he3
    replace d2 := cell_ext d2 he3
    cases hb : Env.okHead ⟨k, (X : Int), g⟩ with
    | false =>
      have HB := Lib.hid hb
      clear hb c0 c1 c2 he3
      have R2 := Lib.hid r2
      clear r2
      go_wp2_with (refine wpl_row rfl rfl rfl rfl R2.out (by kernel_rfl) rfl (by simp [Value.oneCell']) ?_; intro w9 hw9 hr9; have HW9 := Lib.hid hw9; have HR9 := Lib.hid hr9; clear hw9 hr9)
      (try simp only [Exit.inBlock, Exit.then])
      refine bodyPost_ret (results_cttt Try.results53 _ _ rfl HR9.out Try.underlying42 rfl (by kernel_rfl)) rfl ?_
      exact ⟨by rw [← HA.out, HB.out]; rfl, HW9.out.ext hE0 (Nat.le_refl _)⟩
    | true =>
      have HB := Lib.hid hb
      have hbb := (Env.okHead_iff.1 hb).2
      simp only at hbb
      clear he3
      by_cases hn : n ≤ s.size - 24
      · have q1 : decide ((s.size : Int) - 24 < (n : Int)) = false := decide_eq_false (by omega)
        have hPn : P.size = n := by rw [← hP]; simp; omega
        have hf1 : (24 : Int) + (n : Int) ≤ (s.size : Int) := by omega
        have hf3 : (24 : Int) ≤ (24 : Int) + (n : Int) := by omega
        have hf2 : ((24 : Int) + (n : Int)).toNat = 24 + n := by omega
        have hla := fun w => laid_any s.size k X g P c w l1 l3 l4 l5 (by omega) (by omega)
        go_wp2_with fail
        refine (gc _).mono ?_
        rintro e w4 ⟨rfl, he⟩
        subst he
        go_wp2_with fail
        refine (hla _).mono ?_
        rintro e w4 ⟨rfl, he4⟩
        replace r2 := r2.ext he4
        replace hE0 := hE0.trans he4
        replace c0 := cell_ext c0 he4
        replace c1 := cell_ext c1 he4
        replace c2 := cell_ext c2 he4
        replace d0 := cell_ext d0 he4
        replace d1 := cell_ext d1 he4
        replace d2 := cell_ext d2 he4
        clear hla he4
        by_cases hT : imgT s.size ⟨k, (X : Int), g⟩ P c = s
        · have HT := Lib.hid hT
          rw [hT]
          clear hT
          have hse := fun w => refseal_ok s.size k X g P w hb l4 (by omega) (by omega) (by omega)
          have HC := HA.out
          rw [HB.out, HT.out] at HC
          generalize hcs : sumT s.size ⟨k, (X : Int), g⟩ P = c' at *
          generalize imgT s.size ⟨k, (X : Int), g⟩ P c' = I at *
          clear hb hcs
          go_wp2_with fail
          refine (hse _).mono ?_
          rintro e w5 ⟨rfl, he5⟩
          replace r2 := r2.ext he5
          replace hE0 := hE0.trans he5
          replace c0 := cell_ext c0 he5
          replace c1 := cell_ext c1 he5
          replace c2 := cell_ext c2 he5
          replace d0 := cell_ext d0 he5
          replace d1 := cell_ext d1 he5
          replace d2 := cell_ext d2 he5
          clear hse he5
          have HCH := Lib.hid HC
          clear HC
          by_cases hcc : c' = c
          · subst hcc
            have R2 := Lib.hid r2
            clear r2
            go_wp2_with (refine wpl_row rfl rfl rfl rfl R2.out (by kernel_rfl) rfl (by simp [Value.oneCell']) ?_; intro w9 hw9 hr9; have HW9 := Lib.hid hw9; have HR9 := Lib.hid hr9; clear hw9 hr9)
            (try simp only [Exit.inBlock, Exit.then])
            refine bodyPost_ret (results_cttt Try.results53 _ _ rfl HR9.out Try.underlying42 rfl (by kernel_rfl)) rfl ?_
            exact ⟨by rw [← HCH.out]; simp [hn]; rfl, HW9.out.ext hE0 (Nat.le_refl _)⟩
          · have hcc' : ((c' : Int) != (c : Int)) = true := by simp; omega
            have R2 := Lib.hid r2
            clear r2
            go_wp2_with (refine wpl_row rfl rfl rfl rfl R2.out (by kernel_rfl) rfl (by simp [Value.oneCell']) ?_; intro w9 hw9 hr9; have HW9 := Lib.hid hw9; have HR9 := Lib.hid hr9; clear hw9 hr9)
            (try simp only [Exit.inBlock, Exit.then])
            refine bodyPost_ret (results_cttt Try.results53 _ _ rfl HR9.out Try.underlying42 rfl (by kernel_rfl)) rfl ?_
            exact ⟨by rw [← HCH.out]; simp [hn, hcc]; rfl, HW9.out.ext hE0 (Nat.le_refl _)⟩
        · have hTl := str_ne hT
          have HC := HA.out
          rw [HB.out] at HC
          have HCH := Lib.hid (show Value.tuple #[.agg hdZ, .string ⟨#[]⟩, .int .u64 0, .int .i64 4] = A by rw [← HC]; simp [hn, hT])
          generalize imgT s.size ⟨k, (X : Int), g⟩ P c = T at *
          clear hT hb HC
          have R2 := Lib.hid r2
          clear r2
          go_wp2_with (refine wpl_row rfl rfl rfl rfl R2.out (by kernel_rfl) rfl (by simp [Value.oneCell']) ?_; intro w9 hw9 hr9; have HW9 := Lib.hid hw9; have HR9 := Lib.hid hr9; clear hw9 hr9)
          (try simp only [Exit.inBlock, Exit.then])
          refine bodyPost_ret (results_cttt Try.results53 _ _ rfl HR9.out Try.underlying42 rfl (by kernel_rfl)) rfl ?_
          exact ⟨by rw [← HCH.out]; rfl, HW9.out.ext hE0 (Nat.le_refl _)⟩
      · have q1 : decide ((s.size : Int) - 24 < (n : Int)) = true := decide_eq_true (by omega)
        clear hb
        have HC := HA.out
        rw [HB.out] at HC
        have HCH := Lib.hid (show Value.tuple #[.agg hdZ, .string ⟨#[]⟩, .int .u64 0, .int .i64 4] = A by rw [← HC]; simp [hn])
        clear HC
        have R2 := Lib.hid r2
        clear r2
        go_wp2_with (refine wpl_row rfl rfl rfl rfl R2.out (by kernel_rfl) rfl (by simp [Value.oneCell']) ?_; intro w9 hw9 hr9; have HW9 := Lib.hid hw9; have HR9 := Lib.hid hr9; clear hw9 hr9)
        (try simp only [Exit.inBlock, Exit.then])
        refine bodyPost_ret (results_cttt Try.results53 _ _ rfl HR9.out Try.underlying42 rfl (by kernel_rfl)) rfl ?_
        exact ⟨by rw [← HCH.out]; rfl, HW9.out.ext hE0 (Nat.le_refl _)⟩
end Go.Proofs.Ytbnpldilkkhgmaa
