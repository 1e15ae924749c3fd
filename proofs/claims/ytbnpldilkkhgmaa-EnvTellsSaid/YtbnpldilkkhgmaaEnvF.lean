/- Contract of env.parts: the walk. -/
import Derived.Test.YtbnpldilkkhgmaaEnvE
namespace Go.Proofs.Ytbnpldilkkhgmaa
open Go.RowKit
theorem parts_no1 {s : ByteArray} (h : Lib.hasPrefix s.data.toList Env.magic = false) : Env.parts s = none := by
  unfold Env.parts; simp only [h, Bool.false_and]; rfl
theorem parts_no2 {s : ByteArray} (h : Env.okSize s.size = false) : Env.parts s = none := by
  unfold Env.parts; simp only [h, Bool.and_false, Bool.false_and]; rfl
theorem parts_no3 {s : ByteArray} (h : (Env.okHead ⟨(Env.six (s.data.toList.drop 4)).k, (Env.six (s.data.toList.drop 4)).a, (Env.six (s.data.toList.drop 4)).g⟩ && decide ((Env.six (s.data.toList.drop 4)).n ≤ s.size - 24)) = false) : Env.parts s = none := by
  unfold Env.parts; simp only [h, Bool.and_false]; rfl
theorem parts_yes {s : ByteArray} (h1 : Lib.hasPrefix s.data.toList Env.magic = true) (h2 : Env.okSize s.size = true) (h3 : (Env.okHead ⟨(Env.six (s.data.toList.drop 4)).k, (Env.six (s.data.toList.drop 4)).a, (Env.six (s.data.toList.drop 4)).g⟩ && decide ((Env.six (s.data.toList.drop 4)).n ≤ s.size - 24)) = true) :
    Env.parts s = some (⟨(Env.six (s.data.toList.drop 4)).k, (Env.six (s.data.toList.drop 4)).a, (Env.six (s.data.toList.drop 4)).g⟩, s.extract 24 (24 + (Env.six (s.data.toList.drop 4)).n), (Env.six (s.data.toList.drop 4)).c) := by
  unfold Env.parts; simp only [h1, h2, h3, Bool.and_true]; rfl
theorem cutPrefix_any (s : ByteArray) (w : World) : Calls Try.prog 58 #[.string s, .string ⟨#[84, 82, 78, 76]⟩] w fun e w' =>
    e = .returned (.tuple #[.string ⟨(Lib.trimPrefix s.data.toList Env.magic).toArray⟩, .bool (Lib.hasPrefix s.data.toList Env.magic)]) ∧ w' = w := Try.strings_CutPrefix s ⟨#[84, 82, 78, 76]⟩ w
set_option maxRecDepth 100000 in
set_option maxHeartbeats 2000000 in
theorem parts_any (s : ByteArray) (w : World) (hm : s.size ≤ maxLen) : Calls Try.prog 42 #[.string s] w fun e w' => e = .returned (partsAns s) ∧ Ext w w' := by
  have hcp := cutPrefix_any s
  cases h1 : Lib.hasPrefix s.data.toList Env.magic with
  | false =>
    rw [parts_none (parts_no1 h1)]
    have H1 := Lib.hid h1; clear h1
    generalize Lib.trimPrefix s.data.toList Env.magic = tl at *
    rw [H1.out] at hcp
    go_enter Try.func42, Try.ntmps42
    go_wp2_with fail
    refine (hcp _).mono ?_
    rintro e w1 ⟨rfl, rfl⟩
    go_wp2_with fail
    (try simp only [Exit.inBlock, Exit.then])
    refine bodyPost_ret (results_cttt Try.results42 _ _ rfl (RowIs.new _ _ _) Try.underlying38 rfl (by kernel_rfl)) rfl ?_
    exact ⟨rfl, Ext.alloc _ _⟩
  | true =>
    have htl : (⟨(Lib.trimPrefix s.data.toList Env.magic).toArray⟩ : ByteArray) = s.extract 4 s.size := bytes_ext (by
      rw [ext_data, List.take_of_length_le (by simp)]
      show Lib.trimPrefix _ _ = _
      rw [Lib.trimPrefix, if_pos h1]; rfl)
    rw [h1, htl] at hcp
    cases h2 : Env.okSize s.size with
    | false =>
      rw [parts_none (parts_no2 h2)]
      have H2 := Lib.hid h2; clear h2 h1 htl
      generalize s.extract 4 s.size = R at *
      go_enter Try.func42, Try.ntmps42
      go_wp2_with fail
      refine (hcp _).mono ?_
      rintro e w1 ⟨rfl, rfl⟩
      go_wp2_with fail
      refine (sized_any _ _).mono ?_
      rw [H2.out]
      rintro e w1 ⟨rfl, he⟩
      subst he
      go_wp2_with fail
      (try simp only [Exit.inBlock, Exit.then])
      refine bodyPost_ret (results_cttt Try.results42 _ _ rfl (RowIs.new _ _ _) Try.underlying38 rfl (by kernel_rfl)) rfl ?_
      exact ⟨rfl, Ext.alloc _ _⟩
    | true =>
      have hb := Env.okSize_iff.1 h2
      have hlr : (s.extract 4 s.size).data.toList = s.data.toList.drop 4 := by rw [ext_data, List.take_of_length_le (by simp)]
      have hrs : (s.extract 4 s.size).size = s.size - 4 := by simp
      have hrr : (s.extract 4 s.size).extract 20 (s.extract 4 s.size).size = s.extract 24 s.size := bytes_ext (by
        rw [ext_data, hlr, ext_data, List.take_of_length_le (by simp), List.take_of_length_le (by simp), List.drop_drop])
      have hrd := fun a ca w => read6 (s.extract 4 s.size) a ca w (by omega) (by unfold maxLen at *; omega)
      rw [hlr, hrr] at hrd
      have hq := Env.six_lt (s.data.toList.drop 4)
      have hrs2 : (s.extract 24 s.size).size = s.size - 24 := by simp
      have hpn : ∀ n, n ≤ s.size - 24 → (s.extract 24 s.size).extract 0 n = s.extract 24 (24 + n) := fun n hn => bytes_ext (by
        rw [ext_data, ext_data s 24 s.size, ext_data s 24 (24 + n), List.drop_zero, List.drop_take, List.drop_take, List.take_take]
        congr 1; omega)
      obtain ⟨A, hA⟩ : ∃ A, partsAns s = A := ⟨_, rfl⟩
      rw [hA]
      have HA := Lib.hid hA; clear hA
      have hyes := fun h3 => parts_some (parts_yes h1 h2 h3)
      have hno := fun h3 => parts_none (parts_no3 (s := s) h3)
      have H2 := Lib.hid h2
      clear hlr hrr htl h1 h2
      generalize Env.six (s.data.toList.drop 4) = q at *
      obtain ⟨k, z, n, a, g, c⟩ := q
      obtain ⟨q1, q2, q3, q4, q5⟩ := hq
      simp only at hrd hyes hno q1 q2 q3 q4 q5
      generalize s.extract 24 s.size = S at *
      generalize s.extract 4 s.size = R at *
      go_enter Try.func42, Try.ntmps42
      go_wp2_with fail
      refine (hcp _).mono ?_
      rintro e w1 ⟨rfl, rfl⟩
      go_wp2_with fail
      refine (sized_any _ _).mono ?_
      rw [H2.out]
      rintro e w1 ⟨rfl, he⟩
      subst he
      go_wp2_with fail
      refine (own_widths _).mono ?_
      rintro e w2 ⟨⟨v, rfl, hv⟩, he2⟩
      have r2 := (RowIs.new w _ _).ext he2
      have hB := he2.size
      have HV := Lib.hid hv; clear hv
      have hE2 := (Ext.alloc w _).trans he2
      go_wp2_with (at_builtin; refine wpl_int rfl _ _ rfl rfl HV.out hB (by decide) rfl 4 ?_; intro v' w' ho hb; obtain ⟨a6, c6, rfl, _, _, hI⟩ := own_ints ho; have HI := Lib.hid hI; have HBL := Lib.hid hb; clear ho hI hb)
      replace r2 : RowIs w.heap.size 38 hdZ w' := (HBL.out.block _ (by simp)).trans r2
      replace hE2 : Ext w w' := Below.trans hE2 (HBL.out.mono (by simp))
      refine (hrd a6 c6 w' HI.out).mono ?_
      rintro e w3 ⟨b, o, d, rfl, ⟨c0, c2, c3, c4, c5⟩, he3⟩
      replace r2 := r2.ext he3
      replace hE2 := hE2.trans he3
      have v1 : IntKind.u8.wrap (k : Int) = (k : Int) := by rw [IntKind.wrap_u8]; omega
      have v2 : IntKind.i64.wrap (a : Int) = (a : Int) := by rw [IntKind.wrap_i64]; omega
      have v3 : IntKind.u32.wrap (c : Int) = (c : Int) := by rw [IntKind.wrap_u32]; omega
      clear HBL HI HV hB he2 hcp hrd
      go_upto_region 6 with (fail)
      have h1 : OneEach [(38, hdZ, hdC k a g)] := by intro p hp q hq _; simp at hp hq; rw [hp, hq]
      have p1 : (38, hdZ, hdC k a g) ∈ [(38, hdZ, hdC k a g)] := List.mem_cons_self
      have lb : b < w3.heap.size := World.block_lt_of_cell? _ _ c0
      have lr := r2.lt
      have hbw : w.heap.size ≠ b := by
        intro hh
        have h5 := c5
        rw [← hh, cell_of_row w3 w.heap.size (o + 5) hdZ 38 (0, 0) r2, Array.getElem?_eq_none (by show 3 ≤ o + 5; omega)] at h5
        cases h5
      refine RR.wp_region_drift_lit (n := 69) (Slots.rel h1 (B := w3.heap.size)) (by kernel_rfl) (by kernel_rfl) (by rfl) ?_
      apply RR.chain_val
      · rfl
      · intro w2 hx  K hK
        simp only [Act.put, List.setIfInBounds_toArray, List.set_cons_zero, List.set_cons_succ] at hK ⊢
        go_simp
        exact hK _ _ (RR.Rel.refl (Slots.rel h1 (B := w3.heap.size)) _) rfl
      apply RR.chain_val
      · rfl
      · intro w2 hx  K hK
        simp only [Act.put, List.setIfInBounds_toArray, List.set_cons_zero, List.set_cons_succ] at hK ⊢
        go_simp
        exact hK _ _ (RR.Rel.refl (Slots.rel h1 (B := w3.heap.size)) _) rfl
      apply RR.chain_val (.int .u64 (k : Int))
      · rfl
      · intro w2 hx  K hK
        simp only [Act.put, List.setIfInBounds_toArray, List.set_cons_zero, List.set_cons_succ] at hK ⊢
        have hc := Slots.cell c0 lb hx
        go_simp
        exact hK _ _ ((Slots.rel h1).refl _) rfl
      apply RR.chain_val
      · rfl
      · intro w2 hx  K hK
        simp only [Act.put, List.setIfInBounds_toArray, List.set_cons_zero, List.set_cons_succ] at hK ⊢
        go_simp
        exact hK _ _ (RR.Rel.refl (Slots.rel h1 (B := w3.heap.size)) _) rfl
      apply RR.chain_val
      · rfl
      · intro w2 hx  K hK
        simp only [Act.put, List.setIfInBounds_toArray, List.set_cons_zero, List.set_cons_succ] at hK ⊢
        go_simp
        exact hK _ _ (RR.Rel.refl (Slots.rel h1 (B := w3.heap.size)) _) rfl
      apply RR.chain_val
      · rfl
      · intro w2 hx  K hK
        simp only [Act.put, List.setIfInBounds_toArray, List.set_cons_zero, List.set_cons_succ] at hK ⊢
        go_simp
        exact hK _ _ (RR.Rel.refl (Slots.rel h1 (B := w3.heap.size)) _) rfl
      apply RR.chain_val (.int .u64 (a : Int))
      · rfl
      · intro w2 hx  K hK
        simp only [Act.put, List.setIfInBounds_toArray, List.set_cons_zero, List.set_cons_succ] at hK ⊢
        have hc := Slots.cell c3 lb hx
        go_simp
        exact hK _ _ ((Slots.rel h1).refl _) rfl
      apply RR.chain_val
      · rfl
      · intro w2 hx  K hK
        simp only [Act.put, List.setIfInBounds_toArray, List.set_cons_zero, List.set_cons_succ] at hK ⊢
        go_simp
        exact hK _ _ (RR.Rel.refl (Slots.rel h1 (B := w3.heap.size)) _) rfl
      apply RR.chain_val
      · rfl
      · intro w2 hx  K hK
        simp only [Act.put, List.setIfInBounds_toArray, List.set_cons_zero, List.set_cons_succ] at hK ⊢
        go_simp
        exact hK _ _ (RR.Rel.refl (Slots.rel h1 (B := w3.heap.size)) _) rfl
      apply RR.chain_val
      · rfl
      · intro w2 hx  K hK
        simp only [Act.put, List.setIfInBounds_toArray, List.set_cons_zero, List.set_cons_succ] at hK ⊢
        go_simp
        exact hK _ _ (RR.Rel.refl (Slots.rel h1 (B := w3.heap.size)) _) rfl
      apply RR.chain_val (.int .u64 (g : Int))
      · rfl
      · intro w2 hx  K hK
        simp only [Act.put, List.setIfInBounds_toArray, List.set_cons_zero, List.set_cons_succ] at hK ⊢
        have hc := Slots.cell c4 lb hx
        go_simp
        exact hK _ _ ((Slots.rel h1).refl _) rfl
      apply RR.chain_val
      · rfl
      · intro w2 hx  K hK
        simp only [Act.put, List.setIfInBounds_toArray, List.set_cons_zero, List.set_cons_succ] at hK ⊢
        go_simp
        exact hK _ _ (RR.Rel.refl (Slots.rel h1 (B := w3.heap.size)) _) rfl
      refine RR.chain_pred (Fresh w3.heap.size 38 hdZ (hdC k a g)) (fun _ _ _ e h => Fresh.kept h1 p1 h e) rfl ?_ ?_
      · intro w2 hx  K hK
        simp only [Act.put, List.setIfInBounds_toArray, List.set_cons_zero, List.set_cons_succ] at hK ⊢
        go_simp
        exact hK _ _ (Slots.of (Ext.alloc _ _)) (Fresh.new hx.size)
      refine RR.chain_store (Done w3.heap.size 38 (hdC k a g)) (fun _ _ _ e h => Done.kept h1 p1 h e) rfl rfl ?_ ?_
      · intro w2 hx _ _ v12 h12 K hK
        simp only [Act.put, List.setIfInBounds_toArray, List.set_cons_zero, List.set_cons_succ] at hK ⊢
        obtain ⟨b1, rfl, hb1, c, hr, hc⟩ := h12
        have hs : c.size = 3 := by rcases hc with rfl | rfl <;> rfl
        exact step_store rfl rfl rfl rfl hr (by kernel_rfl) hs (by simp [Value.oneCell']) (let ⟨e, q⟩ := Slots.setRow p1 hb1 hr hc; hK _ e ⟨b1, rfl, hb1, q⟩)
      refine RR.chain_end fun w2 hx => ?_
      simp only [List.reverse_cons, List.reverse_nil, List.nil_append, List.cons_append, RR.withDeps, Act.put, List.setIfInBounds_toArray, List.set_cons_zero, List.set_cons_succ]
      intro v12 h12 v13 h13
      obtain ⟨b1, rfl, hb1, r11⟩ := h13
      replace r2 := Slots.row r2 lr hx
      replace c5 := Slots.cell c5 lb hx
      replace hE2 := Slots.ext hE2 hx (by have := hE2.size; omega)
      have d0 := r11.cell 0 (.int .u8 (k : Int)) rfl
      have d1 := r11.cell 1 (.int .i64 (a : Int)) rfl
      have d2 := r11.cell 2 (.int .u64 (g : Int)) rfl
      have hlb1 : w.heap.size ≠ b1 := by omega
      clear h1 p1 lb lr h12 v12 hx c0 c2 c3 c4
      have hHD := hright_any k g a
      cases h4 : Env.okHead ⟨k, (a : Int), g⟩ with
      | false =>
        rw [h4] at hHD
        have hb4 := hno (by rw [h4, Bool.false_and])
        have HB4 := Lib.hid hb4
        clear hno hyes hb4 h4
        go_wp2_with fail
        refine (hHD _).mono ?_
        rintro e w5 ⟨rfl, he5⟩
        have R2 := Lib.hid (r2.ext he5)
        have hE5 := hE2.trans he5
        clear r2 r11
        go_wp2_with (refine wpl_row rfl rfl rfl rfl R2.out (by kernel_rfl) rfl (by simp [Value.oneCell']) ?_; intro w6 hw6 hr6; have HW6 := Lib.hid hw6; have HR6 := Lib.hid hr6; clear hw6 hr6)
        (try simp only [Exit.inBlock, Exit.then])
        refine bodyPost_ret (results_cttt Try.results42 _ _ rfl HR6.out Try.underlying38 rfl (by kernel_rfl)) rfl ?_
        exact ⟨by rw [← HA.out, HB4.out]; rfl, HW6.out.ext hE5 (Nat.le_refl _)⟩
      | true =>
        rw [h4] at hHD
        by_cases hn : n ≤ s.size - 24
        · have hb4 := hyes (by rw [h4, decide_eq_true hn]; rfl)
          have HB4 := Lib.hid hb4
          have hpn' := hpn n hn
          clear hno hyes hb4 h4 hpn
          have l1 : decide ((S.size : Int) < (n : Int)) = false := decide_eq_false (by omega)
          have l0 : decide (s.size - 24 < n) = false := decide_eq_false (by omega)
          have l2 : (n : Int) ≤ (S.size : Int) := by omega
          go_wp2_with fail
          refine (hHD _).mono ?_
          rintro e w5 ⟨rfl, he5⟩
          replace r2 := r2.ext he5
          replace c5 := cell_ext c5 he5
          replace d0 := cell_ext d0 he5
          replace d1 := cell_ext d1 he5
          replace d2 := cell_ext d2 he5
          have hE5 := hE2.trans he5
          clear r11
          go_upto_region 9 with (fail)
          have m1 : (w.heap.size, hdC k a g, 38) ∈ [(w.heap.size, hdC k a g, 38)] := List.mem_cons_self
          have u1 : ∀ p ∈ [(w.heap.size, hdC k a g, 38)], p.1 = w.heap.size → p = (w.heap.size, hdC k a g, 38) := by intro p hp _; simpa using hp
          have hb' : ∀ p ∈ [(w.heap.size, hdC k a g, 38)], w.heap.size ≤ p.1 := by intro p hp; simp at hp; rw [hp]; exact Nat.le_refl _
          have hn1 : ∀ p ∈ [(w.heap.size, hdC k a g, 38)], p.1 ≠ b1 := by intro p hp; simp at hp; rw [hp]; exact hlb1
          have hn2 : ∀ p ∈ [(w.heap.size, hdC k a g, 38)], p.1 ≠ b := by intro p hp; simp at hp; rw [hp]; exact hbw
          refine RR.wp_region_drift_lit (n := 69) (Boxes.rel [(w.heap.size, hdC k a g, 38)]) (by kernel_rfl) (by kernel_rfl) (by rfl) ?_
          apply RR.chain_val (.agg #[.int .u8 (k : Int), .int .i64 (a : Int), .int .u64 (g : Int)])
          · rfl
          · intro w2 hx  K hK
            simp only [Act.put, List.setIfInBounds_toArray, List.set_cons_zero, List.set_cons_succ] at hK ⊢
            have hc0 := Boxes.cell d0 hn1 hx
            have hc1 := Boxes.cell d1 hn1 hx
            have hc2 := Boxes.cell d2 hn1 hx
            go_simp
            exact hK _ _ ((Boxes.rel [(w.heap.size, hdC k a g, 38)]).refl _) rfl
          apply RR.chain_val
          · rfl
          · intro w2 hx  K hK
            simp only [Act.put, List.setIfInBounds_toArray, List.set_cons_zero, List.set_cons_succ] at hK ⊢
            go_simp
            exact hK _ _ (RR.Rel.refl (Boxes.rel [(w.heap.size, hdC k a g, 38)]) _) rfl
          apply RR.chain_val
          · rfl
          · intro w2 hx  K hK
            simp only [Act.put, List.setIfInBounds_toArray, List.set_cons_zero, List.set_cons_succ] at hK ⊢
            go_simp
            exact hK _ _ (RR.Rel.refl (Boxes.rel [(w.heap.size, hdC k a g, 38)]) _) rfl
          apply RR.chain_val (.string (s.extract 24 (24 + n)))
          · rfl
          · intro w2 hx  K hK
            simp only [Act.put, List.setIfInBounds_toArray, List.set_cons_zero, List.set_cons_succ] at hK ⊢
            go_simp
            exact hK _ _ ((Boxes.rel [(w.heap.size, hdC k a g, 38)]).refl _) rfl
          apply RR.chain_val
          · rfl
          · intro w2 hx  K hK
            simp only [Act.put, List.setIfInBounds_toArray, List.set_cons_zero, List.set_cons_succ] at hK ⊢
            go_simp
            exact hK _ _ (RR.Rel.refl (Boxes.rel [(w.heap.size, hdC k a g, 38)]) _) rfl
          apply RR.chain_val
          · rfl
          · intro w2 hx  K hK
            simp only [Act.put, List.setIfInBounds_toArray, List.set_cons_zero, List.set_cons_succ] at hK ⊢
            go_simp
            exact hK _ _ (RR.Rel.refl (Boxes.rel [(w.heap.size, hdC k a g, 38)]) _) rfl
          apply RR.chain_val (.int .u64 (c : Int))
          · rfl
          · intro w2 hx  K hK
            simp only [Act.put, List.setIfInBounds_toArray, List.set_cons_zero, List.set_cons_succ] at hK ⊢
            have hc := Boxes.cell c5 hn2 hx
            go_simp
            exact hK _ _ ((Boxes.rel [(w.heap.size, hdC k a g, 38)]).refl _) rfl
          apply RR.chain_val
          · rfl
          · intro w2 hx  K hK
            simp only [Act.put, List.setIfInBounds_toArray, List.set_cons_zero, List.set_cons_succ] at hK ⊢
            go_simp
            exact hK _ _ (RR.Rel.refl (Boxes.rel [(w.heap.size, hdC k a g, 38)]) _) rfl
          refine RR.chain_store (PtrRow w.heap.size 38 (hdC k a g)) (fun _ _ _ e h => PtrRow.kept m1 h e) rfl rfl ?_ ?_
          · intro w2 hx  K hK
            simp only [Act.put, List.setIfInBounds_toArray, List.set_cons_zero, List.set_cons_succ] at hK ⊢
            obtain ⟨q, hr, hc⟩ := RowIs.either m1 r2 hx
            have hs : q.size = 3 := by rcases hc with rfl | rfl <;> rfl
            exact step_store rfl rfl rfl rfl hr (by kernel_rfl) hs (by simp [Value.oneCell']) (let ⟨e, q⟩ := setRow_boxes hr m1 u1; hK _ e ⟨rfl, q⟩)
          apply RR.chain_val
          · rfl
          · intro w2 hx _ _ v8 h8 K hK
            simp only [Act.put, List.setIfInBounds_toArray, List.set_cons_zero, List.set_cons_succ] at hK ⊢
            go_simp
            exact hK _ _ (RR.Rel.refl (Boxes.rel [(w.heap.size, hdC k a g, 38)]) _) rfl
          apply RR.chain_val
          · rfl
          · intro w2 hx v8 h8 K hK
            simp only [Act.put, List.setIfInBounds_toArray, List.set_cons_zero, List.set_cons_succ] at hK ⊢
            go_simp
            exact hK _ _ (RR.Rel.refl (Boxes.rel [(w.heap.size, hdC k a g, 38)]) _) rfl
          apply RR.chain_val
          · rfl
          · intro w2 hx v8 h8 K hK
            simp only [Act.put, List.setIfInBounds_toArray, List.set_cons_zero, List.set_cons_succ] at hK ⊢
            go_simp
            exact hK _ _ (RR.Rel.refl (Boxes.rel [(w.heap.size, hdC k a g, 38)]) _) rfl
          refine RR.chain_end fun w2 hx => ?_
          simp only [List.reverse_cons, List.reverse_nil, List.nil_append, List.cons_append, RR.withDeps, Act.put, List.setIfInBounds_toArray, List.set_cons_zero, List.set_cons_succ]
          intro v8 h8
          obtain ⟨rfl, h8⟩ := h8
          go_wp2_with fail
          (try simp only [Exit.inBlock, Exit.then])
          refine bodyPost_ret (results_cttt Try.results42 _ _ rfl h8 Try.underlying38 rfl (by kernel_rfl)) rfl ?_
          exact ⟨by rw [← HA.out, HB4.out]; rfl, Boxes.ext hE5 hx hb'⟩
        · have hb4 := hno (by rw [decide_eq_false hn, Bool.and_false])
          have HB4 := Lib.hid hb4
          clear hno hyes hb4 h4
          have l1 : decide ((S.size : Int) < (n : Int)) = true := decide_eq_true (by omega)
          have l0 : decide (s.size - 24 < n) = true := decide_eq_true (by omega)
          go_wp2_with fail
          refine (hHD _).mono ?_
          rintro e w5 ⟨rfl, he5⟩
          have R2 := Lib.hid (r2.ext he5)
          have hE5 := hE2.trans he5
          clear r2 r11
          go_wp2_with (refine wpl_row rfl rfl rfl rfl R2.out (by kernel_rfl) rfl (by simp [Value.oneCell']) ?_; intro w6 hw6 hr6; have HW6 := Lib.hid hw6; have HR6 := Lib.hid hr6; clear hw6 hr6)
          (try simp only [Exit.inBlock, Exit.then])
          refine bodyPost_ret (results_cttt Try.results42 _ _ rfl HR6.out Try.underlying38 rfl (by kernel_rfl)) rfl ?_
          exact ⟨by rw [← HA.out, HB4.out]; rfl, HW6.out.ext hE5 (Nat.le_refl _)⟩
end Go.Proofs.Ytbnpldilkkhgmaa
