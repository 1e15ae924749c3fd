/- The walk of law05.SuperSlots. -/
import Derived.Test.YtbnpldilkkhgmaaLaw05
namespace Go.Proofs.Ytbnpldilkkhgmaa
open Go.RowKit
/-- a block of a law's own type -/
def rowB (g X r u h s c : Nat) : Array Value := #[.int .u64 (g : Int), .int .i64 (X : Int), .int .u64 (r : Int), .int .u32 (u : Int), .int .i64 (h : Int), .int .u64 (s : Int), .int .u32 (c : Int)]
/-- an image in the other one's place opens to nothing -/
theorem other_no (b g X u h s c : Nat) (w : World) (ht : TabAt w b) (hg : g < 18446744073709551616) :
    Calls Try.prog 30 #[.pointer (some ⟨b, 0, none⟩), .string (imgT 128 ⟨1, ((1 - g % 2 : Nat) : Int), g⟩ (payT X 0 u h s c) (sumT 128 ⟨1, ((1 - g % 2 : Nat) : Int), g⟩ (payT X 0 u h s c)))] w fun e w' => e = .returned (.tuple #[.agg blkZ, .int .i64 4]) ∧ Ext w w' := by
  have hok : Env.okHead ⟨1, ((1 - g % 2 : Nat) : Int), g⟩ = true := Env.okHead_iff.2 ⟨⟨Nat.le_refl 1, (by omega : 1 ≤ 5)⟩, by simp only; omega⟩
  have hop := (open_img (size := 128) (p := payT X 0 u h s c) hok hg (by rw [payT_size]; decide) (by decide) (by decide)).1
  have hsz := imgT_size (size := 128) (h := ⟨1, ((1 - g % 2 : Nat) : Int), g⟩) (p := payT X 0 u h s c) (c := sumT 128 ⟨1, ((1 - g % 2 : Nat) : Int), g⟩ (payT X 0 u h s c)) (by rw [payT_size]; decide)
  have h1 := sopen_good b 1 (1 - g % 2) g _ (payT X 0 u h s c) w ht (by rw [hsz]; unfold maxLen; omega) (by rw [payT_size]; unfold maxLen; omega) hop
  unfold sopenAns at h1
  rw [if_neg (fun h => by have := h.2.2; omega)] at h1
  exact h1
set_option maxRecDepth 100000 in
set_option maxHeartbeats 6000000 in
theorem superSlots_walk (g : Nat) (a : Int) (r u : Nat) (h : Int) (s c : Nat) (n : UInt8) (w : World) (_hg : g < 18446744073709551616) (_ha1 : -9223372036854775808 ≤ a) (ha2 : a ≤ 9223372036854775807) (_hr : r < 18446744073709551616) (hu : u < 4294967296) (_hh1 : -9223372036854775808 ≤ h) (hh2 : h ≤ 9223372036854775807) (hs : s < 18446744073709551616) (hc : c < 4294967296) :
    Calls Try.prog 9 #[.agg #[.int .u64 (g : Int), .int .i64 a, .int .u64 (r : Int), .int .u32 (u : Int), .int .i64 h, .int .u64 (s : Int), .int .u32 (c : Int)], .int .u8 (n.toNat : Int)] w fun e w' => e = .returned (.bool true) ∧ Ext w w' := by
  have htm := fun w => tame05_any g a r u h s c w ha2 hh2
  have hX31 : tameX a ≤ 2147483647 := by unfold tameX; omega
  have hH : 1 ≤ tameH h ∧ tameH h ≤ 32 := by unfold tameH; omega
  have hG : 1 ≤ tameG g := by unfold tameG; omega
  generalize tameR g r = R at *
  obtain ⟨G, hGe⟩ : ∃ G : Nat, min ((tameG g : Nat) : Int) 1152921504606846976 = (G : Int) ∧ 1 ≤ G ∧ G ≤ 1152921504606846976 := ⟨min (tameG g) 1152921504606846976, by omega, by omega, by omega⟩
  obtain ⟨hG1, hG2, hG3⟩ := hGe
  generalize tameG g = G0 at *
  generalize tameX a = X at *
  generalize tameH h = H at *
  have hn := n.toNat_lt
  generalize n.toNat = N at *
  obtain ⟨M, hM, hM1, hM6⟩ : ∃ M : Nat, IntKind.u8.wrap (1 + (N : Int) % 6) = (M : Int) ∧ 1 ≤ M ∧ M ≤ 6 := ⟨1 + N % 6, by rw [IntKind.wrap_u8]; omega, by omega, by omega⟩
  have HTM := Lib.hid htm
  clear htm
  go_enter Try.func9, Try.ntmps9
  go_wp2_with fail
  refine (make_ext _).mono ?_
  rintro e w1 ⟨b, rfl, ht, he1⟩
  have c0 := cell_ext (World.cell?_alloc_new w _ _ 0) he1
  have c1 := cell_ext (World.cell?_alloc_new w _ _ 1) he1
  have c2 := cell_ext (World.cell?_alloc_new w _ _ 2) he1
  have c3 := cell_ext (World.cell?_alloc_new w _ _ 3) he1
  have c4 := cell_ext (World.cell?_alloc_new w _ _ 4) he1
  have c5 := cell_ext (World.cell?_alloc_new w _ _ 5) he1
  have c6 := cell_ext (World.cell?_alloc_new w _ _ 6) he1
  have hE1 := (Ext.alloc w _).trans he1
  go_wp2_with fail
  refine (HTM.out _).mono ?_
  rintro e w2 ⟨rfl, he2⟩
  replace ht := ht.ext he2
  replace hE1 := hE1.trans he2
  clear c0 c1 c2 c3 c4 c5 c6 he1 he2 HTM
  go_wp2_with fail
  refine (wakes05 _).mono ?_
  rintro e w3 ⟨rfl, he3⟩
  have r6 := (RowIs.new w2 65 (rowB G X 0 u H s c)).ext he3
  have hE3 : Ext w2 w3 := (Ext.alloc _ _).trans he3
  clear he3
  go_wp2_with fail
  obtain ⟨B, hB⟩ : ∃ B, B = w2.heap.size := ⟨_, rfl⟩
  rw [← hB] at r6 ⊢
  have HB := Lib.hid hB; clear hB
  go_loopw [7, 32] (fun l i wx => ∃ j : Nat, j ≤ M ∧ i = .int .u8 (j : Int) ∧ (∃ L : Int, l = .int .i64 L ∧ ¬ L = (((G + j) % 2 : Nat) : Int)) ∧ RowIs B 65 (rowB (G + j) X 0 u H s c) wx ∧ Ext w2 wx) (fun _ i _ => M - (intOf i).toNat)
  case atStart => exact ⟨0, by omega, rfl, ⟨-1, rfl, by omega⟩, r6, hE3⟩
  case round =>
    obtain ⟨j, hj, rfl, ⟨L, rfl, hL⟩, hrow, hex⟩ := hrel
    by_cases hlt : j < M
    · have hlt' : decide ((j : Int) < (M : Int)) = true := decide_eq_true (by omega)
      have c0 := hrow.cell 0 (.int .u64 ((G + j : Nat) : Int)) rfl
      have c1 := hrow.cell 1 (.int .i64 (X : Int)) rfl
      have c2 := hrow.cell 2 (.int .u64 0) rfl
      have c3 := hrow.cell 3 (.int .u32 (u : Int)) rfl
      have c4 := hrow.cell 4 (.int .i64 (H : Int)) rfl
      have c5 := hrow.cell 5 (.int .u64 (s : Int)) rfl
      have c6 := hrow.cell 6 (.int .u32 (c : Int)) rfl
      have HT := ht.ext hex
      have hBwr : B < wr.heap.size := hrow.lt
      obtain ⟨g', hg'⟩ : ∃ g', G + j = g' := ⟨_, rfl⟩
      rw [hg'] at c0 hL hrow
      have hgl : g' < 18446744073709551615 := by omega
      have hg1 : 1 ≤ g' := by omega
      have hok : Sup.okB g' 0 (H : Int) = true := Sup.okB_iff.2 ⟨⟨⟨hg1, by omega⟩, by omega⟩, by omega⟩
      have him := fun w ht => sup_image b g' X 0 u H s c w ht (by omega) hX31 (by decide) hu hs hc hok
      have hopn := fun w ht => open_any b (supT g' X 0 u H s c) w ht (by rw [supT_size]; unfold maxLen; omega)
      rw [sup_opened (by omega)] at hopn
      have hpay := img_payload (size := 128) (h := ⟨1, ((g' % 2 : Nat) : Int), g'⟩) (p := payT X 0 u H s c) (c := sumT 128 ⟨1, ((g' % 2 : Nat) : Int), g'⟩ (payT X 0 u H s c))
      rw [payT_size] at hpay
      change (supT g' X 0 u H s c).extract 24 53 = payT X 0 u H s c at hpay
      have hsz := supT_size g' X 0 u H s c
      have hno := fun w ht => other_no b g' X u H s c w ht (by omega)
      have hse := fun w ht => seal_ok b 128 1 (1 - g' % 2) g' (payT X 0 u H s c) w ht (Env.okHead_iff.2 ⟨⟨Nat.le_refl 1, (by omega : 1 ≤ 5)⟩, by simp only; omega⟩) (by omega) (by rw [payT_size]; decide) (by decide) (by decide)
      have hk2 : g' % 2 ≤ 1 := by omega
      have hsl := slot_any g'
      generalize supT g' X 0 u H s c = I at *
      generalize imgT 128 ⟨1, ((1 - g' % 2 : Nat) : Int), g'⟩ (payT X 0 u H s c) _ = I2 at *
      generalize sumT 128 ⟨1, ((1 - g' % 2 : Nat) : Int), g'⟩ (payT X 0 u H s c) = s2 at *
      generalize payT X 0 u H s c = P at *
      obtain ⟨k, hk⟩ : ∃ k, g' % 2 = k := ⟨_, rfl⟩
      rw [hk] at hopn hse hk2 hsl hL
      obtain ⟨k', hk'⟩ : ∃ k', 1 - k = k' := ⟨_, rfl⟩
      rw [hk'] at hse
      have hw8 : IntKind.i64.wrap (k' : Int) = (k' : Int) := by rw [IntKind.wrap_i64]; omega
      have hk1' : (1 : Int) - (k : Int) = (k' : Int) := by omega
      unfold hdC at hopn
      unfold ptrC at hse
      unfold blkZ at hno
      have HIM := Lib.hid him; have HOPN := Lib.hid hopn; have HSE := Lib.hid hse; have HNO := Lib.hid hno; have HSL := Lib.hid hsl
      clear him hopn hse hno hsl hok
      have HROW := Lib.hid hrow; clear hrow
      go_wp2_with fail
      refine (of05_any _ _ _ _ _ _ _ _).mono ?_
      rintro e w4 ⟨rfl, he4⟩
      go_wp2_with fail
      refine (HIM.out _ (HT.ext he4)).mono ?_
      rintro e w5 ⟨rfl, he5⟩
      replace he5 := he4.trans he5
      replace c0 := cell_ext c0 he5
      clear c1 c2 c3 c4 c5 c6 he4
      go_wp2_with fail
      refine (HSL.out _).mono ?_
      rintro e w6 ⟨rfl, he⟩
      subst he
      go_wp2_with fail
      refine (HOPN.out _ (HT.ext he5)).mono ?_
      rintro e w6 ⟨rfl, he6⟩
      replace c0 := fun o => cell_ext (cell_ext c0 he6) (Ext.alloc w6 o)
      go_wp2_with fail
      refine (wakes05 _).mono ?_
      rintro e w7 ⟨rfl, he7⟩
      replace c0 := cell_ext (c0 _) he7
      have d0 := cell_ext (World.cell?_alloc_new w6 _ _ 0) he7
      have d1 := cell_ext (World.cell?_alloc_new w6 _ _ 1) he7
      have d2 := cell_ext (World.cell?_alloc_new w6 _ _ 2) he7
      replace he7 := he5.trans (he6.trans ((Ext.alloc w6 _).trans he7))
      replace HT := HT.ext he7
      have hL2 : ((k : Int) == L) = false := by simp; omega
      clear he5 he6 HIM HOPN
      go_upto_region 15 with (fail)
      have hB7 : B < w7.heap.size := World.block_lt_of_cell? w7 _ c0
      have ho : OneEach [(32, ptrZ, ptrC (k' : Int) g' s2)] := by intro p hp q hq _; simp only [List.mem_singleton] at hp hq; rw [hp, hq]
      have p1 : (32, ptrZ, ptrC (k' : Int) g' s2) ∈ [(32, ptrZ, ptrC (k' : Int) g' s2)] := List.mem_singleton.2 rfl
      clear d0 d1 d2 hL2
      refine RR.wp_region_drift_lit (n := 114) (Slots.rel ho (B := w7.heap.size)) (by kernel_rfl) (by kernel_rfl) (by rfl) ?_
      apply RR.chain_val
      · rfl
      · intro w2 hx  K hK
        simp only [Act.put, List.setIfInBounds_toArray, List.set_cons_zero, List.set_cons_succ] at hK ⊢
        go_simp
        exact hK _ _ (RR.Rel.refl (Slots.rel ho (B := w7.heap.size)) _) rfl
      apply RR.chain_val
      · rfl
      · intro w2 hx  K hK
        simp only [Act.put, List.setIfInBounds_toArray, List.set_cons_zero, List.set_cons_succ] at hK ⊢
        go_simp
        exact hK _ _ (RR.Rel.refl (Slots.rel ho (B := w7.heap.size)) _) rfl
      apply RR.chain_val (.int .i64 (k' : Int))
      · rfl
      · intro w2 hx  K hK
        simp only [Act.put, List.setIfInBounds_toArray, List.set_cons_zero, List.set_cons_succ] at hK ⊢
        go_simp
        exact hK _ _ ((Slots.rel ho).refl _) rfl
      apply RR.chain_val
      · rfl
      · intro w2 hx  K hK
        simp only [Act.put, List.setIfInBounds_toArray, List.set_cons_zero, List.set_cons_succ] at hK ⊢
        go_simp
        exact hK _ _ (RR.Rel.refl (Slots.rel ho (B := w7.heap.size)) _) rfl
      apply RR.chain_val (.int .u64 (g' : Int))
      · rfl
      · intro w2 hx  K hK
        simp only [Act.put, List.setIfInBounds_toArray, List.set_cons_zero, List.set_cons_succ] at hK ⊢
        have hc := Slots.cell c0 hB7 hx
        go_simp
        exact hK _ _ ((Slots.rel ho).refl _) rfl
      apply RR.chain_val
      · rfl
      · intro w2 hx  K hK
        simp only [Act.put, List.setIfInBounds_toArray, List.set_cons_zero, List.set_cons_succ] at hK ⊢
        go_simp
        exact hK _ _ (RR.Rel.refl (Slots.rel ho (B := w7.heap.size)) _) rfl
      apply RR.chain_val
      · rfl
      · intro w2 hx  K hK
        simp only [Act.put, List.setIfInBounds_toArray, List.set_cons_zero, List.set_cons_succ] at hK ⊢
        go_simp
        exact hK _ _ (RR.Rel.refl (Slots.rel ho (B := w7.heap.size)) _) rfl
      apply RR.chain_val (.string P)
      · rfl
      · intro w2 hx  K hK
        simp only [Act.put, List.setIfInBounds_toArray, List.set_cons_zero, List.set_cons_succ] at hK ⊢
        go_simp
        refine hK _ _ ((Slots.rel ho).refl _) ?_
        show Value.string _ = _
        rw [← hpay]
      apply RR.chain_val (.tuple #[.string I2, .agg #[.int .i64 (k' : Int), .int .u64 (g' : Int), .int .u32 (s2 : Int)], .int .i64 0])
      · rfl
      · intro w2 hx  K hK
        simp only [Act.put, List.setIfInBounds_toArray, List.set_cons_zero, List.set_cons_succ] at hK ⊢
        go_simp
        refine (HSE.out _ (HT.ext (Slots.ext (Ext.refl _) hx (Nat.le_refl _)))).mono ?_
        rintro e w9 ⟨rfl, he9⟩
        exact hK _ _ (Slots.of he9) rfl
      apply RR.chain_val
      · rfl
      · intro w2 hx  K hK
        simp only [Act.put, List.setIfInBounds_toArray, List.set_cons_zero, List.set_cons_succ] at hK ⊢
        go_simp
        exact hK _ _ (RR.Rel.refl (Slots.rel ho (B := w7.heap.size)) _) rfl
      apply RR.chain_val
      · rfl
      · intro w2 hx  K hK
        simp only [Act.put, List.setIfInBounds_toArray, List.set_cons_zero, List.set_cons_succ] at hK ⊢
        go_simp
        exact hK _ _ (RR.Rel.refl (Slots.rel ho (B := w7.heap.size)) _) rfl
      apply RR.chain_val
      · rfl
      · intro w2 hx  K hK
        simp only [Act.put, List.setIfInBounds_toArray, List.set_cons_zero, List.set_cons_succ] at hK ⊢
        go_simp
        exact hK _ _ (RR.Rel.refl (Slots.rel ho (B := w7.heap.size)) _) rfl
      apply RR.chain_val
      · rfl
      · intro w2 hx  K hK
        simp only [Act.put, List.setIfInBounds_toArray, List.set_cons_zero, List.set_cons_succ] at hK ⊢
        go_simp
        exact hK _ _ (RR.Rel.refl (Slots.rel ho (B := w7.heap.size)) _) rfl
      refine RR.chain_pred (Fresh w7.heap.size 32 ptrZ (ptrC (k' : Int) g' s2)) (fun _ _ _ e h => Fresh.kept ho p1 h e) rfl ?_ ?_
      · intro w2 hx  K hK
        simp only [Act.put, List.setIfInBounds_toArray, List.set_cons_zero, List.set_cons_succ] at hK ⊢
        go_simp
        exact hK _ _ (Slots.of (Ext.alloc _ _)) (Fresh.new hx.size)
      apply RR.chain_val
      · rfl
      · intro w2 hx v13 h13 K hK
        simp only [Act.put, List.setIfInBounds_toArray, List.set_cons_zero, List.set_cons_succ] at hK ⊢
        go_simp
        exact hK _ _ (RR.Rel.refl (Slots.rel ho (B := w7.heap.size)) _) rfl
      refine RR.chain_store (Done w7.heap.size 32 (ptrC (k' : Int) g' s2)) (fun _ _ _ e h => Done.kept ho p1 h e) rfl rfl ?_ ?_
      · intro w2 hx _ _ v13 h13 K hK
        simp only [Act.put, List.setIfInBounds_toArray, List.set_cons_zero, List.set_cons_succ] at hK ⊢
        obtain ⟨b1, rfl, hb1, c, hr, hc⟩ := h13
        have hs : c.size = 3 := by rcases hc with rfl | rfl <;> rfl
        exact step_store rfl rfl rfl rfl hr (by kernel_rfl) hs (by simp [Value.oneCell']) (let ⟨e, q⟩ := Slots.setRow p1 hb1 hr hc; hK _ e ⟨b1, rfl, hb1, q⟩)
      apply RR.chain_val
      · rfl
      · intro w2 hx _ _ v13 h13 v15 h15 K hK
        simp only [Act.put, List.setIfInBounds_toArray, List.set_cons_zero, List.set_cons_succ] at hK ⊢
        go_simp
        exact hK _ _ (RR.Rel.refl (Slots.rel ho (B := w7.heap.size)) _) rfl
      refine RR.chain_end fun w2 hx => ?_
      simp only [List.reverse_cons, List.reverse_nil, List.nil_append, List.cons_append, RR.withDeps, Act.put, List.setIfInBounds_toArray, List.set_cons_zero, List.set_cons_succ]
      intro v13 h13 v15 h15
      have he8 := Slots.ext (Ext.refl _) hx (Nat.le_refl _)
      replace c0 := cell_ext c0 he8
      replace he7 := he7.trans he8
      replace HT := HT.ext he8
      clear h13 h15 hx HSE ho p1 he8
      go_wp2_with fail
      refine (HNO.out _ HT).mono ?_
      rintro e w10 ⟨rfl, he10⟩
      have r0 := ((HROW.out.ext he7).ext he10)
      have r0' := fun o => r0.ext (Ext.alloc w10 o)
      have f0 := fun o => (r0' o).free 0
      have c0' := fun o => (r0' o).cell 0 (.int .u64 (g' : Int)) rfl
      have hE10 := he7.trans he10
      have hw9 : IntKind.u64.wrap ((g' : Int) + 1) = ((g' + 1 : Nat) : Int) := by rw [IntKind.wrap_u64]; omega
      clear c0
      go_wp2_with fail
      go_roundw
      case rel =>
        refine ⟨j + 1, by omega, by go_num, ⟨(k : Int), rfl, by omega⟩, ?_, ?_⟩
        · rw [show G + (j + 1) = g' + 1 by omega]
          exact (r0' _).setCell 0 (.int .u64 ((g' + 1 : Nat) : Int))
        · exact Ext.trans_set (hex.trans (hE10.trans (Ext.alloc _ _))) (by rw [HB.out]; exact Nat.le_refl _) 0 _
      case measure => simp [intOf]; omega
    · obtain rfl : j = M := by omega
      go_wp2_with fail
      go_ret
      exact ⟨rfl, hE1.trans hex⟩
end Go.Proofs.Ytbnpldilkkhgmaa
