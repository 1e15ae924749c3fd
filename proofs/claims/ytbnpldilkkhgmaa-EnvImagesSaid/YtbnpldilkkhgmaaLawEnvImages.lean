/- The walk of law04.EnvImages. -/
import Derived.Test.YtbnpldilkkhgmaaEnvO
namespace Go.Proofs.Ytbnpldilkkhgmaa
open Go.RowKit
/-- a slice of n elements whose cells are cs -/
def SlC (n : Nat) (cs : Array Value) (v : Value) (w : World) : Prop := ∃ b, v = .slice (some ⟨b, 0, none⟩) n n ∧ ∀ (j : Nat) (u : Value), cs[j]? = some u → w.cell? ⟨b, j, none⟩ = some u
theorem SlC.ext {n : Nat} {cs : Array Value} {v : Value} {w w' : World} (h : SlC n cs v w) (e : Ext w w') : SlC n cs v w' := let ⟨b, h1, h2⟩ := h; ⟨b, h1, fun j u hu => cell_ext (h2 j u hu) e⟩
theorem SlC.new (w : World) (T : TypeId) (n : Nat) (cs : Array Value) : SlC n cs (.slice (some ⟨w.heap.size, 0, none⟩) n n) (w.alloc (.cells cs T)) := ⟨_, rfl, fun j u hu => by rw [World.cell?_alloc_new]; exact hu⟩
set_option maxRecDepth 100000 in
set_option maxHeartbeats 6000000 in
theorem envImages_walk (k : Nat) (x : Int) (n : Nat) (s : ByteArray) (z : Int) (w : World) (hk : k < 256) (_hx1 : -9223372036854775808 ≤ x) (hx2 : x ≤ 9223372036854775807) (hn : n < 18446744073709551616) (hs : s.size ≤ maxLen) (_hz1 : -9223372036854775808 ≤ z) (hz2 : z ≤ 9223372036854775807) :
    Calls Try.prog 3 #[.agg #[.int .u8 (k : Int), .int .i64 x, .int .u64 (n : Int)], .string s, .int .i64 z] w fun e w' => e = .returned (.bool true) ∧ Ext w w' := by
  unfold maxLen at hs
  have htm := fun w => tame04_any k n x w hk hx2
  obtain ⟨K, hK⟩ : ∃ K, tameK k = K := ⟨_, rfl⟩
  obtain ⟨X, hX⟩ : ∃ X, tameX x = X := ⟨_, rfl⟩
  rw [hK, hX] at htm
  clear hK hX
  obtain ⟨m, hm1, hm2, hm3⟩ : ∃ m : Nat, min (s.size : Int) 1100 = (m : Int) ∧ m ≤ s.size ∧ m ≤ 1100 := ⟨min s.size 1100, by omega, by omega, by omega⟩
  obtain ⟨P, hP⟩ : ∃ P, s.extract 0 m = P := ⟨_, rfl⟩
  obtain ⟨Z, hZ⟩ : ∃ Z : Int, 128 + max 0 z % 900 = Z := ⟨_, rfl⟩
  go_enter Try.func3, Try.ntmps3
  go_wp2_with fail
  refine (make_ext _).mono ?_
  rintro e w1 ⟨b, rfl, ht, he1⟩
  have c0 := cell_ext (World.cell?_alloc_new w _ _ 0) he1
  have c1 := cell_ext (World.cell?_alloc_new w _ _ 1) he1
  have c2 := cell_ext (World.cell?_alloc_new w _ _ 2) he1
  have hE1 := (Ext.alloc w _).trans he1
  generalize w.heap.size = B0 at *
  go_wp2_with fail
  refine wp_region_drift_lit (n := 128) (by kernel_rfl) (by kernel_rfl) (by rfl) ?_
  apply chain_val (.agg #[.int .u8 (k : Int), .int .i64 x, .int .u64 (n : Int)])
  · intro w2 hx  K hK
    simp only [Act.put, List.setIfInBounds_toArray, List.set_cons_zero, List.set_cons_succ] at hK ⊢
    have d0 := cell_ext c0 hx
    have d1 := cell_ext c1 hx
    have d2 := cell_ext c2 hx
    go_simp
    exact hK _ _ (Ext.refl _) rfl
  apply chain_val (.agg #[.int .u8 (k : Int), .int .i64 x, .int .u64 (n : Int)])
  · intro w2 hx  K hK
    simp only [Act.put, List.setIfInBounds_toArray, List.set_cons_zero, List.set_cons_succ] at hK ⊢
    have d0 := cell_ext c0 hx
    have d1 := cell_ext c1 hx
    have d2 := cell_ext c2 hx
    go_simp
    exact hK _ _ (Ext.refl _) rfl
  apply chain_val (.agg #[.int .u8 (K : Int), .int .i64 (X : Int), .int .u64 (n : Int)])
  · intro w2 hx  K hK
    simp only [Act.put, List.setIfInBounds_toArray, List.set_cons_zero, List.set_cons_succ] at hK ⊢
    go_simp
    refine (htm _).mono ?_
    rintro e w7 ⟨rfl, he7⟩
    exact hK _ _ he7 rfl
  refine chain_pred (SlC 2 #[.int .u8 (k : Int), .int .i64 x, .int .u64 (n : Int), .int .u8 (K : Int), .int .i64 (X : Int), .int .u64 (n : Int)]) (fun _ _ _ e h => SlC.ext h e) ?_ ?_
  · intro w2 hx  K hK
    simp only [Act.put, List.setIfInBounds_toArray, List.set_cons_zero, List.set_cons_succ] at hK ⊢
    go_simp
    exact hK _ _ (Ext.alloc _ _) (SlC.new _ _ _ _)
  apply chain_val (.int .i64 2)
  · intro w2 hx v3 h3 K hK
    simp only [Act.put, List.setIfInBounds_toArray, List.set_cons_zero, List.set_cons_succ] at hK ⊢
    obtain ⟨b3, rfl, hb3⟩ := h3
    go_simp
    exact hK _ _ (Ext.refl _) rfl
  apply chain_val (.int .i64 0)
  · intro w2 hx  K hK
    simp only [Act.put, List.setIfInBounds_toArray, List.set_cons_zero, List.set_cons_succ] at hK ⊢
    go_simp
    exact hK _ _ (Ext.refl _) rfl
  refine chain_end fun w2 hx => ?_
  simp only [List.reverse_cons, List.reverse_nil, List.nil_append, List.cons_append, withDeps, Act.put, List.setIfInBounds_toArray, List.set_cons_zero, List.set_cons_succ]
  intro v3 h3
  obtain ⟨b3, rfl, hb3⟩ := h3
  replace c0 := cell_ext c0 hx
  replace c1 := cell_ext c1 hx
  replace c2 := cell_ext c2 hx
  replace ht := ht.ext hx
  replace hE1 := hE1.trans hx
  have hds : ∀ i, i < 2 → ∃ (k' : Nat) (x' : Int), w2.cell? ⟨b3, i * 3, none⟩ = some (.int .u8 (k' : Int)) ∧ w2.cell? ⟨b3, i * 3 + 1, none⟩ = some (.int .i64 x') ∧ w2.cell? ⟨b3, i * 3 + 2, none⟩ = some (.int .u64 (n : Int)) := fun i hi => by
    match i, hi with
    | 0, _ => exact ⟨k, x, hb3 0 _ rfl, hb3 1 _ rfl, hb3 2 _ rfl⟩
    | 1, _ => exact ⟨K, X, hb3 3 _ rfl, hb3 4 _ rfl, hb3 5 _ rfl⟩
  clear hb3 he1 hx
  have HD := Lib.hid hds; clear hds
  go_wp2_with fail
  go_loopw [34] (fun i wx => ∃ j : Nat, j ≤ 2 ∧ i = .int .i64 j ∧ Ext w2 wx) (fun i _ => 2 - (intOf i).toNat)
  case atStart => exact ⟨0, by omega, rfl, Ext.refl _⟩
  case round =>
    obtain ⟨j, hj, rfl, hex⟩ := hrel
    by_cases hlt : j < 2
    · obtain ⟨k', x', d0, d1, d2⟩ := HD.out j hlt
      replace d0 := cell_ext d0 hex
      replace d1 := cell_ext d1 hex
      replace d2 := cell_ext d2 hex
      have HT := ht.ext hex
      have hlt' : decide ((j : Int) < 2) = true := decide_eq_true (by omega)
      go_wp2_with fail
      rw [show ((j : Nat) : Int) = (j : Int) from rfl]
      have e0 := cell_ext (World.cell?_alloc_new wr #[.int .u8 (k' : Int), .int .i64 x', .int .u64 (n : Int)] 24 0) (Ext.alloc _ (.cells #[.int .i64 z, .int .i64 Z] 3))
      have e1 := cell_ext (World.cell?_alloc_new wr #[.int .u8 (k' : Int), .int .i64 x', .int .u64 (n : Int)] 24 1) (Ext.alloc _ (.cells #[.int .i64 z, .int .i64 Z] 3))
      have e2 := cell_ext (World.cell?_alloc_new wr #[.int .u8 (k' : Int), .int .i64 x', .int .u64 (n : Int)] 24 2) (Ext.alloc _ (.cells #[.int .i64 z, .int .i64 Z] 3))
      have hns : ∀ i, i < 2 → ∃ z' : Int, ((wr.alloc (.cells #[.int .u8 (k' : Int), .int .i64 x', .int .u64 (n : Int)] 24)).alloc (.cells #[.int .i64 z, .int .i64 Z] 3)).cell? ⟨wr.heap.size + 1, i, none⟩ = some (.int .i64 z') := fun i hi => by
        match i, hi with
        | 0, _ => exact ⟨z, cell_new2 _ _ _ _ _⟩
        | 1, _ => exact ⟨Z, cell_new2 _ _ _ _ _⟩
      have hei := (Ext.alloc wr (.cells #[.int .u8 (k' : Int), .int .i64 x', .int .u64 (n : Int)] 24)).trans (Ext.alloc _ (.cells #[.int .i64 z, .int .i64 Z] 3))
      generalize (wr.alloc (.cells #[.int .u8 (k' : Int), .int .i64 x', .int .u64 (n : Int)] 24)).alloc (.cells #[.int .i64 z, .int .i64 Z] 3) = wi at *
      have HN := Lib.hid hns; clear hns
      replace HT := HT.ext hei
      clear d0 d1 d2
      generalize wr.heap.size = H at *
      go_loopw [45] (fun i wx => ∃ q : Nat, q ≤ 2 ∧ i = .int .i64 q ∧ Ext wi wx) (fun i _ => 2 - (intOf i).toNat)
      case atStart => exact ⟨0, by omega, rfl, Ext.refl _⟩
      case round =>
        obtain ⟨q, hq, rfl, hex2⟩ := hrel
        by_cases hlt2 : q < 2
        · obtain ⟨z', f0⟩ := HN.out q hlt2
          replace f0 := cell_ext f0 hex2
          replace e0 := cell_ext e0 hex2
          replace e1 := cell_ext e1 hex2
          replace e2 := cell_ext e2 hex2
          replace HT := HT.ext hex2
          obtain ⟨S, a, g', c, E, ⟨hS, hc⟩, hcase, hse, hrf⟩ := seal_both z' k' n x' P hn
          have hlt2' : decide ((q : Int) < 2) = true := decide_eq_true (by omega)
          go_wp2_with fail
          refine (of04_any _ _ _ _).mono ?_
          rintro e w3 ⟨rfl, he3⟩
          go_wp2_with fail
          refine (hse b _ (HT.ext he3)).mono ?_
          rintro e w4 ⟨rfl, he4⟩
          replace he4 := (he3.trans he4)
          replace e0 := fun o => cell_ext (cell_ext e0 he4) (Ext.alloc w4 o)
          replace e1 := fun o => cell_ext (cell_ext e1 he4) (Ext.alloc w4 o)
          replace e2 := fun o => cell_ext (cell_ext e2 he4) (Ext.alloc w4 o)
          clear f0 hse he3
          go_wp2_with fail
          refine (hrf _).mono ?_
          rintro e w5 ⟨rfl, he5⟩
          clear hrf
          replace e1 := cell_ext (e1 _) he5
          replace e2 := cell_ext (e2 _) he5
          have g0 := cell_ext (World.cell?_alloc_new w4 _ _ 0) he5
          have g1 := cell_ext (World.cell?_alloc_new w4 _ _ 1) he5
          have g2 := cell_ext (World.cell?_alloc_new w4 _ _ 2) he5
          replace he5 := he4.trans ((Ext.alloc w4 _).trans he5)
          clear e0 he4
          generalize w4.heap.size = G at *
          rcases hcase with ⟨rfl, rfl, rfl, hme⟩ | ⟨hE, rfl, rfl, rfl⟩
          · have R9 := Lib.hid (RowIs.new w5 32 #[.int .i64 0, .int .u64 0, .int .u32 0])
            have hw1 : IntKind.u32.wrap (c : Int) = (c : Int) := by rw [IntKind.wrap_u32]; omega
            go_upto_region 12 with (fail)
            have he6 := Ext.alloc w5 (.cells #[.int .i64 0, .int .u64 0, .int .u32 0] 32)
            have hG : G < w5.heap.size := World.block_lt_of_cell? w5 _ g0
            generalize w5.alloc (.cells #[.int .i64 0, .int .u64 0, .int .u32 0] 32) = w6 at *
            replace e1 := cell_ext e1 he6
            replace e2 := cell_ext e2 he6
            go_upto_region 14 with (refine wpl_row rfl rfl rfl rfl R9.out (by kernel_rfl) rfl (by simp [Value.oneCell']) ?_; intro w7 hw7 hr7; have HW7 := Lib.hid hw7; have HR7 := Lib.hid hr7; clear hw7 hr7)
            have he7 := HW7.out.ext he6 (Nat.le_refl _)
            replace g0 := cell_ext g0 he7
            replace g1 := cell_ext g1 he7
            replace g2 := cell_ext g2 he7
            have r0 := HR7.out.cell 0 (.int .i64 a) rfl
            have r1 := HR7.out.cell 1 (.int .u64 (g' : Int)) rfl
            have r2 := HR7.out.cell 2 (.int .u32 (c : Int)) rfl
            have HT7 := HT.ext (he5.trans he7)
            clear e1 e2 R9 HW7 HR7 he6
            generalize w5.heap.size = G2 at *
            go_wp2_with fail
            refine (meets_any b a g' c S _ HT7 hS).mono ?_
            rw [hme]
            rintro e w8 ⟨rfl, he8⟩
            have hEq : Ext wr w8 := he5.trans (he7.trans he8)
            by_cases l1 : 128 ≤ z'
            · have l1' : decide (128 ≤ z') = true := decide_eq_true l1
              by_cases l2 : z' ≤ 1024
              · have l2' : decide (z' ≤ 1024) = true := decide_eq_true l2
                have hro : roomOf z' = z' - 24 := by unfold roomOf; rw [if_pos (Env.okSize_iff.2 ⟨l1, l2⟩)]
                have HRO := Lib.hid hro; clear hro
                go_wp2_with fail
                refine (room_any _ _).mono ?_
                rw [HRO.out]
                rintro e w9 ⟨rfl, he⟩
                subst he
                go_wp2_with fail
                go_roundw
                case rel => exact ⟨q + 1, by omega, by go_num, hex2.trans hEq⟩
                case measure => simp [intOf]; omega
              · have l2' : decide (z' ≤ 1024) = false := decide_eq_false l2
                have hro : roomOf z' = 0 := by unfold roomOf; rw [if_neg (fun h => l2 (Env.okSize_iff.1 h).2)]
                have HRO := Lib.hid hro; clear hro
                go_wp2_with fail
                refine (room_any _ _).mono ?_
                rw [HRO.out]
                rintro e w9 ⟨rfl, he⟩
                subst he
                go_wp2_with fail
                go_roundw
                case rel => exact ⟨q + 1, by omega, by go_num, hex2.trans hEq⟩
                case measure => simp [intOf]; omega
            · have l1' : decide (128 ≤ z') = false := decide_eq_false l1
              have hro : roomOf z' = 0 := by unfold roomOf; rw [if_neg (fun h => l1 (Env.okSize_iff.1 h).1)]
              have HRO := Lib.hid hro; clear hro
              go_wp2_with fail
              refine (room_any _ _).mono ?_
              rw [HRO.out]
              rintro e w9 ⟨rfl, he⟩
              subst he
              go_wp2_with fail
              go_roundw
              case rel => exact ⟨q + 1, by omega, by go_num, hex2.trans hEq⟩
              case measure => simp [intOf]; omega
          · have hE' : ((E : Int) == 0) = false := by simpa using hE
            replace g0 := fun o => cell_ext g0 (Ext.alloc w5 o)
            replace g1 := fun o => cell_ext g1 (Ext.alloc w5 o)
            replace g2 := fun o => cell_ext g2 (Ext.alloc w5 o)
            go_upto_region 16 with (fail)
            have hEq : Ext wr _ := he5.trans (Ext.alloc w5 (.cells #[.int .i64 0, .int .u64 0, .int .u32 0] 32))
            by_cases l1 : 128 ≤ z'
            · have l1' : decide (128 ≤ z') = true := decide_eq_true l1
              by_cases l2 : z' ≤ 1024
              · have l2' : decide (z' ≤ 1024) = true := decide_eq_true l2
                have hro : roomOf z' = z' - 24 := by unfold roomOf; rw [if_pos (Env.okSize_iff.2 ⟨l1, l2⟩)]
                have HRO := Lib.hid hro; clear hro
                go_wp2_with fail
                refine (room_any _ _).mono ?_
                rw [HRO.out]
                rintro e w9 ⟨rfl, he⟩
                subst he
                go_wp2_with fail
                go_roundw
                case rel => exact ⟨q + 1, by omega, by go_num, hex2.trans hEq⟩
                case measure => simp [intOf]; omega
              · have l2' : decide (z' ≤ 1024) = false := decide_eq_false l2
                have hro : roomOf z' = 0 := by unfold roomOf; rw [if_neg (fun h => l2 (Env.okSize_iff.1 h).2)]
                have HRO := Lib.hid hro; clear hro
                go_wp2_with fail
                refine (room_any _ _).mono ?_
                rw [HRO.out]
                rintro e w9 ⟨rfl, he⟩
                subst he
                go_wp2_with fail
                go_roundw
                case rel => exact ⟨q + 1, by omega, by go_num, hex2.trans hEq⟩
                case measure => simp [intOf]; omega
            · have l1' : decide (128 ≤ z') = false := decide_eq_false l1
              have hro : roomOf z' = 0 := by unfold roomOf; rw [if_neg (fun h => l1 (Env.okSize_iff.1 h).1)]
              have HRO := Lib.hid hro; clear hro
              go_wp2_with fail
              refine (room_any _ _).mono ?_
              rw [HRO.out]
              rintro e w9 ⟨rfl, he⟩
              subst he
              go_wp2_with fail
              go_roundw
              case rel => exact ⟨q + 1, by omega, by go_num, hex2.trans hEq⟩
              case measure => simp [intOf]; omega
        · obtain rfl : q = 2 := by omega
          go_wp2_with fail
          go_roundw
          case rel => exact ⟨j + 1, by omega, by go_num, hex.trans (hei.trans hex2)⟩
          case measure => simp [intOf]; omega
    · obtain rfl : j = 2 := by omega
      replace c0 := cell_ext c0 hex
      replace c1 := cell_ext c1 hex
      replace c2 := cell_ext c2 hex
      go_wp2_with fail
      refine (htm _).mono ?_
      rintro e w3 ⟨rfl, he3⟩
      go_wp2_with fail
      refine (of04_any _ _ _ _).mono ?_
      rintro e w4 ⟨rfl, he4⟩
      go_wp2_with fail
      refine (seal_nil 128 K n X ⟨#[]⟩ _).mono ?_
      rintro e w5 ⟨rfl, he5⟩
      unfold ptrZ
      go_wp2_with fail
      refine (wakes04 _).mono ?_
      rintro e w6 ⟨rfl, he6⟩
      go_wp2_with fail
      go_ret
      exact ⟨rfl, hE1.trans (hex.trans (he3.trans (he4.trans (he5.trans ((Ext.alloc _ _).trans he6)))))⟩
end Go.Proofs.Ytbnpldilkkhgmaa
