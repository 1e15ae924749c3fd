/- The walk of law05.SuperImages. -/
import Derived.Test.YtbnpldilkkhgmaaSupF
import Derived.Test.YtbnpldilkkhgmaaLaw05
namespace Go.Proofs.Ytbnpldilkkhgmaa
open Go.RowKit
/-- a slice of n elements whose cells are cs -/
def SlD (n : Nat) (cs : Array Value) (v : Value) (w : World) : Prop := ∃ b, v = .slice (some ⟨b, 0, none⟩) n n ∧ ∀ (j : Nat) (u : Value), cs[j]? = some u → w.cell? ⟨b, j, none⟩ = some u
theorem SlD.ext {n : Nat} {cs : Array Value} {v : Value} {w w' : World} (h : SlD n cs v w) (e : Ext w w') : SlD n cs v w' := let ⟨b, h1, h2⟩ := h; ⟨b, h1, fun j u hu => cell_ext (h2 j u hu) e⟩
theorem SlD.new (w : World) (T : TypeId) (n : Nat) (cs : Array Value) : SlD n cs (.slice (some ⟨w.heap.size, 0, none⟩) n n) (w.alloc (.cells cs T)) := ⟨_, rfl, fun j u hu => by rw [World.cell?_alloc_new]; exact hu⟩
set_option maxRecDepth 100000 in
set_option maxHeartbeats 6000000 in
theorem superImages_walk (g : Nat) (a : Int) (r u : Nat) (h : Int) (s c : Nat) (z : Int) (w : World) (hg : g < 18446744073709551616) (_ha1 : -9223372036854775808 ≤ a) (ha2 : a ≤ 9223372036854775807) (hr : r < 18446744073709551616) (hu : u < 4294967296) (_hh1 : -9223372036854775808 ≤ h) (hh2 : h ≤ 9223372036854775807) (hs : s < 18446744073709551616) (hc : c < 4294967296) (_hz1 : -9223372036854775808 ≤ z) (hz2 : z ≤ 9223372036854775807) :
    Calls Try.prog 7 #[.agg #[.int .u64 (g : Int), .int .i64 a, .int .u64 (r : Int), .int .u32 (u : Int), .int .i64 h, .int .u64 (s : Int), .int .u32 (c : Int)], .int .i64 z] w fun e w' => e = .returned (.bool true) ∧ Ext w w' := by
  have htm := fun w => tame05_any g a r u h s c w ha2 hh2
  have hG : tameG g < 18446744073709551616 := by unfold tameG; omega
  have hR : tameR g r < 18446744073709551616 := by unfold tameR; omega
  generalize tameR g r = R at *
  generalize tameG g = G at *
  generalize tameX a = X at *
  generalize tameH h = H at *
  obtain ⟨Z, hZ⟩ : ∃ Z : Int, 128 + max 0 z % 900 = Z := ⟨_, rfl⟩
  have HTM := Lib.hid htm
  clear htm
  go_enter Try.func7, Try.ntmps7
  go_wp2_with fail
  refine (make_ext _).mono ?_
  rintro e w1 ⟨b, rfl, ht, he1⟩
  have c0 := cell_ext (World.cell?_alloc_new w _ _ 0) he1
  have c1 := cell_ext (World.cell?_alloc_new w _ _ 1) he1
  have c2 := cell_ext (World.cell?_alloc_new w _ _ 2) he1
  have c3 := cell_ext (World.cell?_alloc_new w _ _ 3) he1
  have c4 := cell_ext (World.cell?_alloc_new w _ _ 4) he1
  have c5 := cell_ext (World.cell?_alloc_new w _ _ 5) he1
  have c6 := cell_ext (World.cell?_alloc_new w _ _ 6) he1
  have hE1 := (Ext.alloc w _).trans he1
  generalize w.heap.size = B0 at *
  go_upto_region 2 with (fail)
  refine wp_region_drift_lit (n := 82) (by kernel_rfl) (by kernel_rfl) (by rfl) ?_
  apply chain_val (.agg #[.int .u64 (g : Int), .int .i64 a, .int .u64 (r : Int), .int .u32 (u : Int), .int .i64 h, .int .u64 (s : Int), .int .u32 (c : Int)])
  · intro w2 hx  K hK
    simp only [Act.put, List.setIfInBounds_toArray, List.set_cons_zero, List.set_cons_succ] at hK ⊢
    have d0 := cell_ext c0 hx
    have d1 := cell_ext c1 hx
    have d2 := cell_ext c2 hx
    have d3 := cell_ext c3 hx
    have d4 := cell_ext c4 hx
    have d5 := cell_ext c5 hx
    have d6 := cell_ext c6 hx
    go_simp
    exact hK _ _ (Ext.refl _) rfl
  apply chain_val (.agg #[.int .u64 (g : Int), .int .i64 a, .int .u64 (r : Int), .int .u32 (u : Int), .int .i64 h, .int .u64 (s : Int), .int .u32 (c : Int)])
  · intro w2 hx  K hK
    simp only [Act.put, List.setIfInBounds_toArray, List.set_cons_zero, List.set_cons_succ] at hK ⊢
    have d0 := cell_ext c0 hx
    have d1 := cell_ext c1 hx
    have d2 := cell_ext c2 hx
    have d3 := cell_ext c3 hx
    have d4 := cell_ext c4 hx
    have d5 := cell_ext c5 hx
    have d6 := cell_ext c6 hx
    go_simp
    exact hK _ _ (Ext.refl _) rfl
  apply chain_val (.agg #[.int .u64 (G : Int), .int .i64 (X : Int), .int .u64 (R : Int), .int .u32 (u : Int), .int .i64 (H : Int), .int .u64 (s : Int), .int .u32 (c : Int)])
  · intro w2 hx  K hK
    simp only [Act.put, List.setIfInBounds_toArray, List.set_cons_zero, List.set_cons_succ] at hK ⊢
    go_simp
    refine (HTM.out _).mono ?_
    rintro e w7 ⟨rfl, he7⟩
    exact hK _ _ he7 rfl
  refine chain_pred (SlD 2 #[.int .u64 (g : Int), .int .i64 a, .int .u64 (r : Int), .int .u32 (u : Int), .int .i64 h, .int .u64 (s : Int), .int .u32 (c : Int), .int .u64 (G : Int), .int .i64 (X : Int), .int .u64 (R : Int), .int .u32 (u : Int), .int .i64 (H : Int), .int .u64 (s : Int), .int .u32 (c : Int)]) (fun _ _ _ e h => SlD.ext h e) ?_ ?_
  · intro w2 hx  K hK
    simp only [Act.put, List.setIfInBounds_toArray, List.set_cons_zero, List.set_cons_succ] at hK ⊢
    go_simp
    exact hK _ _ (Ext.alloc _ _) (SlD.new _ _ _ _)
  apply chain_val (.int .i64 2)
  · intro w2 hx v3 h3 K hK
    simp only [Act.put, List.setIfInBounds_toArray, List.set_cons_zero, List.set_cons_succ] at hK ⊢
    obtain ⟨b3, rfl, hb3⟩ := h3
    go_simp
    exact hK _ _ (Ext.refl _) rfl
  apply chain_val (.int .i64 0)
  · intro w2 hx  K hK
    simp only [Act.put, List.setIfInBounds_toArray, List.set_cons_zero, List.set_cons_succ] at hK ⊢
    go_simp
    exact hK _ _ (Ext.refl _) rfl
  refine chain_end fun w2 hx => ?_
  simp only [List.reverse_cons, List.reverse_nil, List.nil_append, List.cons_append, withDeps, Act.put, List.setIfInBounds_toArray, List.set_cons_zero, List.set_cons_succ]
  intro v3 h3
  obtain ⟨b3, rfl, hb3⟩ := h3
  replace c0 := cell_ext c0 hx
  replace c1 := cell_ext c1 hx
  replace c2 := cell_ext c2 hx
  replace c3 := cell_ext c3 hx
  replace c4 := cell_ext c4 hx
  replace c5 := cell_ext c5 hx
  replace c6 := cell_ext c6 hx
  replace ht := ht.ext hx
  replace hE1 := hE1.trans hx
  have hds : ∀ i, i < 2 → ∃ (g' : Nat) (a' : Int) (r' : Nat) (h' : Int), (g' < 18446744073709551616 ∧ r' < 18446744073709551616) ∧ w2.cell? ⟨b3, i * 7, none⟩ = some (.int .u64 (g' : Int)) ∧ w2.cell? ⟨b3, i * 7 + 1, none⟩ = some (.int .i64 a') ∧ w2.cell? ⟨b3, i * 7 + 2, none⟩ = some (.int .u64 (r' : Int)) ∧ w2.cell? ⟨b3, i * 7 + 3, none⟩ = some (.int .u32 (u : Int)) ∧ w2.cell? ⟨b3, i * 7 + 4, none⟩ = some (.int .i64 h') ∧ w2.cell? ⟨b3, i * 7 + 5, none⟩ = some (.int .u64 (s : Int)) ∧ w2.cell? ⟨b3, i * 7 + 6, none⟩ = some (.int .u32 (c : Int)) := fun i hi => by
    match i, hi with
    | 0, _ => exact ⟨g, a, r, h, ⟨hg, hr⟩, hb3 0 _ rfl, hb3 1 _ rfl, hb3 2 _ rfl, hb3 3 _ rfl, hb3 4 _ rfl, hb3 5 _ rfl, hb3 6 _ rfl⟩
    | 1, _ => exact ⟨G, X, R, H, ⟨hG, hR⟩, hb3 7 _ rfl, hb3 8 _ rfl, hb3 9 _ rfl, hb3 10 _ rfl, hb3 11 _ rfl, hb3 12 _ rfl, hb3 13 _ rfl⟩
  clear hb3 he1 hx HTM
  have HD := Lib.hid hds; clear hds
  go_wp2_with fail
  go_loopw [22] (fun i wx => ∃ j : Nat, j ≤ 2 ∧ i = .int .i64 j ∧ Ext w2 wx) (fun i _ => 2 - (intOf i).toNat)
  case atStart => exact ⟨0, by omega, rfl, Ext.refl _⟩
  case round =>
    obtain ⟨j, hj, rfl, hex⟩ := hrel
    by_cases hlt : j < 2
    · obtain ⟨g', a', r', h', ⟨hg', hr'⟩, d0, d1, d2, d3, d4, d5, d6⟩ := HD.out j hlt
      replace d0 := cell_ext d0 hex
      replace d1 := cell_ext d1 hex
      replace d2 := cell_ext d2 hex
      replace d3 := cell_ext d3 hex
      replace d4 := cell_ext d4 hex
      replace d5 := cell_ext d5 hex
      replace d6 := cell_ext d6 hex
      have HT := ht.ext hex
      have hlt' : decide ((j : Int) < 2) = true := decide_eq_true (by omega)
      clear c0 c1 c2 c3 c4 c5 c6
      go_wp2_with fail
      have hrow := (RowIs.new wr 65 #[.int .u64 (g' : Int), .int .i64 a', .int .u64 (r' : Int), .int .u32 (u : Int), .int .i64 h', .int .u64 (s : Int), .int .u32 (c : Int)]).ext (Ext.alloc _ (.cells #[.int .i64 z, .int .i64 Z] 3))
      have hns : ∀ i, i < 2 → ∃ z' : Int, ((wr.alloc (.cells #[.int .u64 (g' : Int), .int .i64 a', .int .u64 (r' : Int), .int .u32 (u : Int), .int .i64 h', .int .u64 (s : Int), .int .u32 (c : Int)] 65)).alloc (.cells #[.int .i64 z, .int .i64 Z] 3)).cell? ⟨wr.heap.size + 1, i, none⟩ = some (.int .i64 z') := fun i hi => by
        match i, hi with
        | 0, _ => exact ⟨z, cell_new2 _ _ _ _ _⟩
        | 1, _ => exact ⟨Z, cell_new2 _ _ _ _ _⟩
      have hei := (Ext.alloc wr (.cells #[.int .u64 (g' : Int), .int .i64 a', .int .u64 (r' : Int), .int .u32 (u : Int), .int .i64 h', .int .u64 (s : Int), .int .u32 (c : Int)] 65)).trans (Ext.alloc _ (.cells #[.int .i64 z, .int .i64 Z] 3))
      generalize (wr.alloc (.cells #[.int .u64 (g' : Int), .int .i64 a', .int .u64 (r' : Int), .int .u32 (u : Int), .int .i64 h', .int .u64 (s : Int), .int .u32 (c : Int)] 65)).alloc (.cells #[.int .i64 z, .int .i64 Z] 3) = wi at *
      have HN := Lib.hid hns; clear hns
      have HROW := Lib.hid hrow; clear hrow
      replace HT := HT.ext hei
      clear d0 d1 d2 d3 d4 d5 d6
      generalize wr.heap.size = HH at *
      go_loopw [33] (fun i wx => ∃ q : Nat, q ≤ 2 ∧ i = .int .i64 q ∧ Ext wi wx) (fun i _ => 2 - (intOf i).toNat)
      case atStart => exact ⟨0, by omega, rfl, Ext.refl _⟩
      case round =>
        obtain ⟨q, hq, rfl, hex2⟩ := hrel
        by_cases hlt2 : q < 2
        · obtain ⟨z', f0⟩ := HN.out q hlt2
          replace f0 := cell_ext f0 hex2
          have hrow := HROW.out.ext hex2
          have e0 := hrow.cell 0 (.int .u64 (g' : Int)) rfl
          have e1 := hrow.cell 1 (.int .i64 a') rfl
          have e2 := hrow.cell 2 (.int .u64 (r' : Int)) rfl
          have e3 := hrow.cell 3 (.int .u32 (u : Int)) rfl
          have e4 := hrow.cell 4 (.int .i64 h') rfl
          have e5 := hrow.cell 5 (.int .u64 (s : Int)) rfl
          have e6 := hrow.cell 6 (.int .u32 (c : Int)) rfl
          replace HT := HT.ext hex2
          obtain ⟨S, E, him, hri⟩ := image_both g' a' r' u h' s c z' hg' hr' hu hs hc
          have hlt2' : decide ((q : Int) < 2) = true := decide_eq_true (by omega)
          go_wp2_with fail
          refine (of05_any _ _ _ _ _ _ _ _).mono ?_
          rintro e w3 ⟨rfl, he3⟩
          go_wp2_with fail
          refine (him b _ (HT.ext he3)).mono ?_
          rintro e w4 ⟨rfl, he4⟩
          replace he4 := (he3.trans he4)
          replace e0 := cell_ext e0 he4
          replace e1 := cell_ext e1 he4
          replace e2 := cell_ext e2 he4
          replace e3 := cell_ext e3 he4
          replace e4 := cell_ext e4 he4
          replace e5 := cell_ext e5 he4
          replace e6 := cell_ext e6 he4
          clear f0 him he3 hrow
          go_wp2_with fail
          refine (hri _).mono ?_
          rintro e w5 ⟨rfl, he5⟩
          clear hri e0 e1 e2 e3 e4 e5 e6
          go_wp2_with fail
          go_roundw
          case rel => exact ⟨q + 1, by omega, by go_num, hex2.trans (he4.trans he5)⟩
          case measure => simp [intOf]; omega
        · obtain rfl : q = 2 := by omega
          go_wp2_with fail
          go_roundw
          case rel => exact ⟨j + 1, by omega, by go_num, hex.trans (hei.trans hex2)⟩
          case measure => simp [intOf]; omega
    · obtain rfl : j = 2 := by omega
      replace c0 := cell_ext c0 hex
      replace c1 := cell_ext c1 hex
      replace c2 := cell_ext c2 hex
      replace c3 := cell_ext c3 hex
      replace c4 := cell_ext c4 hex
      replace c5 := cell_ext c5 hex
      replace c6 := cell_ext c6 hex
      have HSL := Lib.hid (slot_any g)
      obtain ⟨m, hm⟩ : ∃ m, g % 2 = m := ⟨_, rfl⟩
      rw [hm] at HSL
      have hw0 : IntKind.u64.wrap (m : Int) = (m : Int) := by rw [IntKind.wrap_u64]; omega
      have hw2 : ((m : Int) == (g : Int).tmod 2) = true := by rw [Int.tmod_eq_emod_of_nonneg (by omega)]; simp; omega
      clear hm
      go_wp2_with fail
      refine (of05_any _ _ _ _ _ _ _ _).mono ?_
      rintro e w3 ⟨rfl, he3⟩
      go_wp2_with fail
      refine (image_nil g a r u h s c 128 _).mono ?_
      rintro e w4 ⟨rfl, he4⟩
      replace he4 := he3.trans he4
      replace c0 := cell_ext c0 he4
      clear c1 c2 c3 c4 c5 c6
      go_upto_region 15 with (fail)
      refine wp_region_drift_lit (n := 82) (by kernel_rfl) (by kernel_rfl) (by rfl) ?_
      apply chain_val (.bool true)
      · intro w2 hx  K hK
        simp only [Act.put, List.setIfInBounds_toArray, List.set_cons_zero, List.set_cons_succ] at hK ⊢
        go_simp
        refine (wakes05 _).mono ?_
        rintro e w7 ⟨rfl, he7⟩
        exact hK _ _ he7 rfl
      apply chain_val
      · intro w2 hx  K hK
        simp only [Act.put, List.setIfInBounds_toArray, List.set_cons_zero, List.set_cons_succ] at hK ⊢
        go_simp
        exact hK _ _ (Ext.refl _) rfl
      apply chain_val
      · intro w2 hx  K hK
        simp only [Act.put, List.setIfInBounds_toArray, List.set_cons_zero, List.set_cons_succ] at hK ⊢
        go_simp
        exact hK _ _ (Ext.refl _) rfl
      apply chain_val
      · intro w2 hx  K hK
        simp only [Act.put, List.setIfInBounds_toArray, List.set_cons_zero, List.set_cons_succ] at hK ⊢
        go_simp
        exact hK _ _ (Ext.refl _) rfl
      apply chain_val
      · intro w2 hx  K hK
        simp only [Act.put, List.setIfInBounds_toArray, List.set_cons_zero, List.set_cons_succ] at hK ⊢
        go_simp
        exact hK _ _ (Ext.refl _) rfl
      apply chain_val
      · intro w2 hx  K hK
        simp only [Act.put, List.setIfInBounds_toArray, List.set_cons_zero, List.set_cons_succ] at hK ⊢
        go_simp
        exact hK _ _ (Ext.refl _) rfl
      apply chain_val
      · intro w2 hx  K hK
        simp only [Act.put, List.setIfInBounds_toArray, List.set_cons_zero, List.set_cons_succ] at hK ⊢
        go_simp
        exact hK _ _ (Ext.refl _) rfl
      apply chain_val (.int .u64 (g : Int))
      · intro w2 hx  K hK
        simp only [Act.put, List.setIfInBounds_toArray, List.set_cons_zero, List.set_cons_succ] at hK ⊢
        have d0 := cell_ext c0 hx
        go_simp
        exact hK _ _ (Ext.refl _) rfl
      apply chain_val (.int .i64 (m : Int))
      · intro w2 hx  K hK
        simp only [Act.put, List.setIfInBounds_toArray, List.set_cons_zero, List.set_cons_succ] at hK ⊢
        go_simp
        refine (HSL.out _).mono ?_
        rintro e w7 ⟨rfl, he7⟩
        subst he7
        exact hK _ _ (Ext.refl _) rfl
      apply chain_val
      · intro w2 hx  K hK
        simp only [Act.put, List.setIfInBounds_toArray, List.set_cons_zero, List.set_cons_succ] at hK ⊢
        go_simp
        exact hK _ _ (Ext.refl _) rfl
      apply chain_val
      · intro w2 hx  K hK
        simp only [Act.put, List.setIfInBounds_toArray, List.set_cons_zero, List.set_cons_succ] at hK ⊢
        go_simp
        exact hK _ _ (Ext.refl _) rfl
      apply chain_val (.int .u64 (g : Int))
      · intro w2 hx  K hK
        simp only [Act.put, List.setIfInBounds_toArray, List.set_cons_zero, List.set_cons_succ] at hK ⊢
        have d0 := cell_ext c0 hx
        go_simp
        exact hK _ _ (Ext.refl _) rfl
      apply chain_val
      · intro w2 hx  K hK
        simp only [Act.put, List.setIfInBounds_toArray, List.set_cons_zero, List.set_cons_succ] at hK ⊢
        go_simp
        exact hK _ _ (Ext.refl _) rfl
      apply chain_val
      · intro w2 hx  K hK
        simp only [Act.put, List.setIfInBounds_toArray, List.set_cons_zero, List.set_cons_succ] at hK ⊢
        go_simp
        exact hK _ _ (Ext.refl _) rfl
      apply chain_val (.bool true)
      · intro w2 hx  K hK
        simp only [Act.put, List.setIfInBounds_toArray, List.set_cons_zero, List.set_cons_succ] at hK ⊢
        go_simp
        exact hK _ _ (Ext.refl _) rfl
      apply chain_val
      · intro w2 hx  K hK
        simp only [Act.put, List.setIfInBounds_toArray, List.set_cons_zero, List.set_cons_succ] at hK ⊢
        go_simp
        exact hK _ _ (Ext.refl _) rfl
      refine chain_end fun w2 hx => ?_
      simp only [List.reverse_cons, List.reverse_nil, List.nil_append, List.cons_append, withDeps, Act.put, List.setIfInBounds_toArray, List.set_cons_zero, List.set_cons_succ]
      go_wp2_with fail
      go_ret
      exact ⟨rfl, hE1.trans (hex.trans (he4.trans hx))⟩
end Go.Proofs.Ytbnpldilkkhgmaa
