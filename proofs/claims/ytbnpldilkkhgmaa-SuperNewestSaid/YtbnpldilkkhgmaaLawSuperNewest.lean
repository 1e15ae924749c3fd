/- The walk of law05.SuperNewest. -/
import Derived.Test.YtbnpldilkkhgmaaSupG
import Derived.Test.YtbnpldilkkhgmaaLaw05
import Derived.Test.YtbnpldilkkhgmaaOpenBlks
import Derived.Deep.DeepCutAuto
namespace Go.Proofs.Ytbnpldilkkhgmaa
open Go.RowKit
theorem bks_cut {w : World} {a : Option Addr} {l : List Bk} {ca : Nat} (hU : Bks w a l) (hcb : l.length ≤ ca) (hS : ∀ u ∈ l, FitBk u) (n : Nat) :
    Bks w a (l.take n) ∧ (∀ u ∈ l.take n, FitBk u) ∧ (l.take n).length ≤ n ∧ (l.take n).length ≤ ca := ⟨hU.take n, fun u hu => hS u (List.mem_of_mem_take hu), by rw [List.length_take]; omega, by rw [List.length_take]; omega⟩
/-- of pairs of images and what they open to: the greatest -/
def topOf (ps : List (ByteArray × Nat)) : Nat := (ps.map (·.2)).foldl max 0
theorem topOf_two (ps : List (ByteArray × Nat)) (s t : ByteArray) (g : Nat) : topOf (ps ++ [(s, g), (t, 0)]) = max (topOf ps) g := by
  unfold topOf
  rw [List.map_append, List.foldl_append]
  simp
theorem supT_opens (g X r u h s c : Nat) (hg : g < 18446744073709551616) (hX : X ≤ 2147483647) (hr : r < 18446744073709551616) (hu : u < 4294967296) (hs : s < 18446744073709551616) (hc : c < 4294967296) (hb : Sup.okB g r (h : Int) = true) : OpensTo (supT g X r u h s c) g :=
  ⟨by rw [supT_size]; unfold maxLen; omega, .inl ⟨(Sup.okB_iff.1 hb).1.1.1, X, r, u, h, s, c, fun b w ht => sup_open b g X r u h s c w ht hg hX hr hu hs hc hb⟩⟩
theorem OwnT.ext {w w' : World} {B : Nat} {v : Value} {l : List ByteArray} (h : OwnT w B v l) (k : Ext w w') : OwnT w' B v l := by
  refine ⟨h.1, ?_⟩
  rcases h.2 with hn | ⟨g, cap, cur, rfl, hb, hg, rest⟩
  · exact .inl hn
  · exact .inr ⟨g, cap, cur, rfl, hb, (k.block g (Array.getElem?_eq_some_iff.1 hg).1).trans hg, rest⟩
set_option maxRecDepth 100000 in
set_option maxHeartbeats 6000000 in
theorem superNewest_walk (a : Option Addr) (l : List Bk) (ca : Nat) (raw : ByteArray) (w : World) (hU : Bks w a l) (hca : l.length ≤ ca ∧ ca ≤ maxLen) (hS : ∀ u ∈ l, FitBk u) (hs : raw.size ≤ maxLen) :
    Calls Try.prog 10 #[.slice a l.length ca, .string raw] w fun e w' => e = .returned (.bool true) ∧ Ext w w' := by
  unfold maxLen at hs hca
  obtain ⟨hcb, hcb2⟩ := hca
  have hUc := bks_cut hU hcb hS 8
  have HU := Lib.hid hU; clear hU
  obtain ⟨m, hm1, hm2, hm3⟩ : ∃ m : Nat, min (raw.size : Int) 200 = (m : Int) ∧ m ≤ raw.size ∧ m ≤ 200 := ⟨min raw.size 200, by omega, by omega, by omega⟩
  obtain ⟨P, hP⟩ : ∃ P, raw.extract 0 m = P := ⟨_, rfl⟩
  have hPs : P.size ≤ 200 := by rw [← hP]; simp; omega
  go_enter Try.func10, Try.ntmps10
  go_wp2_with fail
  refine (make_ext _).mono ?_
  rintro e w1 ⟨b, rfl, ht, he1⟩
  go_upto_region 4 with (fail)
  have hown0 := own_one w1 P
  have hE2 := Ext.alloc w1 (.cells #[.string P] 9)
  generalize w1.alloc (.cells #[.string P] 9) = w2 at *
  go_cut [33, 34, 35] (fun sl n i wr => ∃ L : List Bk, sl = .slice a L.length ca ∧ n = .int .i64 L.length ∧ i = .int .i64 0 ∧ L.length ≤ 8 ∧ L.length ≤ ca ∧ Bks w1 a L ∧ (∀ u ∈ L, FitBk u) ∧ wr = w2)
  case first =>
    obtain ⟨q1, q2, q3, q4⟩ := hUc
    have q5 : (l.take 8).length = min 8 l.length := List.length_take
    replace q1 := q1.ext he1
    go_wp2_with fail
    all_goals go_meet
    all_goals exact ⟨l.take 8, by rw [q5]; congr 1; omega, by rw [q5]; congr 1; omega, rfl, q3, q4, q1, q2, rfl⟩
  obtain ⟨L, rfl, rfl, rfl, h3, h4, hU2, hS2, rfl⟩ := hcut
  clear hUc HU
  have HU := Lib.hid hU2; clear hU2
  have HS2 := Lib.hid hS2; clear hS2
  have HO0 := Lib.hid hown0; clear hown0
  go_wp2_with fail
  go_loopw [6, 7, 8, 35] (fun v bst an i wx => ∃ (j M : Nat) (ps : List (ByteArray × Nat)), j ≤ L.length ∧ i = .int .i64 j ∧ bst = .int .u64 (M : Int) ∧ an = .bool (decide (0 < M)) ∧ M = topOf ps ∧ (∀ p ∈ ps, OpensTo p.1 p.2) ∧ ps.length = 2 * j ∧ OwnT wx w1.heap.size v (P :: ps.map (·.1)) ∧ Ext w1 wx) (fun _ _ _ i _ => L.length - (intOf i).toNat)
  case atStart => exact ⟨0, 0, [], by omega, rfl, rfl, rfl, rfl, fun p hp => by simp at hp, rfl, HO0.out, hE2⟩
  case round =>
    obtain ⟨j, M, ps, hj, rfl, rfl, rfl, hM, hps, hpl, hown, hex⟩ := hrel
    have HMT := Lib.hid hM; have HPS := Lib.hid hps; have HOWN := Lib.hid hown
    clear hM hps hown
    have HT := ht.ext hex
    by_cases hlt : j < L.length
    · obtain ⟨b1, o1, rfl, d0, d1, d2, d3, d4, d5, d6⟩ := (HU.out.ext hex) j hlt
      obtain ⟨⟨f1, f2, f3⟩, ⟨f4, f5⟩, ⟨f6, f7⟩, f8, f9⟩ := HS2.out L[j] (by simp)
      generalize L[j] = bk at *
      obtain ⟨x, y, r, u, h, s, c⟩ := bk
      simp only at d0 d1 d2 d3 d4 d5 d6 f1 f2 f3 f4 f5 f6 f7 f8 f9
      have htm := fun w => tame05_any x y r u h s c w f3 f7
      have hX31 : tameX y ≤ 2147483647 := by unfold tameX; omega
      have hGb : tameG x < 18446744073709551616 := by unfold tameG; omega
      have hRb : tameR x r < 18446744073709551616 := by unfold tameR; omega
      have hok := tame_okB x r h
      have hG1 : 1 ≤ tameG x := (Sup.okB_iff.1 hok).1.1.1
      generalize tameR x r = R at *
      generalize tameG x = G at *
      generalize tameX y = X at *
      generalize tameH h = H at *
      have him := fun w ht => sup_image b G X R u H s c w ht hGb hX31 hRb f5 f8 f9 hok
      have hop := fun w ht => sup_open b G X R u H s c w ht hGb hX31 hRb f5 f8 f9 hok
      have hsO := supT_opens G X R u H s c hGb hX31 hRb f5 f8 f9 hok
      have hsz := supT_size G X R u H s c
      unfold blkC at hop
      generalize supT G X R u H s c = S at *
      obtain ⟨S2, hS2⟩ : ∃ S2, S.extract 0 127 = S2 := ⟨_, rfl⟩
      have hsO2 : OpensTo S2 0 := opens_short S2 (by rw [← hS2]; simp; omega)
      have hn2 := topOf_two ps S S2 G
      have HTM := Lib.hid htm; have HIM := Lib.hid him; have HOP := Lib.hid hop; have HSO := Lib.hid hsO; have HSO2 := Lib.hid hsO2; have HN2 := Lib.hid hn2
      clear htm him hop hsO hsO2 hn2 hok
      have hlen : (P :: ps.map (·.1)).length ≤ 1000000 := by simp; omega
      obtain ⟨M2, hM2⟩ : ∃ M2 : Nat, max (M : Int) (G : Int) = (M2 : Int) ∧ M2 = max M G := ⟨max M G, by omega, rfl⟩
      obtain ⟨hM2, hM3⟩ := hM2
      go_wp2_with fail
      refine (HTM.out _).mono ?_
      rintro e w3 ⟨rfl, he3⟩
      replace he3 := (Ext.alloc wr _).trans he3
      go_wp2_with fail
      refine (of05_any _ _ _ _ _ _ _ _).mono ?_
      rintro e w4 ⟨rfl, he4⟩
      have r11 := (RowIs.new w3 65 #[.int .u64 (G : Int), .int .i64 (X : Int), .int .u64 (R : Int), .int .u32 (u : Int), .int .i64 (H : Int), .int .u64 (s : Int), .int .u32 (c : Int)]).ext he4
      replace he4 := he3.trans ((Ext.alloc w3 _).trans he4)
      go_wp2_with fail
      refine (HIM.out _ (HT.ext he4)).mono ?_
      rintro e w5 ⟨rfl, he5⟩
      replace r11 := r11.ext he5
      replace he5 := he4.trans he5
      go_wp2_with fail
      refine (HOP.out _ (HT.ext he5)).mono ?_
      rintro e w6 ⟨rfl, he6⟩
      have r14 := RowIs.new w6 70 #[.int .u64 (G : Int), .int .i64 (X : Int), .int .u64 (R : Int), .int .u32 (u : Int), .int .i64 (H : Int), .int .u64 (s : Int), .int .u32 (c : Int)]
      replace r11 := (r11.ext he6).ext (Ext.alloc w6 (.cells #[.int .u64 (G : Int), .int .i64 (X : Int), .int .u64 (R : Int), .int .u32 (u : Int), .int .i64 (H : Int), .int .u64 (s : Int), .int .u32 (c : Int)] 70))
      replace he6 := (he5.trans he6).trans (Ext.alloc w6 (.cells #[.int .u64 (G : Int), .int .i64 (X : Int), .int .u64 (R : Int), .int .u32 (u : Int), .int .i64 (H : Int), .int .u64 (s : Int), .int .u32 (c : Int)] 70))
      go_upto_region 10 with (fail)
      generalize w6.alloc (.cells #[.int .u64 (G : Int), .int .i64 (X : Int), .int .u64 (R : Int), .int .u32 (u : Int), .int .i64 (H : Int), .int .u64 (s : Int), .int .u32 (c : Int)] 70) = w7 at *
      generalize w6.heap.size = D at *
      have hEw : wr.heap.size ≤ w3.heap.size := he3.size
      generalize w3.heap.size = E at *
      have hne : some E ≠ u6.ownBlock := fun e => by have := (HOWN.out.lt E e.symm).2; omega
      have k0 := r14.cell 0 (.int .u64 (G : Int)) rfl
      have k1 := r14.cell 1 (.int .i64 (X : Int)) rfl
      have k2 := r14.cell 2 (.int .u64 (R : Int)) rfl
      have k3 := r14.cell 3 (.int .u32 (u : Int)) rfl
      have k4 := r14.cell 4 (.int .i64 (H : Int)) rfl
      have k5 := r14.cell 5 (.int .u64 (s : Int)) rfl
      have k6 := r14.cell 6 (.int .u32 (c : Int)) rfl
      have z0 := r11.cell 0 (.int .u64 (G : Int)) rfl
      have z1 := r11.cell 1 (.int .i64 (X : Int)) rfl
      have z2 := r11.cell 2 (.int .u64 (R : Int)) rfl
      have z3 := r11.cell 3 (.int .u32 (u : Int)) rfl
      have z4 := r11.cell 4 (.int .i64 (H : Int)) rfl
      have z5 := r11.cell 5 (.int .u64 (s : Int)) rfl
      have z6 := r11.cell 6 (.int .u32 (c : Int)) rfl
      clear r11 r14 d0 d1 d2 d3 d4 d5 d6 HTM HIM HOP he3 he4 he5
      refine wp_region_drift_lit (n := 124) (by kernel_rfl) (by kernel_rfl) (by rfl) ?_
      apply chain_val (.bool true)
      · intro w2 hx  K hK
        simp only [Act.put, List.setIfInBounds_toArray, List.set_cons_zero, List.set_cons_succ] at hK ⊢
        go_simp
        refine (wakes05 _).mono ?_
        rintro e w9 ⟨rfl, he9⟩
        exact hK _ _ he9 rfl
      apply chain_val
      · intro w2 hx  K hK
        simp only [Act.put, List.setIfInBounds_toArray, List.set_cons_zero, List.set_cons_succ] at hK ⊢
        go_simp
        exact hK _ _ (Ext.refl _) rfl
      apply chain_val
      · intro w2 hx  K hK
        simp only [Act.put, List.setIfInBounds_toArray, List.set_cons_zero, List.set_cons_succ] at hK ⊢
        go_simp
        exact hK _ _ (Ext.refl _) rfl
      apply chain_val
      · intro w2 hx  K hK
        simp only [Act.put, List.setIfInBounds_toArray, List.set_cons_zero, List.set_cons_succ] at hK ⊢
        go_simp
        exact hK _ _ (Ext.refl _) rfl
      apply chain_val
      · intro w2 hx  K hK
        simp only [Act.put, List.setIfInBounds_toArray, List.set_cons_zero, List.set_cons_succ] at hK ⊢
        go_simp
        exact hK _ _ (Ext.refl _) rfl
      apply chain_val
      · intro w2 hx  K hK
        simp only [Act.put, List.setIfInBounds_toArray, List.set_cons_zero, List.set_cons_succ] at hK ⊢
        go_simp
        exact hK _ _ (Ext.refl _) rfl
      apply chain_val
      · intro w2 hx  K hK
        simp only [Act.put, List.setIfInBounds_toArray, List.set_cons_zero, List.set_cons_succ] at hK ⊢
        go_simp
        exact hK _ _ (Ext.refl _) rfl
      apply chain_val
      · intro w2 hx  K hK
        simp only [Act.put, List.setIfInBounds_toArray, List.set_cons_zero, List.set_cons_succ] at hK ⊢
        go_simp
        exact hK _ _ (Ext.refl _) rfl
      apply chain_val
      · intro w2 hx  K hK
        simp only [Act.put, List.setIfInBounds_toArray, List.set_cons_zero, List.set_cons_succ] at hK ⊢
        go_simp
        exact hK _ _ (Ext.refl _) rfl
      apply chain_val
      · intro w2 hx  K hK
        simp only [Act.put, List.setIfInBounds_toArray, List.set_cons_zero, List.set_cons_succ] at hK ⊢
        go_simp
        exact hK _ _ (Ext.refl _) rfl
      apply chain_val
      · intro w2 hx  K hK
        simp only [Act.put, List.setIfInBounds_toArray, List.set_cons_zero, List.set_cons_succ] at hK ⊢
        go_simp
        exact hK _ _ (Ext.refl _) rfl
      apply chain_val (.agg #[.int .u64 (G : Int), .int .i64 (X : Int), .int .u64 (R : Int), .int .u32 (u : Int), .int .i64 (H : Int), .int .u64 (s : Int), .int .u32 (c : Int)])
      · intro w2 hx  K hK
        simp only [Act.put, List.setIfInBounds_toArray, List.set_cons_zero, List.set_cons_succ] at hK ⊢
        have x0 := cell_ext k0 hx
        have x1 := cell_ext k1 hx
        have x2 := cell_ext k2 hx
        have x3 := cell_ext k3 hx
        have x4 := cell_ext k4 hx
        have x5 := cell_ext k5 hx
        have x6 := cell_ext k6 hx
        go_simp
        exact hK _ _ (Ext.refl _) rfl
      apply chain_val (.agg #[.int .u64 (G : Int), .int .i64 (X : Int), .int .u64 (R : Int), .int .u32 (u : Int), .int .i64 (H : Int), .int .u64 (s : Int), .int .u32 (c : Int)])
      · intro w2 hx  K hK
        simp only [Act.put, List.setIfInBounds_toArray, List.set_cons_zero, List.set_cons_succ] at hK ⊢
        have x0 := cell_ext z0 hx
        have x1 := cell_ext z1 hx
        have x2 := cell_ext z2 hx
        have x3 := cell_ext z3 hx
        have x4 := cell_ext z4 hx
        have x5 := cell_ext z5 hx
        have x6 := cell_ext z6 hx
        go_simp
        exact hK _ _ (Ext.refl _) rfl
      apply chain_val (.agg #[.int .u64 (G : Int), .int .i64 (X : Int), .int .u64 (R : Int), .int .u32 (u : Int), .int .i64 (H : Int), .int .u64 (s : Int), .int .u32 (c : Int)])
      · intro w2 hx  K hK
        simp only [Act.put, List.setIfInBounds_toArray, List.set_cons_zero, List.set_cons_succ] at hK ⊢
        go_simp
        refine (of05_any _ _ _ _ _ _ _ _).mono ?_
        rintro e w9 ⟨rfl, he9⟩
        exact hK _ _ he9 rfl
      apply chain_val (.bool false)
      · intro w2 hx  K hK
        simp only [Act.put, List.setIfInBounds_toArray, List.set_cons_zero, List.set_cons_succ] at hK ⊢
        go_simp
        exact hK _ _ (Ext.refl _) rfl
      apply chain_val
      · intro w2 hx  K hK
        simp only [Act.put, List.setIfInBounds_toArray, List.set_cons_zero, List.set_cons_succ] at hK ⊢
        go_simp
        exact hK _ _ (Ext.refl _) rfl
      apply chain_val
      · intro w2 hx  K hK
        simp only [Act.put, List.setIfInBounds_toArray, List.set_cons_zero, List.set_cons_succ] at hK ⊢
        go_simp
        exact hK _ _ (Ext.refl _) rfl
      apply chain_val
      · intro w2 hx  K hK
        simp only [Act.put, List.setIfInBounds_toArray, List.set_cons_zero, List.set_cons_succ] at hK ⊢
        go_simp
        exact hK _ _ (Ext.refl _) rfl
      apply chain_val
      · intro w2 hx  K hK
        simp only [Act.put, List.setIfInBounds_toArray, List.set_cons_zero, List.set_cons_succ] at hK ⊢
        go_simp
        exact hK _ _ (Ext.refl _) rfl
      apply chain_val
      · intro w2 hx  K hK
        simp only [Act.put, List.setIfInBounds_toArray, List.set_cons_zero, List.set_cons_succ] at hK ⊢
        go_simp
        exact hK _ _ (Ext.refl _) rfl
      apply chain_val (.bool false)
      · intro w2 hx  K hK
        simp only [Act.put, List.setIfInBounds_toArray, List.set_cons_zero, List.set_cons_succ] at hK ⊢
        go_simp
        exact hK _ _ (Ext.refl _) rfl
      refine chain_end fun w2 hx => ?_
      simp only [List.reverse_cons, List.reverse_nil, List.nil_append, List.cons_append, withDeps, Act.put, List.setIfInBounds_toArray, List.set_cons_zero, List.set_cons_succ]
      have HO := Lib.hid ((HOWN.out.ext he6).ext hx)
      replace z0 := cell_ext z0 hx
      replace he6 := he6.trans hx
      have hB8 : w1.heap.size ≤ w2.heap.size := Nat.le_trans hex.size he6.size
      clear k0 k1 k2 k3 k4 k5 k6 z1 z2 z3 z4 z5 z6 hx
      go_wp2_with (at_builtin; refine wpl_two rfl _ _ rfl rfl HO.out hB8 hlen rfl S S2 ?_; intro v' w' ho hb hcl; have HO2 := Lib.hid ho; have HB := Lib.hid hb; have z1 := hcl _ _ z0 hne; clear ho hb hcl)
      go_roundw
      case rel =>
        refine ⟨j + 1, M2, ps ++ [(S, G), (S2, 0)], by omega, by go_num, by rw [hM3], ?_, by rw [HN2.out, ← HMT.out, hM3], fun p hp => ?_, by simp; omega, ?_, Below.trans (hex.trans he6) HB.out⟩
        · congr 1
          exact (decide_eq_true (by omega : 0 < M2)).symm
        · rcases List.mem_append.1 hp with hp | hp
          · exact HPS.out p hp
          · simp only [List.mem_cons, List.not_mem_nil, or_false] at hp
            rcases hp with rfl | rfl
            · exact HSO.out
            · exact HSO2.out
        · have h9 := HO2.out
          simpa using h9
      case measure => simp [intOf]; omega
    · obtain rfl : j = L.length := by omega
      obtain ⟨av, cv, rfl, hST⟩ := own_strs HOWN.out
      obtain ⟨bb, oo, rfl, hc0⟩ := hST 0 (by simp)
      have hc0' : wr.cell? ⟨bb, oo, none⟩ = some (.string P) := by simpa using hc0
      have hlp : (P :: ps.map (·.1)).length = 2 * L.length + 1 := by simp [hpl]
      obtain ⟨G0, hP0⟩ := opens_any P (by unfold maxLen; omega)
      obtain ⟨K, hK⟩ : ∃ K, (P :: ps.map (·.1)).length = K := ⟨_, rfl⟩
      have hK1 : 1 ≤ K := by omega
      have hnw := fun w ht hST => newest_any b (P :: ps.map (·.1)) (0 :: ps.map (·.2)) (some ⟨bb, oo, none⟩) cv w (by simp) (by omega) ht hST
      have hn0 : ∀ w, TabAt w b → Calls Try.prog 32 #[.pointer (some ⟨b, 0, none⟩), .slice none 0 0] w fun e w' => (∃ (x : Int) (r u : Nat) (h : Int) (q c : Nat), e = .returned (.tuple #[.agg #[.int .u64 0, .int .i64 x, .int .u64 (r : Int), .int .u32 (u : Int), .int .i64 h, .int .u64 (q : Int), .int .u32 (c : Int)], .bool false])) ∧ Ext w w' := fun w ht => newest_any b [] [] none 0 w rfl (by decide) ht (fun i hi => by simp at hi) (fun i hi => by simp at hi)
      have htop : (0 :: ps.map (·.2)).foldl max 0 = M := by rw [HMT.out]; rfl
      rw [htop] at hnw
      rw [hK]
      clear hc0
      rcases hP0 with ⟨hPz, ⟨hG0, a', r', u', h', q', c', hopn⟩ | ⟨hG0, e, he, hopn⟩⟩
      · go_wp2_with fail
        refine (hopn b _ HT).mono ?_
        rintro e w3 ⟨rfl, he3⟩
        go_wp2_with fail
        refine (wakes05 _).mono ?_
        rintro e w4 ⟨rfl, he4⟩
        go_wp2_with fail
        go_ret
        exact ⟨rfl, he1.trans (hex.trans (he3.trans ((Ext.alloc _ _).trans he4)))⟩
      · have he' : ((e : Int) == 0) = false := by simpa using he
        have hOO : ∀ i (h1 : i < (P :: ps.map (·.1)).length) (h2 : i < (0 :: ps.map (·.2)).length), OpensTo ((P :: ps.map (·.1))[i]) ((0 :: ps.map (·.2))[i]) := fun i h1 h2 => by
          match i, h1, h2 with
          | 0, _, _ => exact ⟨hPz, .inr ⟨rfl, e, he, hopn⟩⟩
          | i + 1, h1, h2 =>
            simp only [List.getElem_cons_succ, List.getElem_map]
            exact HPS.out _ (by simp)
        have hnw2 := fun w ht hST => hnw w ht hST hOO
        rw [hK] at hnw2
        have HNW := Lib.hid hnw2
        have HN0 := Lib.hid hn0
        have HST := Lib.hid hST
        clear hnw hn0 hOO hST hnw2
        go_wp2_with fail
        refine (hopn b _ HT).mono ?_
        rintro e w3 ⟨rfl, he3⟩
        go_wp2_with fail
        refine (HNW.out _ (HT.ext (he3.trans (Ext.alloc _ _))) (HST.out.ext (he3.trans (Ext.alloc _ _)))).mono ?_
        rintro e w4 ⟨⟨x1, r1, u1, h1, q1, c1, rfl⟩, he4⟩
        have he4' := (he3.trans (Ext.alloc w3 _)).trans he4
        go_wp2_with fail
        refine (HN0.out _ (HT.ext (he4'.trans (Ext.alloc _ _)))).mono ?_
        rintro e w5 ⟨⟨x2, r2, u2, h2, q2, c2, rfl⟩, he5⟩
        have k0 := fun o => cell_ext (cell_ext (World.cell?_alloc_new w4 _ _ 0) he5) (Ext.alloc w5 o)
        go_wp2_with fail
        refine (wakes05 _).mono ?_
        rintro e w6 ⟨rfl, he6⟩
        replace k0 := cell_ext (k0 _) he6
        go_wp2_with fail
        go_ret
        exact ⟨rfl, he1.trans (hex.trans (he4'.trans ((Ext.alloc _ _).trans (he5.trans ((Ext.alloc _ _).trans he6)))))⟩
end Go.Proofs.Ytbnpldilkkhgmaa
