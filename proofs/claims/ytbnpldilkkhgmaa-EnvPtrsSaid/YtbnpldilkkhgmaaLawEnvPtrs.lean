/- The walk of law04.EnvPtrs. -/
import Derived.Test.YtbnpldilkkhgmaaLaw04
import Derived.Test.YtbnpldilkkhgmaaLendRR
import Derived.Deep.DeepCutAuto
namespace Go.Proofs.Ytbnpldilkkhgmaa
open Go.RowKit
theorem cut_le (a : ByteArray) (n : Nat) : (a.extract 0 n).size ≤ n ∧ (a.extract 0 n).size ≤ a.size := by simp; omega
theorem refread3_no (V : ByteArray) (T c : Nat) (w : World) (hs : ¬ 16 ≤ V.size) {z : Nat} (hz : w.heap.size = z) : Calls Try.prog 23 #[.slice (some ⟨z, 0, none⟩) 3 c, .string V] (w.alloc (.cells #[.int .i64 4, .int .i64 8, .int .i64 4] T)) fun e w' =>
    e = .returned (.tuple #[.slice none 0 0, .string ⟨#[]⟩, .bool false]) ∧ Ext w w' := by
  subst hz
  refine (refread_any pws V (some ⟨w.heap.size, 0, none⟩) c _ (by decide) (by unfold maxLen; omega) (ints_new w .i64 T pws rfl)).mono fun e w' hp => ?_
  obtain ⟨h1, h2⟩ := readPost_none (by rw [nums3, if_neg (by simpa using hs)]) hp
  exact ⟨h1, (Ext.alloc _ _).trans h2⟩
theorem refread3_yes (V : ByteArray) (T c : Nat) (w : World) (hs : 16 ≤ V.size) (hm : V.size ≤ maxLen) {z : Nat} (hz : w.heap.size = z) : Calls Try.prog 23 #[.slice (some ⟨z, 0, none⟩) 3 c, .string V] (w.alloc (.cells #[.int .i64 4, .int .i64 8, .int .i64 4] T)) fun e w' =>
    ∃ b o d, e = .returned (.tuple #[.slice (some ⟨b, o, none⟩) 3 d, .string (V.extract 16 V.size), .bool true]) ∧
      (w'.cell? ⟨b, o, none⟩ = some (.int .u64 ((three V.data.toList).a : Int)) ∧ w'.cell? ⟨b, o + 1, none⟩ = some (.int .u64 ((three V.data.toList).g : Int)) ∧ w'.cell? ⟨b, o + 2, none⟩ = some (.int .u64 ((three V.data.toList).c : Int))) ∧ Ext w w' := by
  subst hz
  refine (refread_any pws V (some ⟨w.heap.size, 0, none⟩) c _ (by decide) hm (ints_new w .i64 T pws rfl)).mono fun e w' hp => ?_
  obtain ⟨x, d, rfl, h1, h2⟩ := readPost_some (by rw [nums3, if_pos (by simpa using hs)]) hp
  obtain ⟨b, o, rfl, c0⟩ := h1.at 0 (by simp)
  obtain ⟨b', o', e', c1⟩ := h1.at 1 (by simp)
  cases e'
  obtain ⟨b', o', e', c2⟩ := h1.at 2 (by simp)
  cases e'
  have e : V.extract 16 V.size = ⟨(V.data.toList.drop 16).toArray⟩ := bytes_ext (by rw [ext_data, List.take_of_length_le (by simp)])
  exact ⟨b, o, d, by rw [e]; rfl, ⟨c0, c1, c2⟩, (Ext.alloc _ _).trans h2⟩
theorem three_of (X g c : Nat) (r : List UInt8) (hX : X < 4294967296) (hg : g < 18446744073709551616) (hc : c < 4294967296) : three (Lend.put 4 X ++ (Lend.put 8 g ++ (Lend.put 4 c ++ r))) = ⟨X, g, c⟩ := by
  have L := fun w n => Lend.put_length w n
  have d4 : (Lend.put 4 X ++ (Lend.put 8 g ++ (Lend.put 4 c ++ r))).drop 4 = Lend.put 8 g ++ (Lend.put 4 c ++ r) := List.drop_left' (L 4 X)
  have d12 : (Lend.put 4 X ++ (Lend.put 8 g ++ (Lend.put 4 c ++ r))).drop 12 = Lend.put 4 c ++ r := by
    rw [show 12 = 4 + 8 from rfl, ← List.drop_drop, d4]; exact List.drop_left' (L 8 g)
  unfold three
  rw [d4, d12, List.take_left' (L 4 X), List.take_left' (L 8 g), List.take_left' (L 4 c)]
  simp only [Lend.le_put]
  congr 1
  · exact Nat.mod_eq_of_lt hX
  · exact Nat.mod_eq_of_lt hg
  · exact Nat.mod_eq_of_lt hc
def ptrT (X g c : Nat) : ByteArray := ⟨(ptrB X g c).toArray⟩
theorem ptrT_size (X g c : Nat) : (ptrT X g c).size = 16 := by
  show (ptrB X g c).toArray.size = 16
  rw [List.size_toArray]
  simp [ptrB, pws, Lend.cat, Lend.put_length]
theorem parse_ptr (X g c : Nat) (V : ByteArray) (hX : X ≤ 2147483647) (hg : g < 18446744073709551616) (hc : c < 4294967296) : parseAns (ptrT X g c ++ V) = .tuple #[.agg (ptrC X g c), .string V, .bool true] := by
  have hl : (ptrT X g c ++ V).data.toList = Lend.put 4 X ++ (Lend.put 8 g ++ (Lend.put 4 c ++ V.data.toList)) := by
    rw [ByteArray.data_append, Array.toList_append]
    show (Lend.put 4 X ++ (Lend.put 8 g ++ (Lend.put 4 c ++ []))) ++ V.data.toList = _
    simp only [List.append_assoc, List.append_nil]
  have h3 := three_of X g c V.data.toList (by omega) hg hc
  have hsz : (ptrT X g c ++ V).size = 16 + V.size := by rw [ByteArray.size_append, ptrT_size]
  unfold parseAns
  rw [hl, h3, if_pos ⟨by omega, hX⟩]
  have e : (ptrT X g c ++ V).extract 16 (ptrT X g c ++ V).size = V := bytes_ext (by
    rw [ext_data, List.take_of_length_le (by simp)]
    rw [ByteArray.data_append, Array.toList_append]
    exact List.drop_left' (by show (ptrT X g c).data.size = 16; exact ptrT_size X g c))
  rw [e]
theorem refwrite3 (X g c : Nat) (T U ca cb : Nat) (w : World) (hX : X < 4294967296) (hg : g < 18446744073709551616) (hc : c < 4294967296) {z y : Nat} (hz : w.heap.size = z) (hy : w.heap.size + 1 = y) :
    Calls Try.prog 21 #[.slice (some ⟨z, 0, none⟩) 3 ca, .slice (some ⟨y, 0, none⟩) 3 cb] ((w.alloc (.cells #[.int .i64 4, .int .i64 8, .int .i64 4] T)).alloc (.cells #[.int .u64 (X : Int), .int .u64 (g : Int), .int .u64 (c : Int)] U)) fun e w' =>
      e = .returned (.tuple #[.string (ptrT X g c), .bool true]) ∧ Ext w w' := by
  subst hz hy
  have h1 := ints_new w .i64 T pws rfl
  have h1' : Ints .i64 (w.alloc (.cells #[.int .i64 4, .int .i64 8, .int .i64 4] T)) (some ⟨w.heap.size, 0, none⟩) pws := h1
  clear h1
  have e1 := Ext.alloc w (.cells #[.int .i64 4, .int .i64 8, .int .i64 4] T)
  generalize hw1 : w.alloc (.cells #[.int .i64 4, .int .i64 8, .int .i64 4] T) = w1 at *
  have hz : w1.heap.size = w.heap.size + 1 := by rw [← hw1]; simp
  rw [← hz]
  have h2 : Nums (w1.alloc (.cells #[.int .u64 (X : Int), .int .u64 (g : Int), .int .u64 (c : Int)] U)) (some ⟨w1.heap.size, 0, none⟩) [X, g, c] := ints_new w1 .u64 U ([X, g, c].map Int.ofNat) rfl
  have h := refwrite_any pws [X, g, c] (some ⟨w.heap.size, 0, none⟩) (some ⟨w1.heap.size, 0, none⟩) ca cb _ (by decide) (fun y hy => by simp at hy; rcases hy with rfl | rfl | rfl <;> omega) (h1'.ext (Ext.alloc w1 (.cells #[.int .u64 (X : Int), .int .u64 (g : Int), .int .u64 (c : Int)] U))) h2
  rw [wAns_some (ptrB_bytes hX hg hc)] at h
  exact h.mono fun e w' ⟨h1, h2⟩ => ⟨h1, e1.trans ((Ext.alloc _ _).trans h2)⟩
set_option maxRecDepth 100000 in
set_option maxHeartbeats 6000000 in
theorem envPtrs_walk (x : Int) (n : Nat) (s : ByteArray) (w : World) (hx1 : -9223372036854775808 ≤ x) (hx2 : x ≤ 9223372036854775807) (hn : n < 18446744073709551616) (hs : s.size ≤ maxLen) :
    Calls Try.prog 5 #[.int .i64 x, .int .u64 n, .string s] w fun e w' => e = .returned (.bool true) ∧ Ext w w' := by
  unfold maxLen at hs
  go_enter Try.func5, Try.ntmps5
  go_upto_region 1 with (fail)
  go_cut [2] (fun x wr => ∃ V : ByteArray, x = .string V ∧ V.size ≤ 40 ∧ wr = w)
  case first =>
    go_wp2_with fail
    all_goals go_meet
    all_goals exact ⟨_, rfl, by first | exact (cut_le _ _).1 | (have := (cut_le s (min (s.size : Int) 40).toNat).1; omega) | omega, rfl⟩
  obtain ⟨V, rfl, hV, rfl⟩ := hcut
  obtain ⟨S, hS⟩ : ∃ S : Nat, (n : Int) / 128 % 4294967296 = (S : Int) := ⟨n / 128 % 4294967296, by omega⟩
  have hSl : S < 4294967296 := by omega
  go_wp2_with fail
  by_cases hok : 0 ≤ x ∧ x ≤ 2147483647
  · obtain ⟨X, rfl⟩ : ∃ X : Nat, x = X := ⟨x.toNat, by omega⟩
    have hX : X ≤ 2147483647 := by omega
    have o1 : decide ((0 : Int) ≤ (X : Int)) = true := decide_eq_true (by omega)
    have o2 : decide ((X : Int) ≤ 2147483647) = true := decide_eq_true (by omega)
    have htx := fun w => text_yes X n S w hX hn hSl
    have hrw := fun T U ca cb w z y hz hy => refwrite3 X n S T U ca cb w (by omega) hn hSl (z := z) (y := y) hz hy
    have hpb := fun w => parse_any (ptrT X n S ++ V) w (by rw [ByteArray.size_append, ptrT_size]; unfold maxLen; omega)
    rw [parse_ptr X n S V hX hn hSl] at hpb
    have hT16 := ptrT_size X n S
    have htx' : ∀ w, Calls Try.prog 20 #[.agg #[.int .i64 (X : Int), .int .u64 (n : Int), .int .u32 (S : Int)]] w fun e w' => e = .returned (.tuple #[.string (ptrT X n S), .bool true]) ∧ Ext w w' := htx
    clear htx
    unfold ptrC at hpb
    generalize ptrT X n S = T at *
    obtain ⟨n1, n2⟩ := isEmpty_of_pos (s := T) (by omega)
    have hw1 : IntKind.u64.wrap (X : Int) = (X : Int) := by rw [IntKind.wrap_u64]; omega
    have hq1 : ¬ 9223372036854775807 < 16 + V.size := by omega
    refine (htx' _).mono ?_
    rintro e w1 ⟨rfl, he1⟩
    have g0 := cell_ext (World.cell?_alloc_new wc _ _ 0) he1
    have g1 := cell_ext (World.cell?_alloc_new wc _ _ 1) he1
    have g2 := cell_ext (World.cell?_alloc_new wc _ _ 2) he1
    have hE1 := (Ext.alloc wc _).trans he1
    have g2o := fun o => cell_ext g2 (Ext.alloc w1 o)
    go_wp2_with fail
    refine (hrw _ _ _ _ w1 _ _ (by simp) (by simp)).mono ?_
    rintro e w2 ⟨rfl, he2⟩
    have hE2 := hE1.trans he2
    go_wp2_with fail
    refine (hpb _).mono ?_
    rintro e w3 ⟨rfl, he3⟩
    have hEB := hE2.trans (he3.trans (Ext.alloc w3 (.cells #[.int .i64 (X : Int), .int .u64 (n : Int), .int .u32 (S : Int)] 32)))
    have k0 := fun o => cell_ext (cell_ext (cell_ext g0 he2) he3) (Ext.alloc w3 o)
    have k1 := fun o => cell_ext (cell_ext (cell_ext g1 he2) he3) (Ext.alloc w3 o)
    have k2 := fun o => cell_ext (cell_ext (cell_ext g2 he2) he3) (Ext.alloc w3 o)
    go_upto_region 11 with (fail)
    clear g0 g1 g2 g2o k0 k1 k2 hrw hpb htx' n1 n2 hq1 hw1 o1 o2
    have hsV : V.size ≤ maxLen := by unfold maxLen; omega
    have hpr := fun w => parse_any V w hsV
    by_cases h16 : 16 ≤ V.size
    · have hq := three_lt V.data.toList
      have hrd := fun T c w (z : Nat) (hz : w.heap.size = z) => refread3_yes V T c w h16 hsV hz
      unfold parseAns at hpr
      generalize three V.data.toList = q at *
      obtain ⟨a, g, c⟩ := q
      obtain ⟨q1, q2, q3⟩ := hq
      simp only at hpr hrd q1 q2 q3
      generalize V.extract 16 V.size = R at *
      by_cases ha : a ≤ 2147483647
      · rw [if_pos ⟨h16, ha⟩] at hpr
        unfold ptrC at hpr
        have l1 : decide ((2147483647 : Int) < (a : Int)) = false := decide_eq_false (by omega)
        go_wp2_with fail
        refine (hpr _).mono ?_
        rintro e w5 ⟨rfl, he5⟩
        go_wp2_with fail
        refine (hrd _ _ _ _ (by simp)).mono ?_
        rintro e w6 ⟨bb, oo, dd, rfl, ⟨e0, e1, e2⟩, he6⟩
        have f0 := cell_ext (World.cell?_alloc_new w5 _ _ 0) he6
        have f1 := cell_ext (World.cell?_alloc_new w5 _ _ 1) he6
        have f2 := cell_ext (World.cell?_alloc_new w5 _ _ 2) he6
        have hE6 := hEB.trans (he5.trans ((Ext.alloc w5 _).trans he6))
        clear hrd hpr
        go_wp2_with fail
        have v1 : IntKind.i64.wrap (a : Int) = (a : Int) := by rw [IntKind.wrap_i64]; omega
        have v2 : IntKind.u32.wrap (c : Int) = (c : Int) := by rw [IntKind.wrap_u32]; omega
        refine wp_region_drift_lit (n := 151) (by kernel_rfl) (by kernel_rfl) (by rfl) ?_
        apply chain_val (.bool true)
        · intro w2 hx  K hK
          simp only [Act.put, List.setIfInBounds_toArray, List.set_cons_zero, List.set_cons_succ] at hK ⊢
          go_simp
          refine (wakes04 _).mono ?_
          rintro e w3 ⟨rfl, he3⟩
          exact hK _ _ he3 rfl
        apply chain_val
        · intro w2 hx  K hK
          simp only [Act.put, List.setIfInBounds_toArray, List.set_cons_zero, List.set_cons_succ] at hK ⊢
          go_simp
          exact hK _ _ (Ext.refl _) rfl
        apply chain_val
        · intro w2 hx  K hK
          simp only [Act.put, List.setIfInBounds_toArray, List.set_cons_zero, List.set_cons_succ] at hK ⊢
          go_simp
          exact hK _ _ (Ext.refl _) rfl
        apply chain_val
        · intro w2 hx  K hK
          simp only [Act.put, List.setIfInBounds_toArray, List.set_cons_zero, List.set_cons_succ] at hK ⊢
          go_simp
          exact hK _ _ (Ext.refl _) rfl
        apply chain_val
        · intro w2 hx  K hK
          simp only [Act.put, List.setIfInBounds_toArray, List.set_cons_zero, List.set_cons_succ] at hK ⊢
          go_simp
          exact hK _ _ (Ext.refl _) rfl
        apply chain_val (.agg #[.int .i64 (a : Int), .int .u64 (g : Int), .int .u32 (c : Int)])
        · intro w2 hx  K hK
          simp only [Act.put, List.setIfInBounds_toArray, List.set_cons_zero, List.set_cons_succ] at hK ⊢
          have hc0 := cell_ext f0 hx
          have hc1 := cell_ext f1 hx
          have hc2 := cell_ext f2 hx
          go_simp
          exact hK _ _ (Ext.refl _) rfl
        apply chain_val
        · intro w2 hx  K hK
          simp only [Act.put, List.setIfInBounds_toArray, List.set_cons_zero, List.set_cons_succ] at hK ⊢
          go_simp
          exact hK _ _ (Ext.refl _) rfl
        apply chain_val
        · intro w2 hx  K hK
          simp only [Act.put, List.setIfInBounds_toArray, List.set_cons_zero, List.set_cons_succ] at hK ⊢
          go_simp
          exact hK _ _ (Ext.refl _) rfl
        apply chain_val (.int .u64 (a : Int))
        · intro w2 hx  K hK
          simp only [Act.put, List.setIfInBounds_toArray, List.set_cons_zero, List.set_cons_succ] at hK ⊢
          have hc := cell_ext e0 hx
          go_simp
          exact hK _ _ (Ext.refl _) rfl
        apply chain_val
        · intro w2 hx  K hK
          simp only [Act.put, List.setIfInBounds_toArray, List.set_cons_zero, List.set_cons_succ] at hK ⊢
          go_simp
          exact hK _ _ (Ext.refl _) rfl
        apply chain_val
        · intro w2 hx  K hK
          simp only [Act.put, List.setIfInBounds_toArray, List.set_cons_zero, List.set_cons_succ] at hK ⊢
          go_simp
          exact hK _ _ (Ext.refl _) rfl
        apply chain_val
        · intro w2 hx  K hK
          simp only [Act.put, List.setIfInBounds_toArray, List.set_cons_zero, List.set_cons_succ] at hK ⊢
          go_simp
          exact hK _ _ (Ext.refl _) rfl
        apply chain_val (.int .u64 (g : Int))
        · intro w2 hx  K hK
          simp only [Act.put, List.setIfInBounds_toArray, List.set_cons_zero, List.set_cons_succ] at hK ⊢
          have hc := cell_ext e1 hx
          go_simp
          exact hK _ _ (Ext.refl _) rfl
        apply chain_val
        · intro w2 hx  K hK
          simp only [Act.put, List.setIfInBounds_toArray, List.set_cons_zero, List.set_cons_succ] at hK ⊢
          go_simp
          exact hK _ _ (Ext.refl _) rfl
        apply chain_val
        · intro w2 hx  K hK
          simp only [Act.put, List.setIfInBounds_toArray, List.set_cons_zero, List.set_cons_succ] at hK ⊢
          go_simp
          exact hK _ _ (Ext.refl _) rfl
        apply chain_val (.int .u64 (c : Int))
        · intro w2 hx  K hK
          simp only [Act.put, List.setIfInBounds_toArray, List.set_cons_zero, List.set_cons_succ] at hK ⊢
          have hc := cell_ext e2 hx
          go_simp
          exact hK _ _ (Ext.refl _) rfl
        apply chain_val
        · intro w2 hx  K hK
          simp only [Act.put, List.setIfInBounds_toArray, List.set_cons_zero, List.set_cons_succ] at hK ⊢
          go_simp
          exact hK _ _ (Ext.refl _) rfl
        apply chain_val
        · intro w2 hx  K hK
          simp only [Act.put, List.setIfInBounds_toArray, List.set_cons_zero, List.set_cons_succ] at hK ⊢
          go_simp
          exact hK _ _ (Ext.refl _) rfl
        apply chain_val (.bool true)
        · intro w2 hx  K hK
          simp only [Act.put, List.setIfInBounds_toArray, List.set_cons_zero, List.set_cons_succ] at hK ⊢
          go_simp
          exact hK _ _ (Ext.refl _) rfl
        apply chain_val
        · intro w2 hx  K hK
          simp only [Act.put, List.setIfInBounds_toArray, List.set_cons_zero, List.set_cons_succ] at hK ⊢
          go_simp
          exact hK _ _ (Ext.refl _) rfl
        apply chain_val
        · intro w2 hx  K hK
          simp only [Act.put, List.setIfInBounds_toArray, List.set_cons_zero, List.set_cons_succ] at hK ⊢
          go_simp
          exact hK _ _ (Ext.refl _) rfl
        apply chain_val
        · intro w2 hx  K hK
          simp only [Act.put, List.setIfInBounds_toArray, List.set_cons_zero, List.set_cons_succ] at hK ⊢
          go_simp
          exact hK _ _ (Ext.refl _) rfl
        apply chain_val
        · intro w2 hx  K hK
          simp only [Act.put, List.setIfInBounds_toArray, List.set_cons_zero, List.set_cons_succ] at hK ⊢
          go_simp
          exact hK _ _ (Ext.refl _) rfl
        apply chain_val
        · intro w2 hx  K hK
          simp only [Act.put, List.setIfInBounds_toArray, List.set_cons_zero, List.set_cons_succ] at hK ⊢
          go_simp
          exact hK _ _ (Ext.refl _) rfl
        apply chain_val
        · intro w2 hx  K hK
          simp only [Act.put, List.setIfInBounds_toArray, List.set_cons_zero, List.set_cons_succ] at hK ⊢
          go_simp
          exact hK _ _ (Ext.refl _) rfl
        apply chain_val
        · intro w2 hx  K hK
          simp only [Act.put, List.setIfInBounds_toArray, List.set_cons_zero, List.set_cons_succ] at hK ⊢
          go_simp
          exact hK _ _ (Ext.refl _) rfl
        refine chain_end fun w2 hx => ?_
        simp only [List.reverse_cons, List.reverse_nil, List.nil_append, List.cons_append, withDeps, Act.put, List.setIfInBounds_toArray, List.set_cons_zero, List.set_cons_succ]
        go_wp2_with fail
        go_ret
        exact ⟨rfl, hE6.trans hx⟩
      · rw [if_neg (fun h => ha h.2)] at hpr
        unfold ptrZ at hpr
        have l1 : decide ((2147483647 : Int) < (a : Int)) = true := decide_eq_true (by omega)
        go_wp2_with fail
        refine (hpr _).mono ?_
        rintro e w5 ⟨rfl, he5⟩
        go_wp2_with fail
        refine (hrd _ _ _ _ (by simp)).mono ?_
        rintro e w6 ⟨bb, oo, dd, rfl, ⟨e0, e1, e2⟩, he6⟩
        have f0 := cell_ext (World.cell?_alloc_new w5 _ _ 0) he6
        have f1 := cell_ext (World.cell?_alloc_new w5 _ _ 1) he6
        have f2 := cell_ext (World.cell?_alloc_new w5 _ _ 2) he6
        have hE6 := hEB.trans (he5.trans ((Ext.alloc w5 _).trans he6))
        clear hrd hpr
        go_wp2_with fail
        refine (wakes04 _).mono ?_
        rintro e w7 ⟨rfl, he7⟩
        replace f0 := cell_ext f0 he7
        replace f1 := cell_ext f1 he7
        replace f2 := cell_ext f2 he7
        go_wp2_with fail
        go_ret
        exact ⟨rfl, hE6.trans he7⟩
    · unfold parseAns at hpr
      rw [if_neg (fun h => h16 h.1)] at hpr
      unfold ptrZ at hpr
      go_wp2_with fail
      refine (hpr _).mono ?_
      rintro e w5 ⟨rfl, he5⟩
      go_wp2_with fail
      refine (refread3_no V _ _ _ h16 (by simp)).mono ?_
      rintro e w6 ⟨rfl, he6⟩
      have f0 := cell_ext (World.cell?_alloc_new w5 _ _ 0) he6
      have f1 := cell_ext (World.cell?_alloc_new w5 _ _ 1) he6
      have f2 := cell_ext (World.cell?_alloc_new w5 _ _ 2) he6
      have hE6 := hEB.trans (he5.trans ((Ext.alloc w5 _).trans he6))
      clear hpr
      go_wp2_with fail
      refine (wakes04 _).mono ?_
      rintro e w7 ⟨rfl, he7⟩
      replace f0 := cell_ext f0 he7
      replace f1 := cell_ext f1 he7
      replace f2 := cell_ext f2 he7
      go_wp2_with fail
      go_ret
      exact ⟨rfl, hE6.trans he7⟩
  · refine (text_no x n S _ (by rw [← Bool.not_eq_true, Env.okAddr_iff]; exact hok)).mono ?_
    rintro e w1 ⟨rfl, he1⟩
    have hEB := (Ext.alloc wc _).trans he1
    have o1 : (decide (0 ≤ x) && decide (x ≤ 2147483647)) = false := by
      rw [← Bool.not_eq_true, Bool.and_eq_true, decide_eq_true_eq, decide_eq_true_eq]; exact hok
    go_upto_region 11 with (fail)
    all_goals
      have hsV : V.size ≤ maxLen := by unfold maxLen; omega
      have hpr := fun w => parse_any V w hsV
      by_cases h16 : 16 ≤ V.size
      · have hq := three_lt V.data.toList
        have hrd := fun T c w (z : Nat) (hz : w.heap.size = z) => refread3_yes V T c w h16 hsV hz
        unfold parseAns at hpr
        generalize three V.data.toList = q at *
        obtain ⟨a, g, c⟩ := q
        obtain ⟨q1, q2, q3⟩ := hq
        simp only at hpr hrd q1 q2 q3
        generalize V.extract 16 V.size = R at *
        by_cases ha : a ≤ 2147483647
        · rw [if_pos ⟨h16, ha⟩] at hpr
          unfold ptrC at hpr
          have l1 : decide ((2147483647 : Int) < (a : Int)) = false := decide_eq_false (by omega)
          go_wp2_with fail
          refine (hpr _).mono ?_
          rintro e w5 ⟨rfl, he5⟩
          go_wp2_with fail
          refine (hrd _ _ _ _ (by simp)).mono ?_
          rintro e w6 ⟨bb, oo, dd, rfl, ⟨e0, e1, e2⟩, he6⟩
          have f0 := cell_ext (World.cell?_alloc_new w5 _ _ 0) he6
          have f1 := cell_ext (World.cell?_alloc_new w5 _ _ 1) he6
          have f2 := cell_ext (World.cell?_alloc_new w5 _ _ 2) he6
          have hE6 := hEB.trans (he5.trans ((Ext.alloc w5 _).trans he6))
          clear hrd hpr
          go_wp2_with fail
          have v1 : IntKind.i64.wrap (a : Int) = (a : Int) := by rw [IntKind.wrap_i64]; omega
          have v2 : IntKind.u32.wrap (c : Int) = (c : Int) := by rw [IntKind.wrap_u32]; omega
          refine wp_region_drift_lit (n := 151) (by kernel_rfl) (by kernel_rfl) (by rfl) ?_
          apply chain_val (.bool true)
          · intro w2 hx  K hK
            simp only [Act.put, List.setIfInBounds_toArray, List.set_cons_zero, List.set_cons_succ] at hK ⊢
            go_simp
            refine (wakes04 _).mono ?_
            rintro e w3 ⟨rfl, he3⟩
            exact hK _ _ he3 rfl
          apply chain_val
          · intro w2 hx  K hK
            simp only [Act.put, List.setIfInBounds_toArray, List.set_cons_zero, List.set_cons_succ] at hK ⊢
            go_simp
            exact hK _ _ (Ext.refl _) rfl
          apply chain_val
          · intro w2 hx  K hK
            simp only [Act.put, List.setIfInBounds_toArray, List.set_cons_zero, List.set_cons_succ] at hK ⊢
            go_simp
            exact hK _ _ (Ext.refl _) rfl
          apply chain_val
          · intro w2 hx  K hK
            simp only [Act.put, List.setIfInBounds_toArray, List.set_cons_zero, List.set_cons_succ] at hK ⊢
            go_simp
            exact hK _ _ (Ext.refl _) rfl
          apply chain_val
          · intro w2 hx  K hK
            simp only [Act.put, List.setIfInBounds_toArray, List.set_cons_zero, List.set_cons_succ] at hK ⊢
            go_simp
            exact hK _ _ (Ext.refl _) rfl
          apply chain_val (.agg #[.int .i64 (a : Int), .int .u64 (g : Int), .int .u32 (c : Int)])
          · intro w2 hx  K hK
            simp only [Act.put, List.setIfInBounds_toArray, List.set_cons_zero, List.set_cons_succ] at hK ⊢
            have hc0 := cell_ext f0 hx
            have hc1 := cell_ext f1 hx
            have hc2 := cell_ext f2 hx
            go_simp
            exact hK _ _ (Ext.refl _) rfl
          apply chain_val
          · intro w2 hx  K hK
            simp only [Act.put, List.setIfInBounds_toArray, List.set_cons_zero, List.set_cons_succ] at hK ⊢
            go_simp
            exact hK _ _ (Ext.refl _) rfl
          apply chain_val
          · intro w2 hx  K hK
            simp only [Act.put, List.setIfInBounds_toArray, List.set_cons_zero, List.set_cons_succ] at hK ⊢
            go_simp
            exact hK _ _ (Ext.refl _) rfl
          apply chain_val (.int .u64 (a : Int))
          · intro w2 hx  K hK
            simp only [Act.put, List.setIfInBounds_toArray, List.set_cons_zero, List.set_cons_succ] at hK ⊢
            have hc := cell_ext e0 hx
            go_simp
            exact hK _ _ (Ext.refl _) rfl
          apply chain_val
          · intro w2 hx  K hK
            simp only [Act.put, List.setIfInBounds_toArray, List.set_cons_zero, List.set_cons_succ] at hK ⊢
            go_simp
            exact hK _ _ (Ext.refl _) rfl
          apply chain_val
          · intro w2 hx  K hK
            simp only [Act.put, List.setIfInBounds_toArray, List.set_cons_zero, List.set_cons_succ] at hK ⊢
            go_simp
            exact hK _ _ (Ext.refl _) rfl
          apply chain_val
          · intro w2 hx  K hK
            simp only [Act.put, List.setIfInBounds_toArray, List.set_cons_zero, List.set_cons_succ] at hK ⊢
            go_simp
            exact hK _ _ (Ext.refl _) rfl
          apply chain_val (.int .u64 (g : Int))
          · intro w2 hx  K hK
            simp only [Act.put, List.setIfInBounds_toArray, List.set_cons_zero, List.set_cons_succ] at hK ⊢
            have hc := cell_ext e1 hx
            go_simp
            exact hK _ _ (Ext.refl _) rfl
          apply chain_val
          · intro w2 hx  K hK
            simp only [Act.put, List.setIfInBounds_toArray, List.set_cons_zero, List.set_cons_succ] at hK ⊢
            go_simp
            exact hK _ _ (Ext.refl _) rfl
          apply chain_val
          · intro w2 hx  K hK
            simp only [Act.put, List.setIfInBounds_toArray, List.set_cons_zero, List.set_cons_succ] at hK ⊢
            go_simp
            exact hK _ _ (Ext.refl _) rfl
          apply chain_val (.int .u64 (c : Int))
          · intro w2 hx  K hK
            simp only [Act.put, List.setIfInBounds_toArray, List.set_cons_zero, List.set_cons_succ] at hK ⊢
            have hc := cell_ext e2 hx
            go_simp
            exact hK _ _ (Ext.refl _) rfl
          apply chain_val
          · intro w2 hx  K hK
            simp only [Act.put, List.setIfInBounds_toArray, List.set_cons_zero, List.set_cons_succ] at hK ⊢
            go_simp
            exact hK _ _ (Ext.refl _) rfl
          apply chain_val
          · intro w2 hx  K hK
            simp only [Act.put, List.setIfInBounds_toArray, List.set_cons_zero, List.set_cons_succ] at hK ⊢
            go_simp
            exact hK _ _ (Ext.refl _) rfl
          apply chain_val (.bool true)
          · intro w2 hx  K hK
            simp only [Act.put, List.setIfInBounds_toArray, List.set_cons_zero, List.set_cons_succ] at hK ⊢
            go_simp
            exact hK _ _ (Ext.refl _) rfl
          apply chain_val
          · intro w2 hx  K hK
            simp only [Act.put, List.setIfInBounds_toArray, List.set_cons_zero, List.set_cons_succ] at hK ⊢
            go_simp
            exact hK _ _ (Ext.refl _) rfl
          apply chain_val
          · intro w2 hx  K hK
            simp only [Act.put, List.setIfInBounds_toArray, List.set_cons_zero, List.set_cons_succ] at hK ⊢
            go_simp
            exact hK _ _ (Ext.refl _) rfl
          apply chain_val
          · intro w2 hx  K hK
            simp only [Act.put, List.setIfInBounds_toArray, List.set_cons_zero, List.set_cons_succ] at hK ⊢
            go_simp
            exact hK _ _ (Ext.refl _) rfl
          apply chain_val
          · intro w2 hx  K hK
            simp only [Act.put, List.setIfInBounds_toArray, List.set_cons_zero, List.set_cons_succ] at hK ⊢
            go_simp
            exact hK _ _ (Ext.refl _) rfl
          apply chain_val
          · intro w2 hx  K hK
            simp only [Act.put, List.setIfInBounds_toArray, List.set_cons_zero, List.set_cons_succ] at hK ⊢
            go_simp
            exact hK _ _ (Ext.refl _) rfl
          apply chain_val
          · intro w2 hx  K hK
            simp only [Act.put, List.setIfInBounds_toArray, List.set_cons_zero, List.set_cons_succ] at hK ⊢
            go_simp
            exact hK _ _ (Ext.refl _) rfl
          apply chain_val
          · intro w2 hx  K hK
            simp only [Act.put, List.setIfInBounds_toArray, List.set_cons_zero, List.set_cons_succ] at hK ⊢
            go_simp
            exact hK _ _ (Ext.refl _) rfl
          refine chain_end fun w2 hx => ?_
          simp only [List.reverse_cons, List.reverse_nil, List.nil_append, List.cons_append, withDeps, Act.put, List.setIfInBounds_toArray, List.set_cons_zero, List.set_cons_succ]
          go_wp2_with fail
          go_ret
          exact ⟨rfl, hE6.trans hx⟩
        · rw [if_neg (fun h => ha h.2)] at hpr
          unfold ptrZ at hpr
          have l1 : decide ((2147483647 : Int) < (a : Int)) = true := decide_eq_true (by omega)
          go_wp2_with fail
          refine (hpr _).mono ?_
          rintro e w5 ⟨rfl, he5⟩
          go_wp2_with fail
          refine (hrd _ _ _ _ (by simp)).mono ?_
          rintro e w6 ⟨bb, oo, dd, rfl, ⟨e0, e1, e2⟩, he6⟩
          have f0 := cell_ext (World.cell?_alloc_new w5 _ _ 0) he6
          have f1 := cell_ext (World.cell?_alloc_new w5 _ _ 1) he6
          have f2 := cell_ext (World.cell?_alloc_new w5 _ _ 2) he6
          have hE6 := hEB.trans (he5.trans ((Ext.alloc w5 _).trans he6))
          clear hrd hpr
          go_wp2_with fail
          refine (wakes04 _).mono ?_
          rintro e w7 ⟨rfl, he7⟩
          replace f0 := cell_ext f0 he7
          replace f1 := cell_ext f1 he7
          replace f2 := cell_ext f2 he7
          go_wp2_with fail
          go_ret
          exact ⟨rfl, hE6.trans he7⟩
      · unfold parseAns at hpr
        rw [if_neg (fun h => h16 h.1)] at hpr
        unfold ptrZ at hpr
        go_wp2_with fail
        refine (hpr _).mono ?_
        rintro e w5 ⟨rfl, he5⟩
        go_wp2_with fail
        refine (refread3_no V _ _ _ h16 (by simp)).mono ?_
        rintro e w6 ⟨rfl, he6⟩
        have f0 := cell_ext (World.cell?_alloc_new w5 _ _ 0) he6
        have f1 := cell_ext (World.cell?_alloc_new w5 _ _ 1) he6
        have f2 := cell_ext (World.cell?_alloc_new w5 _ _ 2) he6
        have hE6 := hEB.trans (he5.trans ((Ext.alloc w5 _).trans he6))
        clear hpr
        go_wp2_with fail
        refine (wakes04 _).mono ?_
        rintro e w7 ⟨rfl, he7⟩
        replace f0 := cell_ext f0 he7
        replace f1 := cell_ext f1 he7
        replace f2 := cell_ext f2 he7
        go_wp2_with fail
        go_ret
        exact ⟨rfl, hE6.trans he7⟩
end Go.Proofs.Ytbnpldilkkhgmaa
