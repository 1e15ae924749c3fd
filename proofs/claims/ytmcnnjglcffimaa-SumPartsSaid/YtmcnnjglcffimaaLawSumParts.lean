/- The walk of law02.SumParts. -/
import Derived.Test.YtmcnnjglcffimaaLaw02
import Derived.Deep.DeepCutAuto
import Derived.StillTailTactics
namespace Go.Proofs.Ytmcnnjglcffimaa
open Go.RowKit
theorem head_size (a : ByteArray) (n : Nat) (h : n ≤ a.size) : (a.extract 0 n).size = n := by simp; omega
theorem xor_bytes (a b c : UInt8) : ∃ u : UInt8, u.toNat = a.toNat ^^^ b.toNat ^^^ c.toNat ∧ Go.bits .xor .u8 (Go.bits .xor .u8 (a.toNat : Int) (b.toNat : Int)) (c.toNat : Int) = u.toNat := by
  refine ⟨a ^^^ b ^^^ c, by simp, ?_⟩
  rw [u8_xor_nat _ _ a.toNat_lt b.toNat_lt]
  have h : a.toNat ^^^ b.toNat < 256 := Nat.xor_lt_two_pow (n := 8) a.toNat_lt b.toNat_lt
  rw [u8_xor_nat _ _ h c.toNat_lt]
  simp
theorem parts_flat (A : ByteArray) (i k : Nat) (h1 : i ≤ k) :
    Crc.ofs [A.extract 0 i, A.extract i k, ⟨#[]⟩, A.extract k A.size] = Crc.sum A.data.toList := by
  rw [Crc.ofs_eq]
  congr 1
  have e : ∀ x y : Nat, (A.extract x y).data.toList = (A.data.toList.take y).drop x := fun x y => by simp [ByteArray.data_extract, Array.toList_extract, List.extract_eq_take_drop, List.drop_take]
  simp only [List.flatMap_cons, List.flatMap_nil, e, List.append_nil, List.drop_zero, List.nil_append]
  have hs : A.data.toList.length = A.size := by simp
  rw [List.take_of_length_le (by omega : A.data.toList.length ≤ A.size)]
  have e2 : A.data.toList.take i = (A.data.toList.take k).take i := by rw [List.take_take, Nat.min_eq_left h1]
  rw [e2, ← List.append_assoc, List.take_append_drop, List.take_append_drop]
def FourStr (a b c d : ByteArray) (v : Value) (w : World) : Prop := ∃ pb, v = .slice (some ⟨pb, 0, none⟩) 4 4 ∧ w.cell? ⟨pb, 0, none⟩ = some (.string a) ∧ w.cell? ⟨pb, 1, none⟩ = some (.string b) ∧ w.cell? ⟨pb, 2, none⟩ = some (.string c) ∧ w.cell? ⟨pb, 3, none⟩ = some (.string d)
theorem FourStr.ext {a b c d : ByteArray} {v : Value} {w w' : World} (h : FourStr a b c d v w) (e : Ext w w') : FourStr a b c d v w' :=
  let ⟨p, h0, h1, h2, h3, h4⟩ := h; ⟨p, h0, cell_ext h1 e, cell_ext h2 e, cell_ext h3 e, cell_ext h4 e⟩
theorem of_four (b pb c r : Nat) (s t u v : ByteArray) (w : World) (ht : TabAt w b) (h1 : s.size ≤ maxLen) (h2 : t.size ≤ maxLen) (h3 : u.size ≤ maxLen) (h4 : v.size ≤ maxLen)
    (c0 : w.cell? ⟨pb, 0, none⟩ = some (.string s)) (c1 : w.cell? ⟨pb, 1, none⟩ = some (.string t)) (c2 : w.cell? ⟨pb, 2, none⟩ = some (.string u)) (c3 : w.cell? ⟨pb, 3, none⟩ = some (.string v)) (hr : Crc.ofs [s, t, u, v] = r) :
    Calls Try.prog 15 #[.pointer (some ⟨b, 0, none⟩), .slice (some ⟨pb, 0, none⟩) 4 c] w fun e w' => e = .returned (.int .u32 r) ∧ Ext w w' :=
  (of_any b pb 0 c [s, t, u, v] w ht (by simp) (by simpa using ⟨h1, h2, h3, h4⟩) (by
    intro i h
    match i, h with
    | 0, _ => simpa using c0
    | 1, _ => simpa using c1
    | 2, _ => simpa using c2
    | 3, _ => simpa using c3)).mono fun _ _ ⟨h1, _, h2⟩ => ⟨by rw [h1, hr], h2 ▸ Ext.drewN _ _⟩
theorem min_four (a b c : Nat) : ∃ n : Nat, (∀ w : World, (Builtin.min_ #[3, 3, 3, 3] 3 #[.int .i64 a, .int .i64 b, .int .i64 c, .int .i64 300]).run Try.prog w = .ok (.int .i64 n) w) ∧ n ≤ a ∧ n ≤ b ∧ n ≤ c ∧ n ≤ 300 := by
  refine ⟨min (min (min a b) c) 300, fun w => ?_, by omega, by omega, by omega, by omega⟩
  simp only [Builtin.min_, Builtin.min2, List.foldlM_cons, List.foldlM_nil, pure_bind, Sem.run_pure]
  congr 2
  (repeat' split) <;> omega
set_option maxRecDepth 100000 in
set_option maxHeartbeats 4000000 in
theorem sumParts_walk (s0 s1 s2 : ByteArray) (x y : Nat) (w : World) (_ : s0.size ≤ maxLen) (_ : s1.size ≤ maxLen) (_ : s2.size ≤ maxLen) (hx : x < 65536) (hy : y < 65536) :
    Calls Try.prog 5 #[.agg #[.string s0, .string s1, .string s2], .agg #[.int .u16 x, .int .u16 y]] w fun e w' => e = .returned (.bool true) ∧ Ext w w' := by
  obtain ⟨n, hmin, h0, h1, h2, h3⟩ := min_four s0.size s1.size s2.size
  go_enter Try.func5, Try.ntmps5
  have HMIN := Lib.hid hmin; clear hmin
  go_upto_region 2 with (fail)
  rw [HMIN.out]
  go_upto_region 2 with (fail)
  obtain ⟨i, hi⟩ : ∃ i, i = x % (n + 1) := ⟨_, rfl⟩
  obtain ⟨k, hk⟩ : ∃ k, k = i + y % (n - i + 1) := ⟨_, rfl⟩
  have hin : i ≤ n := by have := Nat.mod_lt x (show n + 1 > 0 by omega); omega
  have hkn : k ≤ n := by have := Nat.mod_lt y (show n - i + 1 > 0 by omega); omega
  have hik : i ≤ k := by omega
  have hiI : (x : Int) % ((n : Int) + 1) = i := by rw [hi, Int.natCast_emod]; rfl
  have hkI : (i : Int) + (y : Int) % ((n : Int) - (i : Int) + 1) = k := by rw [hk, Int.natCast_add, Int.natCast_emod]; congr 2; omega
  have HI := Lib.hid hi; have HK := Lib.hid hk
  clear hi hk
  go_quiet (fail)
  have z0 := head_size s0 n h0
  have z1 := head_size s1 n h1
  have z2 := head_size s2 n h2
  generalize s0.extract 0 n = A at *
  generalize s1.extract 0 n = B at *
  generalize s2.extract 0 n = C at *
  have Z0 := Lib.hid z0; have Z1 := Lib.hid z1; have Z2 := Lib.hid z2
  clear z0 z1 z2
  go_wp2_with fail
  rw [hiI]
  have he0 : Ext w (((w.alloc (.cells #[.string s0, .string s1, .string s2] 34)).alloc (.cells #[.int .u16 x, .int .u16 y] 36)).drewN nq) := ((Ext.alloc _ _).trans (Ext.alloc _ _)).trans (Ext.drewN _ _)
  generalize (((w.alloc (.cells #[.string s0, .string s1, .string s2] 34)).alloc (.cells #[.int .u16 x, .int .u16 y] 36)).drewN nq) = wz at *
  clear hiI hkI
  obtain ⟨wr, hrun, hrow, he1, hlt⟩ := make_bytes wz n (by omega)
  rw [hrun]
  clear hrun
  obtain ⟨Q, hQ⟩ : ∃ Q, Q = wz.heap.size := ⟨_, rfl⟩
  rw [← hQ]
  rw [← hQ] at hrow hlt
  have HQ := Lib.hid hQ; clear hQ
  have HROW := Lib.hid hrow; clear hrow
  go_wp2_with fail
  go_loopw [56] (fun i wx => ∃ (j : Nat) (l : List UInt8), j ≤ n ∧ i = .int .i64 j ∧ l.length = n ∧ Row wx Q l ∧ Ext wz wx ∧ Q < wx.heap.size ∧ (∀ m (h : m < l.length), m < j → l[m].toNat = (A.data.toList.getD m 0).toNat ^^^ (B.data.toList.getD m 0).toNat ^^^ (C.data.toList.getD m 0).toNat)) (fun i _ => n - (intOf i).toNat)
  case atStart => exact ⟨0, _, by omega, rfl, by simp, HROW.out, he1, hlt, fun m _ h => by omega⟩
  case round =>
    obtain ⟨j, l, hj, rfl, hl, hrow, hex, hQx, hxor⟩ := hrel
    have HL := Lib.hid hl; clear hl
    have HR := Lib.hid hrow; clear hrow
    have HX := Lib.hid hxor; clear hxor
    by_cases hjn : j < n
    · have hjA : j < A.size := by rw [Z0.out]; exact hjn
      have hjB : j < B.size := by rw [Z1.out]; exact hjn
      have hjC : j < C.size := by rw [Z2.out]; exact hjn
      have hjl : j < l.length := by rw [HL.out]; exact hjn
      have hcell := (HR.out j hjl).1
      have hfroz := (HR.out j hjl).2
      obtain ⟨u, hu, hux⟩ := xor_bytes A[j] B[j] C[j]
      have HU := Lib.hid hu; clear hu
      go_wp2_with fail
      go_still_tail 14, (by kernel_rfl)
      change wpList _ _ _ _ _ wr.drew
      go_wp2_with fail
      go_roundw
      case rel =>
        refine ⟨j + 1, l.set j u, by omega, by go_num, by simp [HL.out], ?_, ?_, by simpa using hQx, ?_⟩
        · exact (HR.out.set j u).ext (by simpa using hQx) (Ext.drew _)
        · exact (hex.trans_set (by rw [HQ.out]; exact Nat.le_refl _) _ _).trans (Ext.drew _)
        · intro m hm hmj
          by_cases hmj2 : j = m
          · subst hmj2
            have e : ∀ (D : ByteArray) (h : j < D.size), D.data.toList.getD j 0 = D[j] := fun D h => by
              rw [List.getD_eq_getElem?_getD, List.getElem?_eq_getElem (by simpa using h)]; rfl
            rw [List.getElem_set_self, HU.out, e A hjA, e B hjB, e C hjC]
          · rw [List.getElem_set_ne hmj2]
            exact HX.out m (by simpa using hm) (by omega)
      case measure => simp [intOf]; omega
    · obtain rfl : j = n := by omega
      go_wp2_with fail
      refine (make_ext _).mono ?_
      rintro e w4 ⟨t, rfl, hT, he4⟩
      have mA : A.size ≤ maxLen := by rw [Z0.out]; unfold maxLen; omega
      have mB : B.size ≤ maxLen := by rw [Z1.out]; unfold maxLen; omega
      have mC : C.size ≤ maxLen := by rw [Z2.out]; unfold maxLen; omega
      have mL : (⟨l.toArray⟩ : ByteArray).size ≤ maxLen := by have := HL.out; unfold maxLen; show l.toArray.size ≤ _; simp; omega
      have hkA : k ≤ A.size := by rw [Z0.out]; exact hkn
      have m1' : (A.extract 0 i).size ≤ maxLen := by unfold maxLen at *; simp; omega
      have m2' : (A.extract i k).size ≤ maxLen := by unfold maxLen at *; simp; omega
      have m3' : (⟨#[]⟩ : ByteArray).size ≤ maxLen := by show 0 ≤ maxLen; decide
      have m4' : (A.extract k A.size).size ≤ maxLen := by unfold maxLen at *; simp; omega
      have hkA' : (k : Int) ≤ A.size := by omega
      have hiA' : (i : Int) ≤ A.size := by omega
      have hik' : (i : Int) ≤ k := by omega
      have hflat0 := parts_flat A i k hik
      have hr0 : Crc.sum l = Crc.sum A.data.toList ^^^ Crc.sum B.data.toList ^^^ Crc.sum C.data.toList := by
        refine Crc.sum_xor3 l A.data.toList B.data.toList C.data.toList (by have := Z0.out; have := HL.out; simp; omega) (by have := Z1.out; have := HL.out; simp; omega) (by have := Z2.out; have := HL.out; simp; omega) fun m h ha hb hc => ?_
        have h9 := HX.out m h (by have := HL.out; omega)
        rw [h9, List.getD_eq_getElem?_getD, List.getD_eq_getElem?_getD, List.getD_eq_getElem?_getD, List.getElem?_eq_getElem ha, List.getElem?_eq_getElem hb, List.getElem?_eq_getElem hc]; rfl
      have bA := Crc.sum_lt A.data.toList
      have bB := Crc.sum_lt B.data.toList
      have bC := Crc.sum_lt C.data.toList
      have bR := Crc.sum_lt l
      generalize eA : Crc.sum A.data.toList = pA at *
      generalize eB : Crc.sum B.data.toList = pB at *
      generalize eC : Crc.sum C.data.toList = pC at *
      generalize eR : Crc.sum l = r at *
      have e1 : Go.bits .xor .u32 (pA : Int) (pB : Int) = ((pA ^^^ pB : Nat) : Int) := u32_xor_nat pA pB bA bB
      have bAB : pA ^^^ pB < 4294967296 := Nat.xor_lt_two_pow (n := 32) bA bB
      have e2 : Go.bits .xor .u32 ((pA ^^^ pB : Nat) : Int) (pC : Int) = (r : Int) := by rw [u32_xor_nat _ pC bAB bC, hr0]
      generalize pA ^^^ pB = pAB at e1 e2
      have EA := Lib.hid eA; have EB := Lib.hid eB; have EC := Lib.hid eC; have ER : Hid (Crc.sum (⟨l.toArray⟩ : ByteArray).data.toList = r) := eR
      have hflat := Lib.hid hflat0
      clear eA eB eC eR hflat0 hr0
      go_wp2_with fail
      refine wp_region_drift_lit (n := 118) (by kernel_rfl) (by kernel_rfl) (by rfl) ?_
      apply chain_val (.bool true)
      · intro w2 hx  K hK
        simp only [Act.put, List.setIfInBounds_toArray, List.set_cons_zero, List.set_cons_succ] at hK ⊢
        go_simp
        refine (wakes02 _).mono ?_
        rintro e w3 ⟨rfl, he3⟩
        exact hK _ _ he3 rfl
      apply chain_val
      · intro w2 hx  K hK
        simp only [Act.put, List.setIfInBounds_toArray, List.set_cons_zero, List.set_cons_succ] at hK ⊢
        go_simp
        exact hK _ _ (Ext.refl _) rfl
      apply chain_val
      · intro w2 hx  K hK
        simp only [Act.put, List.setIfInBounds_toArray, List.set_cons_zero, List.set_cons_succ] at hK ⊢
        go_simp
        exact hK _ _ (Ext.refl _) rfl
      apply chain_val
      · intro w2 hx  K hK
        simp only [Act.put, List.setIfInBounds_toArray, List.set_cons_zero, List.set_cons_succ] at hK ⊢
        go_simp
        exact hK _ _ (Ext.refl _) rfl
      apply chain_val
      · intro w2 hx  K hK
        simp only [Act.put, List.setIfInBounds_toArray, List.set_cons_zero, List.set_cons_succ] at hK ⊢
        go_simp
        exact hK _ _ (Ext.refl _) rfl
      apply chain_val (.string (A.extract 0 i))
      · intro w2 hx  K hK
        simp only [Act.put, List.setIfInBounds_toArray, List.set_cons_zero, List.set_cons_succ] at hK ⊢
        go_simp
        exact hK _ _ (Ext.refl _) rfl
      apply chain_val
      · intro w2 hx  K hK
        simp only [Act.put, List.setIfInBounds_toArray, List.set_cons_zero, List.set_cons_succ] at hK ⊢
        go_simp
        exact hK _ _ (Ext.refl _) rfl
      apply chain_val
      · intro w2 hx  K hK
        simp only [Act.put, List.setIfInBounds_toArray, List.set_cons_zero, List.set_cons_succ] at hK ⊢
        go_simp
        exact hK _ _ (Ext.refl _) rfl
      apply chain_val
      · intro w2 hx  K hK
        simp only [Act.put, List.setIfInBounds_toArray, List.set_cons_zero, List.set_cons_succ] at hK ⊢
        go_simp
        exact hK _ _ (Ext.refl _) rfl
      apply chain_val (.string (A.extract i k))
      · intro w2 hx  K hK
        simp only [Act.put, List.setIfInBounds_toArray, List.set_cons_zero, List.set_cons_succ] at hK ⊢
        go_simp
        exact hK _ _ (Ext.refl _) rfl
      apply chain_val
      · intro w2 hx  K hK
        simp only [Act.put, List.setIfInBounds_toArray, List.set_cons_zero, List.set_cons_succ] at hK ⊢
        go_simp
        exact hK _ _ (Ext.refl _) rfl
      apply chain_val
      · intro w2 hx  K hK
        simp only [Act.put, List.setIfInBounds_toArray, List.set_cons_zero, List.set_cons_succ] at hK ⊢
        go_simp
        exact hK _ _ (Ext.refl _) rfl
      apply chain_val (.string (A.extract k A.size))
      · intro w2 hx  K hK
        simp only [Act.put, List.setIfInBounds_toArray, List.set_cons_zero, List.set_cons_succ] at hK ⊢
        go_simp
        exact hK _ _ (Ext.refl _) rfl
      refine chain_pred (FourStr (A.extract 0 i) (A.extract i k) ⟨#[]⟩ (A.extract k A.size)) (fun _ _ _ e h => FourStr.ext h e) ?_ ?_
      · intro w2 hx  K hK
        simp only [Act.put, List.setIfInBounds_toArray, List.set_cons_zero, List.set_cons_succ] at hK ⊢
        go_simp
        exact hK _ _ (Ext.alloc _ _) ⟨_, rfl, World.cell?_alloc_new _ _ _ _, World.cell?_alloc_new _ _ _ _, World.cell?_alloc_new _ _ _ _, World.cell?_alloc_new _ _ _ _⟩
      apply chain_val (.int .u32 (pA : Nat))
      · intro w2 hx v13 h13 K hK
        simp only [Act.put, List.setIfInBounds_toArray, List.set_cons_zero, List.set_cons_succ] at hK ⊢
        obtain ⟨b2, rfl, c0, c1, c2, c3⟩ := h13
        go_simp
        refine (of_four t _ _ pA _ _ _ _ w2 (hT.ext hx) m1' m2' m3' m4' c0 c1 c2 c3 hflat.out).mono ?_
        rintro e w3 ⟨rfl, he3⟩
        exact hK _ _ he3 rfl
      apply chain_val
      · intro w2 hx  K hK
        simp only [Act.put, List.setIfInBounds_toArray, List.set_cons_zero, List.set_cons_succ] at hK ⊢
        go_simp
        exact hK _ _ (Ext.refl _) rfl
      apply chain_val
      · intro w2 hx  K hK
        simp only [Act.put, List.setIfInBounds_toArray, List.set_cons_zero, List.set_cons_succ] at hK ⊢
        go_simp
        exact hK _ _ (Ext.refl _) rfl
      refine chain_pred (OneStr A) (fun _ _ _ e h => OneStr.ext h e) ?_ ?_
      · intro w2 hx  K hK
        simp only [Act.put, List.setIfInBounds_toArray, List.set_cons_zero, List.set_cons_succ] at hK ⊢
        go_simp
        exact hK _ _ (Ext.alloc _ _) ⟨_, rfl, World.cell?_alloc_new _ _ _ _⟩
      apply chain_val (.int .u32 (pA : Nat))
      · intro w2 hx v17 h17 K hK
        simp only [Act.put, List.setIfInBounds_toArray, List.set_cons_zero, List.set_cons_succ] at hK ⊢
        obtain ⟨b2, rfl, hc2⟩ := h17
        go_simp
        refine (of_one t _ _ A w2 (hT.ext hx) mA hc2).mono ?_
        rw [EA.out]
        rintro e w3 ⟨rfl, he3⟩
        exact hK _ _ he3 rfl
      apply chain_val
      · intro w2 hx  K hK
        simp only [Act.put, List.setIfInBounds_toArray, List.set_cons_zero, List.set_cons_succ] at hK ⊢
        go_simp
        exact hK _ _ (Ext.refl _) rfl
      apply chain_val
      · intro w2 hx  K hK
        simp only [Act.put, List.setIfInBounds_toArray, List.set_cons_zero, List.set_cons_succ] at hK ⊢
        go_simp
        exact hK _ _ (Ext.refl _) rfl
      apply chain_val
      · intro w2 hx  K hK
        simp only [Act.put, List.setIfInBounds_toArray, List.set_cons_zero, List.set_cons_succ] at hK ⊢
        go_simp
        exact hK _ _ (Ext.refl _) rfl
      apply chain_val
      · intro w2 hx  K hK
        simp only [Act.put, List.setIfInBounds_toArray, List.set_cons_zero, List.set_cons_succ] at hK ⊢
        go_simp
        exact hK _ _ (Ext.refl _) rfl
      apply chain_val
      · intro w2 hx  K hK
        simp only [Act.put, List.setIfInBounds_toArray, List.set_cons_zero, List.set_cons_succ] at hK ⊢
        go_simp
        exact hK _ _ (Ext.refl _) rfl
      apply chain_val (.string ⟨l.toArray⟩)
      · intro w2 hx  K hK
        simp only [Act.put, List.setIfInBounds_toArray, List.set_cons_zero, List.set_cons_succ] at hK ⊢
        have hcv : (convert 32 9 (.slice (some ⟨Q, 0, none⟩) j j)).run Try.prog w2 = .ok (.string ⟨l.toArray⟩) w2 := by have h9 := conv_string w2 Q j l (HR.out.ext hQx (he4.trans hx)); rw [HL.out] at h9; exact h9
        go_simp
        exact hK _ _ (Ext.refl _) rfl
      refine chain_pred (OneStr ⟨l.toArray⟩) (fun _ _ _ e h => OneStr.ext h e) ?_ ?_
      · intro w2 hx  K hK
        simp only [Act.put, List.setIfInBounds_toArray, List.set_cons_zero, List.set_cons_succ] at hK ⊢
        go_simp
        exact hK _ _ (Ext.alloc _ _) ⟨_, rfl, World.cell?_alloc_new _ _ _ _⟩
      apply chain_val (.int .u32 (r : Nat))
      · intro w2 hx v25 h25 K hK
        simp only [Act.put, List.setIfInBounds_toArray, List.set_cons_zero, List.set_cons_succ] at hK ⊢
        obtain ⟨b2, rfl, hc2⟩ := h25
        go_simp
        refine (of_one t _ _ ⟨l.toArray⟩ w2 (hT.ext hx) mL hc2).mono ?_
        rw [ER.out]
        rintro e w3 ⟨rfl, he3⟩
        exact hK _ _ he3 rfl
      apply chain_val
      · intro w2 hx  K hK
        simp only [Act.put, List.setIfInBounds_toArray, List.set_cons_zero, List.set_cons_succ] at hK ⊢
        go_simp
        exact hK _ _ (Ext.refl _) rfl
      apply chain_val
      · intro w2 hx  K hK
        simp only [Act.put, List.setIfInBounds_toArray, List.set_cons_zero, List.set_cons_succ] at hK ⊢
        go_simp
        exact hK _ _ (Ext.refl _) rfl
      refine chain_pred (OneStr A) (fun _ _ _ e h => OneStr.ext h e) ?_ ?_
      · intro w2 hx  K hK
        simp only [Act.put, List.setIfInBounds_toArray, List.set_cons_zero, List.set_cons_succ] at hK ⊢
        go_simp
        exact hK _ _ (Ext.alloc _ _) ⟨_, rfl, World.cell?_alloc_new _ _ _ _⟩
      apply chain_val (.int .u32 (pA : Nat))
      · intro w2 hx v29 h29 K hK
        simp only [Act.put, List.setIfInBounds_toArray, List.set_cons_zero, List.set_cons_succ] at hK ⊢
        obtain ⟨b2, rfl, hc2⟩ := h29
        go_simp
        refine (of_one t _ _ A w2 (hT.ext hx) mA hc2).mono ?_
        rw [EA.out]
        rintro e w3 ⟨rfl, he3⟩
        exact hK _ _ he3 rfl
      apply chain_val
      · intro w2 hx  K hK
        simp only [Act.put, List.setIfInBounds_toArray, List.set_cons_zero, List.set_cons_succ] at hK ⊢
        go_simp
        exact hK _ _ (Ext.refl _) rfl
      apply chain_val
      · intro w2 hx  K hK
        simp only [Act.put, List.setIfInBounds_toArray, List.set_cons_zero, List.set_cons_succ] at hK ⊢
        go_simp
        exact hK _ _ (Ext.refl _) rfl
      refine chain_pred (OneStr B) (fun _ _ _ e h => OneStr.ext h e) ?_ ?_
      · intro w2 hx  K hK
        simp only [Act.put, List.setIfInBounds_toArray, List.set_cons_zero, List.set_cons_succ] at hK ⊢
        go_simp
        exact hK _ _ (Ext.alloc _ _) ⟨_, rfl, World.cell?_alloc_new _ _ _ _⟩
      apply chain_val (.int .u32 (pB : Nat))
      · intro w2 hx v33 h33 K hK
        simp only [Act.put, List.setIfInBounds_toArray, List.set_cons_zero, List.set_cons_succ] at hK ⊢
        obtain ⟨b2, rfl, hc2⟩ := h33
        go_simp
        refine (of_one t _ _ B w2 (hT.ext hx) mB hc2).mono ?_
        rw [EB.out]
        rintro e w3 ⟨rfl, he3⟩
        exact hK _ _ he3 rfl
      apply chain_val (.int .u32 (pAB : Int))
      · intro w2 hx  K hK
        simp only [Act.put, List.setIfInBounds_toArray, List.set_cons_zero, List.set_cons_succ] at hK ⊢
        go_simp
        exact hK _ _ (Ext.refl _) rfl
      apply chain_val
      · intro w2 hx  K hK
        simp only [Act.put, List.setIfInBounds_toArray, List.set_cons_zero, List.set_cons_succ] at hK ⊢
        go_simp
        exact hK _ _ (Ext.refl _) rfl
      apply chain_val
      · intro w2 hx  K hK
        simp only [Act.put, List.setIfInBounds_toArray, List.set_cons_zero, List.set_cons_succ] at hK ⊢
        go_simp
        exact hK _ _ (Ext.refl _) rfl
      refine chain_pred (OneStr C) (fun _ _ _ e h => OneStr.ext h e) ?_ ?_
      · intro w2 hx  K hK
        simp only [Act.put, List.setIfInBounds_toArray, List.set_cons_zero, List.set_cons_succ] at hK ⊢
        go_simp
        exact hK _ _ (Ext.alloc _ _) ⟨_, rfl, World.cell?_alloc_new _ _ _ _⟩
      apply chain_val (.int .u32 (pC : Nat))
      · intro w2 hx v38 h38 K hK
        simp only [Act.put, List.setIfInBounds_toArray, List.set_cons_zero, List.set_cons_succ] at hK ⊢
        obtain ⟨b2, rfl, hc2⟩ := h38
        go_simp
        refine (of_one t _ _ C w2 (hT.ext hx) mC hc2).mono ?_
        rw [EC.out]
        rintro e w3 ⟨rfl, he3⟩
        exact hK _ _ he3 rfl
      apply chain_val (.int .u32 (r : Nat))
      · intro w2 hx  K hK
        simp only [Act.put, List.setIfInBounds_toArray, List.set_cons_zero, List.set_cons_succ] at hK ⊢
        go_simp
        exact hK _ _ (Ext.refl _) rfl
      apply chain_val
      · intro w2 hx  K hK
        simp only [Act.put, List.setIfInBounds_toArray, List.set_cons_zero, List.set_cons_succ] at hK ⊢
        go_simp
        exact hK _ _ (Ext.refl _) rfl
      apply chain_val
      · intro w2 hx  K hK
        simp only [Act.put, List.setIfInBounds_toArray, List.set_cons_zero, List.set_cons_succ] at hK ⊢
        go_simp
        exact hK _ _ (Ext.refl _) rfl
      apply chain_val
      · intro w2 hx v13 h13 v17 h17 v25 h25 v29 h29 v33 h33 v38 h38 K hK
        simp only [Act.put, List.setIfInBounds_toArray, List.set_cons_zero, List.set_cons_succ] at hK ⊢
        go_simp
        exact hK _ _ (Ext.refl _) rfl
      refine chain_end fun w2 hx => ?_
      simp only [List.reverse_cons, List.reverse_nil, List.nil_append, List.cons_append, withDeps, Act.put, List.setIfInBounds_toArray, List.set_cons_zero, List.set_cons_succ]
      intro v13 h13 v17 h17 v25 h25 v29 h29 v33 h33 v38 h38
      go_wp2_with fail
      go_ret
      exact ⟨rfl, he0.trans (hex.trans (he4.trans hx))⟩
end Go.Proofs.Ytmcnnjglcffimaa
