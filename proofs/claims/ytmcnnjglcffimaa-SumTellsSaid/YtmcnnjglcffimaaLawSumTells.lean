/- The walk of law02.SumTells. No condition. -/
import Derived.Test.YtmcnnjglcffimaaLaw02
import Derived.Test.YtmcnnjglcffimaaBytes
import Derived.Deep.DeepCutAuto
import Derived.StillTailTactics
namespace Go.Proofs.Ytmcnnjglcffimaa
open Go.RowKit
theorem cut_size (a : ByteArray) (n : Nat) : (a.extract 0 n).size ≤ n := by simp; omega
theorem flip_byte (u : UInt8) (x : Nat) (hx : x < 8) : ∃ v : UInt8, v.toNat = u.toNat ^^^ 2 ^ x ∧ Go.bits .xor .u8 (u.toNat : Int) ((2 : Int) ^ x % 256) = v.toNat := by
  have h2 : 2 ^ x < 256 := Nat.lt_of_lt_of_le (Nat.pow_lt_pow_right (by decide) hx) (by decide)
  have h1 : u.toNat ^^^ 2 ^ x < 256 := Nat.xor_lt_two_pow (n := 8) u.toNat_lt h2
  refine ⟨UInt8.ofNat (u.toNat ^^^ 2 ^ x), ?_, ?_⟩
  · exact UInt8.toNat_ofNat_of_lt h1
  · have e : (2 : Int) ^ x % 256 = ((2 ^ x : Nat) : Int) := by
      rw [show (2 : Int) ^ x = ((2 ^ x : Nat) : Int) from by simp]
      generalize 2 ^ x = p at *
      omega
    rw [e, u8_xor_nat _ _ u.toNat_lt h2]; exact congrArg _ (UInt8.toNat_ofNat_of_lt h1).symm
set_option maxRecDepth 100000 in
set_option maxHeartbeats 2000000 in
theorem sumTells_walk (s : ByteArray) (at_ bits : Nat) (w : World) (hs : s.size ≤ maxLen) (ha : at_ < 65536) (hb : bits < 4294967296) : Calls Try.prog 6 #[.string s, .int .u16 at_, .int .u32 bits] w fun e w' => e = .returned (.bool true) ∧ Ext w w' := by
  unfold maxLen at hs
  go_enter Try.func6, Try.ntmps6
  go_upto_region 1 with (fail)
  go_cut [0] (fun x wr => ∃ S : ByteArray, x = .string S ∧ S.size ≤ 300 ∧ Ext w wr)
  case first =>
    go_wp2_with fail
    all_goals go_meet
    all_goals exact ⟨_, rfl, by first | exact cut_size _ _ | omega, Ext.refl _⟩
  case rest =>
    obtain ⟨S, rfl, hS, he⟩ := hcut
    by_cases h5 : S.size < 5
    · have h5' : decide ((S.size : Int) < 5) = true := by simp; omega
      go_wp2_with fail
      refine (wakes02 _).mono ?_
      rintro e w1 ⟨rfl, he1⟩
      go_wp2_with fail
      refine (wakes02 _).mono ?_
      rintro e w2 ⟨rfl, he2⟩
      go_wp2_with fail
      go_ret
      exact ⟨rfl, he.trans (he1.trans he2)⟩
    · by_cases hb0 : bits = 0
      · subst hb0
        have h5' : decide ((S.size : Int) < 5) = false := by simp; omega
        go_wp2_with fail
        refine (wakes02 _).mono ?_
        rintro e w1 ⟨rfl, he1⟩
        go_wp2_with fail
        refine (wakes02 _).mono ?_
        rintro e w2 ⟨rfl, he2⟩
        go_wp2_with fail
        go_ret
        exact ⟨rfl, he.trans (he1.trans he2)⟩
      · have h5' : decide ((S.size : Int) < 5) = false := by simp; omega
        have hb1 : ((bits : Int) == 0) = false := by simp; omega
        go_wp2_with fail
        refine (wakes02 _).mono ?_
        rintro e w1 ⟨rfl, he1⟩
        go_wp2_with fail
        obtain ⟨wr, cap, hrun, hrow, he2, hlt⟩ := conv_bytes w1 S
        rw [hrun]
        clear hrun
        go_wp2_with fail
        obtain ⟨f, hf⟩ : ∃ f, f = at_ % (8 * (S.size - 4)) := ⟨_, rfl⟩
        have hfI : (at_ : Int) % (8 * ((S.size : Int) - 4)) = (f : Int) := by rw [hf, Int.natCast_emod]; congr 1; omega
        have hfb : f < 8 * (S.size - 4) := by rw [hf]; exact Nat.mod_lt _ (by omega)
        rw [hfI]
        clear hf hfI
        have HROW := Lib.hid hrow; clear hrow
        obtain ⟨B, hB⟩ : ∃ B, B = w1.heap.size := ⟨_, rfl⟩
        rw [← hB]
        have HB := Lib.hid hB; clear hB
        go_loopw [36] (fun i wx => ∃ (k : Nat) (l : List UInt8), k ≤ 32 ∧ i = .int .i64 k ∧ l.length = S.size ∧ Row wx B l ∧ Ext w1 wx ∧ B < wx.heap.size ∧ Crc.le l = Crc.le S.data.toList ^^^ (bits % 2 ^ k) <<< f) (fun i _ => 32 - (intOf i).toNat)
        case atStart => exact ⟨0, S.data.toList, by omega, rfl, by simp, by rw [HB.out]; exact HROW.out, he2, by rw [HB.out]; exact hlt, by simp [Nat.mod_one]⟩
        case round =>
          obtain ⟨k, l, hk, rfl, hl, hrow, hex, hBx, hle⟩ := hrel
          have HL := Lib.hid hl; clear hl
          have HR := Lib.hid hrow; clear hrow
          have HE := Lib.hid hle; clear hle
          by_cases hk32 : k < 32
          · have e1 : Go.bits .and .u32 ((bits : Int) / 2 ^ k) 1 = ((bits / 2 ^ k % 2 : Nat) : Int) := by
              have h9 := u32_and_nat (bits / 2 ^ k) 1 (Nat.lt_of_le_of_lt (Nat.div_le_self _ _) hb) (by decide)
              rw [Nat.and_one_is_mod] at h9
              rw [← h9]
              simp
            by_cases hbit : bits / 2 ^ k % 2 = 1
            · have q : (Go.bits .and .u32 ((bits : Int) / 2 ^ k) 1 == 1) = true := by rw [e1, hbit]; rfl
              clear e1
              obtain ⟨z, hz⟩ : ∃ z, z = f + k := ⟨_, rfl⟩
              obtain ⟨y, hy⟩ : ∃ y, y = z / 8 := ⟨_, rfl⟩
              obtain ⟨x, hx⟩ : ∃ x, x = z % 8 := ⟨_, rfl⟩
              have hyl : y < l.length := by have := HL.out; omega
              have hcell := (HR.out y hyl).1
              have hfroz := (HR.out y hyl).2
              obtain ⟨u, hu⟩ : ∃ u, u = l[y] := ⟨_, rfl⟩
              rw [← hu] at hcell
              have hw1 : IntKind.i64.wrap ((f : Int) + k) = z := by rw [hz, IntKind.wrap_i64]; omega
              have hw2 : IntKind.i64.wrap ((z : Int) / 8) = y := by rw [hy, IntKind.wrap_i64]; omega
              have hw3 : (z : Int).tmod 8 = x := by rw [Int.tmod_eq_emod_of_nonneg (by omega)]; omega
              have hw4 : (y : Int) < (S.size : Int) := by omega
              have hw5 : (0 : Int) ≤ (y : Int) := by omega
              have hx8 : x < 8 := by omega
              obtain ⟨v, hv, hvx⟩ : ∃ v : UInt8, v.toNat = u.toNat ^^^ 2 ^ x ∧ Go.bits .xor .u8 (u.toNat : Int) ((2 : Int) ^ x % 256) = v.toNat := flip_byte u x hx8
              have HV := Lib.hid hv; clear hv
              have HZ := Lib.hid hz; have HY := Lib.hid hy; have HX := Lib.hid hx; have HU := Lib.hid hu
              clear hy hx hz hu
              go_wp2_with fail
              go_still_tail 14, (by kernel_rfl)
              change wpList _ _ _ _ _ wr.drew
              go_wp2_with fail
              go_roundw
              case rel =>
                have hnx := Crc.burst_next bits k f hbit
                refine ⟨k + 1, l.set y v, by omega, by go_num, by simp [HL.out], ?_, ?_, by simpa using hBx, ?_⟩
                · exact (HR.out.set y v).ext (by simpa using hBx) (Ext.drew _)
                · exact (hex.trans_set (by rw [HB.out]; exact Nat.le_refl _) _ _).trans (Ext.drew _)
                · rw [Crc.le_set l y x v hyl (by rw [HV.out, HU.out]), HE.out, hnx, Nat.xor_assoc]
                  congr 2
                  have := HX.out; have := HY.out; have := HZ.out
                  congr 1
                  omega
              case measure => simp [intOf]; omega
            · have q : (Go.bits .and .u32 ((bits : Int) / 2 ^ k) 1 == 1) = false := by
                rw [e1]
                have : bits / 2 ^ k % 2 = 0 := by omega
                rw [this]; rfl
              clear e1
              have hbs := Lib.hid (Crc.burst_same bits k f hbit)
              clear hbit
              go_wp2_with fail
              go_roundw
              case rel => exact ⟨k + 1, l, by omega, by go_num, HL.out, HR.out, hex, hBx, by rw [hbs.out]; exact HE.out⟩
              case measure => simp [intOf]; omega
          · obtain rfl : k = 32 := by omega
            have mS : S.size ≤ maxLen := by unfold maxLen; omega
            have mL : (⟨l.toArray⟩ : ByteArray).size ≤ maxLen := by have := HL.out; unfold maxLen; show l.toArray.size ≤ _; simp; omega
            have hne := Crc.burst_ne (by rw [HL.out]; simp) hb hb0 (show f ≤ 8 * S.data.toList.length by simp; omega) (by rw [HE.out, Nat.mod_eq_of_lt (show bits < 2 ^ 32 from hb)])
            have hneq : (((Crc.sum l : Nat) : Int) != ((Crc.sum S.data.toList : Nat) : Int)) = true := by simp; omega
            have HNE := Lib.hid hne; clear hne
            go_wp2_with fail
            refine wp_region_drift_lit (n := 69) (by kernel_rfl) (by kernel_rfl) (by rfl) ?_
            refine chain_pred (TabPtr) (fun _ _ _ e h => TabPtr.ext h e) ?_ ?_
            · intro w2 hx  K hK
              simp only [Act.put, List.setIfInBounds_toArray, List.set_cons_zero, List.set_cons_succ] at hK ⊢
              go_simp
              refine (make_ext _).mono ?_
              rintro e w3 ⟨b, rfl, hT3, he3⟩
              exact hK _ _ he3 ⟨b, rfl, hT3⟩
            apply chain_val
            · intro w2 hx  K hK
              simp only [Act.put, List.setIfInBounds_toArray, List.set_cons_zero, List.set_cons_succ] at hK ⊢
              go_simp
              exact hK _ _ (Ext.refl _) rfl
            apply chain_val
            · intro w2 hx  K hK
              simp only [Act.put, List.setIfInBounds_toArray, List.set_cons_zero, List.set_cons_succ] at hK ⊢
              have hcv : (convert 32 9 (.slice (some ⟨B, 0, none⟩) S.size cap)).run Try.prog w2 = .ok (.string ⟨l.toArray⟩) w2 := by rw [← HL.out]; exact conv_string w2 B cap l (HR.out.ext hBx hx)
              go_simp
              exact hK _ _ (Ext.refl _) rfl
            refine chain_pred (OneStr ⟨l.toArray⟩) (fun _ _ _ e h => OneStr.ext h e) ?_ ?_
            · intro w2 hx  K hK
              simp only [Act.put, List.setIfInBounds_toArray, List.set_cons_zero, List.set_cons_succ] at hK ⊢
              go_simp
              exact hK _ _ (Ext.alloc _ _) ⟨_, rfl, World.cell?_alloc_new _ _ _ _⟩
            apply chain_val (.int .u32 (Crc.sum l))
            · intro w2 hx _ _ v3 h3 v0 h0 K hK
              simp only [Act.put, List.setIfInBounds_toArray, List.set_cons_zero, List.set_cons_succ] at hK ⊢
              obtain ⟨b1, rfl, hT1⟩ := h0
              obtain ⟨b2, rfl, hc2⟩ := h3
              go_simp
              refine (of_one _ _ _ ⟨l.toArray⟩ w2 hT1 mL hc2).mono ?_
              rintro e w3 ⟨rfl, he3⟩
              exact hK _ _ he3 rfl
            refine chain_pred (TabPtr) (fun _ _ _ e h => TabPtr.ext h e) ?_ ?_
            · intro w2 hx  K hK
              simp only [Act.put, List.setIfInBounds_toArray, List.set_cons_zero, List.set_cons_succ] at hK ⊢
              go_simp
              refine (make_ext _).mono ?_
              rintro e w3 ⟨b, rfl, hT3, he3⟩
              exact hK _ _ he3 ⟨b, rfl, hT3⟩
            apply chain_val
            · intro w2 hx  K hK
              simp only [Act.put, List.setIfInBounds_toArray, List.set_cons_zero, List.set_cons_succ] at hK ⊢
              go_simp
              exact hK _ _ (Ext.refl _) rfl
            refine chain_pred (OneStr S) (fun _ _ _ e h => OneStr.ext h e) ?_ ?_
            · intro w2 hx  K hK
              simp only [Act.put, List.setIfInBounds_toArray, List.set_cons_zero, List.set_cons_succ] at hK ⊢
              go_simp
              exact hK _ _ (Ext.alloc _ _) ⟨_, rfl, World.cell?_alloc_new _ _ _ _⟩
            apply chain_val (.int .u32 (Crc.sum S.data.toList))
            · intro w2 hx _ _ v7 h7 v5 h5 K hK
              simp only [Act.put, List.setIfInBounds_toArray, List.set_cons_zero, List.set_cons_succ] at hK ⊢
              obtain ⟨b1, rfl, hT1⟩ := h5
              obtain ⟨b2, rfl, hc2⟩ := h7
              go_simp
              refine (of_one _ _ _ S w2 hT1 mS hc2).mono ?_
              rintro e w3 ⟨rfl, he3⟩
              exact hK _ _ he3 rfl
            apply chain_val (.bool true)
            · intro w2 hx  K hK
              simp only [Act.put, List.setIfInBounds_toArray, List.set_cons_zero, List.set_cons_succ] at hK ⊢
              go_simp
              exact hK _ _ (Ext.refl _) rfl
            apply chain_val (.bool true)
            · intro w2 hx v0 h0 v3 h3 v5 h5 v7 h7 K hK
              simp only [Act.put, List.setIfInBounds_toArray, List.set_cons_zero, List.set_cons_succ] at hK ⊢
              go_simp
              exact hK _ _ (Ext.refl _) rfl
            refine chain_end fun w2 hx => ?_
            simp only [List.reverse_cons, List.reverse_nil, List.nil_append, List.cons_append, withDeps, Act.put, List.setIfInBounds_toArray, List.set_cons_zero, List.set_cons_succ]
            intro v0 h0 v3 h3 v5 h5 v7 h7
            go_wp2_with fail
            go_ret
            exact ⟨rfl, he.trans (he1.trans (hex.trans hx))⟩
end Go.Proofs.Ytmcnnjglcffimaa
