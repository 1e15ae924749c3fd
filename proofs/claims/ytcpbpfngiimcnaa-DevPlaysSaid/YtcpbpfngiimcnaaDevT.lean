/- turn, the document's and the program's. -/
import Derived.Test.YtcpbpfngiimcnaaDevS
import Derived.Laws.BitsAllLaws
namespace Go.Proofs.Ytcpbpfngiimcnaa
open Go.RowKit
theorem Dev.turn_at {s : ByteArray} {a : Nat} {y : UInt8} (ha : a < s.data.toList.length) : Dev.turn s a y = ⟨(s.data.toList.set a (s.data.toList[a] ^^^ y)).toArray⟩ := by
  unfold Dev.turn
  rw [List.getD_eq_getElem?_getD, List.getElem?_eq_getElem ha]
  rfl
theorem Dev.turn_size {s : ByteArray} {a : Nat} {y : UInt8} : (Dev.turn s a y).size = s.size := by
  show ((s.data.toList.set a _).toArray).size = s.data.size
  simp
theorem xor_byte (x y : UInt8) : bits .xor .u8 (x.toNat : Int) (y.toNat : Int) = (((x ^^^ y).toNat : Nat) : Int) := by
  rw [u8_xor_nat _ _ x.toNat_lt y.toNat_lt, UInt8.toNat_xor]
set_option maxRecDepth 100000 in
set_option maxHeartbeats 4000000 in
theorem refturn_any (s : ByteArray) (a : Nat) (y : UInt8) (ha : a < s.size) (w : World) : Calls Try.prog 55 #[.string s, .int .i64 (a : Int), .int .u8 (y.toNat : Int)] w fun e w' => e = .returned (.string (Dev.turn s a y)) ∧ Ext w w' := by
  obtain ⟨w1, cap, hcv, hrow, hx, hlt⟩ := conv_bytes w s
  have hBw : w.heap.size ≤ w.heap.size := Nat.le_refl _
  obtain ⟨B, hB⟩ : ∃ B, w.heap.size = B := ⟨_, rfl⟩
  rw [hB] at hcv hrow hlt
  have hal : a < s.data.toList.length := by rw [Array.length_toList]; exact ha
  obtain ⟨hc, hf⟩ := hrow a hal
  have hx1 := xor_byte s.data.toList[a] y
  have hrow2 := hrow.set a (s.data.toList[a] ^^^ y)
  have hst := conv_string _ B cap _ hrow2
  have hll : (s.data.toList.set a (s.data.toList[a] ^^^ y)).length = s.size := by rw [List.length_set, Array.length_toList]; rfl
  rw [hll] at hst
  have HT := Lib.hid (Dev.turn_at (y := y) hal)
  have hE := hx.trans_set (b := B) (by omega) a (.int .u8 ((s.data.toList[a] ^^^ y).toNat : Int))
  have HE := Lib.hid hE
  have h0 : 0 ≤ (a : Int) ∧ (a : Int) < (s.size : Int) := by omega
  generalize s.data.toList.set a (s.data.toList[a] ^^^ y) = L at *
  generalize s.data.toList[a] = x at *
  generalize x ^^^ y = z at *
  clear hrow hrow2 hll hal hx hE hB hBw
  go_enter Try.func55, Try.ntmps55
  go_wp2_with fail
  go_ret
  rw [HT.out]
  exact ⟨rfl, HE.out⟩
theorem extract_turn {s : ByteArray} {a : Nat} {z : UInt8} (ha : a < s.size) : s.extract 0 a ++ ⟨#[z]⟩ ++ s.extract (a + 1) s.size = ⟨(s.data.toList.set a z).toArray⟩ := by
  apply Dev.bytes_ext
  simp only [ByteArray.data_append, Array.toList_append, ByteArray.data_extract, Array.toList_extract]
  apply List.ext_getElem?
  intro i
  have hs : s.data.toList.length = s.size := by rw [Array.length_toList]; rfl
  simp only [List.extract_eq_take_drop, List.drop_zero, Nat.sub_zero]
  by_cases h1 : i < a
  · rw [List.append_assoc, List.getElem?_append_left (by rw [List.length_take]; omega), List.getElem?_take, if_pos h1, List.getElem?_set_ne (by omega)]
  · by_cases h2 : i = a
    · subst h2
      rw [List.append_assoc, List.getElem?_append_right (by rw [List.length_take]; omega), List.length_take, Nat.min_eq_left (by omega), Nat.sub_self, List.getElem?_set_self (by omega)]
      rfl
    · rw [List.getElem?_append_right (by rw [List.length_append, List.length_take]; simp; omega), List.getElem?_set_ne (by omega), List.getElem?_take, List.getElem?_drop]
      simp only [List.length_append, List.length_take]
      have e : a + 1 + (i - (min a s.data.toList.length + #[z].toList.length)) = i := by simp; omega
      rw [e]
      split
      · rfl
      · rw [List.getElem?_eq_none (by simp at *; omega)]
/-- a fresh slice of one byte -/
def OneB (z : UInt8) (v : Value) (w : World) : Prop := ∃ b c, v = .slice (some ⟨b, 0, none⟩) 1 c ∧ w.cell? ⟨b, 0, none⟩ = some (.int .u8 (z.toNat : Int))
theorem OneB.ext {z : UInt8} {v : Value} {w w' : World} (h : OneB z v w) (e : Ext w w') : OneB z v w' := by
  obtain ⟨b, c, rfl, hc⟩ := h
  exact ⟨b, c, rfl, cell_ext hc e⟩
theorem conv_oneB {z : UInt8} {w : World} {b c : Nat} (h : w.cell? ⟨b, 0, none⟩ = some (.int .u8 (z.toNat : Int))) : (convert 22 9 (.slice (some ⟨b, 0, none⟩) 1 c)).run Try.prog w = .ok (.string ⟨#[z]⟩) w :=
  run_convert_bytes_back (P := Try.prog) w 22 9 5 ⟨b, 0, none⟩ c [z] Try.underlying22 Try.underlying5 Try.underlying9 (by
    intro j hj
    match j, hj with
    | 0, _ => exact h)
set_option maxRecDepth 100000 in
set_option maxHeartbeats 4000000 in
theorem devturn_any (s : ByteArray) (a : Nat) (y : UInt8) (ha : a < s.size) (hsz : s.size ≤ 1000000) (w : World) : Calls Try.prog 54 #[.string s, .int .i64 (a : Int), .int .u8 (y.toNat : Int)] w fun e w' => e = .returned (.string (Dev.turn s a y)) ∧ Ext w w' := by
  have hal : a < s.data.toList.length := by rw [Array.length_toList]; exact ha
  have HT := Lib.hid (Dev.turn_at (y := y) hal)
  have hx1 := xor_byte s.data.toList[a] y
  have HX := Lib.hid (extract_turn (z := s.data.toList[a] ^^^ y) ha)
  have HBX := Lib.hid (show s[a]'ha = s.data.toList[a] from rfl)
  generalize s.data.toList[a] = x at *
  generalize x ^^^ y = z at *
  have h0 : 0 ≤ (a : Int) ∧ (a : Int) < (s.size : Int) := by omega
  have h1 : (a : Int) ≤ (s.size : Int) := by omega
  have h2 : (a : Int) + 1 ≤ (s.size : Int) := by omega
  have hwp : IntKind.i64.wrap ((a : Int) + 1) = (a : Int) + 1 := by rw [IntKind.wrap_i64]; omega
  clear hal
  go_enter Try.func54, Try.ntmps54
  go_upto_region 1 with (fail)
  refine wp_region_drift_lit (n := 23) (by kernel_rfl) (by kernel_rfl) (by rfl) ?_
  apply chain_val
  · intro w2 hx  K hK
    simp only [Act.put, List.setIfInBounds_toArray, List.set_cons_zero, List.set_cons_succ] at hK ⊢
    go_simp
    exact hK _ _ (Ext.refl _) rfl
  apply chain_val
  · intro w2 hx  K hK
    simp only [Act.put, List.setIfInBounds_toArray, List.set_cons_zero, List.set_cons_succ] at hK ⊢
    go_simp
    exact hK _ _ (Ext.refl _) rfl
  apply chain_val (.string (s.extract 0 a))
  · intro w2 hx  K hK
    simp only [Act.put, List.setIfInBounds_toArray, List.set_cons_zero, List.set_cons_succ] at hK ⊢
    go_simp
    exact hK _ _ (Ext.refl _) rfl
  apply chain_val
  · intro w2 hx  K hK
    simp only [Act.put, List.setIfInBounds_toArray, List.set_cons_zero, List.set_cons_succ] at hK ⊢
    go_simp
    exact hK _ _ (Ext.refl _) rfl
  apply chain_val
  · intro w2 hx  K hK
    simp only [Act.put, List.setIfInBounds_toArray, List.set_cons_zero, List.set_cons_succ] at hK ⊢
    go_simp
    exact hK _ _ (Ext.refl _) rfl
  apply chain_val (.int .u8 (x.toNat : Int))
  · intro w2 hx  K hK
    simp only [Act.put, List.setIfInBounds_toArray, List.set_cons_zero, List.set_cons_succ] at hK ⊢
    go_simp
    refine hK _ _ (Ext.refl _) ?_
    rw [← HBX.out]
    rfl
  apply chain_val
  · intro w2 hx  K hK
    simp only [Act.put, List.setIfInBounds_toArray, List.set_cons_zero, List.set_cons_succ] at hK ⊢
    go_simp
    exact hK _ _ (Ext.refl _) rfl
  apply chain_val (.int .u8 (z.toNat : Int))
  · intro w2 hx  K hK
    simp only [Act.put, List.setIfInBounds_toArray, List.set_cons_zero, List.set_cons_succ] at hK ⊢
    go_simp
    exact hK _ _ (Ext.refl _) rfl
  refine chain_pred (OneB z) (fun _ _ _ e h => OneB.ext h e) ?_ ?_
  · intro w2 hx  K hK
    simp only [Act.put, List.setIfInBounds_toArray, List.set_cons_zero, List.set_cons_succ] at hK ⊢
    go_simp
    exact hK _ _ (Ext.alloc _ _) ⟨_, _, rfl, World.cell?_alloc_new _ _ _ 0⟩
  apply chain_val (.string ⟨#[z]⟩)
  · intro w2 hx v8 h8 K hK
    simp only [Act.put, List.setIfInBounds_toArray, List.set_cons_zero, List.set_cons_succ] at hK ⊢
    obtain ⟨b8, c8, rfl, k8⟩ := h8
    have hcv := conv_oneB (c := c8) k8
    go_simp
    exact hK _ _ (Ext.refl _) rfl
  apply chain_val (.string (s.extract 0 a ++ ⟨#[z]⟩))
  · intro w2 hx  K hK
    simp only [Act.put, List.setIfInBounds_toArray, List.set_cons_zero, List.set_cons_succ] at hK ⊢
    have q9 : ¬ (9223372036854775807 < min a s.size + 1) := by omega
    go_simp
    exact hK _ _ (Ext.refl _) rfl
  apply chain_val
  · intro w2 hx  K hK
    simp only [Act.put, List.setIfInBounds_toArray, List.set_cons_zero, List.set_cons_succ] at hK ⊢
    go_simp
    exact hK _ _ (Ext.refl _) rfl
  apply chain_val
  · intro w2 hx  K hK
    simp only [Act.put, List.setIfInBounds_toArray, List.set_cons_zero, List.set_cons_succ] at hK ⊢
    go_simp
    exact hK _ _ (Ext.refl _) rfl
  apply chain_val (.int .i64 ((a : Int) + 1))
  · intro w2 hx  K hK
    simp only [Act.put, List.setIfInBounds_toArray, List.set_cons_zero, List.set_cons_succ] at hK ⊢
    go_simp
    exact hK _ _ (Ext.refl _) rfl
  apply chain_val (.string (s.extract (a + 1) s.size))
  · intro w2 hx  K hK
    simp only [Act.put, List.setIfInBounds_toArray, List.set_cons_zero, List.set_cons_succ] at hK ⊢
    go_simp
    exact hK _ _ (Ext.refl _) rfl
  apply chain_val (.string (s.extract 0 a ++ ⟨#[z]⟩ ++ s.extract (a + 1) s.size))
  · intro w2 hx  K hK
    simp only [Act.put, List.setIfInBounds_toArray, List.set_cons_zero, List.set_cons_succ] at hK ⊢
    have q9 : ¬ (9223372036854775807 < min a s.size + 1 + (s.size - (a + 1))) := by omega
    go_simp
    exact hK _ _ (Ext.refl _) rfl
  apply chain_val (.string (s.extract 0 a ++ ⟨#[z]⟩ ++ s.extract (a + 1) s.size))
  · intro w2 hx v8 h8 K hK
    simp only [Act.put, List.setIfInBounds_toArray, List.set_cons_zero, List.set_cons_succ] at hK ⊢
    go_simp
    exact hK _ _ (Ext.refl _) rfl
  refine chain_end fun w2 hx => ?_
  simp only [List.reverse_cons, List.reverse_nil, List.nil_append, List.cons_append, withDeps, Act.put, List.setIfInBounds_toArray, List.set_cons_zero, List.set_cons_succ]
  intro v8 h8
  go_wp2_with fail
  go_ret
  rw [HT.out, HX.out]
  exact ⟨rfl, hx⟩
end Go.Proofs.Ytcpbpfngiimcnaa
