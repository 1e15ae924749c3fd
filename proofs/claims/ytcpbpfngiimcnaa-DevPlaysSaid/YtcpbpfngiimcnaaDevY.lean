/- The program's Stick at any cache: slices.DeleteFunc, slices.IndexFunc. -/
import Derived.Test.YtcpbpfngiimcnaaDevX
import Derived.Laws.CopyRow
namespace Go.Proofs.Ytcpbpfngiimcnaa
open Go.RowKit
set_option maxRecDepth 100000 in
set_option maxHeartbeats 4000000 in
theorem stickfn_any (A s j : Nat) (t : ByteArray) (w : World) (hA : w.cell? ⟨A, 0, none⟩ = some (.int .i64 (j : Int))) :
    Calls Try.prog 51 #[.agg #[.int .i64 (s : Int), .string t], .pointer (some ⟨A, 0, none⟩)] w fun e w' => e = .returned (.bool (decide (s = j))) ∧ Ext w w' := by
  have hx := Ext.alloc w (.cells #[.int .i64 (s : Int), .string t] 95)
  have n0 : (w.alloc (.cells #[.int .i64 (s : Int), .string t] 95)).cell? ⟨w.heap.size, 0, none⟩ = some (.int .i64 (s : Int)) := World.cell?_alloc_new w #[.int .i64 (s : Int), .string t] 95 0
  have hA' := cell_ext hA hx
  have HX := Lib.hid hx
  have e : decide (s = j) = ((s : Int) == (j : Int)) := by
    by_cases h : s = j
    · subst h; simp
    · rw [decide_eq_false h]; exact (beq_eq_false_iff_ne.2 (by omega)).symm
  rw [e]
  clear e hx
  go_enter Try.func51, Try.ntmps51
  go_wp2_with fail
  go_ret
  exact ⟨rfl, HX.out⟩
/-- where the first of sector j stands -/
def IdxOf (c : List (Nat × ByteArray)) (j : Nat) (r : Int) : Prop := (r = -1 ∧ ∀ i (h : i < c.length), c[i].1 ≠ j) ∨ ∃ k, ∃ h : k < c.length, r = (k : Int) ∧ c[k].1 = j ∧ ∀ i (hi : i < k), (c[i]'(Nat.lt_trans hi h)).1 ≠ j
set_option maxRecDepth 100000 in
set_option maxHeartbeats 4000000 in
theorem indexfn_any (A j : Nat) (a : Option Addr) (cap : Nat) (c : List (Nat × ByteArray)) (hlc : c.length ≤ 1000) (w : World) (hA : w.cell? ⟨A, 0, none⟩ = some (.int .i64 (j : Int)))
    (hc : ∀ i (hi : i < c.length), ∃ g, a = some ⟨g, 0, none⟩ ∧ w.cell? ⟨g, i * 2, none⟩ = some (.int .i64 (c[i].1 : Int)) ∧ w.cell? ⟨g, i * 2 + 1, none⟩ = some (.string c[i].2)) :
    Calls Try.prog 62 #[.slice a c.length cap, .func (.func 51) #[] #[.pointer (some ⟨A, 0, none⟩)]] w fun e w' => (∃ r, e = .returned (.int .i64 r) ∧ IdxOf c j r) ∧ Ext w w' := by
  have HC := Lib.hid hc; have HA := Lib.hid hA
  clear hc hA
  go_enter Try.func62, Try.ntmps62
  go_wp2_with fail
  go_loopw [8] (fun i wx => ∃ k : Nat, k ≤ c.length ∧ i = .int .i64 k ∧ (∀ i (hi : i < c.length), i < k → c[i].1 ≠ j) ∧ Ext w wx) (fun i _ => c.length - (intOf i).toNat)
  case atStart => exact ⟨0, by omega, rfl, fun i _ h => (by omega), Ext.refl _⟩
  case round =>
    obtain ⟨k, hk, rfl, hno, hex⟩ := hrel
    have HNO := Lib.hid hno; have HEX := Lib.hid hex
    clear hno hex
    by_cases hlt : k < c.length
    · obtain ⟨g, rfl, x0, x1⟩ := HC.out k hlt
      replace x0 := cell_ext x0 HEX.out
      replace x1 := cell_ext x1 HEX.out
      have HE := Lib.hid (show c[k] = c[k] from rfl)
      obtain ⟨s, hs⟩ : ∃ s, c[k].1 = s := ⟨_, rfl⟩
      obtain ⟨t, ht⟩ : ∃ t, c[k].2 = t := ⟨_, rfl⟩
      rw [hs] at x0
      rw [ht] at x1
      have HS := Lib.hid hs
      clear HE hs ht
      go_wp2_with fail
      refine (stickfn_any A s j t _ (cell_ext HA.out HEX.out)).mono ?_
      rintro e w1 ⟨rfl, he1⟩
      have HE1 := Lib.hid he1
      clear he1
      by_cases hsj : s = j
      · rw [decide_eq_true hsj]
        have HSJ := Lib.hid hsj
        clear hsj
        go_wp2_with fail
        go_ret
        exact ⟨⟨_, rfl, .inr ⟨k, hlt, rfl, HS.out.trans HSJ.out, fun i hi => HNO.out i (by omega) hi⟩⟩, HEX.out.trans HE1.out⟩
      · rw [decide_eq_false hsj]
        have HSJ := Lib.hid hsj
        clear hsj
        go_wp2_with fail
        go_roundw
        case rel => exact ⟨k + 1, by omega, by go_num, fun i hi hik => (by
          by_cases h : i = k
          · subst h; rw [HS.out]; exact HSJ.out
          · exact HNO.out i hi (by omega)), HEX.out.trans HE1.out⟩
        case measure => simp [intOf]; omega
    · obtain rfl : k = c.length := by omega
      go_wp2_with fail
      go_ret
      exact ⟨⟨_, rfl, .inl ⟨rfl, fun i hi => HNO.out i hi hi⟩⟩, HEX.out⟩
theorem filter_first {c : List (Nat × ByteArray)} {j k : Nat} (hk : k < c.length) (h : c[k].1 = j) (hno : ∀ i (hi : i < k), (c[i]'(Nat.lt_trans hi hk)).1 ≠ j) : (c.take (k + 1)).filter (fun w => decide (w.1 ≠ j)) = c.take k := by
  rw [Dev.stick_take hk, if_pos h, List.append_nil, List.filter_eq_self]
  intro x hx
  obtain ⟨i, hi, rfl⟩ := List.getElem_of_mem hx
  rw [List.length_take] at hi
  rw [List.getElem_take]
  exact decide_eq_true (hno i (by omega))
theorem filter_none {c : List (Nat × ByteArray)} {j : Nat} (hno : ∀ i (hi : i < c.length), c[i].1 ≠ j) : c.filter (fun w => decide (w.1 ≠ j)) = c := by
  rw [List.filter_eq_self]
  intro x hx
  obtain ⟨i, hi, rfl⟩ := List.getElem_of_mem hx
  exact decide_eq_true (hno i hi)
theorem take_two {α : Type} (cur : Array α) (i : Nat) (x y : α) (h : i * 2 + 1 < cur.size) : ((cur.setIfInBounds (i * 2) x).setIfInBounds (i * 2 + 1) y).toList.take ((i + 1) * 2) = cur.toList.take (i * 2) ++ [x, y] := by
  have hl : cur.toList.length = cur.size := Array.length_toList
  apply List.ext_getElem?
  intro k
  rw [Array.toList_setIfInBounds, Array.toList_setIfInBounds, List.getElem?_take, List.getElem?_set, List.getElem?_set, List.length_set]
  by_cases h1 : k < i * 2
  · rw [if_pos (by omega), if_neg (by omega), if_neg (by omega), List.getElem?_append_left (by rw [List.length_take]; omega), List.getElem?_take, if_pos h1]
  · rw [List.getElem?_append_right (by rw [List.length_take]; omega), List.length_take, Nat.min_eq_left (by omega)]
    by_cases h2 : k = i * 2
    · subst h2
      rw [if_pos (by omega), if_neg (by omega), if_pos rfl, if_pos (by omega), Nat.sub_self]
      rfl
    · by_cases h3 : k = i * 2 + 1
      · subst h3
        rw [if_pos (by omega), if_pos rfl, if_pos (by omega), Nat.add_sub_cancel_left]
        rfl
      · rw [if_neg (by omega), List.getElem?_eq_none (by simp; omega)]
end Go.Proofs.Ytcpbpfngiimcnaa
