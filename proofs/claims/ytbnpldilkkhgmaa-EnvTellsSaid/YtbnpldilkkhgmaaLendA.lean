/- Contracts of lend.may, lend.Size, lend.right, and of the reference's Size. Condition: up to 1000 widths. -/
import Derived.Test.YtbnpldilkkhgmaaLendSpec
import Derived.Test.YtbnpldilkkhgmaaBytes
import Derived.Handy
import Derived.BigQuiet
import Derived.Deep.QuietTactic
import Derived.Lib.Hide
namespace Go.Proofs.Ytbnpldilkkhgmaa
open Go.RowKit
/-- the integers xs, of a slice's elements -/
def Ints (k : IntKind) (w : World) (a : Option Addr) (xs : List Int) : Prop := ∀ i (h : i < xs.length), ∃ b off, a = some ⟨b, off, none⟩ ∧ w.cell? ⟨b, off + i, none⟩ = some (.int k xs[i])
theorem Ints.ext {k : IntKind} {w w' : World} {a : Option Addr} {xs : List Int} (h : Ints k w a xs) (e : Ext w w') : Ints k w' a xs := fun i hi => let ⟨b, o, h1, h2⟩ := h i hi; ⟨b, o, h1, cell_ext h2 e⟩
theorem may_any (x : Int) (w : World) : Calls Try.prog 70 #[.int .i64 x] w fun e w' => e = .returned (.bool (Lend.okW x)) ∧ w = w' := by
  by_cases h1 : 1 ≤ x
  · by_cases h2 : x ≤ 8
    · rw [Lend.okW_true h1 h2]
      go_enter Try.func70, Try.ntmps70
      go_wp2
      go_ret
      exact ⟨rfl, rfl⟩
    · rw [Lend.okW_hi (by omega)]
      have h2' : decide (x ≤ 8) = false := by simpa using h2
      go_enter Try.func70, Try.ntmps70
      go_wp2
      go_ret
      exact ⟨rfl, rfl⟩
  · rw [Lend.okW_lo (by omega)]
    have h1' : decide (1 ≤ x) = false := by simpa using h1
    go_enter Try.func70, Try.ntmps70
    go_wp2
    go_ret
    exact ⟨rfl, rfl⟩
set_option maxHeartbeats 400000 in
theorem size_any (ws : List Int) (a : Option Addr) (cap : Nat) (w : World) (hl : ws.length ≤ 1000) (hI : Ints .i64 w a ws) :
    Calls Try.prog 60 #[.slice a ws.length cap] w fun e w' => e = .returned (.int .i64 (Lend.size ws)) ∧ w = w' := by
  have HI := Lib.hid hI; clear hI
  go_enter Try.func60, Try.ntmps60
  go_wp2
  go_loop [3, 8] (fun n i => ∃ k N : Nat, k ≤ ws.length ∧ i = .int .i64 k ∧ n = .int .i64 N ∧ N = Lend.total (ws.take k) ∧ (ws.take k).all Lend.okW = true) (fun _ i => ws.length - (intOf i).toNat)
  case atStart => exact ⟨0, 0, Nat.zero_le _, rfl, rfl, rfl, rfl⟩
  case round =>
    obtain ⟨k, N, hk, rfl, rfl, hN, hall⟩ := hrel
    have hNle : N ≤ 8 * k := by have := Lend.total_le hall; rw [← hN] at this; simp at this; omega
    have HN := Lib.hid hN; have HA := Lib.hid hall
    clear hN hall
    by_cases hlt : k < ws.length
    · obtain ⟨b, off, rfl, hcell⟩ := HI.out k hlt
      cases hok : Lend.okW ws[k] with
      | true =>
        have ⟨l1, l2⟩ := Lend.okW_iff.1 hok
        have hnx := Lib.hid (Lend.total_take_succ hlt)
        have hax := Lib.hid (Lend.all_take_succ hlt HA.out hok)
        have HOK := Lib.hid hok; clear hok
        generalize ws[k] = x at *
        go_wp2_with (go_at_call 70; refine (may_any x _).mono ?_; rintro e w' ⟨rfl, rfl⟩; rw [HOK.out])
        go_round
        case rel => exact ⟨k + 1, N + x.toNat, by omega, by go_num, by go_num, by rw [hnx.out, HN.out], hax.out⟩
        case measure => simp [intOf]; omega
      | false =>
        have hz := Lib.hid (Lend.size_bad hlt hok).2
        have HOK := Lib.hid hok; clear hok
        generalize ws[k] = x at *
        go_wp2_with (go_at_call 70; refine (may_any x _).mono ?_; rintro e w' ⟨rfl, rfl⟩; rw [HOK.out])
        go_ret
        exact ⟨by rw [hz.out]; rfl, rfl⟩
    · obtain rfl : k = ws.length := by omega
      have h9 := HA.out; have h8 := HN.out
      rw [List.take_of_length_le (Nat.le_refl _)] at h9 h8
      have hz : Lend.size ws = N := by rw [h8, Lend.size, if_pos h9]
      have HZ := Lib.hid hz
      clear hz h9 h8
      go_wp2
      go_ret
      exact ⟨by rw [HZ.out]; rfl, rfl⟩
theorem right_any (ws : List Int) (a : Option Addr) (cap : Nat) (w : World) (hl : ws.length ≤ 1000) (hI : Ints .i64 w a ws) :
    Calls Try.prog 59 #[.slice a ws.length cap] w fun e w' => e = .returned (.bool (ws.all Lend.okW)) ∧ w = w' := by
  by_cases h0 : ws.length = 0
  · obtain rfl : ws = [] := List.length_eq_zero_iff.1 h0
    go_enter Try.func59, Try.ntmps59
    go_wp2
    go_ret
    exact ⟨rfl, rfl⟩
  · have hne : ((ws.length : Int) == 0) = false := beq_eq_false_iff_ne.2 (by omega)
    have hsz := Lend.size_le ws
    cases hall : ws.all Lend.okW with
    | true =>
      have hpos : 0 < Lend.size ws := by
        have := Lend.le_total hall
        rw [Lend.size, if_pos hall]; omega
      have HA := Lib.hid hall; clear hall
      have hd : decide ((0 : Int) < (Lend.size ws : Int)) = true := decide_eq_true (by omega)
      go_enter Try.func59, Try.ntmps59
      go_wp2_with (go_at_call 60; refine (size_any ws _ _ _ hl hI).mono ?_; rintro e w' ⟨rfl, rfl⟩)
      go_ret
      exact ⟨rfl, rfl⟩
    | false =>
      have hz : Lend.size ws = 0 := by rw [Lend.size, hall]; rfl
      have HZ := Lib.hid hz; clear hz hall
      go_enter Try.func59, Try.ntmps59
      go_wp2_with (go_at_call 60; refine (size_any ws _ _ _ hl hI).mono ?_; rintro e w' ⟨rfl, rfl⟩; rw [HZ.out])
      go_ret
      exact ⟨rfl, rfl⟩
end Go.Proofs.Ytbnpldilkkhgmaa
