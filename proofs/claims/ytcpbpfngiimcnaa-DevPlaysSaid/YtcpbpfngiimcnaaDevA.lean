/- Contracts of the device's small functions. -/
import Derived.Test.YtcpbpfngiimcnaaDevMem
import Derived.Deep.DeepCutAuto
import Derived.Lib.Hide
namespace Go.Proofs.Ytcpbpfngiimcnaa
open Go.RowKit
section
variable {b m q : Nat} {cv : Value} {d : Dev.St} {w : World}
set_option maxRecDepth 100000 in
set_option maxHeartbeats 2000000 in
theorem devready_any (hr : RowIs b 80 (devRow d m q cv) w) : Calls Try.prog 44 #[.pointer (some ⟨b, 0, none⟩)] w fun e w' => e = .returned (.int .i64 ((Dev.ready d : Nat) : Int)) ∧ Ext w w' := by
  have c9 := hr.cell 9 (.bool d.off) rfl
  have c10 := hr.cell 10 (.bool d.gone) rfl
  unfold Dev.ready
  clear hr
  generalize d.off = off at *
  generalize d.gone = gone at *
  cases off <;> cases gone
  all_goals
    go_enter Try.func44, Try.ntmps44
    go_wp2_with fail
    go_ret
    exact ⟨rfl, Ext.refl _⟩
set_option maxRecDepth 100000 in
set_option maxHeartbeats 2000000 in
theorem devis_any (i : Int) (hr : RowIs b 80 (devRow d m q cv) w) : Calls Try.prog 46 #[.pointer (some ⟨b, 0, none⟩), .int .i64 i] w fun e w' => e = .returned (.bool (Dev.isSec i)) ∧ Ext w w' := by
  have c2 := hr.cell 2 (.slice (some ⟨m, 0, none⟩) 9 9) rfl
  clear hr
  unfold Dev.isSec
  by_cases h0 : 0 ≤ i
  · by_cases h9 : i < 9
    · rw [decide_eq_true h0, decide_eq_true h9]
      go_enter Try.func46, Try.ntmps46
      go_wp2_with fail
      go_ret
      exact ⟨rfl, Ext.refl _⟩
    · rw [decide_eq_true h0, decide_eq_false h9]
      go_enter Try.func46, Try.ntmps46
      go_wp2_with fail
      go_ret
      exact ⟨rfl, Ext.refl _⟩
  · rw [decide_eq_false h0]
    go_enter Try.func46, Try.ntmps46
    go_wp2_with fail
    go_ret
    exact ⟨rfl, Ext.refl _⟩
set_option maxRecDepth 100000 in
set_option maxHeartbeats 4000000 in
theorem devburn_any (hf : d.fuse < 9223372036854775808) (hr : RowIs b 80 (devRow d m q cv) w) : Calls Try.prog 45 #[.pointer (some ⟨b, 0, none⟩)] w fun e w' =>
    e = .returned (.int .i64 (((if (Dev.burn d).2 then 6 else 0 : Nat)) : Int)) ∧ RowIs b 80 (devRow (Dev.burn d).1 m q cv) w' ∧ But b w w' := by
  have c5 := hr.cell 5 (.int .i64 (d.fuse : Int)) rfl
  have f5 := hr.free 5
  have f9 := hr.free 9
  unfold Dev.burn
  by_cases h0 : d.fuse = 0
  · rw [if_pos h0]
    have HR := Lib.hid hr
    clear hr f5 f9
    rw [h0] at c5
    go_enter Try.func45, Try.ntmps45
    go_wp2_with fail
    go_ret
    exact ⟨rfl, HR.out, But.refl _ _⟩
  · rw [if_neg h0]
    by_cases h1 : d.fuse = 1
    · rw [if_pos h1]
      have HR := Lib.hid hr
      have c9 := hr.cell 9 (.bool d.off) rfl
      clear hr
      rw [h1] at c5
      go_enter Try.func45, Try.ntmps45
      go_wp2_with fail
      go_ret
      exact ⟨rfl, (HR.out.setCell 5 (.int .i64 0)).setCell 9 (.bool true), ((Wrote.setCell HR.out 5 _).trans (Wrote.setCell (HR.out.setCell 5 (.int .i64 0)) 9 _)).but⟩
    · rw [if_neg h1]
      have HR := Lib.hid hr
      clear hr
      obtain ⟨n, hn⟩ : ∃ n, d.fuse = n + 2 := ⟨d.fuse - 2, by omega⟩
      rw [hn] at c5 hf ⊢
      go_enter Try.func45, Try.ntmps45
      go_wp2_with fail
      go_ret
      refine ⟨rfl, ?_, (Wrote.setCell HR.out 5 _).but⟩
      have e9 : (n : Int) + 2 - 1 = ((n + 1 : Nat) : Int) := by omega
      rw [e9]
      exact HR.out.setCell 5 (.int .i64 ((n + 1 : Nat) : Int))
set_option maxRecDepth 100000 in
set_option maxHeartbeats 4000000 in
theorem devdue_any {T : TypeId} {cs : Array Value} {o n : Nat} (hn : n < 9223372036854775808) (hc : cs[o]? = some (.int .i64 (n : Int))) (hr : RowIs b T cs w) : Calls Try.prog 47 #[.pointer (some ⟨b, o, none⟩)] w fun e w' =>
    e = .returned (.bool (decide (n = 1))) ∧ RowIs b T (cs.setIfInBounds o (.int .i64 ((n - 1 : Nat) : Int))) w' ∧ But b w w' := by
  have c5 := hr.cell o _ hc
  have f5 := hr.free o
  have HR := Lib.hid hr
  by_cases h0 : n = 0
  · subst h0
    clear hr f5
    have e : cs.setIfInBounds o (.int .i64 ((0 - 1 : Nat) : Int)) = cs := by
      apply Array.ext_getElem?
      intro i
      by_cases hi : o = i
      · subst hi
        rw [Array.getElem?_setIfInBounds_self_of_lt (Array.getElem?_eq_some_iff.1 hc).1, hc]
      · rw [Array.getElem?_setIfInBounds_ne hi]
    rw [e]
    go_enter Try.func47, Try.ntmps47
    go_wp2_with fail
    go_ret
    exact ⟨rfl, HR.out, But.refl _ _⟩
  · obtain ⟨k, rfl⟩ : ∃ k, n = k + 1 := ⟨n - 1, by omega⟩
    have c6 : (w.setCell ⟨b, o, none⟩ (.int .i64 (k : Int))).cell? ⟨b, o, none⟩ = some (.int .i64 (k : Int)) := World.cell?_setCell_same' _ _ _ (by rw [c5]; rfl)
    clear hr
    have e : decide (k + 1 = 1) = ((k : Int) == 0) := by
      by_cases h : k = 0
      · subst h; rfl
      · rw [decide_eq_false (by omega)]; exact (beq_eq_false_iff_ne.2 (by omega)).symm
    rw [e]
    clear e
    go_enter Try.func47, Try.ntmps47
    go_wp2_with fail
    go_ret
    exact ⟨rfl, HR.out.setCell o (.int .i64 (k : Int)), (Wrote.setCell HR.out o _).but⟩
end
end Go.Proofs.Ytcpbpfngiimcnaa
