/- The walk of law01.LendTexts. -/
import Derived.Test.YtmcnnjglcffimaaLaw01
import Derived.Deep.DeepCutAuto
namespace Go.Proofs.Ytmcnnjglcffimaa
open Go.RowKit
theorem cut_size (a : ByteArray) (n : Nat) : (a.extract 0 n).size ≤ n := by simp; omega
set_option maxRecDepth 100000 in
set_option maxHeartbeats 2000000 in
theorem lendTexts_walk (a b : ByteArray) (w : World) (ha : a.size ≤ maxLen) (hb : b.size ≤ maxLen) : Calls Try.prog 12 #[.string a, .string b] w fun e w' => e = .returned (.bool true) ∧ Ext w w' := by
  unfold maxLen at ha hb
  go_enter Try.func12, Try.ntmps12
  go_upto_region 1 with (fail)
  go_cut [0, 1] (fun x y wr => ∃ A B : ByteArray, x = .string A ∧ y = .string B ∧ A.size ≤ 300 ∧ B.size ≤ 50 ∧ Ext w wr)
  case first =>
    go_quiet (fail)
    go_wp2_with fail
    all_goals go_meet
    all_goals exact ⟨_, _, rfl, rfl, by first | exact cut_size _ _ | omega, by first | exact cut_size _ _ | omega, Ext.drewN _ _⟩
  case rest =>
    obtain ⟨A, B, rfl, rfl, hA, hB, he⟩ := hcut
    have mA : A.size ≤ maxLen := by unfold maxLen; omega
    have mB : B.size ≤ maxLen := by unfold maxLen; omega
    obtain ⟨x, y, z, hsp⟩ := splitAns_tuple A
    have HSP := Lib.hid hsp; clear hsp
    go_wp2_with fail
    refine (split_any A _ mA).mono ?_
    rw [HSP.out]
    rintro e w1 ⟨rfl, he1⟩
    go_wp2_with fail
    refine (refsplit_any A _ mA).mono ?_
    rw [HSP.out]
    rintro e w2 ⟨rfl, he2⟩
    by_cases hsh : A.size ≤ 255
    · have hlt : decide ((A.size : Int) < 256) = true := decide_eq_true (by omega)
      have hsz0 : (⟨#[UInt8.ofNat A.size]⟩ ++ A ++ B : ByteArray).size = 1 + A.size + B.size := by rw [ByteArray.size_append, ByteArray.size_append]; rfl
      have hsz := Lib.hid hsz0; clear hsz0
      have hj := Lib.hid (splitAns_joined A B (by omega))
      go_wp2_with fail
      refine (join_short A _ hsh).mono ?_
      rintro e w3 ⟨rfl, he3⟩
      go_wp2_with fail
      refine (split_any _ _ (by rw [hsz.out]; unfold maxLen; omega)).mono ?_
      rw [hj.out]
      rintro e w4 ⟨rfl, he4⟩
      go_wp2_with fail
      refine (wakes01 _).mono ?_
      rintro e w5 ⟨rfl, he5⟩
      go_wp2_with fail
      go_ret
      have hq : ((1 + (A.size : Int)) == (A.size : Int) + 1) = true := by rw [beq_iff_eq]; omega
      exact ⟨by rw [← hq]; rfl, he.trans (he1.trans (he2.trans (he3.trans (he4.trans he5))))⟩
    · have hlt : decide ((A.size : Int) < 256) = false := decide_eq_false (by omega)
      go_wp2_with fail
      refine (join_long A _ mA (by omega)).mono ?_
      rintro e w3 ⟨rfl, he3⟩
      go_wp2_with fail
      refine (wakes01 _).mono ?_
      rintro e w5 ⟨rfl, he5⟩
      go_wp2_with fail
      go_ret
      exact ⟨rfl, he.trans (he1.trans (he2.trans (he3.trans he5)))⟩
end Go.Proofs.Ytmcnnjglcffimaa
