/- The walk of law02.SumOf. No condition but that the texts are texts. -/
import Derived.Test.YtmcnnjglcffimaaLaw02
import Derived.Deep.DeepCutAuto
namespace Go.Proofs.Ytmcnnjglcffimaa
open Go.RowKit
theorem cut_size (a : ByteArray) (n : Nat) : (a.extract 0 n).size ≤ n := by simp; omega
set_option maxHeartbeats 1000000 in
theorem sumOf_walk (a b : ByteArray) (w : World) (ha : a.size ≤ maxLen) (hb : b.size ≤ maxLen) : Calls Try.prog 3 #[.string a, .string b] w fun e w' => e = .returned (.bool true) ∧ Ext w w' := by
  unfold maxLen at ha hb
  go_enter Try.func3, Try.ntmps3
  go_upto_region 1 with (fail)
  go_cut [0, 1] (fun x y wr => ∃ A B : ByteArray, x = .string A ∧ y = .string B ∧ A.size ≤ 300 ∧ B.size ≤ 300 ∧ Ext w wr)
  case first =>
    go_quiet (fail)
    go_wp2_with fail
    all_goals go_meet
    all_goals exact ⟨_, _, rfl, rfl, by first | exact cut_size _ _ | omega, by first | exact cut_size _ _ | omega, Ext.drewN _ _⟩
  case rest =>
    obtain ⟨A, B, rfl, rfl, hA, hB, he⟩ := hcut
    have mA : A.size ≤ maxLen := by unfold maxLen; omega
    have mB : B.size ≤ maxLen := by unfold maxLen; omega
    have mAB : (A ++ B).size ≤ maxLen := by unfold maxLen; simp; omega
    obtain ⟨r, hr, hAB0, hr1, hOn0⟩ : ∃ r, r < 4294967296 ∧ Crc.sum (A ++ B).data.toList = r ∧ Crc.sum (A.data.toList ++ B.data.toList) = r ∧ Crc.on (Crc.sum A.data.toList) B.data.toList = r :=
      ⟨_, Crc.sum_lt _, sum_append A B, rfl, on_sum A B⟩
    have hAB := Lib.hid hAB0
    have hOn := Lib.hid hOn0
    have hR := Lib.hid hr1
    clear hAB0 hOn0 hr1
    have hlt := Crc.sum_lt A.data.toList
    go_wp2_with fail
    refine (make_ext _).mono ?_
    rintro e w1 ⟨t, rfl, hT, he1⟩
    go_wp2_with fail
    refine (wakes02 _).mono ?_
    rintro e w2 ⟨rfl, he2⟩
    go_wp2_with fail
    refine (of_two_new t _ _ _ A B w2 (hT.ext he2) mA mB hR.out).mono ?_
    rintro e w3 ⟨rfl, hT3, he3⟩
    go_wp2_with fail
    refine (refof_any _ _ mAB).mono ?_
    rintro e w4 ⟨rfl, rfl⟩
    rw [hAB.out]
    go_wp2_with fail
    refine (of_one_new t _ _ _ A w3 hT3 mA rfl).mono ?_
    rintro e w5 ⟨rfl, hT5, he5⟩
    go_wp2_with fail
    refine (on_new t _ _ B w5 hT5 mB hlt hOn.out).mono ?_
    rintro e w6 ⟨rfl, hT6, he6⟩
    go_wp2_with fail
    refine (refof_any _ _ mAB).mono ?_
    rintro e w7 ⟨rfl, rfl⟩
    rw [hAB.out]
    go_wp2_with fail
    refine (of_nil_new _ _ A w6).mono ?_
    rintro e w8 ⟨rfl, he8⟩
    go_wp2_with fail
    refine (on_nil _ A w8).mono ?_
    rintro e w9 ⟨rfl, rfl⟩
    go_wp2_with fail
    go_ret
    exact ⟨rfl, he.trans (he1.trans (he2.trans (he3.trans (he5.trans (he6.trans he8)))))⟩
end Go.Proofs.Ytmcnnjglcffimaa
