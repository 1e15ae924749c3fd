/- The walk of law14.MsgNumbers. -/
import Derived.Test.YtemhflafiephpaaLaw14
namespace Go.Proofs.Ytemhflafiephpaa
open Go.RowKit
set_option maxRecDepth 100000 in
theorem msgNumbers_walk (s : ByteArray) (n : Nat) (w : World) (hs : s.size ≤ maxLen) (hn : n < 18446744073709551616) :
    Calls Try.prog 3 #[.string s, .int .u64 n] w fun e w' => e = .returned (.bool true) ∧ Ext w w' := by
  have hv8 := Lib.hid (numAns_yes (Msg.val_size n))
  have hnv : Msg.num (Msg.val n) = n := by rw [Msg.num_val]; omega
  rw [hnv] at hv8
  have hvs : (Msg.val n).size ≤ maxLen := by rw [Msg.val_size]; decide
  obtain ⟨V, hV⟩ : ∃ V, V = Msg.val n := ⟨_, rfl⟩
  have HV := Lib.hid hV
  rw [← hV] at hv8 hvs
  clear hV hnv
  by_cases h8 : s.size = 8
  · have hq : ((s.size : Int) == 8) = true := by rw [h8]; rfl
    have HA := Lib.hid (numAns_yes h8)
    have hM := Lib.hid (show Crc.le s.data.toList = Msg.num s from rfl)
    have hl := Msg.num_lt h8
    have hvn := Lib.hid (Msg.val_num h8)
    generalize Msg.num s = M at *
    go_enter Try.func3, Try.ntmps3
    go_wp2_with fail
    refine (number_any s _ hs).mono ?_
    rw [HA.out]
    rintro e w1 ⟨rfl, he1⟩
    go_wp2_with fail
    refine (get_any s _ (by omega)).mono ?_
    rintro e w2 ⟨rfl, he⟩
    subst he
    rw [hM.out]
    go_wp2_with fail
    refine (value_any n _ hn).mono ?_
    rw [← HV.out]
    rintro e w2 ⟨rfl, he2⟩
    go_wp2_with fail
    refine (number_any V _ hvs).mono ?_
    rw [hv8.out]
    rintro e w3 ⟨rfl, he3⟩
    go_wp2_with fail
    refine (put8_any n _ hn).mono ?_
    rw [← HV.out]
    rintro e w4 ⟨rfl, he4⟩
    go_wp2_with fail
    refine (wakes14 _).mono ?_
    rintro e w5 ⟨rfl, he5⟩
    go_wp2_with fail
    refine (value_any n _ hn).mono ?_
    rw [← HV.out]
    rintro e w6 ⟨rfl, he6⟩
    go_wp2_with fail
    refine (value_any M _ hl).mono ?_
    rw [hvn.out]
    rintro e w7 ⟨rfl, he7⟩
    go_wp2_with fail
    go_ret
    exact ⟨rfl, he1.trans (he2.trans (he3.trans (he4.trans (he5.trans (he6.trans he7)))))⟩
  · have hq : ((s.size : Int) == 8) = false := by simp; omega
    have HA := Lib.hid (numAns_no h8)
    go_enter Try.func3, Try.ntmps3
    go_wp2_with fail
    refine (number_any s _ hs).mono ?_
    rw [HA.out]
    rintro e w1 ⟨rfl, he1⟩
    go_wp2_with fail
    refine (value_any n _ hn).mono ?_
    rw [← HV.out]
    rintro e w2 ⟨rfl, he2⟩
    go_wp2_with fail
    refine (number_any V _ hvs).mono ?_
    rw [hv8.out]
    rintro e w3 ⟨rfl, he3⟩
    go_wp2_with fail
    refine (put8_any n _ hn).mono ?_
    rw [← HV.out]
    rintro e w4 ⟨rfl, he4⟩
    go_wp2_with fail
    refine (wakes14 _).mono ?_
    rintro e w5 ⟨rfl, he5⟩
    go_wp2_with fail
    refine (value_any n _ hn).mono ?_
    rw [← HV.out]
    rintro e w6 ⟨rfl, he6⟩
    go_wp2_with fail
    go_ret
    exact ⟨rfl, he1.trans (he2.trans (he3.trans (he4.trans (he5.trans he6))))⟩
end Go.Proofs.Ytemhflafiephpaa
