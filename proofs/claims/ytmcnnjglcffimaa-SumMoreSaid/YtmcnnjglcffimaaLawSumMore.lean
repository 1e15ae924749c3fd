/- The walk of law02.SumMore. No condition but that the texts are texts. -/
import Derived.Test.YtmcnnjglcffimaaLaw02
import Derived.Deep.DeepCutAuto
namespace Go.Proofs.Ytmcnnjglcffimaa
open Go.RowKit
theorem cut_size (a : ByteArray) (n : Nat) : (a.extract 0 n).size ≤ n := by simp; omega
theorem on_none (c : Nat) (h : c < 4294967296) : Crc.on c ByteArray.empty.data.toList = c := by
  show 4294967295 - (4294967295 - c) = c
  omega
theorem sumMore_rest (A B M : ByteArray) :
    ∃ x y p q : Nat, x < 4294967296 ∧ y < 4294967296 ∧ p < 4294967296 ∧ q < 4294967296 ∧ Crc.sum A.data.toList = p ∧ Crc.sum B.data.toList = q ∧ Crc.on p M.data.toList = x ∧ Crc.on q M.data.toList = y ∧
      Crc.sum (A ++ M).data.toList = x ∧ Crc.sum (B.data.toList ++ M.data.toList) = y ∧ Crc.on p ByteArray.empty.data.toList = p ∧ (((x : Int) == (y : Int)) == ((p : Int) == (q : Int))) = true := by
  refine ⟨_, _, _, _, Crc.on_lt _ _, Crc.on_lt _ _, Crc.sum_lt _, Crc.sum_lt _, rfl, rfl, rfl, rfl, ?_, ?_, on_none _ (Crc.sum_lt _), ?_⟩
  · rw [sum_append, on_sum]
  · rw [on_sum]
  · by_cases h : Crc.sum A.data.toList = Crc.sum B.data.toList
    · rw [h]; simp
    · have h2 : Crc.on (Crc.sum A.data.toList) M.data.toList ≠ Crc.on (Crc.sum B.data.toList) M.data.toList := fun e => h (Crc.on_inj (Crc.sum_lt _) (Crc.sum_lt _) e)
      have e1 : ((Crc.sum A.data.toList : Int) == (Crc.sum B.data.toList : Int)) = false := by simp; omega
      have e2 : ((Crc.on (Crc.sum A.data.toList) M.data.toList : Int) == (Crc.on (Crc.sum B.data.toList) M.data.toList : Int)) = false := by simp; omega
      rw [e1, e2]; rfl
set_option maxRecDepth 100000 in
set_option maxHeartbeats 2000000 in
theorem sumMore_walk (a b m : ByteArray) (w : World) (ha : a.size ≤ maxLen) (hb : b.size ≤ maxLen) (hm : m.size ≤ maxLen) : Calls Try.prog 7 #[.string a, .string b, .string m] w fun e w' => e = .returned (.bool true) ∧ Ext w w' := by
  unfold maxLen at ha hb hm
  go_enter Try.func7, Try.ntmps7
  go_wp2_with fail
  refine (make_ext _).mono ?_
  rintro e w1 ⟨t, rfl, hT, he1⟩
  go_upto_region 2 with (fail)
  go_cut [0, 1, 2] (fun x y z wr => ∃ A B M : ByteArray, x = .string A ∧ y = .string B ∧ z = .string M ∧ A.size ≤ 200 ∧ B.size ≤ 200 ∧ M.size ≤ 200 ∧ Ext w1 wr)
  case first =>
    go_quiet (fail)
    go_wp2_with fail
    all_goals go_meet
    all_goals exact ⟨_, _, _, rfl, rfl, rfl, by first | exact cut_size _ _ | omega, by first | exact cut_size _ _ | omega, by first | exact cut_size _ _ | omega, Ext.drewN _ _⟩
  case rest =>
    obtain ⟨A, B, M, rfl, rfl, rfl, hA, hB, hM, he⟩ := hcut
    have mA : A.size ≤ maxLen := by unfold maxLen; omega
    have mB : B.size ≤ maxLen := by unfold maxLen; omega
    have mM : M.size ≤ maxLen := by unfold maxLen; omega
    have mAM : (A ++ M).size ≤ maxLen := by unfold maxLen; simp; omega
    obtain ⟨x, y, p, q, hx, hy, hp, hq, e1, e2, e3, e4, e5, e6, e7, e8⟩ := sumMore_rest A B M
    have E1 := Lib.hid e1; have E2 := Lib.hid e2; have E3 := Lib.hid e3; have E4 := Lib.hid e4; have E5 := Lib.hid e5; have E6 := Lib.hid e6; have E7 := Lib.hid e7
    clear e1 e2 e3 e4 e5 e6 e7
    have hT1 := hT.ext he
    go_wp2_with fail
    refine (of_one_new t _ _ p A wc hT1 mA E1.out).mono ?_
    rintro e w2 ⟨rfl, hT2, he2⟩
    go_wp2_with fail
    refine (on_new t x p M w2 hT2 mM hp E3.out).mono ?_
    rintro e w3 ⟨rfl, hT3, he3⟩
    go_wp2_with fail
    refine (of_one_new t _ _ q B w3 hT3 mB E2.out).mono ?_
    rintro e w4 ⟨rfl, hT4, he4⟩
    go_wp2_with fail
    refine (on_new t y q M w4 hT4 mM hq E4.out).mono ?_
    rintro e w5 ⟨rfl, hT5, he5⟩
    go_wp2_with fail
    refine (wakes02 _).mono ?_
    rintro e w6 ⟨rfl, he6⟩
    go_wp2_with fail
    refine (of_one_new t _ _ x (A ++ M) w6 (hT5.ext he6) mAM E5.out).mono ?_
    rintro e w7 ⟨rfl, hT7, he7⟩
    go_wp2_with fail
    refine (of_two_new t _ _ y B M w7 hT7 mB mM E6.out).mono ?_
    rintro e w8 ⟨rfl, hT8, he8⟩
    go_wp2_with fail
    refine (of_one_new t _ _ p A w8 hT8 mA E1.out).mono ?_
    rintro e w9 ⟨rfl, hT9, he9⟩
    go_wp2_with fail
    refine (of_one_new t _ _ q B w9 hT9 mB E2.out).mono ?_
    rintro e w10 ⟨rfl, hT10, he10⟩
    go_wp2_with fail
    refine (of_one_new t _ _ p A w10 hT10 mA E1.out).mono ?_
    rintro e w11 ⟨rfl, hT11, he11⟩
    go_wp2_with fail
    refine (on_new t p p _ w11 hT11 (by show 0 ≤ maxLen; decide) hp E7.out).mono ?_
    rintro e w12 ⟨rfl, hT12, he12⟩
    go_wp2_with fail
    refine (of_one_new t _ _ p A w12 hT12 mA E1.out).mono ?_
    rintro e w13 ⟨rfl, hT13, he13⟩
    go_wp2_with fail
    go_ret
    exact ⟨rfl, he1.trans (he.trans (he2.trans (he3.trans (he4.trans (he5.trans (he6.trans (he7.trans (he8.trans (he9.trans (he10.trans (he11.trans (he12.trans he13))))))))))))⟩
end Go.Proofs.Ytmcnnjglcffimaa
