/- wakes of layer 14, and the walk of law14.MsgNumbers. -/
import Derived.Test.YtemhflafiephpaaMsgOn
import Derived.WalkSmall
namespace Go.Proofs.Ytemhflafiephpaa
open Go.RowKit
theorem val5 : Msg.val 5 = ⟨#[5, 0, 0, 0, 0, 0, 0, 0]⟩ := by decide +kernel
theorem wakes_on : pairV (Msg.on (⟨#[]⟩, false) ⟨3, ⟨#[]⟩, ⟨#[]⟩, 5⟩) = .tuple #[.string ⟨#[5, 0, 0, 0, 0, 0, 0, 0]⟩, .bool true] := by
  rw [Msg.on_add_new _ _ rfl, pairV, val5]
theorem wakes_num : numAns ⟨#[5, 0, 0, 0, 0, 0, 0, 0]⟩ = .tuple #[.int .u64 5, .bool true] := by
  rw [numAns_yes (by decide +kernel), show Msg.num ⟨#[5, 0, 0, 0, 0, 0, 0, 0]⟩ = 5 by decide +kernel]; rfl
theorem wakes_abc : numAns ⟨#[97, 98, 99]⟩ = .tuple #[.int .u64 0, .bool false] := numAns_no (by decide +kernel)
set_option maxRecDepth 100000 in
theorem wakes14 (w : World) : Calls Try.prog 17 #[] w fun e w' => e = .returned (.bool true) ∧ Ext w w' := by
  go_enter Try.func17, Try.ntmps17
  go_wp2_with fail
  refine (on_any ⟨#[]⟩ ⟨#[]⟩ ⟨#[]⟩ false 3 5 _ (by decide) (by decide) (by decide)).mono ?_
  rw [wakes_on]
  rintro e w1 ⟨rfl, he1⟩
  go_wp2_with fail
  refine (number_any _ _ (by decide)).mono ?_
  rw [wakes_num]
  rintro e w2 ⟨rfl, he2⟩
  go_wp2_with fail
  refine (number_any _ _ (by decide)).mono ?_
  rw [wakes_abc]
  rintro e w3 ⟨rfl, he3⟩
  go_wp2_with fail
  refine (value_any 5 _ (by decide)).mono ?_
  rw [val5]
  rintro e w4 ⟨rfl, he4⟩
  go_wp2_with fail
  go_ret
  exact ⟨rfl, he1.trans (he2.trans (he3.trans he4))⟩
end Go.Proofs.Ytemhflafiephpaa
