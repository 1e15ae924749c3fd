/- The walk of law01.LendWrites. -/
import Derived.Test.YtmcnnjglcffimaaLaw01
import Derived.Deep.DeepCutAuto
namespace Go.Proofs.Ytmcnnjglcffimaa
open Go.RowKit
set_option maxRecDepth 100000 in
set_option maxHeartbeats 2000000 in
theorem lendWrites_walk (a : Option Addr) (ws : List Int) (ca : Nat) (b : Option Addr) (ns : List Nat) (cb : Nat) (w : World) (hI : Ints .i64 w a ws) (hca : ws.length ≤ ca ∧ ca ≤ maxLen) (_ : ∀ x ∈ ws, -9223372036854775808 ≤ x ∧ x ≤ 9223372036854775807)
    (hJ : Nums w b ns) (hcb : ns.length ≤ cb ∧ cb ≤ maxLen) (hsm : SmallN ns) :
    Calls Try.prog 8 #[.slice a ws.length ca, .slice b ns.length cb] w fun e w' => e = .returned (.bool true) ∧ Ext w w' := by
  unfold maxLen at hca hcb
  obtain ⟨hca, hca2⟩ := hca
  obtain ⟨hcb, hcb2⟩ := hcb
  go_enter Try.func8, Try.ntmps8
  go_upto_region 1 with (fail)
  go_cut [0, 1] (fun x y wr => ∃ (V : List Int) (M : List Nat), x = .slice a V.length ca ∧ y = .slice b M.length cb ∧ V.length ≤ 20 ∧ M.length ≤ 20 ∧ Ints .i64 wr a V ∧ Nums wr b M ∧ SmallN M ∧ Ext w wr)
  case first =>
    go_quiet (fail)
    go_wp2_with fail
    all_goals go_meet
    all_goals exact ⟨ws.take 20, ns.take 20, by rw [List.length_take]; congr 1; omega, by rw [List.length_take]; congr 1; omega, take_size _ _, take_size _ _, (hI.take 20).ext (Ext.drewN _ _), (hJ.take 20).ext (Ext.drewN _ _), hsm.take 20, Ext.drewN _ _⟩
  case rest =>
    obtain ⟨V, M, rfl, rfl, hV, hM, hI2, hJ2, hs2, he⟩ := hcut
    obtain ⟨x, z, hwa⟩ := wAns_tuple V M
    have HW := Lib.hid hwa; have HI := Lib.hid hI2; have HJ := Lib.hid hJ2
    clear hwa hI2 hJ2
    go_wp2_with fail
    refine (write_any V M _ _ _ _ _ (by omega) hs2 HI.out HJ.out).mono ?_
    rw [HW.out]
    rintro e w1 ⟨rfl, he1⟩
    go_wp2_with fail
    refine (refwrite_any V M _ _ _ _ _ (by omega) hs2 (HI.out.ext he1) (HJ.out.ext he1)).mono ?_
    rw [HW.out]
    rintro e w2 ⟨rfl, he2⟩
    go_wp2_with fail
    refine (wakes01 _).mono ?_
    rintro e w3 ⟨rfl, he3⟩
    go_wp2_with fail
    refine (size_any V _ _ _ (by omega) (((HI.out.ext he1).ext he2).ext he3)).mono ?_
    rintro e w4 ⟨rfl, rfl⟩
    go_wp2_with fail
    refine (refsize_any V _ _ _ (by omega) (((HI.out.ext he1).ext he2).ext he3)).mono ?_
    rintro e w5 ⟨rfl, rfl⟩
    go_wp2_with fail
    go_ret
    exact ⟨rfl, he.trans (he1.trans (he2.trans he3))⟩
end Go.Proofs.Ytmcnnjglcffimaa
