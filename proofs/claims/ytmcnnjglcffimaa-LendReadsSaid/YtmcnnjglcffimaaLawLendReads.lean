/- The walk of law01.LendReads. -/
import Derived.Test.YtmcnnjglcffimaaLaw01
import Derived.Deep.DeepCutAuto
namespace Go.Proofs.Ytmcnnjglcffimaa
open Go.RowKit
theorem cut_size (a : ByteArray) (n : Nat) : (a.extract 0 n).size ≤ n := by simp; omega
theorem nums_length {ws : List Int} {l r : List UInt8} {ns : List Nat} (h : Lend.nums ws l = some (ns, r)) : ns.length = ws.length := by
  rw [Lend.nums_eq] at h
  split at h
  · cases h; exact Lend.cut_length _ _
  · cases h
set_option maxRecDepth 100000 in
set_option maxHeartbeats 2000000 in
theorem lendReads_walk (a : Option Addr) (ws : List Int) (ca : Nat) (s : ByteArray) (w : World) (hI : Ints .i64 w a ws) (hca : ws.length ≤ ca ∧ ca ≤ maxLen) (_ : ∀ x ∈ ws, -9223372036854775808 ≤ x ∧ x ≤ 9223372036854775807)
    (hs : s.size ≤ maxLen) :
    Calls Try.prog 9 #[.slice a ws.length ca, .string s] w fun e w' => e = .returned (.bool true) ∧ Ext w w' := by
  unfold maxLen at hca hs
  obtain ⟨hca, hca2⟩ := hca
  go_enter Try.func9, Try.ntmps9
  go_upto_region 1 with (fail)
  go_cut [0, 1] (fun x y wr => ∃ (V : List Int) (M : ByteArray), x = .slice a V.length ca ∧ y = .string M ∧ V.length ≤ 20 ∧ M.size ≤ 200 ∧ Ints .i64 wr a V ∧ Ext w wr)
  case first =>
    go_quiet (fail)
    go_wp2_with fail
    all_goals go_meet
    all_goals exact ⟨ws.take 20, _, by rw [List.length_take]; congr 1; omega, rfl, take_size _ _, by first | exact cut_size _ _ | omega, (hI.take 20).ext (Ext.drewN _ _), Ext.drewN _ _⟩
  case rest =>
    obtain ⟨V, M, rfl, rfl, hV, hM, hI2, he⟩ := hcut
    have HI := Lib.hid hI2
    have mM : M.size ≤ maxLen := by unfold maxLen; omega
    clear hI2
    cases hn : Lend.nums V M.data.toList with
    | none =>
      have HN := Lib.hid hn; clear hn
      go_wp2_with fail
      refine (read_any V M _ _ _ (by omega) mM HI.out).mono ?_
      rintro e w1 h1
      obtain ⟨rfl, he1⟩ := readPost_none HN.out h1
      clear h1
      go_wp2_with fail
      refine (refread_any V M _ _ _ (by omega) mM (HI.out.ext he1)).mono ?_
      rintro e w2 h1
      obtain ⟨rfl, he2⟩ := readPost_none HN.out h1
      clear h1
      go_wp2_with fail
      refine wp_loop_rounds 1 ?_
      rw [rounds_succ]
      go_wp2_with fail
      refine (wakes01 _).mono ?_
      rintro e w3 ⟨rfl, he3⟩
      go_wp2_with fail
      go_ret
      exact ⟨rfl, he.trans (he1.trans (he2.trans he3))⟩
    | some p =>
      obtain ⟨ns, rest⟩ := p
      have hnl := nums_length hn
      have HN := Lib.hid hn; clear hn
      go_wp2_with fail
      refine (read_any V M _ _ _ (by omega) mM HI.out).mono ?_
      rintro e w1 h1
      obtain ⟨x, cx, rfl, hx, he1⟩ := readPost_some HN.out h1
      clear h1
      go_wp2_with fail
      refine (refread_any V M _ _ _ (by omega) mM (HI.out.ext he1)).mono ?_
      rintro e w2 h1
      obtain ⟨y, cy, rfl, hy, he2⟩ := readPost_some HN.out h1
      have HX := Lib.hid (hx.ext he2); have HY := Lib.hid hy
      clear h1 hx hy
      go_wp2_with fail
      go_loopw [53] (fun i wx => ∃ k : Nat, k ≤ ns.length ∧ i = .int .i64 k ∧ Ext w2 wx) (fun i _ => ns.length - (intOf i).toNat)
      case atStart => exact ⟨0, by omega, rfl, Ext.refl _⟩
      case round =>
        obtain ⟨k, hk, rfl, hex⟩ := hrel
        by_cases hlt : k < ns.length
        · obtain ⟨b1, o1, rfl, hc1⟩ := (HX.out.ext hex).at k hlt
          obtain ⟨b2, o2, rfl, hc2⟩ := (HY.out.ext hex).at k hlt
          generalize ns[k] = n at *
          go_wp2_with fail
          go_quiet (fail)
          go_wp2_with fail
          go_roundw
          case rel => exact ⟨k + 1, by omega, by go_num, hex.trans (Ext.drewN _ _)⟩
          case measure => simp [intOf]; omega
        · obtain rfl : k = ns.length := by omega
          go_wp2_with fail
          refine (wakes01 _).mono ?_
          rintro e w3 ⟨rfl, he3⟩
          go_wp2_with fail
          go_ret
          exact ⟨rfl, he.trans (he1.trans (he2.trans (hex.trans he3)))⟩
end Go.Proofs.Ytmcnnjglcffimaa
