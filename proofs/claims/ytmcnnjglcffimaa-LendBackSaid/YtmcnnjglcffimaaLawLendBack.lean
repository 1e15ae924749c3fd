/- The walk of law01.LendBack. -/
import Derived.Test.YtmcnnjglcffimaaLendBackP
import Derived.Deep.DeepCutAuto
namespace Go.Proofs.Ytmcnnjglcffimaa
open Go.RowKit
theorem cut_size (a : ByteArray) (n : Nat) : (a.extract 0 n).size ≤ n := by simp; omega
theorem read_yes_len {V : List Int} {M : List Nat} {T R : ByteArray} {k : Nat} (hk : V.length = k) (hn : Lend.nums V T.data.toList = some (M, R.data.toList)) (a : Option Addr) (ca : Nat) (w : World) (hl : k ≤ 1000) (hT : T.size ≤ maxLen) (hI : Ints .i64 w a V) :
    Calls Try.prog 24 #[.slice a k ca, .string T] w fun e w' => ∃ x cx, e = .returned (.tuple #[.slice x M.length cx, .string R, .bool true]) ∧ Nums w' x M ∧ Ext w w' := by
  subst hk
  refine (read_any V T a ca w hl hT hI).mono fun e w' h => ?_
  obtain ⟨x, cx, h1, h2, h3⟩ := readPost_some hn h
  exact ⟨x, cx, h1, h2, h3⟩
theorem read_no_len {V : List Int} {T : ByteArray} {k : Nat} (hk : V.length = k) (hn : Lend.nums V T.data.toList = none) (a : Option Addr) (ca : Nat) (w : World) (hl : k ≤ 1000) (hT : T.size ≤ maxLen) (hI : Ints .i64 w a V) :
    Calls Try.prog 24 #[.slice a k ca, .string T] w fun e w' => e = .returned (.tuple #[.slice none 0 0, .string ⟨#[]⟩, .bool false]) ∧ Ext w w' := by
  subst hk
  exact (read_any V T a ca w hl hT hI).mono fun e w' h => readPost_none hn h
theorem size_len {V : List Int} {k : Nat} (hk : V.length = k) (hok : V.all Lend.okW = true) (a : Option Addr) (ca : Nat) (w : World) (hl : k ≤ 1000) (hI : Ints .i64 w a V) :
    Calls Try.prog 22 #[.slice a k ca] w fun e w' => e = .returned (.int .i64 (Lend.total V : Nat)) ∧ w = w' := by
  subst hk
  have h := size_any V a ca w hl hI
  rw [Lend.size, if_pos hok] at h
  exact h
theorem write_len {V : List Int} {M : List Nat} {k : Nat} {v : Value} (hk : V.length = k) (hm : M.length = k) (hw : wAns V M = v) (a b : Option Addr) (ca cb : Nat) (w : World) (hl : k ≤ 1000) (hs : SmallN M) (hI : Ints .i64 w a V) (hJ : Nums w b M) :
    Calls Try.prog 19 #[.slice a k ca, .slice b k cb] w fun e w' => e = .returned v ∧ Ext w w' := by
  subst hk
  have h := write_any V M a b ca cb w hl hs hI hJ
  rw [hm, hw] at h
  exact h
set_option maxRecDepth 100000 in
set_option maxHeartbeats 2000000 in
theorem lendBack_walk (b : Option Addr) (ns : List Nat) (cb : Nat) (m : ByteArray) (w : World) (hJ : Nums w b ns) (hcb : ns.length ≤ cb ∧ cb ≤ maxLen) (hsm : SmallN ns) (hm : m.size ≤ maxLen) :
    Calls Try.prog 10 #[.slice b ns.length cb, .string m] w fun e w' => e = .returned (.bool true) ∧ Ext w w' := by
  unfold maxLen at hcb hm
  obtain ⟨hcb, hcb2⟩ := hcb
  go_enter Try.func10, Try.ntmps10
  go_upto_region 2 with (fail)
  go_cut [0, 1] (fun x y wr => ∃ (M : List Nat) (R : ByteArray), x = .slice b M.length cb ∧ y = .string R ∧ M.length ≤ 20 ∧ R.size ≤ 50 ∧ M.length ≤ cb ∧ Nums wr b M ∧ SmallN M ∧ Ext w wr)
  case first =>
    go_quiet (fail)
    go_wp2_with fail
    all_goals go_meet
    all_goals exact ⟨ns.take 20, _, by rw [List.length_take]; congr 1; omega, rfl, take_size _ _, by first | exact cut_size _ _ | omega, by rw [List.length_take]; omega, (hJ.take 20).ext (Ext.drewN _ _), hsm.take 20, Ext.drewN _ _⟩
  case rest =>
    obtain ⟨M, R, rfl, rfl, hM, hR, hMc, hJ2, hs2, he⟩ := hcut
    have HJ := Lib.hid hJ2; clear hJ2 hJ hsm
    go_wp2_with fail
    go_loopw [5, 31] (fun v i wx => ∃ (k : Nat) (V : List Int), k ≤ M.length ∧ i = .int .i64 k ∧ Lend.tightAll V (M.take k) ∧ OwnI wx wc.heap.size v V ∧ Ext wc wx) (fun _ i _ => M.length - (intOf i).toNat)
    case atStart => exact ⟨0, [], by omega, rfl, trivial, World.ownsRow_nil _ _ _ _, Ext.refl _⟩
    case round =>
      obtain ⟨k, V, hk, rfl, htight, hown, hex⟩ := hrel
      have HO := Lib.hid hown; have HT := Lib.hid htight
      have hvl : V.length = k := by have := Lend.tightAll_length htight; rw [List.length_take] at this; omega
      clear hown htight
      by_cases hlt : k < M.length
      · obtain ⟨b1, o1, rfl, hc1⟩ := (HJ.out.ext hex).at k hlt
        have hnb : M[k] < 18446744073709551616 := hs2 _ (by simp)
        obtain ⟨n, hn⟩ : ∃ n, n = M[k] := ⟨_, rfl⟩
        rw [← hn] at hc1 hnb
        have HN := Lib.hid hn; clear hn
        go_wp2_with fail
        go_loop [8, 9] (fun j K => ∃ x y : Nat, j = .int .i64 x ∧ K = .int .u64 y ∧ 1 ≤ x ∧ y = n / 256 ^ x ∧ (x = 1 ∨ 256 ^ (x - 1) ≤ n)) (fun _ K => (intOf K).toNat)
        case atStart => exact ⟨1, n / 256, rfl, by go_num, by omega, by simp, .inl rfl⟩
        case round =>
          obtain ⟨x, y, rfl, rfl, hx1, hy, hor⟩ := hrel
          have hx8 := Lend.tight_bound hnb hor
          have hyb : y < 18446744073709551616 := by rw [hy]; exact Nat.lt_of_le_of_lt (Nat.div_le_self _ _) hnb
          have HY := Lib.hid hy; have HOR := Lib.hid hor
          clear hy hor
          by_cases hy0 : y = 0
          · subst hy0
            have htg := Lib.hid (Lend.tight_end hnb HOR.out hx1 HY.out.symm)
            have hB2 : wc.heap.size ≤ wr.heap.size := hex.size
            have hln : V.length ≤ 1000000 := by omega
            go_wp2_with (at_builtin; refine wpl_int rfl _ _ rfl rfl HO.out hB2 hln rfl (x : Int) ?_; intro v' w' ho hb; have HO2 := Lib.hid ho; clear ho)
            go_roundw
            case rel =>
              refine ⟨k + 1, V ++ [(x : Int)], by omega, by go_num, ?_, HO2.out, Below.trans hex hb⟩
              rw [List.take_succ_eq_append_getElem hlt, ← HN.out]
              exact Lend.tightAll_snoc HT.out htg.out
            case measure => simp [intOf]; omega
          · have hyp : decide (0 < (y : Int)) = true := decide_eq_true (by omega)
            have hst := Lib.hid (Lend.tight_step (n := n) (j := x) (by rw [← HY.out]; omega))
            go_wp2_with fail
            go_round
            case rel => exact ⟨x + 1, y / 256, by go_num, by go_num, by omega, by rw [HY.out, Nat.div_div_eq_div_mul, Nat.pow_succ], hst.out⟩
            case measure => simp [intOf]; omega
      · obtain rfl : k = M.length := by omega
        obtain ⟨a, ca, rfl, hca, hca2, hI⟩ := own_ints HO.out
        have htall := HT.out
        rw [List.take_of_length_le (Nat.le_refl _)] at htall
        have HI := Lib.hid hI
        have HTT := Lib.hid htall
        have hcl := Lend.cat_length_eq (Lend.tightAll_length htall)
        have htl := Lend.total_le (Lend.tightAll_ok htall)
        have hW := Lib.hid (wAns_some (Lend.tight_bytes htall))
        have hN := Lib.hid (Lend.tight_nums htall R.data.toList)
        unfold maxLen at hca2
        obtain ⟨S, hS⟩ : ∃ S : ByteArray, S = ⟨(Lend.cat V M).toArray⟩ := ⟨_, rfl⟩
        have hSs : S.size = (Lend.cat V M).length := by rw [hS]; exact List.size_toArray
        have hSl : S.data.toList = Lend.cat V M := by rw [hS]
        rw [hvl] at hca htl
        rw [← hS] at hW
        rw [← hSl] at hN
        rw [hcl] at hSs
        have HSL := Lib.hid hSl
        clear hI htall hcl hS hSl HO HT
        simp only [hvl]
        go_wp2_with fail
        refine (write_len hvl rfl hW.out a b ca cb wr (by omega) hs2 HI.out (HJ.out.ext hex)).mono ?_
        rintro e w1 ⟨rfl, he1⟩
        have hN1 := Lib.hid (show Lend.nums V (S ++ R).data.toList = some (M, R.data.toList) by rw [← hN.out]; simp)
        have hsz1 : (S ++ R).size ≤ maxLen := by rw [ByteArray.size_append]; unfold maxLen; omega
        go_wp2_with fail
        refine (read_yes_len hvl hN1.out a ca w1 (by omega) hsz1 (HI.out.ext he1)).mono ?_
        rintro e w2 ⟨x, cx, rfl, hX0, he2⟩
        have HX := Lib.hid hX0; clear hX0
        go_wp2_with fail
        refine (wakes01 _).mono ?_
        rintro e w3 ⟨rfl, he3⟩
        go_wp2_with fail
        refine (size_len hvl (Lend.tightAll_ok HTT.out) a ca _ (by omega) (((HI.out.ext he1).ext he2).ext he3)).mono ?_
        rintro e w4 ⟨rfl, rfl⟩
        have hsv : ((S.size : Int) != (Lend.total V : Int)) = false := by rw [hSs]; simp
        go_wp2_with fail
        go_loopw [94] (fun i wx => ∃ k : Nat, k ≤ M.length ∧ i = .int .i64 k ∧ Ext w3 wx) (fun i _ => M.length - (intOf i).toNat)
        case atStart => exact ⟨0, by omega, rfl, Ext.refl _⟩
        case round =>
          obtain ⟨k, hk, rfl, hex5⟩ := hrel
          have HI5 := Lib.hid ((((HI.out.ext he1).ext he2).ext he3).ext hex5)
          have HJ5 := Lib.hid (((((HJ.out.ext hex).ext he1).ext he2).ext he3).ext hex5)
          have HX5 := Lib.hid ((HX.out.ext he3).ext hex5)
          by_cases hlt : k < M.length
          · obtain ⟨b1, o1, rfl, hc1⟩ := HX5.out.at k hlt
            obtain ⟨b2, o2, rfl, hc2⟩ := HJ5.out.at k hlt
            obtain ⟨y, hy, t1, t2, t3, t4⟩ := Lend.tightAll_at HTT.out k (by omega) hlt
            generalize M[k] = n at hc1 hc2
            have HY := Lib.hid hy
            clear t3 t4 hy
            have hkx : V.length = M.length := hvl
            by_cases hy1 : y = 1
            · go_wp2_with fail
              go_quiet (fail)
              go_wp2_with (at_builtin; refine wpl_copy rfl _ _ rfl rfl rfl hvl (by exact HI5.out.ext (Ext.drewN _ _)) (by omega) (by omega) ?_; intro g cap w6 hg hcap hG hex6 hfz; have hfk := hfz k; clear hfz; obtain ⟨b3, o3, h7, hgc⟩ := hG k (by omega); cases h7; rw [Nat.zero_add, HY.out] at hgc; have HG := Lib.hid hG; clear hG)
              go_roundw
              case rel => exact ⟨k + 1, by omega, by go_num, hex5.trans ((Ext.drewN _ _).trans (Ext.trans_set hex6 hg _ _))⟩
              case measure => simp [intOf]; omega
            · go_wp2_with fail
              go_quiet (fail)
              go_wp2_with (at_builtin; refine wpl_copy rfl _ _ rfl rfl rfl hvl (by exact HI5.out.ext (Ext.drewN _ _)) (by omega) (by omega) ?_; intro g cap w6 hg hcap hG hex6 hfz; have hfk := hfz k; clear hfz; obtain ⟨b3, o3, h7, hgc⟩ := hG k (by omega); cases h7; rw [Nat.zero_add, HY.out] at hgc; have HG := Lib.hid hG; clear hG)
              have hset := Lib.hid (HG.out.set k (by omega) ((y : Int) - 1))
              have hcl6 := hex5.trans ((Ext.drewN wr nq).trans (Ext.trans_set hex6 hg k (.int .i64 ((y : Int) - 1))))
              have hless := Lib.hid (wAns_none (show Lend.bytes (V.set k ((y : Int) - 1)) M = none by
                have h9 := Lend.tight_less HTT.out k (by omega) (by rw [HY.out]; omega)
                rwa [HY.out] at h9))
              refine (write_len (by rw [List.length_set]; exact hvl) rfl hless.out _ _ cap cb _ (by omega) hs2 hset.out (HJ5.out.ext ((Ext.drewN wr nq).trans (Ext.trans_set hex6 hg _ _)))).mono ?_
              rintro e w7 ⟨rfl, he7⟩
              go_wp2_with fail
              go_roundw
              case rel => exact ⟨k + 1, by omega, by go_num, hcl6.trans he7⟩
              case measure => simp [intOf]; omega
          · obtain rfl : k = M.length := by omega
            have hse : S.size = 0 ∨ 0 < S.size := by omega
            rcases hse with h0 | h0
            · go_wp2_with fail
              go_ret
              exact ⟨rfl, he.trans (hex.trans (he1.trans (he2.trans (he3.trans hex5))))⟩
            · have hshort := Lib.hid (show Lend.nums V (S.extract 0 (Lend.total V - 1)).data.toList = none from Lend.tight_short HTT.out (by rw [← HSL.out]; simp; omega))
              go_wp2_with fail
              refine (read_no_len hvl hshort.out a ca _ (by omega) (by simp [maxLen]; omega) HI5.out).mono ?_
              rintro e w7 ⟨rfl, he7⟩
              go_wp2_with fail
              go_ret
              exact ⟨rfl, he.trans (hex.trans (he1.trans (he2.trans (he3.trans (hex5.trans he7)))))⟩
end Go.Proofs.Ytmcnnjglcffimaa
