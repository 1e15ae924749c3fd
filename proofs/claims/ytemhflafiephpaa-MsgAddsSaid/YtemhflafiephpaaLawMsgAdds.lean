/- The walk of law14.MsgAdds. -/
import Derived.Test.YtemhflafiephpaaMsgAddsP
import Derived.Test.YtemhflafiephpaaMsgAll
import Derived.Test.YtemhflafiephpaaMsgJoin
namespace Go.Proofs.Ytemhflafiephpaa
open Go.RowKit
theorem nums_cut {w : World} {a : Option Addr} {l : List Nat} {ca : Nat} (hU : Nums w a l) (hcb : l.length ≤ ca) (hS : SmallN l) (n : Nat) :
    Nums w a (l.take n) ∧ SmallN (l.take n) ∧ (l.take n).length ≤ n ∧ (l.take n).length ≤ ca := by
  refine ⟨?_, fun u hu => hS u (List.mem_of_mem_take hu), by rw [List.length_take]; omega, by rw [List.length_take]; omega⟩
  unfold Nums
  rw [List.map_take]
  intro i hi
  have hi' : i < (l.map Int.ofNat).length := by rw [List.length_take] at hi; omega
  obtain ⟨b, o, h1, h2⟩ := hU i hi'
  exact ⟨b, o, h1, by rw [h2]; simp⟩
set_option maxRecDepth 100000 in
set_option maxHeartbeats 4000000 in
theorem msgAdds_walk (a : Option Addr) (l : List Nat) (ca : Nat) (n : Nat) (o : ByteArray) (w : World) (hN : Nums w a l) (hca : l.length ≤ ca ∧ ca ≤ maxLen) (hS : SmallN l) (hn : n < 18446744073709551616) (ho : o.size ≤ maxLen) :
    Calls Try.prog 7 #[.slice a l.length ca, .int .u64 n, .string o] w fun e w' => e = .returned (.bool true) ∧ Ext w w' := by
  unfold maxLen at ho hca
  obtain ⟨hcb, hcb2⟩ := hca
  have hUc := nums_cut hN hcb hS 20
  have HU := Lib.hid hN; clear hN
  go_enter Try.func7, Try.ntmps7
  go_upto_region 3 with (fail)
  go_cut [24, 25, 26] (fun sl n i wr => ∃ L : List Nat, sl = .slice a L.length ca ∧ n = .int .i64 L.length ∧ i = .int .i64 0 ∧ L.length ≤ 20 ∧ L.length ≤ ca ∧ Nums wr a L ∧ SmallN L ∧ wr = w)
  case first =>
    obtain ⟨q1, q2, q3, q4⟩ := hUc
    have q5 : (l.take 20).length = min 20 l.length := List.length_take
    go_wp2_with fail
    all_goals go_meet
    all_goals exact ⟨l.take 20, by rw [q5]; congr 1; omega, by rw [q5]; congr 1; omega, rfl, q3, q4, q1, q2, rfl⟩
  obtain ⟨L, rfl, rfl, rfl, h3, h4, hU2, hS2, rfl⟩ := hcut
  clear hUc HU
  have HU := Lib.hid hU2; clear hU2
  go_wp2_with fail
  go_loopw [7, 8, 26] (fun al su i wx => ∃ (k : Nat), k ≤ L.length ∧ i = .int .i64 k ∧ su = .int .u64 (((L.take k).sum % 18446744073709551616 : Nat) : Int) ∧ OwnU wx wc.heap.size al ((L.take k).map (Msg.addU keyK)) ∧ Ext wc wx) (fun _ _ i _ => L.length - (intOf i).toNat)
  case atStart => exact ⟨0, by omega, rfl, rfl, OwnE.nil _ _ _, Ext.refl _⟩
  case round =>
    obtain ⟨k, hk, rfl, rfl, hown, hex⟩ := hrel
    have HO := Lib.hid hown; clear hown
    by_cases hlt : k < L.length
    · obtain ⟨b1, o1, rfl, hc⟩ := (HU.out.ext hex).at k hlt
      have hd := hS2 L[k] (by simp)
      have hst := Lib.hid (Msg.sum_take hlt)
      have hmt := Lib.hid (Msg.map_take hlt keyK)
      have hw := wrap_add ((L.take k).sum % 18446744073709551616) L[k]
      have hln : ((L.take k).map (Msg.addU keyK)).length ≤ 1000000 := by simp; omega
      have hB : wc.heap.size ≤ wr.heap.size := hex.size
      have hmod := Lib.hid (show ((L.take k).sum % 18446744073709551616 + L[k]) % 18446744073709551616 = (L.take (k + 1)).sum % 18446744073709551616 by rw [hst.out]; omega)
      generalize (L.take k).sum % 18446744073709551616 = S at *
      generalize L[k] = d at *
      go_wp2_with (at_builtin; refine wpl_upd rfl _ _ rfl rfl HO.out hB hln rfl 3 d keyK ⟨#[]⟩ ?_; intro v' w' ho hb; have HO2 := Lib.hid ho; clear ho)
      go_roundw
      case rel => exact ⟨k + 1, by omega, by go_num, by rw [← hmod.out]; congr 1, by rw [hmt.out]; exact HO2.out, Below.trans hex hb⟩
      case measure => simp [intOf]; omega
    · obtain rfl : k = L.length := by omega
      rw [List.take_of_length_le (Nat.le_refl _)] at HO ⊢
      obtain ⟨a2, cap, rfl, ⟨hc1, hc2⟩, hg, hR⟩ := own_recs HO.out
      have hAl : (L.map (Msg.addU keyK)).length = L.length := by simp
      rw [hAl] at hc1 hg ⊢
      unfold maxLen at hc2
      by_cases h0 : L.length = 0
      · have hle : ((L.length : Int) == 0) = true := by rw [h0]; rfl
        clear hR hg
        go_wp2_with fail
        refine (wakes14 _).mono ?_
        rintro e w1 ⟨rfl, he1⟩
        go_wp2_with fail
        go_ret
        exact ⟨rfl, hex.trans he1⟩
      · have hle : ((L.length : Int) == 0) = false := beq_eq_false_iff_ne.2 (by omega)
        obtain ⟨g, rfl, hgB⟩ := hg (by omega)
        have hR0 := hR 0 (by omega)
        obtain ⟨b', o', e', c0, c1, c2, c3⟩ := hR0
        cases e'
        simp only [List.getElem_map, Msg.addU, Nat.zero_mul, Nat.add_zero, Nat.zero_add] at c0 c1 c2 c3
        have HR := Lib.hid hR
        clear hR
        generalize hd0 : L[0] = d0 at *
        have HD0 := Lib.hid hd0; clear hd0
        obtain ⟨Sm, hSm⟩ : ∃ Sm, Sm = L.sum % 18446744073709551616 := ⟨_, rfl⟩
        rw [← hSm]
        have HS := Lib.hid hSm
        have hSl : Sm < 18446744073709551616 := by rw [hSm]; exact Nat.mod_lt _ (by decide)
        clear hSm
        have hAl2 : ((L.map (Msg.addU keyK)).drop 1).length = L.length - 1 := by simp
        go_upto_region 12 with (fail)
        have hR2 := Lib.hid (HR.out.ext (Ext.alloc wr (.cells #[.int .u8 3, .string keyK, .string ByteArray.empty, .int .u64 (d0 : Int)] 37)))
        go_cut [7, 47, 48, 49] (fun al sl n i wx => ∃ a3 c3, al = .slice (some ⟨g, 0, none⟩) L.length cap ∧ sl = .slice a3 (L.length - 1) c3 ∧ n = .int .i64 ((L.length - 1 : Nat) : Int) ∧ i = .int .i64 0 ∧ Recs wx a3 ((L.map (Msg.addU keyK)).drop 1) ∧ (∀ b o, a3 = some ⟨b, o, none⟩ → b = g) ∧ wx = wr.alloc (.cells #[.int .u8 3, .string keyK, .string ByteArray.empty, .int .u64 (d0 : Int)] 37))
        case first =>
          go_wp2_with fail
          all_goals go_meet
          · exact ⟨_, _, by rw [h], rfl, rfl, rfl, fun i hi => by simp at hi; omega, fun b o e => by cases e; rfl, rfl⟩
          · exact ⟨_, _, rfl, rfl, rfl, rfl, by have := hR2.out.drop 1; simpa using this, fun b o e => by cases e; rfl, rfl⟩
        obtain ⟨a3, c3, rfl, rfl, rfl, rfl, hR3, hg3, rfl⟩ := hcut
        have hgl : g < wr.heap.size := World.block_lt_of_cell? _ _ c0
        have hrow := RowIs.new wr 37 #[.int .u8 3, .string keyK, .string ByteArray.empty, .int .u64 (d0 : Int)]
        have hEW := hex.trans (Ext.alloc wr (.cells #[.int .u8 3, .string keyK, .string ByteArray.empty, .int .u64 (d0 : Int)] 37))
        have hgW : wc.heap.size ≤ wr.heap.size := hex.size
        have hsz : wr.heap.size < (wr.alloc (.cells #[.int .u8 3, .string keyK, .string ByteArray.empty, .int .u64 (d0 : Int)] 37)).heap.size := by simp
        generalize hW : (wr.alloc (.cells #[.int .u8 3, .string keyK, .string ByteArray.empty, .int .u64 (d0 : Int)] 37)) = W at *
        clear hW
        have HR3 := Lib.hid hR3; clear hR3
        have HRW := Lib.hid hrow; clear hrow
        generalize wr.heap.size = g1 at *
        have hd0l : d0 < 18446744073709551616 := by rw [← HD0.out]; exact hS2 _ (by simp)
        go_wp2_with fail
        go_loopw [49] (fun i wx => ∃ (k N : Nat), k ≤ L.length - 1 ∧ i = .int .i64 k ∧ N = (L.take (k + 1)).sum % 18446744073709551616 ∧ RowIs g1 37 #[.int .u8 3, .string keyK, .string ByteArray.empty, .int .u64 (N : Int)] wx ∧ But g1 W wx) (fun i _ => L.length - (intOf i).toNat)
        case atStart =>
          refine ⟨0, d0, by omega, rfl, ?_, HRW.out, But.refl _ _⟩
          rw [Msg.sum_take (by omega), List.take_zero, HD0.out]
          simp; omega
        case round =>
          obtain ⟨k, N, hk, rfl, hN, hrw, hbut⟩ := hrel
          have HN := Lib.hid hN
          have hNl : N < 18446744073709551616 := by rw [hN]; exact Nat.mod_lt _ (by decide)
          clear hN
          by_cases hlt : k < L.length - 1
          · have hk1 : k + 1 ≤ L.length - 1 := hlt
            have hm1 : L.length - (k + 1) < L.length - k := Nat.sub_lt_sub_left (Nat.lt_of_lt_of_le hlt (Nat.sub_le _ _)) (Nat.lt_succ_self k)
            obtain ⟨b3, o3, rfl, e0, e1, e2, e3⟩ := (HR3.out.but hbut fun b o e => by have := hg3 b o e; omega) k (by rw [hAl2]; exact hlt)
            obtain rfl := hg3 b3 o3 rfl
            clear hg3
            have hdx : L[1 + k]'(by omega) < 18446744073709551616 := hS2 _ (by simp)
            have hsum := Lib.hid (Msg.sum_take (ns := L) (k := k + 1) (by omega))
            simp only [List.getElem_drop, List.getElem_map, Msg.addU] at e0 e1 e2 e3
            have hx : L[1 + k]'(by omega) = L[k + 1]'(by omega) := by congr 1; omega
            rw [hx] at hdx e3
            clear hx
            generalize L[k + 1]'(by omega) = d at *
            have r0 := fun o => (hrw.ext (Ext.alloc _ o)).cell 0 (.int .u8 3) rfl
            have r1 := fun o => (hrw.ext (Ext.alloc _ o)).cell 1 (.string keyK) rfl
            have r2 := fun o => (hrw.ext (Ext.alloc _ o)).cell 2 (.string ByteArray.empty) rfl
            have r3 := fun o => (hrw.ext (Ext.alloc _ o)).cell 3 (.int .u64 (N : Int)) rfl
            go_wp2_with fail
            refine (join_any 3 N 3 d keyK ByteArray.empty keyK ByteArray.empty _ (by decide) (by decide) hNl hdx (Nat.zero_le _)).mono ?_
            have hjn := Msg.join_add keyK (L.take (k + 1)).sum d
            rw [← HN.out] at hjn
            unfold Msg.addU at hjn
            rw [hjn]
            have HN2 := Lib.hid (show ((L.take (k + 1)).sum + d) % 18446744073709551616 = (L.take (k + 1 + 1)).sum % 18446744073709551616 by rw [hsum.out])
            clear hjn
            generalize ((L.take (k + 1)).sum + d) % 18446744073709551616 = N2 at *
            unfold upV
            rintro e w2 ⟨rfl, he2⟩
            have HR2 := Lib.hid ((hrw.ext (Ext.alloc _ _)).ext he2)
            have HB2 := Lib.hid (hbut.trans (But.of ((Ext.alloc _ _).trans he2)))
            go_wp2_with (refine wpl_row rfl rfl rfl rfl HR2.out (by kernel_rfl) rfl (by simp [Value.oneCell']) ?_; intro w3 hw3 hr3; have HW3 := Lib.hid hw3; have HR3 := Lib.hid hr3; clear hw3 hr3)
            go_roundw
            case rel => exact ⟨k + 1, N2, hk1, by go_num, HN2.out, HR3.out, HB2.out.trans HW3.out.but⟩
            case measure => simp [intOf]; exact hm1
          · obtain rfl : k = L.length - 1 := by omega
            have hgg : ∀ b o, (some ⟨g, 0, none⟩ : Option Addr) = some ⟨b, o, none⟩ → b ≠ g1 := fun b o e => by cases e; omega
            have HRA := Lib.hid (hR2.out.but hbut hgg)
            have HAS := Lib.hid (show ∀ u ∈ L.map (Msg.addU keyK), SmallUp u from fun u hu => by
              obtain ⟨x, hx, rfl⟩ := List.mem_map.1 hu
              exact ⟨by show 3 < 256; decide, Nat.zero_le _, hS2 x hx⟩)
            have hNS : N = Sm := by rw [HN.out, HS.out, show L.length - 1 + 1 = L.length by omega, List.take_of_length_le (Nat.le_refl _)]
            subst hNS
            have hX1 := Lib.hid (Msg.all_none keyK L (by omega) hS2 ⟨#[]⟩)
            have hX2 := Lib.hid (Msg.all_num keyK L n hn)
            have hw := wrap_add n N
            have hNN := Lib.hid (show (n + L.sum) % 18446744073709551616 = (n + N) % 18446744073709551616 by rw [HS.out]; omega)
            rw [← HS.out] at hX1
            rw [hNN.out] at hX2
            have hNNl : (n + N) % 18446744073709551616 < 18446744073709551616 := Nat.mod_lt _ (by decide)
            generalize (n + N) % 18446744073709551616 = N2 at *
            have hEx := Lib.hid (hbut.ext hEW (by omega))
            have HRo := Lib.hid hrw
            clear hrw hbut
            go_wp2_with fail
            refine (all_len ⟨#[]⟩ false _ hAl _ cap _ (by omega) (by decide) HRA.out HAS.out).mono ?_
            rw [hX1.out]
            unfold pairV
            rintro e w1 ⟨rfl, he1⟩
            go_wp2_with fail
            refine (value_any n _ hn).mono ?_
            rintro e w2 ⟨rfl, he2⟩
            have he2 := he1.trans he2
            go_wp2_with fail
            refine (all_len (Msg.val n) true _ hAl _ cap _ (by omega) (by rw [Msg.val_size]; decide) (HRA.out.ext he2) HAS.out).mono ?_
            rw [hX2.out]
            unfold pairV
            rintro e w3 ⟨rfl, he3⟩
            have he3 := he2.trans he3
            go_upto_region 19 with (fail)
            go_cut [2] (fun x wr => ∃ V : ByteArray, x = .string V ∧ V.size ≤ 7 ∧ wr = w3)
            case first =>
              go_wp2_with fail
              all_goals go_meet
              all_goals exact ⟨_, rfl, by first | exact (cut_le _ _).1 | omega, rfl⟩
            obtain ⟨V, rfl, hV, rfl⟩ := hcut
            have hX3 := Lib.hid (Msg.all_text keyK V (by omega) L)
            go_wp2_with fail
            refine (all_len V true _ hAl _ cap _ (by omega) (by unfold maxLen; omega) (HRA.out.ext he3) HAS.out).mono ?_
            rw [hX3.out]
            unfold pairV
            rintro e w4 ⟨rfl, he4⟩
            go_wp2_with fail
            refine (wakes14 _).mono ?_
            rintro e w5 ⟨rfl, he5⟩
            go_wp2_with fail
            refine (value_any N _ hNl).mono ?_
            rintro e w6 ⟨rfl, he6⟩
            go_wp2_with fail
            refine (value_any N2 _ hNNl).mono ?_
            rintro e w7 ⟨rfl, he7⟩
            have he7 := he3.trans (he4.trans (he5.trans (he6.trans he7)))
            have r0 := (HRo.out.ext he7).cell 0 (.int .u8 3) rfl
            have r3 := (HRo.out.ext he7).cell 3 (.int .u64 (N : Int)) rfl
            go_wp2_with fail
            go_ret
            exact ⟨rfl, hEx.out.trans he7⟩
end Go.Proofs.Ytemhflafiephpaa
