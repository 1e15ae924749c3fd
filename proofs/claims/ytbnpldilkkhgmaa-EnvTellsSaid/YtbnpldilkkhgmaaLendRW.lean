/- The contract of the reference's Write. Condition: up to 1000 widths. -/
import Derived.Test.YtbnpldilkkhgmaaLendR
import Derived.Test.YtbnpldilkkhgmaaDrift
namespace Go.Proofs.Ytbnpldilkkhgmaa
open Go.RowKit
theorem putAns_no {n : Nat} {x : Int} (h : Lend.okW x = true → ¬ n < 256 ^ x.toNat) : ∃ s, putAns n x = .tuple #[.string s, .bool false] := by
  unfold putAns
  cases hx : Lend.okW x with
  | false => exact ⟨_, rfl⟩
  | true => rw [decide_eq_false (h hx)]; exact ⟨_, rfl⟩
theorem append_list (a b : List UInt8) : (⟨a.toArray⟩ : ByteArray) ++ ⟨b.toArray⟩ = ⟨(a ++ b).toArray⟩ := bytes_ext (by simp)
theorem bytes_bad {ws : List Int} {ns : List Nat} {k : Nat} (h : ws.length = ns.length) (h1 : k < ws.length) (h2 : k < ns.length) (hb : Lend.okW ws[k] = true → ¬ ns[k] < 256 ^ ws[k].toNat) : Lend.bytes ws ns = none := by
  rw [Lend.bytes_eq h, if_neg]
  intro hh
  rw [Bool.and_eq_true] at hh
  exact hb (List.all_eq_true.1 hh.1 ws[k] (by simp)) ((Lend.fit_iff h).1 hh.2 k h1 h2)
theorem bytes_good {ws : List Int} {ns : List Nat} (h : ws.length = ns.length) (hg : ∀ k (h1 : k < ws.length) (h2 : k < ns.length), Lend.okW ws[k] = true ∧ ns[k] < 256 ^ ws[k].toNat) : Lend.bytes ws ns = some (Lend.cat ws ns) := by
  rw [Lend.bytes_eq h, if_pos]
  rw [Bool.and_eq_true]
  refine ⟨List.all_eq_true.2 fun x hx => ?_, (Lend.fit_iff h).2 fun k h1 h2 => (hg k h1 h2).2⟩
  obtain ⟨k, hk, rfl⟩ := List.getElem_of_mem hx
  exact (hg k hk (by omega)).1
set_option maxRecDepth 100000 in
set_option maxHeartbeats 2000000 in
theorem refwrite_any (ws : List Int) (ns : List Nat) (a b : Option Addr) (ca cb : Nat) (w : World) (hl : ws.length ≤ 1000) (hsm : SmallN ns) (hI : Ints .i64 w a ws) (hJ : Nums w b ns) :
    Calls Try.prog 21 #[.slice a ws.length ca, .slice b ns.length cb] w fun e w' => e = .returned (wAns ws ns) ∧ Ext w w' := by
  by_cases hn : ws.length = ns.length
  · have hne : ((ws.length : Int) != (ns.length : Int)) = false := by simp [hn]
    have HN := Lib.hid hn; have HI := Lib.hid hI; have HJ := Lib.hid hJ
    clear hn hI hJ
    go_enter Try.func21, Try.ntmps21
    go_wp2_with fail
    clear hne
    go_loopw [6, 7] (fun s i wx => ∃ k : Nat, k ≤ ws.length ∧ i = .int .i64 k ∧ s = .string ⟨(Lend.cat (ws.take k) (ns.take k)).toArray⟩ ∧ Ext w wx ∧ ∀ j (h1 : j < ws.length) (h2 : j < ns.length), j < k → Lend.okW ws[j] = true ∧ ns[j] < 256 ^ ws[j].toNat) (fun _ i _ => ws.length - (intOf i).toNat)
    case atStart => exact ⟨0, by omega, rfl, rfl, Ext.refl _, fun j _ _ h => by omega⟩
    case round =>
      obtain ⟨k, hk, rfl, rfl, hex, hfit⟩ := hrel
      have HF := Lib.hid hfit; clear hfit
      by_cases hlt : k < ws.length
      · have hltn : k < ns.length := by rw [← HN.out]; exact hlt
        obtain ⟨b1, o1, rfl, hc1⟩ := (HI.out.ext hex) k hlt
        obtain ⟨b2, o2, rfl, hc2⟩ := (HJ.out.ext hex).at k hltn
        have hnb : ns[k] < 18446744073709551616 := hsm _ (by simp)
        by_cases hg : Lend.okW ws[k] = true ∧ ns[k] < 256 ^ ws[k].toNat
        · have hcat := Lib.hid (Lend.cat_take hlt hltn)
          have hpa : putAns ns[k] ws[k] = .tuple #[.string ⟨(Lend.put ws[k].toNat ns[k]).toArray⟩, .bool true] := by rw [putAns, if_pos hg.1, decide_eq_true hg.2]
          have hap := append_list (Lend.cat (ws.take k) (ns.take k)) (Lend.put ws[k].toNat ns[k])
          have hlen : (Lend.cat (ws.take k) (ns.take k)).length ≤ 8000 := by
            have h1 := Lend.cat_length (ws.take k) (ns.take k)
            have h2 := Lend.total_le (ws := ws.take k) (List.all_eq_true.2 fun z hz => by
              obtain ⟨m, hm, rfl⟩ := List.getElem_of_mem hz
              simp only [List.getElem_take]
              simp at hm
              exact (HF.out m (by omega) (by have := HN.out; omega) (by omega)).1)
            simp at h2; omega
          have hlen2 : (Lend.put ws[k].toNat ns[k]).length ≤ 8 := by rw [Lend.put_length]; have := Lend.okW_iff.1 hg.1; omega
          have HPA := Lib.hid hpa; have HG := Lib.hid hg; have HAP := Lib.hid hap
          clear hpa hg hap
          obtain ⟨n, hnn⟩ : ∃ n, n = ns[k] := ⟨_, rfl⟩
          obtain ⟨x, hx⟩ : ∃ x, x = ws[k] := ⟨_, rfl⟩
          rw [← hnn] at hc2 hnb HPA hlen2 HAP
          rw [← hx] at hc1 HPA hlen2 HAP
          have HNN := Lib.hid hnn; have HX := Lib.hid hx
          clear hnn hx
          generalize hL : Lend.cat (ws.take k) (ns.take k) = L at *
          generalize hM : Lend.put x.toNat n = M at *
          have HLL := Lib.hid hL; have HMM := Lib.hid hM
          clear hL hM
          go_wp2_with fail
          refine wp_region_drift_lit (n := 39) (by kernel_rfl) (by kernel_rfl) (by rfl) ?_
          apply chain_val
          · intro w2 hx  K hK
            simp only [Act.put, List.setIfInBounds_toArray, List.set_cons_zero, List.set_cons_succ] at hK ⊢
            go_simp
            exact hK _ _ (Ext.refl _) rfl
          apply chain_val
          · intro w2 hx  K hK
            simp only [Act.put, List.setIfInBounds_toArray, List.set_cons_zero, List.set_cons_succ] at hK ⊢
            go_simp
            exact hK _ _ (Ext.refl _) rfl
          apply chain_val
          · intro w2 hx  K hK
            simp only [Act.put, List.setIfInBounds_toArray, List.set_cons_zero, List.set_cons_succ] at hK ⊢
            go_simp
            exact hK _ _ (Ext.refl _) rfl
          apply chain_val (.int .u64 n)
          · intro w2 hx  K hK
            simp only [Act.put, List.setIfInBounds_toArray, List.set_cons_zero, List.set_cons_succ] at hK ⊢
            have hc := cell_ext hc2 hx
            go_simp
            exact hK _ _ (Ext.refl _) rfl
          apply chain_val
          · intro w2 hx  K hK
            simp only [Act.put, List.setIfInBounds_toArray, List.set_cons_zero, List.set_cons_succ] at hK ⊢
            go_simp
            exact hK _ _ (Ext.refl _) rfl
          apply chain_val
          · intro w2 hx  K hK
            simp only [Act.put, List.setIfInBounds_toArray, List.set_cons_zero, List.set_cons_succ] at hK ⊢
            go_simp
            exact hK _ _ (Ext.refl _) rfl
          apply chain_val
          · intro w2 hx  K hK
            simp only [Act.put, List.setIfInBounds_toArray, List.set_cons_zero, List.set_cons_succ] at hK ⊢
            go_simp
            exact hK _ _ (Ext.refl _) rfl
          apply chain_val (.int .i64 x)
          · intro w2 hx  K hK
            simp only [Act.put, List.setIfInBounds_toArray, List.set_cons_zero, List.set_cons_succ] at hK ⊢
            have hc := cell_ext hc1 hx
            go_simp
            exact hK _ _ (Ext.refl _) rfl
          apply chain_val (.tuple #[.string ⟨M.toArray⟩, .bool true])
          · intro w2 hx  K hK
            simp only [Act.put, List.setIfInBounds_toArray, List.set_cons_zero, List.set_cons_succ] at hK ⊢
            go_simp
            refine (put_any n x _ hnb).mono ?_
            rw [HPA.out]
            rintro e w3 ⟨rfl, he3⟩
            exact hK _ _ he3 rfl
          apply chain_val
          · intro w2 hx  K hK
            simp only [Act.put, List.setIfInBounds_toArray, List.set_cons_zero, List.set_cons_succ] at hK ⊢
            go_simp
            exact hK _ _ (Ext.refl _) rfl
          apply chain_val
          · intro w2 hx  K hK
            simp only [Act.put, List.setIfInBounds_toArray, List.set_cons_zero, List.set_cons_succ] at hK ⊢
            go_simp
            exact hK _ _ (Ext.refl _) rfl
          apply chain_val
          · intro w2 hx  K hK
            simp only [Act.put, List.setIfInBounds_toArray, List.set_cons_zero, List.set_cons_succ] at hK ⊢
            go_simp
            exact hK _ _ (Ext.refl _) rfl
          apply chain_val
          · intro w2 hx  K hK
            simp only [Act.put, List.setIfInBounds_toArray, List.set_cons_zero, List.set_cons_succ] at hK ⊢
            go_simp
            exact hK _ _ (Ext.refl _) rfl
          apply chain_val
          · intro w2 hx  K hK
            simp only [Act.put, List.setIfInBounds_toArray, List.set_cons_zero, List.set_cons_succ] at hK ⊢
            go_simp
            exact hK _ _ (Ext.refl _) rfl
          refine chain_end fun w2 hx => ?_
          simp only [List.reverse_cons, List.reverse_nil, List.nil_append, List.cons_append, withDeps, Act.put, List.setIfInBounds_toArray, List.set_cons_zero, List.set_cons_succ]
          have hap := HAP.out
          go_wp2_with fail
          go_roundw
          case rel =>
            refine ⟨k + 1, by omega, by go_num, by rw [hcat.out, ← HMM.out, HNN.out, HX.out], hex.trans hx, fun j h1 h2 hj => ?_⟩
            by_cases hjk : j = k
            · subst hjk; exact HG.out
            · exact HF.out j h1 h2 (by omega)
          case measure => simp [intOf]; omega
        · obtain ⟨s', hpa⟩ := putAns_no (n := ns[k]) (x := ws[k]) (fun h h2 => hg ⟨h, h2⟩)
          have hbad := Lib.hid (wAns_none (bytes_bad HN.out hlt hltn (fun h h2 => hg ⟨h, h2⟩)))
          have HPA := Lib.hid hpa
          clear hpa hg
          generalize ns[k] = n at *
          generalize ws[k] = x at *
          generalize Lend.cat (ws.take k) (ns.take k) = L at *
          go_wp2_with fail
          refine wp_region_drift_lit (n := 39) (by kernel_rfl) (by kernel_rfl) (by rfl) ?_
          apply chain_val
          · intro w2 hx  K hK
            simp only [Act.put, List.setIfInBounds_toArray, List.set_cons_zero, List.set_cons_succ] at hK ⊢
            go_simp
            exact hK _ _ (Ext.refl _) rfl
          apply chain_val
          · intro w2 hx  K hK
            simp only [Act.put, List.setIfInBounds_toArray, List.set_cons_zero, List.set_cons_succ] at hK ⊢
            go_simp
            exact hK _ _ (Ext.refl _) rfl
          apply chain_val
          · intro w2 hx  K hK
            simp only [Act.put, List.setIfInBounds_toArray, List.set_cons_zero, List.set_cons_succ] at hK ⊢
            go_simp
            exact hK _ _ (Ext.refl _) rfl
          apply chain_val (.int .u64 n)
          · intro w2 hx  K hK
            simp only [Act.put, List.setIfInBounds_toArray, List.set_cons_zero, List.set_cons_succ] at hK ⊢
            have hc := cell_ext hc2 hx
            go_simp
            exact hK _ _ (Ext.refl _) rfl
          apply chain_val
          · intro w2 hx  K hK
            simp only [Act.put, List.setIfInBounds_toArray, List.set_cons_zero, List.set_cons_succ] at hK ⊢
            go_simp
            exact hK _ _ (Ext.refl _) rfl
          apply chain_val
          · intro w2 hx  K hK
            simp only [Act.put, List.setIfInBounds_toArray, List.set_cons_zero, List.set_cons_succ] at hK ⊢
            go_simp
            exact hK _ _ (Ext.refl _) rfl
          apply chain_val
          · intro w2 hx  K hK
            simp only [Act.put, List.setIfInBounds_toArray, List.set_cons_zero, List.set_cons_succ] at hK ⊢
            go_simp
            exact hK _ _ (Ext.refl _) rfl
          apply chain_val (.int .i64 x)
          · intro w2 hx  K hK
            simp only [Act.put, List.setIfInBounds_toArray, List.set_cons_zero, List.set_cons_succ] at hK ⊢
            have hc := cell_ext hc1 hx
            go_simp
            exact hK _ _ (Ext.refl _) rfl
          apply chain_val (.tuple #[.string s', .bool false])
          · intro w2 hx  K hK
            simp only [Act.put, List.setIfInBounds_toArray, List.set_cons_zero, List.set_cons_succ] at hK ⊢
            go_simp
            refine (put_any n x _ hnb).mono ?_
            rw [HPA.out]
            rintro e w3 ⟨rfl, he3⟩
            exact hK _ _ he3 rfl
          apply chain_val
          · intro w2 hx  K hK
            simp only [Act.put, List.setIfInBounds_toArray, List.set_cons_zero, List.set_cons_succ] at hK ⊢
            go_simp
            exact hK _ _ (Ext.refl _) rfl
          apply chain_val
          · intro w2 hx  K hK
            simp only [Act.put, List.setIfInBounds_toArray, List.set_cons_zero, List.set_cons_succ] at hK ⊢
            go_simp
            exact hK _ _ (Ext.refl _) rfl
          apply chain_val
          · intro w2 hx  K hK
            simp only [Act.put, List.setIfInBounds_toArray, List.set_cons_zero, List.set_cons_succ] at hK ⊢
            go_simp
            exact hK _ _ (Ext.refl _) rfl
          apply chain_val
          · intro w2 hx  K hK
            simp only [Act.put, List.setIfInBounds_toArray, List.set_cons_zero, List.set_cons_succ] at hK ⊢
            go_simp
            exact hK _ _ (Ext.refl _) rfl
          apply chain_val
          · intro w2 hx  K hK
            simp only [Act.put, List.setIfInBounds_toArray, List.set_cons_zero, List.set_cons_succ] at hK ⊢
            go_simp
            exact hK _ _ (Ext.refl _) rfl
          refine chain_end fun w2 hx => ?_
          simp only [List.reverse_cons, List.reverse_nil, List.nil_append, List.cons_append, withDeps, Act.put, List.setIfInBounds_toArray, List.set_cons_zero, List.set_cons_succ]
          go_wp2_with fail
          go_ret2
          exact ⟨by rw [hbad.out]; rfl, hex.trans hx⟩
      · obtain rfl : k = ws.length := by omega
        have hans := Lib.hid (wAns_some (bytes_good HN.out fun j h1 h2 => HF.out j h1 h2 h1))
        have e : Lend.cat (ws.take ws.length) (ns.take ws.length) = Lend.cat ws ns := by
          rw [List.take_of_length_le (Nat.le_refl _), List.take_of_length_le (by rw [HN.out]; exact Nat.le_refl _)]
        rw [e]
        clear e
        go_wp2_with fail
        go_ret2
        exact ⟨by rw [hans.out]; rfl, hex⟩
  · rw [wAns_none (Lend.bytes_ne hn)]
    have hne : ((ws.length : Int) != (ns.length : Int)) = true := by simp; omega
    clear hn hI hJ hsm
    go_enter Try.func21, Try.ntmps21
    go_wp2_with fail
    go_ret2
    exact ⟨rfl, Ext.refl _⟩
end Go.Proofs.Ytbnpldilkkhgmaa
