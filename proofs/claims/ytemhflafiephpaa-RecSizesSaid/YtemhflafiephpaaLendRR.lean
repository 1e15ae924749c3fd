/- The contract of the reference's Read. Condition: up to 1000 widths. -/
import Derived.Test.YtemhflafiephpaaLendRead
namespace Go.Proofs.Ytemhflafiephpaa
open Go.RowKit
theorem nums_bad {ws : List Int} {l : List UInt8} {k : Nat} (h : k < ws.length) (hb : Lend.okW ws[k] = true → ∀ x : Nat, ws[k] = x → l.length < Lend.total (ws.take k) + x) : Lend.nums ws l = none := by
  rw [Lend.nums_eq, if_neg]
  intro hh
  rw [Bool.and_eq_true, decide_eq_true_eq] at hh
  have hok := List.all_eq_true.1 hh.1 ws[k] (by simp)
  have ⟨l1, l2⟩ := Lend.okW_iff.1 hok
  have h9 := hb hok ws[k].toNat (by omega)
  have h8 := Lend.total_take_succ h
  have h7 := Lend.total_append (ws.take (k + 1)) (ws.drop (k + 1))
  rw [List.take_append_drop] at h7
  omega
theorem ext_mid (s : ByteArray) (x y : Nat) : (s.extract x y).data.toList = (s.data.toList.drop x).take (y - x) := by
  rw [ext_data, List.drop_take]
set_option maxRecDepth 100000 in
set_option maxHeartbeats 2000000 in
theorem refread_any (ws : List Int) (s : ByteArray) (a : Option Addr) (ca : Nat) (w : World) (hl : ws.length ≤ 1000) (hs : s.size ≤ maxLen) (hI : Ints .i64 w a ws) :
    Calls Try.prog 52 #[.slice a ws.length ca, .string s] w fun e w' => ReadPost ws s w e w' := by
  unfold maxLen at hs
  have HI := Lib.hid hI; clear hI
  go_enter Try.func52, Try.ntmps52
  go_wp2_with fail
  go_loopw [7, 8, 9] (fun v t i wx => ∃ (k T : Nat), k ≤ ws.length ∧ i = .int .i64 k ∧ t = .int .i64 T ∧ T ≤ s.size ∧ T = Lend.total (ws.take k) ∧ (ws.take k).all Lend.okW = true ∧ OwnN wx w.heap.size v (Lend.cut (ws.take k) s.data.toList) ∧ Ext w wx) (fun _ _ i _ => ws.length - (intOf i).toNat)
  case atStart => exact ⟨0, 0, by omega, rfl, rfl, by omega, rfl, rfl, World.ownsRow_nil _ _ _ _, Ext.refl _⟩
  case round =>
    obtain ⟨k, T, hk, rfl, rfl, hTs, hT, hall, hown, hex⟩ := hrel
    have HT := Lib.hid hT; have HA := Lib.hid hall; have HO := Lib.hid hown
    clear hT hall hown
    by_cases hlt : k < ws.length
    · obtain ⟨b1, o1, rfl, hc1⟩ := (HI.out.ext hex) k hlt
      by_cases hlo : ws[k] < 1
      · have hno := Lib.hid (nums_bad (l := s.data.toList) hlt (fun h => by rw [Lend.okW_lo hlo] at h; cases h))
        generalize ws[k] = x at *
        have hd : decide (x < 1) = true := decide_eq_true hlo
        go_wp2_with fail
        go_ret3
        unfold ReadPost; rw [hno.out]
        exact ⟨hex, rfl⟩
      · by_cases hhi : 8 < ws[k]
        · have hno := Lib.hid (nums_bad (l := s.data.toList) hlt (fun h => by rw [Lend.okW_hi hhi] at h; cases h))
          generalize ws[k] = x at *
          have hd : decide (x < 1) = false := decide_eq_false hlo
          have hd2 : decide (8 < x) = true := decide_eq_true hhi
          go_wp2_with fail
          go_ret3
          unfold ReadPost; rw [hno.out]
          exact ⟨hex, rfl⟩
        · obtain ⟨x, hx⟩ : ∃ x : Nat, ws[k] = (x : Int) := ⟨ws[k].toNat, by omega⟩
          have hok := Lend.okW_true (w := ws[k]) (by omega) (by omega)
          by_cases hfit : T + x ≤ s.size
          · have htk := Lib.hid (Lend.total_take_succ hlt)
            have hct := Lib.hid (Lend.cut_take hlt s.data.toList)
            have hax := Lib.hid (Lend.all_take_succ hlt HA.out hok)
            have HX := Lib.hid hx
            rw [hx] at hc1 hlo hhi
            clear hx hok
            have hd : decide ((x : Int) < 1) = false := decide_eq_false hlo
            have hd2 : decide ((8 : Int) < (x : Int)) = false := decide_eq_false hhi
            have hd3 : decide ((s.size : Int) - (T : Int) < (x : Int)) = false := decide_eq_false (by omega)
            have hesz : (s.extract T (T + x)).size ≤ 8 := by simp; omega
            have hee := Lib.hid (ext_mid s T (T + x))
            have hB2 : w.heap.size ≤ wr.heap.size := hex.size
            have hln : (Lend.cut (ws.take k) s.data.toList).length ≤ 1000000 := by rw [Lend.cut_length]; simp; omega
            have hf1 : (T : Int) + (x : Int) ≤ s.size := by omega
            have hf2 : (T : Int) ≤ (T : Int) + x := by omega
            have hf3 : ((T : Int) + (x : Int)).toNat = T + x := by omega
            go_wp2_with fail
            refine (get_any _ _ hesz).mono ?_
            rintro e w1 ⟨rfl, rfl⟩
            have hnb := le_lt8 (l := (s.extract T (T + x)).data.toList) (by rw [Array.length_toList]; exact hesz)
            generalize hN : Crc.le (s.extract T (T + x)).data.toList = N at *
            have HN := Lib.hid hN; clear hN
            go_wp2_with (at_builtin; refine wpl_num rfl _ _ rfl rfl HO.out hB2 hln rfl N ?_; intro v' w' ho hb; have HO3 := Lib.hid ho; clear ho)
            go_roundw
            case rel =>
              refine ⟨k + 1, T + x, by omega, by go_num, by go_num, hfit, ?_, hax.out, ?_, Below.trans hex hb⟩
              · rw [htk.out, ← HT.out, HX.out]; rfl
              · have h9 := HO3.out
                have e : Lend.cut (ws.take (k + 1)) s.data.toList = Lend.cut (ws.take k) s.data.toList ++ [N] := by
                  rw [hct.out, ← HT.out, HX.out, ← HN.out, hee.out]
                  congr 5
                  simp
                rw [e]; exact h9
            case measure => simp [intOf]; omega
          · have hno := Lib.hid (nums_bad (l := s.data.toList) hlt (fun _ y hy => by
              have : y = x := by omega
              subst this
              rw [← HT.out]; simp; omega))
            rw [hx] at hc1 hlo hhi
            clear hx hok
            have hd : decide ((x : Int) < 1) = false := decide_eq_false hlo
            have hd2 : decide ((8 : Int) < (x : Int)) = false := decide_eq_false hhi
            have hd3 : decide ((s.size : Int) - (T : Int) < (x : Int)) = true := decide_eq_true (by omega)
            go_wp2_with fail
            go_ret3
            unfold ReadPost; rw [hno.out]
            exact ⟨hex, rfl⟩
    · obtain rfl : k = ws.length := by omega
      have h9 := HA.out; have h8 := HT.out; have h7 := HO.out
      rw [List.take_of_length_le (Nat.le_refl _)] at h9 h8 h7
      have hyes : Lend.nums ws s.data.toList = some (Lend.cut ws s.data.toList, s.data.toList.drop T) := by
        rw [Lend.nums_eq, if_pos (by rw [h9, ← h8]; simpa using hTs), ← h8]
      have hyes := Lib.hid hyes
      have H7 := Lib.hid h7
      clear h9 h8 h7
      have hf1 : (T : Int) ≤ s.size := by omega
      go_wp2_with fail
      go_quiet (fail)
      go_wp2_with fail
      go_ret3
      unfold ReadPost; rw [hyes.out]
      refine ⟨hex.trans (Ext.drewN _ _), _, ?_, H7.out⟩
      have e : s.extract T s.size = ⟨(s.data.toList.drop T).toArray⟩ := bytes_ext (by rw [ext_data, List.take_of_length_le (by simp)])
      rw [← e]; rfl
end Go.Proofs.Ytemhflafiephpaa
