/- The document's Flush, Stick. -/
import Derived.Test.YtcpbpfngiimcnaaDevR
namespace Go.Proofs.Ytcpbpfngiimcnaa
open Go.RowKit
namespace Dev
theorem stick_take {c : List (Nat × ByteArray)} {i k : Nat} (hk : k < c.length) : (c.take (k + 1)).filter (fun w => decide (w.1 ≠ i)) = (c.take k).filter (fun w => decide (w.1 ≠ i)) ++ (if c[k].1 = i then [] else [(c[k].1, c[k].2)]) := by
  rw [List.take_succ_eq_append_getElem hk, List.filter_append]
  congr 1
  by_cases h : c[k].1 = i
  · rw [if_pos h]; simp [h]
  · rw [if_neg h]; simp [h]
theorem stick_ok {d : St} (h : Ok d) (i : Int) : Ok (stick d i) := by
  unfold stick
  split
  · exact ⟨h.media, by show (d.bad.set _ _).length = 9; rw [List.length_set]; exact h.bad, h.text, fun w hw => h.cache w (List.mem_filter.1 hw).1⟩
  · exact h
end Dev
theorem CacheIs.mono {T : TypeId} {w : World} {B B' : Nat} {cv : Value} {c : List (Nat × ByteArray)} (h : CacheIs T w B cv c) (hB : B' ≤ B) : CacheIs T w B' cv c := by
  obtain ⟨hx, h | ⟨g, cap, cur, e, hb, hg⟩⟩ := h
  · exact ⟨hx, .inl h⟩
  · exact ⟨hx, .inr ⟨g, cap, cur, e, Nat.le_trans hB hb, hg⟩⟩
section
variable {w w' : World} {B b m q : Nat} {d d' : Dev.St} {cv : Value} {cm cq : Nat}
set_option maxRecDepth 100000 in
set_option maxHeartbeats 8000000 in
theorem refflush_any (hf : Dev.Fit d) (hP : RD w B b m q d) :
    Calls Try.prog 23 #[.pointer (some ⟨b, 0, none⟩)] w fun e w' => e = .returned (.int .i64 (((Dev.flush d).2 : Nat) : Int)) ∧ RD w' B b m q (Dev.flush d).1 ∧ DF 107 B b m q w w' := by
  have HP0 := Lib.hid hP
  obtain ⟨⟨cv, cm, cq, hr, hc⟩, hm, hq, hok, hlow⟩ := hP
  obtain ⟨a, cap, rfl, hcc, _⟩ := CacheIs.cells hc
  have HR := Lib.hid hr; have HC := Lib.hid hc; have HM := Lib.hid hm; have HQ := Lib.hid hq; have HOK := Lib.hid hok
  clear hr hc hm hq hok
  go_enter Try.func23, Try.ntmps23
  go_wp2_with fail
  refine (refready_any HR.out).mono ?_
  rintro e w1 ⟨rfl, rfl⟩
  by_cases h0 : Dev.ready d = 0
  case neg =>
    have hA : Dev.flush d = (d, Dev.ready d) := by unfold Dev.flush; rw [if_pos h0]
    have HA := Lib.hid hA
    clear hA
    generalize Dev.ready d = r at *
    have hr0 : ((r : Int) != 0) = true := by simp; omega
    go_wp2_with fail
    go_ret
    rw [HA.out]
    exact ⟨rfl, HP0.out, DF.refl _⟩
  rw [h0]
  go_wp2_with fail
  refine (refburn_any hf.fuse (Dev.ready_off h0) HR.out).mono ?_
  rintro e w3 ⟨rfl, hr3, hb3⟩
  have hP3 := (RD.row' HR.out HC.out HM.out HQ.out hlow hr3 hb3)
  obtain ⟨f, o, hbq⟩ := Dev.burn_eq d
  replace hP3 := hP3 (by rw [hbq]) (by rw [hbq]) (by rw [hbq]) (Dev.burn_ok HOK.out)
  have HBW := Lib.hid hb3
  clear hb3
  cases hbn : (Dev.burn d).2 with
  | true =>
    have hA : Dev.flush d = ((Dev.burn d).1, 6) := by unfold Dev.flush; rw [if_neg (by omega), if_pos hbn]
    have HA := Lib.hid hA
    clear hA
    go_wp2_with fail
    go_ret
    rw [HA.out]
    exact ⟨rfl, hP3, DF.but HBW.out (.inl rfl)⟩
  | false =>
    have hA : Dev.flush d = ({ (Dev.burn d).1 with media := Dev.settled d.media d.cache, cache := [], fls := d.fls + 1 }, 0) := by unfold Dev.flush; rw [if_neg (by omega), if_neg (by rw [hbn]; decide)]
    obtain ⟨d1, hd1, e1, e2, e3, e4⟩ : ∃ d1, (Dev.burn d).1 = d1 ∧ d1.media = d.media ∧ d1.bad = d.bad ∧ d1.cache = d.cache ∧ d1.fls = d.fls := ⟨_, rfl, by rw [hbq], by rw [hbq], by rw [hbq], by rw [hbq]⟩
    rw [hd1] at hr3 hP3 hA
    have HA := Lib.hid hA
    clear hA hd1 hbq hbn
    have HR3 := Lib.hid hr3; have HP3 := Lib.hid hP3
    have HE := Lib.hid (And.intro e1 (And.intro e2 (And.intro e3 e4)))
    have hlc := hf.cache
    clear hr3 hP3 e1 e2 e3 e4
    have HMW : Hid (ListAt 9 .string w3 m d.media) := Lib.hid (HM.out.but HBW.out (HR.out.ne_list HM.out (by decide)).symm)
    go_wp2_with fail
    go_loopw [5] (fun i wx => ∃ k : Nat, k ≤ d.cache.length ∧ i = .int .i64 k ∧ But m w3 wx ∧ ListAt 9 .string wx m (Dev.settled d.media (d.cache.take k))) (fun i _ => d.cache.length - (intOf i).toNat)
    case atStart => exact ⟨0, by omega, rfl, But.refl _ _, by simpa [Dev.settled] using HMW.out⟩
    case round =>
      obtain ⟨k, hk, rfl, hbm, hmk⟩ := hrel
      have hnm : b ≠ m := HR.out.ne_list HM.out (by decide)
      have hrW : RowIs b 65 (refRow d1 m q cm cq (.slice a d.cache.length cap)) wr := hbm.row HR3.out hnm
      have hcW : CacheIs 107 wr B (.slice a d.cache.length cap) d.cache := by
        obtain ⟨cs, hrm, _⟩ := HMW.out
        exact (HC.out.but HR.out (by decide) HBW.out).but hrm (by decide) hbm
      have htx := Dev.settled_ok (c := d.cache.take k) HOK.out.media HOK.out.text (fun x hx => HOK.out.cache x (List.mem_of_mem_take hx))
      have c3 := hrW.cell 3 (.slice a d.cache.length cap) rfl
      have HRW := Lib.hid hrW; have HBM := Lib.hid hbm; have HMK := Lib.hid hmk; have HTX := Lib.hid htx
      clear hrW hbm hmk htx
      by_cases hlt : k < d.cache.length
      · obtain ⟨a', cap', ea, _, hcells⟩ := CacheIs.cells hcW
        simp only [Value.slice.injEq, true_and] at ea
        obtain ⟨rfl, rfl⟩ := ea
        obtain ⟨g, rfl, hg, x0, x1⟩ := hcells k hlt
        have hsec := (HOK.out.cache d.cache[k] (List.getElem_mem hlt))
        have HST := Lib.hid (Dev.settled_take (m := d.media) hlt)
        clear hcells hcW
        generalize d.cache[k] = x at *
        obtain ⟨s, t⟩ := x
        simp only at x0 x1 hsec
        go_upto_region 10 with (fail)
        have c1 := HRW.out.cell 1 (.slice (some ⟨m, 0, none⟩) 9 cm) rfl
        have fm := HMK.out.free s
        have cms := HMK.out.cellT s (by rw [HTX.out.1]; exact hsec.1)
        have kI : 0 ≤ (s : Int) ∧ (s : Int) < 9 := by omega
        have kJ : 0 ≤ (k : Int) ∧ (k : Int) < (d.cache.length : Int) := by omega
        go_still_tail 21, (by kernel_rfl)
        change wpList _ _ _ _ _ wr.drew
        go_wp2_with fail
        go_roundw
        case rel => exact ⟨k + 1, by omega, by go_num, HBM.out.trans ((HMK.out.wrote s (.string t)).but.trans (But.of (Ext.drew _))), by rw [HST.out]; exact (HMK.out.set s t).ext (Ext.drew _)⟩
        case measure => simp [intOf]; omega
      · obtain rfl : k = d.cache.length := by omega
        rw [List.take_length] at HMK HTX
        have g3 := HRW.out.free 3
        have hfl : d1.fls ≤ 1000000 := by have := HE.out.2.2.2; have := hf.fls; omega
        have hr5 := HRW.out.setCell 3 (.slice none 0 0)
        have c12 := hr5.cell 12 (.int .i64 (d1.fls : Int)) rfl
        have f12 := hr5.free 12
        have hw5 := (Wrote.setCell HRW.out 3 (.slice none 0 0))
        clear hcW
        go_upto_region 12 with (fail)
        have HR5 := Lib.hid hr5; have HW5 := Lib.hid hw5
        clear hr5 hw5 c3 g3
        generalize wr.setCell ⟨b, 3, none⟩ (.slice none 0 0) = w5 at *
        go_wp2_with fail
        go_ret
        rw [HA.out]
        have e9 : (d1.fls : Int) + 1 = ((d.fls + 1 : Nat) : Int) := by have := HE.out.2.2.2; omega
        rw [e9]
        have hr6 := (HR5.out.setCell 12 (.int .i64 ((d.fls + 1 : Nat) : Int)))
        have hw6 : But b wr (w5.setCell ⟨b, 12, none⟩ (.int .i64 ((d.fls + 1 : Nat) : Int))) := (HW5.out.trans (Wrote.setCell HR5.out 12 _)).but
        have hnq : q ≠ m := HQ.out.ne_list HM.out (by decide)
        have hnb : q ≠ b := (HR.out.ne_list HQ.out (by decide)).symm
        have hbad : ListAt 4 .bool wr q d.bad := (HQ.out.but HBW.out hnb).but HBM.out hnq
        refine ⟨rfl, ⟨⟨.slice none 0 0, cm, cq, hr6, CacheIs.nil _ _ _⟩, HMK.out.but hw6 (fun e => hnm e.symm), ?_, ?_, hlow⟩, ((DF.but HBW.out (.inl rfl)).trans (DF.but HBM.out (.inr (.inl rfl)))).trans (DF.but hw6 (.inl rfl))⟩
        · show ListAt 4 .bool _ q d1.bad
          rw [HE.out.2.1]
          exact hbad.but hw6 hnb
        · exact ⟨HTX.out.1, by show d1.bad.length = 9; rw [HE.out.2.1]; exact HOK.out.bad, HTX.out.2, fun x hx => by cases hx⟩
set_option maxRecDepth 100000 in
set_option maxHeartbeats 8000000 in
theorem refstick_any (i : Int) (hf : Dev.Fit d) (hBW : B ≤ w.heap.size) (hP : RD w B b m q d) :
    Calls Try.prog 25 #[.pointer (some ⟨b, 0, none⟩), .int .i64 i] w fun e w' => (∃ v, e = .returned v) ∧ RD w' B b m q (Dev.stick d i) ∧ DF 107 B b m q w w' := by
  have HP0 := Lib.hid hP
  have HOK' := Lib.hid (Dev.stick_ok hP.ok i)
  obtain ⟨⟨cv, cm, cq, hr, hc⟩, hm, hq, hok, hlow⟩ := hP
  obtain ⟨a, cap, rfl, hcc, _⟩ := CacheIs.cells hc
  have HR := Lib.hid hr; have HC := Lib.hid hc; have HM := Lib.hid hm; have HQ := Lib.hid hq; have HOK := Lib.hid hok
  have c1 := hr.cell 1 (.slice (some ⟨m, 0, none⟩) 9 cm) rfl
  clear hr hc hm hq hok
  by_cases hi : 0 ≤ i ∧ i < 9
  case neg =>
    have HA := Lib.hid (show Dev.stick d i = d from by
      unfold Dev.stick
      cases h : Dev.isSec i with
      | false => rfl
      | true => exact absurd (Dev.isSec_iff.1 h) hi)
    by_cases hn : i < 0
    · go_enter Try.func25, Try.ntmps25
      go_wp2_with fail
      refine bodyPost_ret (results_none rfl _ _ _) rfl ?_
      rw [HA.out]
      exact ⟨⟨_, rfl⟩, HP0.out, DF.refl _⟩
    · have h9 : 9 ≤ i := by omega
      clear hi
      go_enter Try.func25, Try.ntmps25
      go_wp2_with fail
      refine bodyPost_ret (results_none rfl _ _ _) rfl ?_
      rw [HA.out]
      exact ⟨⟨_, rfl⟩, HP0.out, DF.refl _⟩
  obtain ⟨j, rfl⟩ : ∃ j : Nat, i = (j : Int) := ⟨i.toNat, by omega⟩
  have hj : j < 9 := by omega
  have HA := Lib.hid (show Dev.stick d (j : Int) = { d with bad := d.bad.set j true, cache := d.cache.filter fun w => decide (w.1 ≠ j) } from by
    unfold Dev.stick
    rw [if_pos (Dev.isSec_iff.2 hi), Int.toNat_natCast])
  have c2 := HR.out.cell 2 (.slice (some ⟨q, 0, none⟩) 9 cq) rfl
  have cb := HQ.out.cellD j (by rw [HOK.out.bad]; exact hj)
  have fb := HQ.out.free j
  have hlc := hf.cache
  have hq1 := HQ.out.set j true
  have hb1 := (HQ.out.wrote j (.bool true)).but
  go_enter Try.func25, Try.ntmps25
  go_upto_region 2 with (fail)
  generalize w.setCell ⟨q, j, none⟩ (.bool true) = w1 at *
  have hr1 := hb1.row HR.out (HR.out.ne_list HQ.out (by decide))
  have hm1 := HM.out.but hb1 (HM.out.ne_list HQ.out (by decide))
  have hc1 : CacheIs 107 w1 B (.slice a d.cache.length cap) d.cache := by
    obtain ⟨cs, hrq, _⟩ := HQ.out
    exact HC.out.but hrq (by decide) hb1
  have hsz := hb1.size
  have HR1 := Lib.hid hr1; have HM1 := Lib.hid hm1; have HC1 := Lib.hid hc1; have HQ1 := Lib.hid hq1; have HB1 := Lib.hid hb1
  clear hr1 hm1 hc1 hq1 hb1 c1 c2 cb fb
  go_wp2_with fail
  go_loopw [4, 5] (fun v i wx => ∃ k : Nat, k ≤ d.cache.length ∧ i = .int .i64 k ∧ CacheIs 107 wx w1.heap.size v ((d.cache.take k).filter fun w => decide (w.1 ≠ j)) ∧ Ext w1 wx) (fun _ i _ => d.cache.length - (intOf i).toNat)
  case atStart => exact ⟨0, by omega, rfl, CacheIs.nil _ _ _, Ext.refl _⟩
  case round =>
    obtain ⟨k, hk, rfl, hck, hex⟩ := hrel
    have c3 := (HR1.out.ext hex).cell 3 (.slice a d.cache.length cap) rfl
    have hcW := HC1.out.ext hex
    obtain ⟨av, nv, pv, rfl⟩ := CacheIs.shape hck
    have HCK := Lib.hid hck; have HEX := Lib.hid hex
    clear hck hex
    by_cases hlt : k < d.cache.length
    · obtain ⟨a', cap', ea, _, hcells⟩ := CacheIs.cells hcW
      simp only [Value.slice.injEq, true_and] at ea
      obtain ⟨rfl, rfl⟩ := ea
      obtain ⟨g, rfl, hg, x0, x1⟩ := hcells k hlt
      have HST := Lib.hid (Dev.stick_take (i := j) hlt)
      have hfl : ((d.cache.take k).filter fun w => decide (w.1 ≠ j)).length ≤ 1000000 := by
        have := List.length_filter_le (fun w => decide (w.1 ≠ j)) (d.cache.take k)
        rw [List.length_take] at this
        omega
      clear hcells hcW
      generalize d.cache[k] = x at *
      obtain ⟨s, t⟩ := x
      simp only at x0 x1 HST
      generalize ((d.cache.take k).filter fun w => decide (w.1 ≠ j)) = L at *
      have hsw : w1.heap.size ≤ wr.heap.size := HEX.out.size
      by_cases hs : s = j
      · subst hs
        rw [if_pos rfl, List.append_nil] at HST
        go_wp2_with fail
        go_roundw
        case rel => exact ⟨k + 1, by omega, by go_num, by rw [HST.out]; exact HCK.out, HEX.out⟩
        case measure => simp [intOf]; omega
      · have hs' : ((s : Int) != (j : Int)) = true := by simp; omega
        rw [if_neg hs] at HST
        go_wp2_with (at_builtin; refine wpl_wr Try.underlying63 (by kernel_rfl) rfl _ _ rfl rfl HCK.out hsw hfl rfl s t ?_; intro v7 w7 hc7 hd7; obtain ⟨a7, n7, p7, rfl⟩ := CacheIs.shape hc7; have HC7 := Lib.hid hc7; have HD7 := Lib.hid hd7; clear hc7 hd7)
        go_roundw
        case rel => exact ⟨k + 1, by omega, by go_num, by rw [HST.out]; exact HC7.out, (HD7.out w1.heap.size w1.heap.size w1.heap.size).low HEX.out (Nat.le_refl _) ⟨Nat.le_refl _, Nat.le_refl _, Nat.le_refl _⟩⟩
        case measure => simp [intOf]; omega
    · obtain rfl : k = d.cache.length := by omega
      rw [List.take_length] at HCK
      have HRW := Lib.hid (HR1.out.ext HEX.out)
      have g3 := HRW.out.free 3
      clear hcW
      go_wp2_with fail
      go_end0
      have hr6 := HRW.out.setCell 3 (.slice av nv pv)
      have hw6 : But b w1 (wr.setCell ⟨b, 3, none⟩ (.slice av nv pv)) := (But.of HEX.out).trans (Wrote.setCell HRW.out 3 (.slice av nv pv)).but
      have hnm : m ≠ b := (HR1.out.ne_list HM1.out (by decide)).symm
      have hnq : q ≠ b := (HR1.out.ne_list HQ1.out (by decide)).symm
      have hok := HOK'.out
      rw [HA.out] at hok ⊢
      exact ⟨⟨_, rfl⟩, ⟨⟨.slice av nv pv, cm, cq, hr6, (HCK.out.mono (by omega)).but HRW.out (by decide) (Wrote.setCell HRW.out 3 (.slice av nv pv)).but⟩, HM1.out.but hw6 hnm, HQ1.out.but hw6 hnq, hok, hlow⟩, (DF.but HB1.out (.inr (.inr rfl))).trans (DF.but hw6 (.inl rfl))⟩
end
end Go.Proofs.Ytcpbpfngiimcnaa
