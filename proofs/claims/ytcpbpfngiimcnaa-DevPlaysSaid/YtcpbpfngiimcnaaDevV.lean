/- Garble, the document's. -/
import Derived.Test.YtcpbpfngiimcnaaDevU
namespace Go.Proofs.Ytcpbpfngiimcnaa
open Go.RowKit
section
variable {w : World} {B b m q : Nat} {d : Dev.St}
set_option maxRecDepth 100000 in
set_option maxHeartbeats 8000000 in
theorem refgarble_any (i a : Int) (y : UInt8) (hf : Dev.Fit d) (hP : RD w B b m q d) :
    Calls Try.prog 27 #[.pointer (some ⟨b, 0, none⟩), .int .i64 i, .int .i64 a, .int .u8 (y.toNat : Int)] w fun e w' => (∃ v, e = .returned v) ∧ RD w' B b m q (Dev.garble d i a y) ∧ DF 107 B b m q w w' := by
  have HP0 := Lib.hid hP
  have HOKG := Lib.hid (Dev.garble_ok hP.ok i a y)
  obtain ⟨⟨cv, cm, cq, hr, hc⟩, hm, hq, hok, hlow⟩ := hP
  obtain ⟨ca, cap, rfl, hcc, _⟩ := CacheIs.cells hc
  have HR := Lib.hid hr; have HC := Lib.hid hc; have HM := Lib.hid hm; have HQ := Lib.hid hq; have HOK := Lib.hid hok
  have c1 := hr.cell 1 (.slice (some ⟨m, 0, none⟩) 9 cm) rfl
  have c0 := hr.cell 0 (.int .i64 128) rfl
  clear hr hc hm hq hok
  by_cases hi : 0 ≤ i ∧ i < 9
  case neg =>
    have HA := Lib.hid (Dev.garble_no (d := d) (i := i) (a := a) (y := y) (fun h => hi (Dev.isSec_iff.1 h.1)))
    by_cases hn : i < 0
    · go_enter Try.func27, Try.ntmps27
      go_wp2_with fail
      refine bodyPost_ret (results_none rfl _ _ _) rfl ?_
      rw [HA.out]
      exact ⟨⟨_, rfl⟩, HP0.out, DF.refl _⟩
    · have h9 : 9 ≤ i := by omega
      clear hi
      go_enter Try.func27, Try.ntmps27
      go_wp2_with fail
      refine bodyPost_ret (results_none rfl _ _ _) rfl ?_
      rw [HA.out]
      exact ⟨⟨_, rfl⟩, HP0.out, DF.refl _⟩
  by_cases h0 : 0 ≤ a
  case neg =>
    have HA := Lib.hid (Dev.garble_no (d := d) (i := i) (a := a) (y := y) (by intro h; exact h0 h.2))
    have h0' : a < 0 := by omega
    obtain ⟨hi0, hi9⟩ := hi
    clear h0
    go_enter Try.func27, Try.ntmps27
    go_wp2_with fail
    refine bodyPost_ret (results_none rfl _ _ _) rfl ?_
    rw [HA.out]
    exact ⟨⟨_, rfl⟩, HP0.out, DF.refl _⟩
  obtain ⟨j, rfl⟩ : ∃ j : Nat, i = (j : Int) := ⟨i.toNat, by omega⟩
  have hj : j < 9 := by omega
  obtain ⟨n, hn, hn8, hnm⟩ := tmod128 h0
  have HA := Lib.hid (Dev.garble_yes (d := d) (y := y) hj h0 hnm)
  have h0' : ¬ a < 0 := by omega
  clear hnm
  go_enter Try.func27, Try.ntmps27
  go_upto_region 2 with (fail)
  clear c0 hn h0 h0'
  have cmj := HM.out.cellT j (by rw [HOK.out.media]; exact hj)
  have fm := HM.out.free j
  have hsz : (d.media.getD j .empty).size = 128 := by
    rw [List.getD_eq_getElem?_getD, List.getElem?_eq_getElem (by rw [HOK.out.media]; exact hj)]
    exact HOK.out.text _ (List.getElem_mem _)
  obtain ⟨z, hz⟩ : ∃ z, d.media.getD j .empty = z := ⟨_, rfl⟩
  rw [hz] at cmj hsz HA
  clear hz
  go_cut [] (fun wx => ∃ w6, Ext w w6 ∧ wx = w6.setCell ⟨m, j, none⟩ (.string (Dev.turn z n y)))
  case first =>
    go_region_with (go_at_call 55; refine (refturn_any z n y (by omega) _).mono ?_; rintro e w6 ⟨rfl, he6⟩; have E6 := Lib.hid ((Ext.drew _).trans he6); have c2' := cell_ext c1 E6.out; have cm' := cell_ext cmj E6.out; have fm' := (HM.out.ext E6.out).free j; clear he6)
    all_goals
      go_wp2_with fail
      go_meet
      exact ⟨w6, E6.out, rfl⟩
  obtain ⟨w6, e6, rfl⟩ := hcut
  have hm6 := HM.out.ext e6
  have hm7 := hm6.set j (Dev.turn z n y)
  have hb7 : But m w (w6.setCell ⟨m, j, none⟩ (.string (Dev.turn z n y))) := (But.of e6).trans (hm6.wrote j _).but
  have hnm : b ≠ m := HR.out.ne_list HM.out (by decide)
  have hqm : q ≠ m := HQ.out.ne_list HM.out (by decide)
  have hc7 : CacheIs 107 (w6.setCell ⟨m, j, none⟩ (.string (Dev.turn z n y))) B (.slice ca d.cache.length cap) d.cache := by
    obtain ⟨cs, hrm, _⟩ := HM.out
    exact HC.out.but hrm (by decide) hb7
  generalize w6.setCell ⟨m, j, none⟩ (.string (Dev.turn z n y)) = w7 at *
  have HM7 := Lib.hid hm7; have HB7 := Lib.hid hb7; have HC7 := Lib.hid hc7; have HR7 := Lib.hid (hb7.row HR.out hnm); have HQ7 := Lib.hid (HQ.out.but hb7 hqm)
  have hlc := hf.cache
  clear hm6 hm7 hb7 hc7 e6 c1 cmj fm
  go_wp2_with fail
  go_loopw [8] (fun i wx => ∃ k : Nat, k ≤ d.cache.length ∧ i = .int .i64 k ∧ CacheIs 107 wx B (.slice ca d.cache.length cap) (Dev.mid (Dev.turned j n y) d.cache k) ∧ RowIs b 65 (refRow d m q cm cq (.slice ca d.cache.length cap)) wx ∧ ListAt 9 .string wx m (d.media.set j (Dev.turn z n y)) ∧ ListAt 4 .bool wx q d.bad ∧ DF 107 B b m q w7 wx) (fun i _ => d.cache.length - (intOf i).toNat)
  case atStart => exact ⟨0, by omega, rfl, by rw [Dev.mid_zero]; exact HC7.out, HR7.out, HM7.out, HQ7.out, DF.refl _⟩
  case round =>
    obtain ⟨k, hk, rfl, hck, hrk, hmk, hqk, hdk⟩ := hrel
    have HCK := Lib.hid hck; have HRK := Lib.hid hrk; have HMK := Lib.hid hmk; have HQK := Lib.hid hqk; have HDK := Lib.hid hdk
    have k3 := hrk.cell 3 (.slice ca d.cache.length cap) rfl
    clear hck hrk hmk hqk hdk
    by_cases hlt : k < d.cache.length
    · have hcl : (Dev.mid (Dev.turned j n y) d.cache k).length = d.cache.length := Dev.mid_length hk
      obtain ⟨a', cap', ea, hxx, hcells⟩ := CacheIs.cells HCK.out
      simp only [Value.slice.injEq] at ea
      obtain ⟨rfl, hxy, rfl⟩ := ea
      clear hxx hxy
      obtain ⟨g, rfl, hg, x0, x1⟩ := hcells k (by rw [hcl]; exact hlt)
      rw [Dev.mid_at hlt] at x0 x1
      have hsec := (HOK.out.cache d.cache[k] (List.getElem_mem hlt))
      have HAT := Lib.hid (Dev.mid_at (f := Dev.turned j n y) hlt)
      have HMS := Lib.hid (Dev.mid_succ (f := Dev.turned j n y) hlt)
      have HST := Lib.hid (Dev.mid_stay (f := Dev.turned j n y) hlt)
      have HCL := Lib.hid hcl
      clear hcells hcl
      generalize d.cache[k] = x at *
      obtain ⟨s, t⟩ := x
      simp only at x0 x1 hsec
      by_cases hs : s = j
      · subst hs
        have hti : Dev.turned s n y (s, t) = (s, Dev.turn t n y) := if_pos rfl
        rw [hti] at HMS
        have kI : 0 ≤ (k : Int) ∧ (k : Int) < (d.cache.length : Int) := by omega
        have ht8 := hsec.2
        clear hti HST hsec
        go_upto_region 7 with (fail)
        have hfx : wr.frozen? ⟨g, k * 2 + 1, none⟩ = false := by
          obtain ⟨g', cur, eg, _, hrow, _⟩ := HCK.out.write k (by rw [HCL.out]; exact hlt) t
          cases eg
          exact hrow.free _
        go_region_with (go_at_call 55; refine (refturn_any t n y (by omega) _).mono ?_; rintro e w6 ⟨rfl, he6⟩; have E6 := Lib.hid ((Ext.drew _).trans he6); have k4' := cell_ext k3 E6.out; have x1'' := cell_ext x1 E6.out; have fx' : w6.frozen? ⟨g, k * 2 + 1, none⟩ = false := (by
          obtain ⟨g', cur, eg, _, hrow, _⟩ := HCK.out.write k (by rw [HCL.out]; exact hlt) t
          cases eg
          exact (hrow.ext E6.out).free _); clear he6)
        all_goals
          have hx6 := E6.out
          obtain ⟨g', cur, eg, hBg, hrow, hnew⟩ := (HCK.out.ext hx6).write k (by rw [HCL.out]; exact hlt) (Dev.turn t n y)
          simp only [Option.some.injEq, Addr.mk.injEq, and_true] at eg
          obtain rfl := eg
          have hbut := (Wrote.setCell hrow (k * 2 + 1) (.string (Dev.turn t n y))).but
          have hdf : DF 107 B b m q wr (w6.setCell ⟨g, k * 2 + 1, none⟩ (.string (Dev.turn t n y))) := (DF.of hx6).trans (DF.cell hrow hBg _ _)
          have hr9 := hbut.row (HRK.out.ext hx6) ((HRK.out.ext hx6).ne hrow (by decide))
          have hm9 := (HMK.out.ext hx6).but hbut (hrow.ne_list (HMK.out.ext hx6) (by decide)).symm
          have hq9 := (HQK.out.ext hx6).but hbut (hrow.ne_list (HQK.out.ext hx6) (by decide)).symm
          rw [HAT.out] at hnew
          have HN := Lib.hid hnew; have HDF := Lib.hid hdf; have HR9 := Lib.hid hr9; have HM9 := Lib.hid hm9; have HQ9 := Lib.hid hq9
          clear hnew hdf hr9 hm9 hq9 hbut hrow k4' x1'' fx'
          generalize w6.setCell ⟨g, k * 2 + 1, none⟩ (.string (Dev.turn t n y)) = w9 at *
          go_wp2_with fail
          go_roundw
          case rel => exact ⟨k + 1, by omega, by go_num, by rw [HMS.out]; exact HN.out, HR9.out, HM9.out, HQ9.out, HDK.out.trans HDF.out⟩
          case measure => simp [intOf]; omega
      · have hti : Dev.turned j n y (s, t) = (s, t) := if_neg hs
        have HS2 := Lib.hid (HST.out hti)
        have hs' : ((s : Int) == (j : Int)) = false := beq_eq_false_iff_ne.2 (by omega)
        clear hti HST
        go_wp2_with fail
        go_roundw
        case rel => exact ⟨k + 1, by omega, by go_num, by rw [HS2.out]; exact HCK.out, HRK.out, HMK.out, HQK.out, HDK.out⟩
        case measure => simp [intOf]; omega
    · obtain rfl : k = d.cache.length := by omega
      rw [Dev.mid_all] at HCK
      go_wp2_with fail
      go_end0
      have hok := HOKG.out
      rw [HA.out] at hok ⊢
      exact ⟨⟨_, rfl⟩, ⟨⟨_, cm, cq, HRK.out, HCK.out⟩, HMK.out, HQK.out, hok, hlow⟩, (DF.but HB7.out (.inr (.inl rfl))).trans HDK.out⟩
end
end Go.Proofs.Ytcpbpfngiimcnaa
