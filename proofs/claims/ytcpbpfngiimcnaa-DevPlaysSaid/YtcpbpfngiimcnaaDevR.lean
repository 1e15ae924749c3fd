/- The document's WriteTo. -/
import Derived.Test.YtcpbpfngiimcnaaDevQ
namespace Go.Proofs.Ytcpbpfngiimcnaa
open Go.RowKit
theorem Dev.ready_off {d : Dev.St} (h : Dev.ready d = 0) : d.off = false := by
  unfold Dev.ready at h
  cases ho : d.off with
  | false => rfl
  | true => rw [ho] at h; cases h
theorem Dev.aim_eq {d : Dev.St} {i : Int} (h : d.stray ≠ 1) : Dev.aim d i = if decide (d.lose = 1) = true then none else some i.toNat := by
  unfold Dev.aim
  rw [if_neg h]
  by_cases hl : d.lose = 1
  · rw [if_pos hl, if_pos (by simp [hl])]
  · rw [if_neg hl, if_neg (by simp [hl])]
section
variable {w w' : World} {B b m q : Nat} {d d' : Dev.St} {cv : Value} {cm cq : Nat}
set_option maxRecDepth 100000 in
set_option maxHeartbeats 8000000 in
theorem refwrite_any (i : Int) (s : ByteArray) (_hs : s.size ≤ maxLen) (hB : B ≤ w.heap.size) (hf : Dev.Fit d) (hP : RD w B b m q d) :
    Calls Try.prog 22 #[.pointer (some ⟨b, 0, none⟩), .int .i64 i, .string s] w fun e w' =>
      e = .returned (.int .i64 (((Dev.write d i s).2 : Nat) : Int)) ∧ RD w' B b m q (Dev.write d i s).1 ∧ DF 107 B b m q w w' := by
  unfold maxLen at _hs
  have HP0 := Lib.hid hP
  have hokw := Dev.write_ok (i := i) (s := s) hP.ok
  obtain ⟨⟨cv, cm, cq, hr, hc⟩, hm, hq, hok, hlow⟩ := hP
  obtain ⟨ca, cap, rfl, hcc, _⟩ := CacheIs.cells hc
  have HR := Lib.hid hr; have HC := Lib.hid hc; have HM := Lib.hid hm; have HQ := Lib.hid hq; have HOK := Lib.hid hok; have HOKW := Lib.hid hokw
  have c1 := hr.cell 1 (.slice (some ⟨m, 0, none⟩) 9 cm) rfl
  have c0 := hr.cell 0 (.int .i64 128) rfl
  clear hr hc hm hq hok hokw
  go_enter Try.func22, Try.ntmps22
  go_wp2_with fail
  refine (refready_any HR.out).mono ?_
  rintro e w1 ⟨rfl, rfl⟩
  by_cases h0 : Dev.ready d = 0
  case neg =>
    have hA : Dev.write d i s = (d, Dev.ready d) := by unfold Dev.write; rw [if_pos h0]
    have HA := Lib.hid hA
    clear hA
    generalize Dev.ready d = r at *
    have hr0 : ((r : Int) != 0) = true := by simp; omega
    go_wp2_with fail
    go_ret
    rw [HA.out]
    exact ⟨rfl, HP0.out, DF.refl _⟩
  rw [h0]
  by_cases hi : 0 ≤ i ∧ i < 9
  case neg =>
    have HA := Lib.hid (show Dev.write d i s = (d, 3) from by
      unfold Dev.write
      rw [if_neg (by omega), if_pos]
      cases h : Dev.isSec i with
      | false => rfl
      | true => exact absurd (Dev.isSec_iff.1 h) hi)
    by_cases hn : i < 0
    · go_wp2_with fail
      go_ret
      rw [HA.out]
      exact ⟨rfl, HP0.out, DF.refl _⟩
    · have h9 : 9 ≤ i := by omega
      clear hi
      go_wp2_with fail
      go_ret
      rw [HA.out]
      exact ⟨rfl, HP0.out, DF.refl _⟩
  obtain ⟨j, rfl⟩ : ∃ j : Nat, i = (j : Int) := ⟨i.toNat, by omega⟩
  have hj : j < 9 := by omega
  have HSEC : Hid (Dev.isSec (j : Int) = true) := Lib.hid (Dev.isSec_iff.2 hi)
  by_cases hsz : s.size = 128
  case neg =>
    have hA : Dev.write d (j : Int) s = (d, 2) := by unfold Dev.write; rw [if_neg (by omega), if_neg (by rw [HSEC.out]; decide), if_pos hsz]
    have HA := Lib.hid hA
    clear hA
    have hsz' : ((s.size : Int) != 128) = true := by simp; omega
    go_wp2_with fail
    go_ret
    rw [HA.out]
    exact ⟨rfl, HP0.out, DF.refl _⟩
  have hsz' : ((s.size : Int) != 128) = false := by simp; omega
  go_wp2_with fail
  refine (refburn_any hf.fuse (Dev.ready_off h0) HR.out).mono ?_
  rintro e w3 ⟨rfl, hr3, hb3⟩
  have hP3 := (RD.row' HR.out HC.out HM.out HQ.out hlow hr3 hb3)
  obtain ⟨f, o, hbq⟩ := Dev.burn_eq d
  replace hP3 := hP3 (by rw [hbq]) (by rw [hbq]) (by rw [hbq]) (Dev.burn_ok HOK.out)
  cases hbn : (Dev.burn d).2 with
  | true =>
    have hA : Dev.write d (j : Int) s = ((Dev.burn d).1, 6) := by unfold Dev.write; rw [if_neg (by omega), if_neg (by rw [HSEC.out]; decide), if_neg (by omega), if_pos hbn]
    have HA := Lib.hid hA
    clear hA
    go_wp2_with fail
    go_ret
    rw [HA.out]
    exact ⟨rfl, hP3, DF.but hb3 (.inl rfl)⟩
  | false =>
    obtain ⟨d1, hd1, e1, e2, e3, e4, e5, e6, e7⟩ : ∃ d1, (Dev.burn d).1 = d1 ∧ d1.media = d.media ∧ d1.bad = d.bad ∧ d1.cache = d.cache ∧ d1.lose = d.lose ∧ d1.stray = d.stray ∧ d1.to = d.to ∧ d1.writes = d.writes := ⟨_, rfl, by rw [hbq], by rw [hbq], by rw [hbq], by rw [hbq], by rw [hbq], by rw [hbq], by rw [hbq]⟩
    rw [hd1] at hr3 hP3
    have HP3 := Lib.hid hP3
    have cb := hP3.bad.cellD j (by rw [hP3.ok.bad]; exact hj)
    rw [e2] at cb
    have c2 := hr3.cell 2 (.slice (some ⟨q, 0, none⟩) 9 cq) rfl
    clear hbq hP3
    obtain ⟨x, hx⟩ : ∃ x, d.bad.getD j false = x := ⟨_, rfl⟩
    rw [hx] at cb
    have hwr : Dev.write d (j : Int) s = if x = true then (d1, 7) else ({ d1 with writes := d.writes + 1, lose := d.lose - 1, stray := d.stray - 1, cache := match Dev.aim d (j : Int) with
      | some j => d.cache ++ [(j, s)]
      | none => d.cache }, 0) := by
      unfold Dev.write
      rw [if_neg (by omega), if_neg (by rw [HSEC.out]; decide), if_neg (by omega), if_neg (by rw [hbn]; decide), hd1, Int.toNat_natCast, hx]
      rfl
    have HWR := Lib.hid hwr
    clear hwr hx hbn hd1
    cases x with
    | true =>
      clear hr3
      have HA : Hid (Dev.write d (j : Int) s = (d1, 7)) := Lib.hid (HWR.out.trans rfl)
      go_wp2_with fail
      go_ret
      rw [HA.out]
      exact ⟨rfl, HP3.out, DF.but hb3 (.inl rfl)⟩
    | false =>
      have c11 := hr3.cell 11 (.int .i64 (d1.writes : Int)) rfl
      have f11 := hr3.free 11
      have hw6 : d.writes ≤ 1000000 := hf.writes
      rw [e7] at c11
      have hlo : d.lose < 9223372036854775808 := hf.lose
      have hst : d.stray < 9223372036854775808 := hf.stray
      have hlc := hf.cache
      go_upto_region 14 with (fail)
      have e9 : (d.writes : Int) + 1 = ((d.writes + 1 : Nat) : Int) := by omega
      rw [e9]
      have hr4 : RowIs b 65 (refRow { d1 with writes := d.writes + 1 } m q cm cq (.slice ca d.cache.length cap)) (w3.setCell ⟨b, 11, none⟩ (.int .i64 ((d.writes + 1 : Nat) : Int))) := hr3.setCell 11 (.int .i64 ((d.writes + 1 : Nat) : Int))
      have hb4 : But b w1 (w3.setCell ⟨b, 11, none⟩ (.int .i64 ((d.writes + 1 : Nat) : Int))) := hb3.trans (Wrote.setCell hr3 11 _).but
      generalize w3.setCell ⟨b, 11, none⟩ (.int .i64 ((d.writes + 1 : Nat) : Int)) = w4 at *
      have HR4 := Lib.hid hr4; have HB4 := Lib.hid hb4
      have HE := Lib.hid (And.intro e1 (And.intro e2 (And.intro e3 (And.intro e4 (And.intro e5 e6)))))
      have c5 := hr4.cell 5 (.int .i64 (d1.lose : Int)) rfl
      rw [e4] at c5
      have f5 := hr4.free 5
      clear hr4 hb4 c11 f11 hr3 hb3 cb c2 c1 c0 e9 e1 e2 e3 e4 e5 e6 e7 HP3 hw6
      go_upto_if 54 with (fail)
      go_cut [9] (fun s9 wx => s9 = .bool (decide (d.lose = 1)) ∧ RowIs b 65 (refRow { d1 with writes := d.writes + 1, lose := d.lose - 1 } m q cm cq (.slice ca d.cache.length cap)) wx ∧ But b w1 wx)
      case first =>
        have h4 := HE.out.2.2.2.1
        cases hl : d.lose with
        | zero =>
          rw [hl] at h4
          have e0 : ({ d1 with writes := d.writes + 1, lose := 0 - 1 } : Dev.St) = { d1 with writes := d.writes + 1 } := by rw [show (0 - 1 : Nat) = d1.lose by omega]
          have E0 := Lib.hid e0; have HZ := Lib.hid hl
          clear h4 hl e0
          go_wp2_with fail
          go_meet
          exact ⟨by rw [HZ.out]; rfl, by rw [HZ.out, E0.out]; exact HR4.out, HB4.out⟩
        | succ k =>
          rw [hl] at c5 hlo
          have hr5 := HR4.out.setCell 5 (.int .i64 (k : Int))
          have c6 := hr5.cell 5 (.int .i64 (k : Int)) rfl
          have hw5 := (Wrote.setCell HR4.out 5 (.int .i64 (k : Int))).but
          have hk0 : 0 ≤ (k : Int) := by omega
          have hk1 : (0 : Int) < (k : Int) + 1 := by omega
          have HR5 := Lib.hid hr5; have HW5 := Lib.hid hw5
          have e : Hid (decide (k + 1 = 1) = ((k : Int) == 0)) := by
            refine Lib.hid ?_
            by_cases h : k = 0
            · subst h; rfl
            · rw [decide_eq_false (by omega)]; exact (beq_eq_false_iff_ne.2 (by omega)).symm
          have HZ := Lib.hid hl
          clear hr5 hw5 h4 hl
          go_wp2_with fail
          go_meet
          exact ⟨by rw [HZ.out, e.out], by rw [HZ.out]; exact HR5.out, HB4.out.trans HW5.out⟩
      obtain ⟨rfl, hr5, hb5⟩ := hcut
      have c6 := hr5.cell 6 (.int .i64 (d1.stray : Int)) rfl
      rw [HE.out.2.2.2.2.1] at c6
      have f6 := hr5.free 6
      have HR5 := Lib.hid hr5; have HB5 := Lib.hid hb5
      clear hr5 hb5 c5 f5
      obtain ⟨l, hl⟩ : ∃ l, decide (d.lose = 1) = l := ⟨_, rfl⟩
      rw [hl]
      have HL := Lib.hid hl
      clear hl
      go_upto_if 71 with (fail)
      go_cut [1, 9] (fun s1 s9 wx => ∃ (t : Nat) (y : Int) (z : Bool), s1 = .int .i64 y ∧ s9 = .bool z ∧ Dev.aim d (j : Int) = (if z = true then none else some t) ∧ (z = false → y = (t : Int) ∧ t < 9) ∧ RowIs b 65 (refRow { d1 with writes := d.writes + 1, lose := d.lose - 1, stray := d.stray - 1 } m q cm cq (.slice ca d.cache.length cap)) wx ∧ But b w1 wx)
      case first =>
        have h5 := HE.out.2.2.2.2.1
        cases hs : d.stray with
        | zero =>
          rw [hs] at h5
          have e0 : ({ d1 with writes := d.writes + 1, lose := d.lose - 1, stray := 0 - 1 } : Dev.St) = { d1 with writes := d.writes + 1, lose := d.lose - 1 } := by rw [show (0 - 1 : Nat) = d1.stray by omega]
          have E0 := Lib.hid e0
          have hA := Dev.aim_eq (d := d) (i := (j : Int)) (by omega)
          rw [HL.out, Int.toNat_natCast] at hA
          have HA := Lib.hid hA; have HZ := Lib.hid hs
          clear h5 hs e0 hA
          go_wp2_with fail
          go_meet
          exact ⟨j, j, l, rfl, rfl, HA.out, fun _ => ⟨rfl, hj⟩, by rw [HZ.out, E0.out]; exact HR5.out, HB5.out⟩
        | succ k =>
          rw [hs] at c6 hst
          have hr6 := HR5.out.setCell 6 (.int .i64 (k : Int))
          have c7 := hr6.cell 6 (.int .i64 (k : Int)) rfl
          have hw6 := (Wrote.setCell HR5.out 6 (.int .i64 (k : Int))).but
          have hk0 : 0 ≤ (k : Int) := by omega
          have hk1 : (0 : Int) < (k : Int) + 1 := by omega
          have HR6 := Lib.hid hr6; have HW6 := Lib.hid hw6; have HZS := Lib.hid hs
          cases k with
          | succ n =>
            have hA := Dev.aim_eq (d := d) (i := (j : Int)) (by omega)
            rw [HL.out, Int.toNat_natCast] at hA
            have HA := Lib.hid hA
            have hn0 : (((n + 1 : Nat) : Int) == 0) = false := beq_eq_false_iff_ne.2 (by omega)
            clear h5 hs hA hr6 hw6
            go_wp2_with fail
            go_meet
            exact ⟨j, j, l, rfl, rfl, HA.out, fun _ => ⟨rfl, hj⟩, by rw [HZS.out]; exact HR6.out, HB5.out.trans HW6.out⟩
          | zero =>
            rw [show ((0 : Nat) : Int) = 0 from rfl] at hr6 hw6 c7 HR6 HW6
            rw [show ((0 + 1 : Nat) : Int) = 1 from rfl] at c6
            clear hk0 hk1
            have k7 := hr6.cell 7 (.int .i64 d1.to) rfl
            rw [HE.out.2.2.2.2.2] at k7
            have k1 := hr6.cell 1 (.slice (some ⟨m, 0, none⟩) 9 cm) rfl
            have k2 := hr6.cell 2 (.slice (some ⟨q, 0, none⟩) 9 cq) rfl
            have hA : Dev.aim d (j : Int) = if d.lose = 1 ∨ Dev.isSec d.to = false ∨ d.bad.getD d.to.toNat false = true then none else some d.to.toNat := by
              unfold Dev.aim
              rw [if_pos (by omega)]
            have HA := Lib.hid hA
            clear hA h5 hs
            by_cases ht : 0 ≤ d.to ∧ d.to < 9
            case neg =>
              have hz : Dev.isSec d.to = false := by
                cases h : Dev.isSec d.to with
                | false => rfl
                | true => exact absurd (Dev.isSec_iff.1 h) ht
              have HZ := Lib.hid (HA.out.trans (if_pos (.inr (.inl hz))))
              clear hz hr6 hw6
              by_cases hn : d.to < 0
              · go_wp2_with fail
                go_meet
                exact ⟨j, d.to, true, rfl, rfl, HZ.out, fun h => (by cases h), by rw [HZS.out]; exact HR6.out, HB5.out.trans HW6.out⟩
              · have h9 : 9 ≤ d.to := by omega
                clear ht
                go_wp2_with fail
                go_meet
                exact ⟨j, d.to, true, rfl, rfl, HZ.out, fun h => (by cases h), by rw [HZS.out]; exact HR6.out, HB5.out.trans HW6.out⟩
            obtain ⟨t, htt⟩ : ∃ t : Nat, d.to = (t : Int) := ⟨d.to.toNat, by omega⟩
            have hsc := Dev.isSec_iff.2 ht
            rw [hsc, htt, Int.toNat_natCast] at HA
            rw [htt] at ht k7
            have ht9 : t < 9 := by omega
            have cb := (HQ.out.but (HB5.out.trans hw6) (HR.out.ne_list HQ.out (by decide)).symm).cellD t (by rw [HOK.out.bad]; exact ht9)
            obtain ⟨y, hy⟩ : ∃ y, d.bad.getD t false = y := ⟨_, rfl⟩
            rw [hy] at cb HA
            clear hy htt hsc hr6 hw6
            cases y with
            | true =>
              have HZ := Lib.hid (HA.out.trans (if_pos (.inr (.inr rfl))))
              go_wp2_with fail
              go_meet
              exact ⟨j, t, true, rfl, rfl, HZ.out, fun h => (by cases h), by rw [HZS.out]; exact HR6.out, HB5.out.trans HW6.out⟩
            | false =>
              have hz : Dev.aim d (j : Int) = if l = true then none else some t := by
                rw [HA.out, ← HL.out]
                simp
              have HZ := Lib.hid hz
              clear hz
              go_wp2_with fail
              go_meet
              exact ⟨t, t, l, rfl, rfl, HZ.out, fun _ => ⟨rfl, ht9⟩, by rw [HZS.out]; exact HR6.out, HB5.out.trans HW6.out⟩
      obtain ⟨t, y, z, rfl, rfl, hA, hzt, hr6, hb6⟩ := hcut
      obtain ⟨d3, hd3, k1, k2, k3, k5⟩ : ∃ d3 : Dev.St, ({ d1 with writes := d.writes + 1, lose := d.lose - 1, stray := d.stray - 1 } : Dev.St) = d3 ∧ d3.media = d.media ∧ d3.bad = d.bad ∧ d3.cache = d.cache ∧
          ∀ c, ({ d1 with writes := d.writes + 1, lose := d.lose - 1, stray := d.stray - 1, cache := c } : Dev.St) = { d3 with cache := c } := ⟨_, rfl, HE.out.1, HE.out.2.1, HE.out.2.2.1, fun c => rfl⟩
      rw [hd3] at hr6
      have hP6 : RD wc B b m q d3 := RD.row' HR.out HC.out HM.out HQ.out hlow hr6 hb6 k3 k1 k2 (HOK.out.same k1 k2 k3)
      have hW := HWR.out
      rw [hA] at hW
      cases z with
      | true =>
        have HA : Hid (Dev.write d (j : Int) s = (d3, 0)) := Lib.hid (hW.trans (by
          show (({ d1 with writes := d.writes + 1, lose := d.lose - 1, stray := d.stray - 1, cache := d.cache } : Dev.St), 0) = (d3, 0)
          rw [k5, ← k3]))
        have HP6 := Lib.hid hP6; have HB6 := Lib.hid hb6
        clear hA hW hr6 hP6 hb6 hzt hd3 k1 k2 k3 k5 c6 f6
        go_wp2_with fail
        go_ret
        rw [HA.out]
        exact ⟨rfl, HP6.out, DF.but HB6.out (.inl rfl)⟩
      | false =>
        obtain ⟨rfl, ht9⟩ := hzt rfl
        have HA : Hid (Dev.write d (j : Int) s = ({ d3 with cache := d3.cache ++ [(t, s)] }, 0)) := Lib.hid (hW.trans (by
          show (({ d1 with writes := d.writes + 1, lose := d.lose - 1, stray := d.stray - 1, cache := d.cache ++ [(t, s)] } : Dev.St), 0) = (({ d3 with cache := d3.cache ++ [(t, s)] } : Dev.St), 0)
          rw [k5, k3]))
        have hokA := HOKW.out
        rw [HA.out] at hokA
        have HOKA := Lib.hid hokA
        have hcW := HC.out.but HR.out (by decide) hb6
        rw [← k3] at hcW
        have hcl : d3.cache.length ≤ 1000000 := by rw [k3]; omega
        have HCW := Lib.hid hcW; have HRW := Lib.hid hr6; have HB6 := Lib.hid hb6; have HP6 := Lib.hid hP6
        have c3 := hr6.cell 3 (.slice ca d.cache.length cap) rfl
        have hBW : B ≤ wc.heap.size := by have := hb6.size; omega
        rw [← k3] at c3 HRW
        clear hA hW hokA hcW hr6 hP6 hb6 hzt hd3 k1 k2 k3 k5 c6 f6 HR4 HR5 HB4 HB5 HE HL HWR HOKW
        go_wp2_with (at_builtin; refine wpl_wr Try.underlying63 (by kernel_rfl) rfl _ _ rfl rfl HCW.out hBW hcl rfl t s ?_; intro v7 w7 hc7 hd7; obtain ⟨a7, n7, p7, rfl⟩ := CacheIs.shape hc7; have HC7 := Lib.hid hc7; have HD7 := Lib.hid hd7; have hr7 := DF.row (HD7.out wc.heap.size wc.heap.size wc.heap.size) HRW.out (by decide) (by have := HRW.out.lt; omega); have g4 := hr7.free 3; have c4 := hr7.cell 3 _ rfl; have HR7 := Lib.hid hr7; clear hc7 hd7 hr7)
        go_ret
        rw [HA.out]
        have hbt := (Wrote.setCell HR7.out 3 (.slice a7 n7 p7)).but
        have hrn := HR7.out.setCell 3 (.slice a7 n7 p7)
        have hdw : DF 107 B b m q wc w7 := HD7.out b m q
        refine ⟨rfl, ⟨⟨.slice a7 n7 p7, cm, cq, hrn, HC7.out.but HR7.out (by decide) hbt⟩, ?_, ?_, HOKA.out, hlow⟩, ((DF.but HB6.out (.inl rfl)).trans hdw).trans (DF.but hbt (.inl rfl))⟩
        · exact ((HD7.out wc.heap.size wc.heap.size wc.heap.size).list HP6.out.media (by decide) (by have := HP6.out.media.lt; omega)).but hbt (HR7.out.ne_list ((HD7.out wc.heap.size wc.heap.size wc.heap.size).list HP6.out.media (by decide) (by have := HP6.out.media.lt; omega)) (by decide)).symm
        · exact ((HD7.out wc.heap.size wc.heap.size wc.heap.size).list HP6.out.bad (by decide) (by have := HP6.out.bad.lt; omega)).but hbt (HR7.out.ne_list ((HD7.out wc.heap.size wc.heap.size wc.heap.size).list HP6.out.bad (by decide) (by have := HP6.out.bad.lt; omega)) (by decide)).symm
end
end Go.Proofs.Ytcpbpfngiimcnaa
