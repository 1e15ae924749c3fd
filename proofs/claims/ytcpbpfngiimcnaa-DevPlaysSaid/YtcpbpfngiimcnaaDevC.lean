/- The contract of the device's Write. -/
import Derived.Test.YtcpbpfngiimcnaaDevA
import Derived.Deep.RegionWith
import Derived.StillTailTactics
namespace Go.Proofs.Ytcpbpfngiimcnaa
open Go.RowKit
namespace Dev
structure Fit (d : St) : Prop where
  fuse : d.fuse < 9223372036854775808
  lose : d.lose < 9223372036854775808
  stray : d.stray < 9223372036854775808
  reads : d.reads ≤ 1000000
  writes : d.writes ≤ 1000000
  fls : d.fls ≤ 1000000
  cache : d.cache.length ≤ 1000
theorem burn_fit {d : St} (h : Fit d) : Fit (burn d).1 := by
  obtain ⟨h1, h2, h3, h4, h5, h6, h7⟩ := h
  unfold burn
  split
  · exact ⟨h1, h2, h3, h4, h5, h6, h7⟩
  · split
    · exact ⟨by show 0 < _; omega, h2, h3, h4, h5, h6, h7⟩
    · exact ⟨by show d.fuse - 1 < _; omega, h2, h3, h4, h5, h6, h7⟩
theorem burn_eq (d : St) : ∃ f o, (burn d).1 = { d with fuse := f, off := o } := by
  unfold burn
  split
  · exact ⟨d.fuse, d.off, rfl⟩
  · split
    · exact ⟨_, _, rfl⟩
    · exact ⟨_, d.off, rfl⟩
end Dev
theorem info_wr : (Try.prog.info? 95).map (fun i => (i.zero, i.size, i.bytes)) = some (some (.agg #[.int .i64 0, .string ⟨#[]⟩]), 2, 24) := by kernel_rfl
theorem PD.ext {w w' : World} {B b m q : Nat} {d : Dev.St} (h : PD w B b m q d) (e : Ext w w') : PD w' B b m q d := by
  obtain ⟨⟨cv, hr, hc⟩, h2, h3, h4, h5⟩ := h
  exact ⟨⟨cv, hr.ext e, hc.ext e⟩, h2.ext e, h3.ext e, h4, h5⟩
/-- the row is another one, all else lies as it lay -/
theorem PD.row' {w w' : World} {B b m q : Nat} {d d' : Dev.St} {cv : Value} (hr : RowIs b 80 (devRow d m q cv) w) (hc : CacheIs 95 w B cv d.cache) (hm : ListAt 9 .string w m d.media) (hq : ListAt 4 .bool w q d.bad) (hlow : B ≤ b ∧ B ≤ m ∧ B ≤ q)
    (hr' : RowIs b 80 (devRow d' m q cv) w') (e : But b w w') (h1 : d'.cache = d.cache) (h2 : d'.media = d.media) (h3 : d'.bad = d.bad) (hok : Dev.Ok d') : PD w' B b m q d' :=
  ⟨⟨cv, hr', by rw [h1]; exact hc.but hr (by decide) e⟩, by rw [h2]; exact hm.but e (hr.ne_list hm (by decide)).symm, by rw [h3]; exact hq.but e (hr.ne_list hq (by decide)).symm, hok, hlow⟩
set_option maxRecDepth 100000 in
set_option maxHeartbeats 8000000 in
theorem devwrite_any {B b m q : Nat} {d : Dev.St} {w : World} (i : Int) (s : ByteArray) (_hs : s.size ≤ maxLen) (hB : B ≤ w.heap.size) (hf : Dev.Fit d) (hP : PD w B b m q d) :
    Calls Try.prog 12 #[.pointer (some ⟨b, 0, none⟩), .int .i64 i, .string s] w fun e w' =>
      e = .returned (.int .i64 (((Dev.write d i s).2 : Nat) : Int)) ∧ PD w' B b m q (Dev.write d i s).1 ∧ DF 95 B b m q w w' := by
  unfold maxLen at _hs
  have hokw := Dev.write_ok (i := i) (s := s) hP.ok
  obtain ⟨⟨cv, hr, hc⟩, hm, hq, hok, hlow⟩ := hP
  have HR := Lib.hid hr; have HC := Lib.hid hc; have HM := Lib.hid hm; have HQ := Lib.hid hq; have HOK := Lib.hid hok; have HOKW := Lib.hid hokw
  clear hr hc hm hq hok hokw
  go_enter Try.func12, Try.ntmps12
  go_wp2_with fail
  refine (devready_any HR.out).mono ?_
  rintro e w1 ⟨rfl, he1⟩
  by_cases h0 : Dev.ready d = 0
  case neg =>
    have hA : Dev.write d i s = (d, Dev.ready d) := by unfold Dev.write; rw [if_pos h0]
    have HA := Lib.hid hA
    clear hA
    generalize Dev.ready d = r at *
    have hr0 : ((r : Int) != 0) = true := by simp; omega
    go_wp2_with fail
    go_ret
    rw [HA.out]
    exact ⟨rfl, PD.ext ⟨⟨cv, HR.out, HC.out⟩, HM.out, HQ.out, HOK.out, hlow⟩ he1, DF.of he1⟩
  rw [h0]
  go_wp2_with fail
  refine (devis_any i (HR.out.ext he1)).mono ?_
  rintro e w2 ⟨rfl, he2⟩
  replace he2 := he1.trans he2
  clear he1
  cases hsec : Dev.isSec i with
  | false =>
    have hA : Dev.write d i s = (d, 3) := by unfold Dev.write; rw [if_neg (by omega), if_pos hsec]
    have HA := Lib.hid hA
    clear hA
    go_wp2_with fail
    go_ret
    rw [HA.out]
    exact ⟨rfl, PD.ext ⟨⟨cv, HR.out, HC.out⟩, HM.out, HQ.out, HOK.out, hlow⟩ he2, DF.of he2⟩
  | true =>
    have hi := Dev.isSec_iff.1 hsec
    obtain ⟨j, rfl⟩ : ∃ j : Nat, i = (j : Int) := ⟨i.toNat, by omega⟩
    have hj : j < 9 := by omega
    have c1 := (HR.out.ext he2).cell 1 (.int .i64 128) rfl
    have HSEC := Lib.hid hsec
    clear hsec
    by_cases hsz : s.size = 128
    case neg =>
      have hA : Dev.write d (j : Int) s = (d, 2) := by unfold Dev.write; rw [if_neg (by omega), if_neg (by rw [HSEC.out]; decide), if_pos hsz]
      have HA := Lib.hid hA
      clear hA
      have hsz' : ((s.size : Int) != 128) = true := by simp; omega
      go_wp2_with fail
      go_ret
      rw [HA.out]
      exact ⟨rfl, PD.ext ⟨⟨cv, HR.out, HC.out⟩, HM.out, HQ.out, HOK.out, hlow⟩ he2, DF.of he2⟩
    have hsz' : ((s.size : Int) != 128) = false := by simp; omega
    go_wp2_with fail
    refine (devburn_any hf.fuse (HR.out.ext he2)).mono ?_
    rintro e w3 ⟨rfl, hr3, hb3⟩
    have hP3 := (PD.row' (HR.out.ext he2) (HC.out.ext he2) (HM.out.ext he2) (HQ.out.ext he2) hlow hr3 hb3)
    have hdf3 : DF 95 B b m q w w3 := (DF.of he2).trans (DF.but hb3 (.inl rfl))
    obtain ⟨f, o, hbq⟩ := Dev.burn_eq d
    replace hP3 := hP3 (by rw [hbq]) (by rw [hbq]) (by rw [hbq]) (Dev.burn_ok HOK.out)
    cases hbn : (Dev.burn d).2 with
    | true =>
      have hA : Dev.write d (j : Int) s = ((Dev.burn d).1, 6) := by unfold Dev.write; rw [if_neg (by omega), if_neg (by rw [HSEC.out]; decide), if_neg (by omega), if_pos hbn]
      have HA := Lib.hid hA
      clear hA
      simp only [if_true]
      go_wp2_with fail
      go_ret
      rw [HA.out]
      exact ⟨rfl, hP3, hdf3⟩
    | false =>
      simp only [Bool.false_eq_true, if_false]
      obtain ⟨d1, hd1, e1, e2, e3, e4, e5, e6, e7⟩ : ∃ d1, (Dev.burn d).1 = d1 ∧ d1.media = d.media ∧ d1.bad = d.bad ∧ d1.cache = d.cache ∧ d1.lose = d.lose ∧ d1.stray = d.stray ∧ d1.to = d.to ∧ d1.writes = d.writes := ⟨_, rfl, by rw [hbq], by rw [hbq], by rw [hbq], by rw [hbq], by rw [hbq], by rw [hbq], by rw [hbq]⟩
      rw [hd1] at hr3 hP3
      have HP3 := Lib.hid hP3
      have cb := hP3.bad.cellD j (by rw [hP3.ok.bad]; exact hj)
      rw [e2] at cb
      have c3 := hr3.cell 3 (.slice (some ⟨q, 0, none⟩) 9 9) rfl
      have HBQ := Lib.hid hbq
      clear hbq hP3
      obtain ⟨x, hx⟩ : ∃ x, d.bad.getD j false = x := ⟨_, rfl⟩
      rw [hx] at cb
      have hwr : Dev.write d (j : Int) s = if x = true then (d1, 7) else ({ d1 with writes := d.writes + 1, lose := d.lose - 1, stray := d.stray - 1, cache := match Dev.aim d (j : Int) with
        | some j => d.cache ++ [(j, s)]
        | none => d.cache }, 0) := by
        unfold Dev.write
        rw [if_neg (by omega), if_neg (by rw [HSEC.out]; decide), if_neg (by omega), if_neg (by rw [hbn]; decide), hd1, Int.toNat_natCast, hx]
        rfl
      have HWR := Lib.hid hwr
      clear hwr hx hbn hd1
      cases x with
      | true =>
        clear hr3
        have HA : Hid (Dev.write d (j : Int) s = (d1, 7)) := Lib.hid (HWR.out.trans rfl)
        go_wp2_with fail
        go_ret
        rw [HA.out]
        exact ⟨rfl, HP3.out, hdf3⟩
      | false =>
        have c12 := hr3.cell 12 (.int .i64 (d1.writes : Int)) rfl
        have f12 := hr3.free 12
        have hw6 : d1.writes ≤ 1000000 := by rw [e7]; exact hf.writes
        have HR3 := Lib.hid hr3
        rw [e7] at c12 hw6
        have HE := Lib.hid (And.intro e1 (And.intro e2 (And.intro e3 (And.intro e4 (And.intro e5 e6)))))
        clear hr3 e1 e2 e3 e4 e5 e6 e7
        go_wp2_with fail
        go_still_tail 9, (by kernel_rfl)
        change wpList _ _ _ _ _ w3.drew
        go_upto_region 14 with (fail)
        have e9 : (d.writes : Int) + 1 = ((d.writes + 1 : Nat) : Int) := by omega
        rw [e9]
        have hr4 : RowIs b 80 (devRow { d1 with writes := d.writes + 1 } m q cv) ((w3.setCell ⟨b, 12, none⟩ (.int .i64 ((d.writes + 1 : Nat) : Int))).drew) := (HR3.out.setCell 12 (.int .i64 ((d.writes + 1 : Nat) : Int))).ext (Ext.drew _)
        have hb4 : But b w3 ((w3.setCell ⟨b, 12, none⟩ (.int .i64 ((d.writes + 1 : Nat) : Int))).drew) := (Wrote.setCell HR3.out 12 _).but.trans (But.of (Ext.drew _))
        generalize (w3.setCell ⟨b, 12, none⟩ (.int .i64 ((d.writes + 1 : Nat) : Int))).drew = w4 at *
        have HR4 := Lib.hid hr4; have HB4 := Lib.hid hb4
        have hlo : d1.lose < 9223372036854775808 := by have := HE.out.2.2.2.1; have := hf.lose; omega
        have hst : d1.stray < 9223372036854775808 := by have := HE.out.2.2.2.2.1; have := hf.stray; omega
        have HB3 := Lib.hid hb3
        have HB3 := Lib.hid hb3
        clear hr4 hb4 c12 f12 hw6 HR3 e9 hb3 c1 c3 cb
        go_region_with (first
          | (go_at_call 47; have hr5 := HR5.out; refine (devdue_any (o := 7) (n := d1.stray) hst rfl (by first | exact HR5.out | exact HR5.out.ext (Ext.drew _))).mono ?_; rintro e w6 ⟨rfl, hr6, hb6⟩; have HR6 := Lib.hid hr6; have HB6 := Lib.hid hb6; clear hr6 hb6)
          | (go_at_call 47; refine (devdue_any (o := 6) (n := d1.lose) hlo rfl (by first | exact HR4.out | exact HR4.out.ext (Ext.drew _))).mono ?_; rintro e w5 ⟨rfl, hr5, hb5⟩; have HR5 := Lib.hid hr5; have HB5 := Lib.hid hb5; clear hr5 hb5))
        have he1 := HE.out.1
        have he2' := HE.out.2.1
        have he3 := HE.out.2.2.1
        have he4 := HE.out.2.2.2.1
        have he5 := HE.out.2.2.2.2.1
        have he6 := HE.out.2.2.2.2.2
        have hr6 := HR6.out
        rw [he4, he5] at hr6 ⊢
        obtain ⟨d3, hd3, k1, k2, k3, k4, k5⟩ : ∃ d3 : Dev.St, ({ d1 with writes := d.writes + 1, lose := d.lose - 1, stray := d.stray - 1, cache := d.cache } : Dev.St) = d3 ∧ d3.media = d.media ∧ d3.bad = d.bad ∧ d3.cache = d.cache ∧ d3.to = d.to ∧
            ∀ c, ({ d1 with writes := d.writes + 1, lose := d.lose - 1, stray := d.stray - 1, cache := c } : Dev.St) = { d3 with cache := c } := ⟨_, rfl, he1, he2', rfl, he6, fun c => rfl⟩
        have hrW : RowIs b 80 (devRow d3 m q cv) w6 := by rw [← hd3]; exact hr6
        have hB6 : But b w w6 := (But.of he2).trans (HB3.out.trans (HB4.out.trans ((But.of (Ext.drew _)).trans (HB5.out.trans HB6.out))))
        have hP6 : PD w6 B b m q d3 := PD.row' HR.out HC.out HM.out HQ.out hlow hrW hB6 k3 k1 k2 (HOK.out.same k1 k2 k3)
        have HMW := Lib.hid hP6.media
        have HQW := Lib.hid hP6.bad
        have HOK3 := Lib.hid hP6.ok
        have hcW := HC.out.but HR.out (by decide) hB6
        rw [← k3] at hcW
        have HCW := Lib.hid hcW
        have HRW := Lib.hid hrW
        have hDF : DF 95 B b m q w w6 := DF.but hB6 (.inl rfl)
        have HDF := Lib.hid hDF
        have hd30 : (({ d1 with writes := d.writes + 1, lose := d.lose - 1, stray := d.stray - 1, cache := d.cache } : Dev.St), 0) = (d3, 0) := by rw [hd3]
        have HD3 := Lib.hid hd30
        have hd40 : ∀ k, (({ d1 with writes := d.writes + 1, lose := d.lose - 1, stray := d.stray - 1, cache := d.cache ++ [(k, s)] } : Dev.St), 0) = (({ d3 with cache := d3.cache ++ [(k, s)] } : Dev.St), 0) := fun k => by rw [k5, k3]
        have HD4 := Lib.hid hd40
        have hln : d3.cache.length ≤ 1000000 := by rw [k3]; have := hf.cache; omega
        have hBW : B ≤ w6.heap.size := by have := hB6.size; omega
        have HK4 := Lib.hid k4
        have HK2 := Lib.hid k2
        obtain ⟨W, hWW⟩ : ∃ W, W = w6 := ⟨_, rfl⟩
        rw [← hWW] at HMW HQW HCW HRW HDF hBW ⊢
        clear hWW hd3 k1 k2 k3 k4 k5 hrW hB6 hP6 hcW hDF hd30 hd40 hr6 he1 he2' he3 he4 he5 he6 HB3 HB4 HB5 HB6 HR4 HR5 HR6 HP3 HBQ HE HR HC HM HQ HOK hlo hst he2 hdf3 hr5
        generalize hl : decide (d.lose = 1) = l
        generalize ha : decide (d.stray = 1) = a
        cases a with
        | false =>
          have ha' := of_decide_eq_false ha
          cases l with
          | true =>
            have hl' := of_decide_eq_true hl
            clear hl ha
            have hA : Dev.aim d (j : Int) = none := by
              unfold Dev.aim
              rw [if_neg ha', if_pos hl']
            have hW := HWR.out
            rw [hA] at hW
            have HA : Hid (Dev.write d (j : Int) s = (d3, 0)) := Lib.hid (hW.trans HD3.out)
            clear hA hW
            go_wp2_with fail
            go_ret
            rw [HA.out]
            exact ⟨rfl, ⟨⟨cv, HRW.out, HCW.out⟩, HMW.out, HQW.out, HOK3.out, hlow⟩, HDF.out⟩
          | false =>
            have hl' := of_decide_eq_false hl
            clear hl ha
            have hA : Dev.aim d (j : Int) = some j := by
              unfold Dev.aim
              rw [if_neg ha', if_neg hl', Int.toNat_natCast]
            have hW := HWR.out
            rw [hA] at hW
            have HA : Hid (Dev.write d (j : Int) s = ({ d3 with cache := d3.cache ++ [(j, s)] }, 0)) := Lib.hid (hW.trans (HD4.out j))
            have hokA := HOKW.out
            rw [HA.out] at hokA
            have HOKA := Lib.hid hokA
            clear hA hW hokA
            have c4 := HRW.out.cell 4 cv rfl
            go_wp2_with (at_builtin; refine wpl_wr Try.underlying77 info_wr rfl _ _ rfl rfl HCW.out hBW hln rfl j s ?_; intro v7 w7 hc7 hd7; obtain ⟨a7, n7, p7, rfl⟩ := CacheIs.shape hc7; have HC7 := Lib.hid hc7; have HD7 := Lib.hid hd7; have hr7 := DF.row (HD7.out W.heap.size W.heap.size W.heap.size) HRW.out (by decide) (by have := HRW.out.lt; omega); have g4 := hr7.free 4; have c4 := hr7.cell 4 cv rfl; have HR7 := Lib.hid hr7; clear hc7 hd7 hr7)
            go_ret
            rw [HA.out]
            have hbt := (Wrote.setCell HR7.out 4 (.slice a7 n7 p7)).but
            have hrn := HR7.out.setCell 4 (.slice a7 n7 p7)
            have hdw : DF 95 B b m q W w7 := HD7.out b m q
            refine ⟨rfl, ⟨⟨.slice a7 n7 p7, hrn, HC7.out.but HR7.out (by decide) hbt⟩, ?_, ?_, HOKA.out, hlow⟩, HDF.out.trans (hdw.trans (DF.but hbt (.inl rfl)))⟩
            · exact ((HD7.out W.heap.size W.heap.size W.heap.size).list HMW.out (by decide) (by have := HMW.out.lt; omega)).but hbt (HR7.out.ne_list ((HD7.out W.heap.size W.heap.size W.heap.size).list HMW.out (by decide) (by have := HMW.out.lt; omega)) (by decide)).symm
            · exact ((HD7.out W.heap.size W.heap.size W.heap.size).list HQW.out (by decide) (by have := HQW.out.lt; omega)).but hbt (HR7.out.ne_list ((HD7.out W.heap.size W.heap.size W.heap.size).list HQW.out (by decide) (by have := HQW.out.lt; omega)) (by decide)).symm
        | true =>
          have ha' := of_decide_eq_true ha
          have c8 := HRW.out.cell 8 (.int .i64 d3.to) rfl
          rw [HK4.out] at c8
          cases l with
          | true =>
            have hl' := of_decide_eq_true hl
            clear hl ha
            have hA : Dev.aim d (j : Int) = none := by
              unfold Dev.aim
              rw [if_pos ha', if_pos (.inl hl')]
            have hW := HWR.out
            rw [hA] at hW
            have HA : Hid (Dev.write d (j : Int) s = (d3, 0)) := Lib.hid (hW.trans HD3.out)
            clear hA hW
            go_wp2_with fail
            go_ret
            rw [HA.out]
            exact ⟨rfl, ⟨⟨cv, HRW.out, HCW.out⟩, HMW.out, HQW.out, HOK3.out, hlow⟩, HDF.out⟩
          | false =>
            have hl' := of_decide_eq_false hl
            clear hl ha
            go_wp2_with fail
            refine (devis_any d.to HRW.out).mono ?_
            rintro e w9 ⟨rfl, he9⟩
            replace HMW := Lib.hid (HMW.out.ext he9)
            replace HQW := Lib.hid (HQW.out.ext he9)
            replace HCW := Lib.hid (HCW.out.ext he9)
            replace HRW := Lib.hid (HRW.out.ext he9)
            replace HDF := Lib.hid (HDF.out.trans (DF.of he9))
            replace hBW : B ≤ w9.heap.size := by have := he9.size; omega
            clear he9 c8
            obtain ⟨W, hWW⟩ : ∃ W, W = w9 := ⟨_, rfl⟩
            rw [← hWW] at HMW HQW HCW HRW HDF hBW ⊢
            clear hWW
            cases hsc : Dev.isSec d.to with
            | false =>
              have hA : Dev.aim d (j : Int) = none := by
                unfold Dev.aim
                rw [if_pos ha', if_pos (.inr (.inl hsc))]
              have hW := HWR.out
              rw [hA] at hW
              have HA : Hid (Dev.write d (j : Int) s = (d3, 0)) := Lib.hid (hW.trans HD3.out)
              clear hA hW hsc
              go_wp2_with fail
              go_ret
              rw [HA.out]
              exact ⟨rfl, ⟨⟨cv, HRW.out, HCW.out⟩, HMW.out, HQW.out, HOK3.out, hlow⟩, HDF.out⟩
            | true =>
              have ht := Dev.isSec_iff.1 hsc
              obtain ⟨t, htt⟩ : ∃ t : Nat, d.to = (t : Int) := ⟨d.to.toNat, by omega⟩
              rw [htt] at ht ⊢
              have ht9 : t < 9 := by omega
              have c3 := HRW.out.cell 3 (.slice (some ⟨q, 0, none⟩) 9 9) rfl
              have cb := HQW.out.cellD t (by rw [HOK3.out.bad]; exact ht9)
              rw [HK2.out] at cb
              obtain ⟨y, hy⟩ : ∃ y, d.bad.getD t false = y := ⟨_, rfl⟩
              rw [hy] at cb
              have HTT := Lib.hid htt; have HY := Lib.hid hy; have HSC := Lib.hid hsc
              clear htt hy hsc
              cases y with
              | true =>
                have hA : Dev.aim d (j : Int) = none := by
                  unfold Dev.aim
                  rw [if_pos ha', if_pos (.inr (.inr (by rw [HTT.out, Int.toNat_natCast]; exact HY.out)))]
                have hW := HWR.out
                rw [hA] at hW
                have HA : Hid (Dev.write d (j : Int) s = (d3, 0)) := Lib.hid (hW.trans HD3.out)
                clear hA hW
                go_wp2_with fail
                go_ret
                rw [HA.out]
                exact ⟨rfl, ⟨⟨cv, HRW.out, HCW.out⟩, HMW.out, HQW.out, HOK3.out, hlow⟩, HDF.out⟩
              | false =>
                have hA : Dev.aim d (j : Int) = some t := by
                  unfold Dev.aim
                  rw [if_pos ha', if_neg (by
                    rintro (h | h | h)
                    · exact hl' h
                    · rw [HSC.out] at h; cases h
                    · rw [HTT.out, Int.toNat_natCast, HY.out] at h; cases h), HTT.out, Int.toNat_natCast]
                have hW := HWR.out
                rw [hA] at hW
                have HA : Hid (Dev.write d (j : Int) s = ({ d3 with cache := d3.cache ++ [(t, s)] }, 0)) := Lib.hid (hW.trans (HD4.out t))
                have hokA := HOKW.out
                rw [HA.out] at hokA
                have HOKA := Lib.hid hokA
                clear hA hW hokA
                have c4 := HRW.out.cell 4 cv rfl
                go_wp2_with (at_builtin; refine wpl_wr Try.underlying77 info_wr rfl _ _ rfl rfl HCW.out hBW hln rfl t s ?_; intro v7 w7 hc7 hd7; obtain ⟨a7, n7, p7, rfl⟩ := CacheIs.shape hc7; have HC7 := Lib.hid hc7; have HD7 := Lib.hid hd7; have hr7 := DF.row (HD7.out W.heap.size W.heap.size W.heap.size) HRW.out (by decide) (by have := HRW.out.lt; omega); have g4 := hr7.free 4; have c4 := hr7.cell 4 cv rfl; have HR7 := Lib.hid hr7; clear hc7 hd7 hr7)
                go_ret
                rw [HA.out]
                have hbt := (Wrote.setCell HR7.out 4 (.slice a7 n7 p7)).but
                have hrn := HR7.out.setCell 4 (.slice a7 n7 p7)
                have hdw : DF 95 B b m q W w7 := HD7.out b m q
                refine ⟨rfl, ⟨⟨.slice a7 n7 p7, hrn, HC7.out.but HR7.out (by decide) hbt⟩, ?_, ?_, HOKA.out, hlow⟩, HDF.out.trans (hdw.trans (DF.but hbt (.inl rfl)))⟩
                · exact ((HD7.out W.heap.size W.heap.size W.heap.size).list HMW.out (by decide) (by have := HMW.out.lt; omega)).but hbt (HR7.out.ne_list ((HD7.out W.heap.size W.heap.size W.heap.size).list HMW.out (by decide) (by have := HMW.out.lt; omega)) (by decide)).symm
                · exact ((HD7.out W.heap.size W.heap.size W.heap.size).list HQW.out (by decide) (by have := HQW.out.lt; omega)).but hbt (HR7.out.ne_list ((HD7.out W.heap.size W.heap.size W.heap.size).list HQW.out (by decide) (by have := HQW.out.lt; omega)) (by decide)).symm
end Go.Proofs.Ytcpbpfngiimcnaa
