/- The contracts of the device's Flush, Lose, Stray, Kill, Dead, and of Stick where nothing waits. -/
import Derived.Test.YtcpbpfngiimcnaaDevK
namespace Go.Proofs.Ytcpbpfngiimcnaa
open Go.RowKit
namespace Dev
theorem settled_take {m : List ByteArray} {c : List (Nat × ByteArray)} {k : Nat} (hk : k < c.length) : settled m (c.take (k + 1)) = (settled m (c.take k)).set c[k].1 c[k].2 := by
  unfold settled
  rw [List.take_succ_eq_append_getElem hk, List.foldl_append]
  rfl
end Dev
section
variable {B b m q : Nat} {d : Dev.St} {w : World}
set_option maxRecDepth 100000 in
set_option maxHeartbeats 8000000 in
theorem devflush_any (hf : Dev.Fit d) (hP : PD w B b m q d) :
    Calls Try.prog 10 #[.pointer (some ⟨b, 0, none⟩)] w fun e w' => e = .returned (.int .i64 (((Dev.flush d).2 : Nat) : Int)) ∧ PD w' B b m q (Dev.flush d).1 ∧ DF 95 B b m q w w' := by
  obtain ⟨⟨cv, hr, hc⟩, hm, hq, hok, hlow⟩ := hP
  have HR := Lib.hid hr; have HC := Lib.hid hc; have HM := Lib.hid hm; have HQ := Lib.hid hq; have HOK := Lib.hid hok
  clear hr hc hm hq hok
  go_enter Try.func10, Try.ntmps10
  go_wp2_with fail
  refine (devready_any HR.out).mono ?_
  rintro e w1 ⟨rfl, he1⟩
  by_cases h0 : Dev.ready d = 0
  case neg =>
    have hA : Dev.flush d = (d, Dev.ready d) := by unfold Dev.flush; rw [if_pos h0]
    have HA := Lib.hid hA
    clear hA
    generalize Dev.ready d = r at *
    have hr0 : ((r : Int) != 0) = true := by simp; omega
    go_wp2_with fail
    go_ret
    rw [HA.out]
    exact ⟨rfl, PD.ext ⟨⟨cv, HR.out, HC.out⟩, HM.out, HQ.out, HOK.out, hlow⟩ he1, DF.of he1⟩
  rw [h0]
  go_wp2_with fail
  refine (devburn_any hf.fuse (HR.out.ext he1)).mono ?_
  rintro e w3 ⟨rfl, hr3, hb3⟩
  have hP3 := (PD.row' (HR.out.ext he1) (HC.out.ext he1) (HM.out.ext he1) (HQ.out.ext he1) hlow hr3 hb3)
  have hbw : But b w w3 := (But.of he1).trans hb3
  obtain ⟨f, o, hbq⟩ := Dev.burn_eq d
  replace hP3 := hP3 (by rw [hbq]) (by rw [hbq]) (by rw [hbq]) (Dev.burn_ok HOK.out)
  have HBW := Lib.hid hbw
  clear hb3 he1 hbw
  cases hbn : (Dev.burn d).2 with
  | true =>
    have hA : Dev.flush d = ((Dev.burn d).1, 6) := by unfold Dev.flush; rw [if_neg (by omega), if_pos hbn]
    have HA := Lib.hid hA
    clear hA
    simp only [if_true]
    go_wp2_with fail
    go_ret
    rw [HA.out]
    exact ⟨rfl, hP3, DF.but HBW.out (.inl rfl)⟩
  | false =>
    simp only [Bool.false_eq_true, if_false]
    have hA : Dev.flush d = ({ (Dev.burn d).1 with media := Dev.settled d.media d.cache, cache := [], fls := d.fls + 1 }, 0) := by unfold Dev.flush; rw [if_neg (by omega), if_neg (by rw [hbn]; decide)]
    obtain ⟨d1, hd1, e1, e2, e3, e4⟩ : ∃ d1, (Dev.burn d).1 = d1 ∧ d1.media = d.media ∧ d1.bad = d.bad ∧ d1.cache = d.cache ∧ d1.fls = d.fls := ⟨_, rfl, by rw [hbq], by rw [hbq], by rw [hbq], by rw [hbq]⟩
    rw [hd1] at hr3 hP3 hA
    have HA := Lib.hid hA
    clear hA hd1 hbq hbn
    obtain ⟨a, cap, rfl, hcc, _⟩ := CacheIs.cells HC.out
    have HR3 := Lib.hid hr3; have HP3 := Lib.hid hP3
    have HE := Lib.hid (And.intro e1 (And.intro e2 (And.intro e3 e4)))
    have c4 := hr3.cell 4 (.slice a d.cache.length cap) rfl
    have hlc := hf.cache
    clear hr3 hP3 e1 e2 e3 e4
    have hmw : ListAt 9 .string w3 m d.media := HM.out.but HBW.out (HR.out.ne_list HM.out (by decide)).symm
    have HMW := Lib.hid hmw
    clear hmw
    go_wp2_with fail
    go_loopw [22] (fun i wx => ∃ k : Nat, k ≤ d.cache.length ∧ i = .int .i64 k ∧ But m w3 wx ∧ ListAt 9 .string wx m (Dev.settled d.media (d.cache.take k))) (fun i _ => d.cache.length - (intOf i).toNat)
    case atStart => exact ⟨0, by omega, rfl, But.refl _ _, by simpa [Dev.settled] using HMW.out⟩
    case round =>
      obtain ⟨k, hk, rfl, hbm, hmk⟩ := hrel
      have hnm : b ≠ m := HR.out.ne_list HM.out (by decide)
      have hrW : RowIs b 80 (devRow d1 m q (.slice a d.cache.length cap)) wr := hbm.row HR3.out hnm
      have hcW : CacheIs 95 wr B (.slice a d.cache.length cap) d.cache := by
        obtain ⟨cs, hrm, _⟩ := HMW.out
        exact (HC.out.but HR.out (by decide) HBW.out).but hrm (by decide) hbm
      have htx := Dev.settled_ok (c := d.cache.take k) HOK.out.media HOK.out.text (fun x hx => HOK.out.cache x (List.mem_of_mem_take hx))
      have HRW := Lib.hid hrW; have HBM := Lib.hid hbm; have HMK := Lib.hid hmk; have HTX := Lib.hid htx
      clear hrW hbm hmk htx
      by_cases hlt : k < d.cache.length
      · obtain ⟨a', cap', ea, _, hcells⟩ := CacheIs.cells hcW
        simp only [Value.slice.injEq, true_and] at ea
        obtain ⟨rfl, rfl⟩ := ea
        obtain ⟨g, rfl, hg, x0, x1⟩ := hcells k hlt
        have hsec := (HOK.out.cache d.cache[k] (List.getElem_mem hlt))
        have HST := Lib.hid (Dev.settled_take (m := d.media) hlt)
        clear hcells hcW c4
        generalize d.cache[k] = x at *
        obtain ⟨s, t⟩ := x
        simp only at x0 x1 hsec
        go_upto_region 10 with (fail)
        have hxa := Ext.alloc wr (.cells #[.int .i64 (s : Int), .string t] 95)
        have n0 := World.cell?_alloc_new wr #[.int .i64 (s : Int), .string t] 95 0
        have n1 := World.cell?_alloc_new wr #[.int .i64 (s : Int), .string t] 95 1
        generalize wr.alloc (.cells #[.int .i64 (s : Int), .string t] 95) = w5 at *
        generalize wr.heap.size = X at *
        have hmk5 := HMK.out.ext hxa
        have c2 := (HRW.out.ext hxa).cell 2 (.slice (some ⟨m, 0, none⟩) 9 9) rfl
        have fm := hmk5.free s
        have cm := hmk5.cellT s (by rw [HTX.out.1]; exact hsec.1)
        have kI : 0 ≤ (s : Int) ∧ (s : Int) < 9 := by omega
        have HM5 := Lib.hid hmk5; have HXA := Lib.hid hxa
        clear hmk5 hxa x0 x1
        go_still_tail 9, (by kernel_rfl)
        change wpList _ _ _ _ _ w5.drew
        go_wp2_with fail
        go_roundw
        case rel => exact ⟨k + 1, by omega, by go_num, (HBM.out.trans (But.of HXA.out)).trans ((HM5.out.wrote s (.string t)).but.trans (But.of (Ext.drew _))), by rw [HST.out]; exact (HM5.out.set s t).ext (Ext.drew _)⟩
        case measure => simp [intOf]; omega
      · obtain rfl : k = d.cache.length := by omega
        rw [List.take_length] at HMK HTX
        have g4 := HRW.out.free 4
        have c4' := HRW.out.cell 4 _ rfl
        have hfl : d1.fls ≤ 1000000 := by have := HE.out.2.2.2; have := hf.fls; omega
        have hr5 := HRW.out.setCell 4 (.slice none 0 0)
        have c13 := hr5.cell 13 (.int .i64 (d1.fls : Int)) rfl
        have f13 := hr5.free 13
        have hw5 := (Wrote.setCell HRW.out 4 (.slice none 0 0))
        clear hcW c4
        go_upto_region 13 with (fail)
        have HR5 := Lib.hid hr5; have HW5 := Lib.hid hw5
        clear hr5 hw5 c4' g4
        generalize wr.setCell ⟨b, 4, none⟩ (.slice none 0 0) = w5 at *
        go_still_tail 9, (by kernel_rfl)
        change wpList _ _ _ _ _ w5.drew
        go_wp2_with fail
        go_ret
        rw [HA.out]
        have e9 : (d1.fls : Int) + 1 = ((d.fls + 1 : Nat) : Int) := by have := HE.out.2.2.2; omega
        rw [e9]
        have hr6 := (HR5.out.setCell 13 (.int .i64 ((d.fls + 1 : Nat) : Int))).ext (Ext.drew _)
        have hw6 : But b wr ((w5.setCell ⟨b, 13, none⟩ (.int .i64 ((d.fls + 1 : Nat) : Int))).drew) := (HW5.out.trans (Wrote.setCell HR5.out 13 _)).but.trans (But.of (Ext.drew _))
        have hnq : q ≠ m := HQ.out.ne_list HM.out (by decide)
        have hnb : q ≠ b := (HR.out.ne_list HQ.out (by decide)).symm
        have hbad : ListAt 4 .bool wr q d.bad := (HQ.out.but HBW.out hnb).but HBM.out hnq
        refine ⟨rfl, ⟨⟨.slice none 0 0, hr6, CacheIs.nil _ _ _⟩, HMK.out.but hw6 (fun e => hnm e.symm), ?_, ?_, hlow⟩, ((DF.but HBW.out (.inl rfl)).trans (DF.but HBM.out (.inr (.inl rfl)))).trans (DF.but hw6 (.inl rfl))⟩
        · show ListAt 4 .bool _ q d1.bad
          rw [HE.out.2.1]
          exact hbad.but hw6 hnb
        · exact ⟨HTX.out.1, by show d1.bad.length = 9; rw [HE.out.2.1]; exact HOK.out.bad, HTX.out.2, fun x hx => by cases hx⟩
/-- one field of the row is another one -/
theorem PD.field {w w' : World} {d d' : Dev.St} {cv : Value} (hr : RowIs b 80 (devRow d m q cv) w) (hc : CacheIs 95 w B cv d.cache) (hm : ListAt 9 .string w m d.media) (hq : ListAt 4 .bool w q d.bad) (hok : Dev.Ok d) (hlow : B ≤ b ∧ B ≤ m ∧ B ≤ q)
    (hr' : RowIs b 80 (devRow d' m q cv) w') (e : But b w w') (h1 : d'.cache = d.cache) (h2 : d'.media = d.media) (h3 : d'.bad = d.bad) : PD w' B b m q d' ∧ DF 95 B b m q w w' :=
  ⟨PD.row' hr hc hm hq hlow hr' e h1 h2 h3 (hok.same h2 h3 h1), DF.but e (.inl rfl)⟩
set_option maxRecDepth 100000 in
set_option maxHeartbeats 4000000 in
theorem devlose_any (n : Nat) (hP : PD w B b m q d) : Calls Try.prog 17 #[.pointer (some ⟨b, 0, none⟩), .int .i64 (n : Int)] w fun e w' => (∃ v, e = .returned v) ∧ PD w' B b m q { d with lose := n } ∧ DF 95 B b m q w w' := by
  obtain ⟨⟨cv, hr, hc⟩, hm, hq, hok, hlow⟩ := hP
  have c6 := hr.cell 6 _ rfl
  have f6 := hr.free 6
  have hmx : max (n : Int) 0 = (n : Int) := by omega
  have HR := Lib.hid hr; have HC := Lib.hid hc; have HM := Lib.hid hm; have HQ := Lib.hid hq; have HOK := Lib.hid hok
  clear hr hc hm hq hok
  go_enter Try.func17, Try.ntmps17
  go_wp2_with fail
  go_end0
  exact ⟨⟨_, rfl⟩, PD.field HR.out HC.out HM.out HQ.out HOK.out hlow (HR.out.setCell 6 (.int .i64 (n : Int))) (Wrote.setCell HR.out 6 _).but rfl rfl rfl⟩
set_option maxRecDepth 100000 in
set_option maxHeartbeats 4000000 in
theorem devstray_any (n : Nat) (t : Int) (hP : PD w B b m q d) : Calls Try.prog 18 #[.pointer (some ⟨b, 0, none⟩), .int .i64 (n : Int), .int .i64 t] w fun e w' => (∃ v, e = .returned v) ∧ PD w' B b m q { d with stray := n, «to» := t } ∧ DF 95 B b m q w w' := by
  obtain ⟨⟨cv, hr, hc⟩, hm, hq, hok, hlow⟩ := hP
  have c7 := hr.cell 7 _ rfl
  have f7 := hr.free 7
  have c8 := hr.cell 8 _ rfl
  have f8 := hr.free 8
  have hmx : max (n : Int) 0 = (n : Int) := by omega
  have HR := Lib.hid hr; have HC := Lib.hid hc; have HM := Lib.hid hm; have HQ := Lib.hid hq; have HOK := Lib.hid hok
  clear hr hc hm hq hok
  go_enter Try.func18, Try.ntmps18
  go_wp2_with fail
  go_end0
  exact ⟨⟨_, rfl⟩, PD.field HR.out HC.out HM.out HQ.out HOK.out hlow ((HR.out.setCell 7 (.int .i64 (n : Int))).setCell 8 (.int .i64 t)) ((Wrote.setCell HR.out 7 _).trans (Wrote.setCell (HR.out.setCell 7 (.int .i64 (n : Int))) 8 _)).but rfl rfl rfl⟩
set_option maxRecDepth 100000 in
set_option maxHeartbeats 4000000 in
theorem devkill_any (hP : PD w B b m q d) : Calls Try.prog 19 #[.pointer (some ⟨b, 0, none⟩)] w fun e w' => (∃ v, e = .returned v) ∧ PD w' B b m q { d with gone := true } ∧ DF 95 B b m q w w' := by
  obtain ⟨⟨cv, hr, hc⟩, hm, hq, hok, hlow⟩ := hP
  have c10 := hr.cell 10 _ rfl
  have f10 := hr.free 10
  have HR := Lib.hid hr; have HC := Lib.hid hc; have HM := Lib.hid hm; have HQ := Lib.hid hq; have HOK := Lib.hid hok
  clear hr hc hm hq hok
  go_enter Try.func19, Try.ntmps19
  go_wp2_with fail
  go_end0
  exact ⟨⟨_, rfl⟩, PD.field HR.out HC.out HM.out HQ.out HOK.out hlow (HR.out.setCell 10 (.bool true)) (Wrote.setCell HR.out 10 _).but rfl rfl rfl⟩
set_option maxRecDepth 100000 in
set_option maxHeartbeats 4000000 in
theorem devdead_any (hP : PD w B b m q d) : Calls Try.prog 20 #[.pointer (some ⟨b, 0, none⟩)] w fun e w' => e = .returned (.bool d.gone) ∧ Ext w w' := by
  obtain ⟨⟨cv, hr, hc⟩, hm, hq, hok, hlow⟩ := hP
  have c10 := hr.cell 10 (.bool d.gone) rfl
  clear hr hc hm hq hok
  generalize d.gone = g at *
  cases g
  all_goals
    go_enter Try.func20, Try.ntmps20
    go_wp2_with fail
    go_ret
    exact ⟨rfl, Ext.refl _⟩
set_option maxRecDepth 100000 in
set_option maxHeartbeats 4000000 in
theorem indexfunc_nil (a : Option Addr) (c : Nat) (f : Value) (w : World) : Calls Try.prog 62 #[.slice a 0 c, f] w fun e w' => e = .returned (.int .i64 (-1)) ∧ Ext w w' := by
  go_enter Try.func62, Try.ntmps62
  go_wp2_with fail
  go_loopw [8] (fun i wx => i = .int .i64 0 ∧ Ext w wx) (fun _ _ => 0)
  case atStart => exact ⟨rfl, Ext.refl _⟩
  case round =>
    obtain ⟨rfl, hex⟩ := hrel
    go_wp2_with fail
    go_ret
    exact ⟨rfl, hex⟩
set_option maxRecDepth 100000 in
set_option maxHeartbeats 4000000 in
theorem deletefunc_nil (a : Option Addr) (c : Nat) (f : Value) (w : World) : Calls Try.prog 50 #[.slice a 0 c, f] w fun e w' => e = .returned (.slice a 0 c) ∧ Ext w w' := by
  go_enter Try.func50, Try.ntmps50
  go_wp2_with fail
  refine (indexfunc_nil _ _ _ _).mono ?_
  rintro e w1 ⟨rfl, he1⟩
  go_wp2_with fail
  go_ret
  exact ⟨rfl, he1⟩
set_option maxRecDepth 100000 in
set_option maxHeartbeats 4000000 in
theorem devstick_empty (i : Nat) (hi : i < 9) (hP : PD w B b m q d) (h0 : d.cache = []) : Calls Try.prog 16 #[.pointer (some ⟨b, 0, none⟩), .int .i64 (i : Int)] w fun e w' => (∃ v, e = .returned v) ∧ PD w' B b m q { d with bad := d.bad.set i true } ∧ DF 95 B b m q w w' := by
  obtain ⟨⟨cv, hr, hc⟩, hm, hq, hok, hlow⟩ := hP
  rw [h0] at hc
  obtain ⟨a, cap, rfl, _, _⟩ := CacheIs.cells hc
  have HR := Lib.hid hr; have HC := Lib.hid hc; have HM := Lib.hid hm; have HQ := Lib.hid hq; have HOK := Lib.hid hok
  clear hr hc hm hq hok
  have r3 := RowIs.new w 3 #[.int .i64 (i : Int)]
  have hx := Ext.alloc w (.cells #[.int .i64 (i : Int)] 3)
  go_enter Try.func16, Try.ntmps16
  go_upto_region 1 with (fail)
  generalize w.alloc (.cells #[.int .i64 (i : Int)] 3) = w0 at *
  generalize w.heap.size = X at *
  have k3 := r3.cell 0 _ rfl
  go_wp2_with fail
  refine (devis_any (i : Int) (HR.out.ext hx)).mono ?_
  rintro e w1 ⟨rfl, he1⟩
  rw [Dev.isSec_iff.2 (show (0 : Int) ≤ (i : Int) ∧ (i : Int) < 9 by omega)]
  have HE := Lib.hid (hx.trans he1)
  have R3 := Lib.hid (r3.ext he1)
  have e3 := (HR.out.ext HE.out).cell 3 (.slice (some ⟨q, 0, none⟩) 9 9) rfl
  have cq := (HQ.out.ext HE.out).cellD i (by rw [HOK.out.bad]; exact hi)
  have fq := (HQ.out.ext HE.out).free i
  have c3 := R3.out.cell 0 _ rfl
  have hi' : 0 ≤ (i : Int) ∧ (i : Int) < 9 := by omega
  clear k3 r3 hx he1
  go_wp2_with fail
  go_still_tail 6, (by kernel_rfl)
  change wpList _ _ _ _ _ w1.drew
  go_upto_region 3 with (fail)
  have hq2 := ((HQ.out.ext HE.out).set i true).ext (Ext.drew _)
  have hwq := ((HQ.out.ext HE.out).wrote i (.bool true)).but.trans (But.of (Ext.drew _))
  generalize (w1.setCell ⟨q, i, none⟩ (.bool true)).drew = w2 at *
  have hnb : b ≠ q := HR.out.ne_list HQ.out (by decide)
  have hnm : m ≠ q := HM.out.ne_list HQ.out (by decide)
  have HQ2 := Lib.hid hq2; have HWQ := Lib.hid ((But.of HE.out).trans hwq)
  clear hq2 hwq e3 cq fq c3
  have hr2 := HWQ.out.row HR.out hnb
  have c4 := hr2.cell 4 (.slice a ([] : List (Nat × ByteArray)).length cap) rfl
  have HR2 := Lib.hid hr2
  clear hr2
  go_wp2_with fail
  refine (deletefunc_nil _ _ _ _).mono ?_
  rintro e w3 ⟨rfl, he3⟩
  have hr3 := HR2.out.ext he3
  have c4' := hr3.cell 4 (.slice a ([] : List (Nat × ByteArray)).length cap) rfl
  have f4 := hr3.free 4
  have HR3 := Lib.hid hr3; have HE3 := Lib.hid he3
  clear hr3 he3 c4
  go_wp2_with fail
  go_end0
  have hw4 := (Wrote.setCell HR3.out 4 (.slice a ([] : List (Nat × ByteArray)).length cap)).but
  have hr4 := HR3.out.setCell 4 (.slice a ([] : List (Nat × ByteArray)).length cap)
  have hc3 : CacheIs 95 w3 B (.slice a ([] : List (Nat × ByteArray)).length cap) [] := by
    obtain ⟨cs, hrq, _⟩ := HQ.out
    exact (HC.out.but hrq (by decide) HWQ.out).ext HE3.out
  refine ⟨⟨_, rfl⟩, ⟨⟨_, hr4, ?_⟩, ((HM.out.but HWQ.out hnm).ext HE3.out).but hw4 (HR.out.ne_list HM.out (by decide)).symm, (HQ2.out.ext HE3.out).but hw4 hnb.symm, ?_, hlow⟩, ((DF.but HWQ.out (.inr (.inr rfl))).trans (DF.of HE3.out)).trans (DF.but hw4 (.inl rfl))⟩
  · show CacheIs _ _ _ _ d.cache
    rw [h0]
    exact hc3.but HR3.out (by decide) hw4
  · exact ⟨HOK.out.media, by show (d.bad.set i true).length = 9; rw [List.length_set]; exact HOK.out.bad, HOK.out.text, HOK.out.cache⟩
end
end Go.Proofs.Ytcpbpfngiimcnaa
