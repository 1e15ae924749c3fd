/- The document's Crash. -/
import Derived.Test.YtcpbpfngiimcnaaDevV
namespace Go.Proofs.Ytcpbpfngiimcnaa
open Go.RowKit
section
variable {w : World} {B b m q : Nat} {d : Dev.St}
set_option maxRecDepth 100000 in
set_option maxHeartbeats 8000000 in
theorem refcrash_any (fa : Option Addr) (fc : Nat) (fs : List Int) (hfl : fs.length ≤ 1000) (hfb : ∀ f ∈ fs, -9223372036854775808 ≤ f ∧ f ≤ 9223372036854775807)
    (hF : ∀ w', DF 107 B b m q w w' → ∀ i (h : i < fs.length), ∃ g o, fa = some ⟨g, o, none⟩ ∧ w'.cell? ⟨g, o + i, none⟩ = some (.int .i64 fs[i])) (hf : Dev.Fit d) (hP : RD w B b m q d) :
    Calls Try.prog 30 #[.pointer (some ⟨b, 0, none⟩), .slice fa fs.length fc] w fun e w' => (∃ v, e = .returned v) ∧ RD w' B b m q (Dev.crash d fs) ∧ DF 107 B b m q w w' := by
  obtain ⟨⟨cv, cm, cq, hr, hc⟩, hm, hq, hok, hlow⟩ := hP
  obtain ⟨a, cap, rfl, hcc, _⟩ := CacheIs.cells hc
  have HR := Lib.hid hr; have HC := Lib.hid hc; have HM := Lib.hid hm; have HQ := Lib.hid hq; have HOK := Lib.hid hok; have HF := Lib.hid hF; have HFB := Lib.hid hfb
  have hlc := hf.cache
  clear hr hc hm hq hok hF hfb
  go_enter Try.func30, Try.ntmps30
  go_wp2_with fail
  go_loopw [4] (fun i wx => ∃ k : Nat, k ≤ d.cache.length ∧ k ≤ fs.length ∧ i = .int .i64 k ∧ But m w wx ∧ ListAt 9 .string wx m (Dev.settles d.media ((d.cache.zip fs).take k))) (fun i _ => d.cache.length - (intOf i).toNat)
  case atStart => exact ⟨0, by omega, by omega, rfl, But.refl _ _, by simpa [Dev.settles] using HM.out⟩
  case round =>
    obtain ⟨k, hk, hkf, rfl, hbw, hmk⟩ := hrel
    have hrW : RowIs b 65 (refRow d m q cm cq (.slice a d.cache.length cap)) wr := hbw.row HR.out (HR.out.ne_list HM.out (by decide))
    have hcW : CacheIs 107 wr B (.slice a d.cache.length cap) d.cache := by
      obtain ⟨cs, hrm, _⟩ := HM.out
      exact HC.out.but hrm (by decide) hbw
    have hdf : DF 107 B b m q w wr := DF.but hbw (.inr (.inl rfl))
    have htx : (Dev.settles d.media ((d.cache.zip fs).take k)).length = d.media.length ∧ ∀ x ∈ Dev.settles d.media ((d.cache.zip fs).take k), x.size = 128 := Dev.settles_text (fun p hp => by
      have := (List.of_mem_zip (List.mem_of_mem_take hp)).1
      have := HOK.out.cache _ this
      exact ⟨by rw [HOK.out.media]; exact this.1, this.2⟩) HOK.out.text
    rw [HOK.out.media] at htx
    have k3 := hrW.cell 3 (.slice a d.cache.length cap) rfl
    have HRW := Lib.hid hrW; have HBW := Lib.hid hbw; have HMK := Lib.hid hmk; have HTX := Lib.hid htx; have HDF := Lib.hid hdf
    clear hrW hbw hmk htx hdf
    by_cases hlt : k < d.cache.length ∧ k < fs.length
    · obtain ⟨hlt, hlf⟩ := hlt
      obtain ⟨a', cap', ea, _, hcells⟩ := CacheIs.cells hcW
      simp only [Value.slice.injEq, true_and] at ea
      obtain ⟨rfl, rfl⟩ := ea
      obtain ⟨g, rfl, hg, x0, x1⟩ := hcells k hlt
      have hsec := (HOK.out.cache d.cache[k] (List.getElem_mem hlt))
      obtain ⟨g2, o2, rfl, y0⟩ := HF.out wr HDF.out k hlf
      have HST := Lib.hid (Dev.settles_take (M := d.media) hlt hlf)
      have hfk := HFB.out fs[k] (List.getElem_mem hlf)
      clear hcells hcW
      generalize d.cache[k] = x at *
      obtain ⟨s, t⟩ := x
      simp only at x0 x1 hsec
      generalize fs[k] = f at *
      go_upto_region 4 with (fail)
      have hxa := Ext.alloc wr (.cells #[.int .i64 (s : Int), .string t] 107)
      have n0 := World.cell?_alloc_new wr #[.int .i64 (s : Int), .string t] 107 0
      have n1 := World.cell?_alloc_new wr #[.int .i64 (s : Int), .string t] 107 1
      generalize wr.alloc (.cells #[.int .i64 (s : Int), .string t] 107) = w1 at *
      generalize wr.heap.size = X at *
      replace y0 := cell_ext y0 hxa
      have c0 := (HRW.out.ext hxa).cell 0 (.int .i64 128) rfl
      have kI : 0 ≤ (k : Int) ∧ (k : Int) < (fs.length : Int) := by omega
      have HXA := Lib.hid hxa
      clear hxa x0 x1 k3
      have n0 : w1.cell? ⟨X, 0, none⟩ = some (.int .i64 (s : Int)) := n0
      have n1 : w1.cell? ⟨X, 1, none⟩ = some (.string t) := n1
      go_upto_if 33 with (fail)
      go_cut [6] (fun v wx => v = .int .i64 (if f = 1 then 128 else 0) ∧ wx = w1)
      case first =>
        by_cases h1 : f = 1
        · subst h1
          go_wp2_with fail
          go_meet
          exact ⟨rfl, rfl⟩
        · have e1 : (f == 1) = false := beq_eq_false_iff_ne.2 h1
          have H1 := Lib.hid h1
          clear h1
          go_wp2_with fail
          go_meet
          exact ⟨by rw [if_neg H1.out], rfl⟩
      obtain ⟨rfl, rfl⟩ := hcut
      obtain ⟨v6, hv6⟩ : ∃ v : Int, (if f = 1 then (128 : Int) else 0) = v := ⟨_, rfl⟩
      rw [hv6]
      have HV := Lib.hid hv6
      clear hv6
      go_upto_if 42 with (fail)
      go_cut [6] (fun v wx => ∃ n : Nat, v = .int .i64 n ∧ Dev.kept f = n ∧ n ≤ 128 ∧ Ext wr wx ∧ wx.cell? ⟨X, 0, none⟩ = some (.int .i64 (s : Int)) ∧ wx.cell? ⟨X, 1, none⟩ = some (.string t))
      case first =>
        by_cases h2 : 2 ≤ f
        · by_cases h3 : f < 129
          · obtain ⟨n, rfl⟩ : ∃ n : Nat, f = (n : Int) + 2 := ⟨(f - 2).toNat, by omega⟩
            have hkp : Dev.kept ((n : Int) + 2) = n := by
              unfold Dev.kept
              rw [if_neg (by omega), if_pos h2]
              omega
            have HKP := Lib.hid hkp
            have e9 : (n : Int) + 2 - 2 = (n : Int) := by omega
            have wn : IntKind.i64.wrap ((n : Int) + 2 - 2) = (n : Int) := by rw [IntKind.wrap_i64]; omega
            clear hkp
            go_wp2_with fail
            go_quiet (fail)
            go_wp2_with fail
            go_meet
            exact ⟨n, rfl, HKP.out, by omega, HXA.out.trans (Ext.drewN _ _), cell_ext n0 (Ext.drewN _ _), cell_ext n1 (Ext.drewN _ _)⟩
          · have hkp : Dev.kept f = 127 := by
              unfold Dev.kept
              rw [if_neg (by omega), if_pos h2]
              omega
            have HKP := Lib.hid hkp
            have h3' : ¬ f < 129 := h3
            clear hkp h3
            go_wp2_with fail
            go_quiet (fail)
            go_wp2_with fail
            go_meet
            exact ⟨127, rfl, HKP.out, by omega, HXA.out.trans (Ext.drewN _ _), cell_ext n0 (Ext.drewN _ _), cell_ext n1 (Ext.drewN _ _)⟩
        · have hv : v6 = ((Dev.kept f : Nat) : Int) := by
            rw [← HV.out]
            unfold Dev.kept
            by_cases h1 : f = 1
            · rw [if_pos h1, if_pos h1]; rfl
            · rw [if_neg h1, if_neg h1, if_neg h2]; rfl
          have HV6 := Lib.hid hv
          have HK := Lib.hid (Dev.kept_le f)
          clear hv
          go_wp2_with fail
          go_meet
          exact ⟨_, by rw [HV6.out], rfl, HK.out, HXA.out, n0, n1⟩
      obtain ⟨n, rfl, hkp, hn, hxw, m0, m1⟩ := hcut
      have hmw := HMK.out.ext hxw
      have cmz := hmw.cellT s (by rw [HTX.out.1]; exact hsec.1)
      have fm := hmw.free s
      have c1 := (HRW.out.ext hxw).cell 1 (.slice (some ⟨m, 0, none⟩) 9 cm) rfl
      have hzs : ((Dev.settles d.media ((d.cache.zip fs).take k)).getD s .empty).size = 128 := by
        rw [List.getD_eq_getElem?_getD, List.getElem?_eq_getElem (by rw [HTX.out.1]; exact hsec.1)]
        exact HTX.out.2 _ (List.getElem_mem _)
      have hset : Dev.settle (Dev.settles d.media ((d.cache.zip fs).take k)) (s, t) f = (Dev.settles d.media ((d.cache.zip fs).take k)).set s (t.extract 0 n ++ ((Dev.settles d.media ((d.cache.zip fs).take k)).getD s .empty).extract n 128) := by
        unfold Dev.settle
        rw [hkp]
      obtain ⟨z, hz⟩ : ∃ z, (Dev.settles d.media ((d.cache.zip fs).take k)).getD s .empty = z := ⟨_, rfl⟩
      rw [hz] at cmz hzs hset
      obtain ⟨y, hy⟩ : ∃ y, t.extract 0 n ++ z.extract n 128 = y := ⟨_, rfl⟩
      rw [hy] at hset
      have HY := Lib.hid hy; have HSET := Lib.hid hset; have HMW := Lib.hid hmw; have HXW := Lib.hid hxw
      have hsI : 0 ≤ (s : Int) ∧ (s : Int) < 9 := by omega
      have k1 : (n : Int) ≤ 128 := by omega
      have k2 : (0 : Int) ≤ (n : Int) := by omega
      have ht := hsec.2
      clear hz hy hset hmw hxw hkp c0 y0 n0 n1 HV
      go_upto_region 11 with (fail)
      go_still_tail 22, (by kernel_rfl)
      change wpList _ _ _ _ _ wc.drew
      go_wp2_with fail
      try rw [HY.out]
      go_roundw
      case rel => exact ⟨k + 1, by omega, by omega, by go_num, HBW.out.trans (((But.of HXW.out).trans (HMW.out.wrote s (.string y)).but).trans (But.of (Ext.drew _))), by rw [HST.out, HSET.out]; exact (HMW.out.set s y).ext (Ext.drew _)⟩
      case measure => simp [intOf]; omega
    · have hz : (d.cache.zip fs).take k = d.cache.zip fs := List.take_of_length_le (by rw [List.length_zip]; omega)
      rw [hz] at HMK HTX
      have g3 := HRW.out.free 3
      have g4 := HRW.out.free 4
      have g8 := HRW.out.free 8
      have c8 := HRW.out.cell 8 _ rfl
      have c4 := HRW.out.cell 4 _ rfl
      have HG := Lib.hid (HR.out.ne_list HM.out (by decide))
      have hfin : ∀ Q : Prop, (¬ k < d.cache.length → Q) → (k < d.cache.length → ¬ k < fs.length → Q) → Q := fun Q h1 h2 => by
        by_cases h : k < d.cache.length
        · exact h2 h (fun h3 => hlt ⟨h, h3⟩)
        · exact h1 h
      clear hcW hz hlt
      refine hfin _ (fun h1 => ?_) (fun h1 h2 => ?_)
      all_goals
        go_wp2_with fail
        go_end0
        have hr1 := HRW.out.setCell 3 (.slice none 0 0)
        have hr2 := hr1.setCell 8 (.bool false)
        have hr3 := hr2.setCell 4 (.int .i64 0)
        have hw3 := (((Wrote.setCell HRW.out 3 (.slice none 0 0)).trans (Wrote.setCell hr1 8 (.bool false))).trans (Wrote.setCell hr2 4 (.int .i64 0))).but
        have hnq : q ≠ m := HQ.out.ne_list HM.out (by decide)
        have hnb : q ≠ b := (HRW.out.ne_list (HQ.out.but HBW.out hnq) (by decide)).symm
        refine ⟨⟨_, rfl⟩, ⟨⟨.slice none 0 0, cm, cq, hr3, CacheIs.nil _ _ _⟩, HMK.out.but hw3 (fun e => HG.out e.symm), (HQ.out.but HBW.out hnq).but hw3 hnb, ?_, hlow⟩, HDF.out.trans (DF.but hw3 (.inl rfl))⟩
        exact ⟨HTX.out.1, HOK.out.bad, HTX.out.2, fun w hw => by cases hw⟩
end
end Go.Proofs.Ytcpbpfngiimcnaa
