/- The contracts of the device's settle and Crash. -/
import Derived.Test.YtcpbpfngiimcnaaDevE
namespace Go.Proofs.Ytcpbpfngiimcnaa
open Go.RowKit
namespace Dev
theorem bytes_ext {x y : ByteArray} (h : x.data.toList = y.data.toList) : x = y := by
  cases x; cases y
  simpa using h
theorem settle_keep {M : List ByteArray} {s : Nat} {t : ByteArray} (hs : t.size = 128) : settle M (s, t) 1 = M.set s t := by
  unfold settle kept
  rw [if_pos rfl]
  congr 1
  show t.extract 0 128 ++ (M.getD s .empty).extract 128 128 = t
  have h1 : t.extract 0 128 = t := by rw [← hs]; simp
  rw [h1]
  apply ByteArray.ext
  simp
theorem settle_drop {M : List ByteArray} {s : Nat} {t : ByteArray} {f : Int} (hf : f ≠ 1 ∧ f < 2) (hs : s < M.length) (hM : ∀ x ∈ M, x.size = 128) : settle M (s, t) f = M := by
  unfold settle kept
  rw [if_neg hf.1, if_neg (by omega)]
  show M.set s (t.extract 0 0 ++ (M.getD s .empty).extract 0 128) = M
  rw [List.getD_eq_getElem?_getD, List.getElem?_eq_getElem hs]
  have h1 : (some M[s]).getD ByteArray.empty = M[s] := rfl
  have h2 : M[s].extract 0 128 = M[s] := by rw [← hM M[s] (List.getElem_mem hs)]; simp
  rw [h1, h2]
  have h3 : t.extract 0 0 ++ M[s] = M[s] := by
    apply ByteArray.ext
    simp
  rw [h3, List.set_getElem_self]
theorem settle_tear {M : List ByteArray} {s : Nat} {t : ByteArray} {f : Int} (hf : 2 ≤ f) : settle M (s, t) f = M.set s (t.extract 0 (min (f - 2).toNat 127) ++ (M.getD s .empty).extract (min (f - 2).toNat 127) 128) := by
  unfold settle kept
  rw [if_neg (by omega), if_pos hf]
theorem kept_le (f : Int) : kept f ≤ 128 := by unfold kept; split <;> (try split) <;> omega
theorem settle_text {M : List ByteArray} {w : Nat × ByteArray} {f : Int} (hw : w.1 < M.length ∧ w.2.size = 128) (hM : ∀ x ∈ M, x.size = 128) : (settle M w f).length = M.length ∧ ∀ x ∈ settle M w f, x.size = 128 := by
  unfold settle
  refine ⟨by simp, fun x hx => ?_⟩
  rcases List.mem_or_eq_of_mem_set hx with hx | rfl
  · exact hM x hx
  · have h1 : (M.getD w.1 .empty).size = 128 := by
      rw [List.getD_eq_getElem?_getD, List.getElem?_eq_getElem hw.1]
      exact hM _ (List.getElem_mem hw.1)
    have h2 := kept_le f
    rw [ByteArray.size_append, ByteArray.size_extract, ByteArray.size_extract, h1, hw.2]
    omega
def settles (M : List ByteArray) (l : List ((Nat × ByteArray) × Int)) : List ByteArray := l.foldl (fun m p => settle m p.1 p.2) M
theorem settles_text {M : List ByteArray} {l : List ((Nat × ByteArray) × Int)} (hl : ∀ p ∈ l, p.1.1 < M.length ∧ p.1.2.size = 128) (hM : ∀ x ∈ M, x.size = 128) : (settles M l).length = M.length ∧ ∀ x ∈ settles M l, x.size = 128 := by
  unfold settles
  induction l generalizing M with
  | nil => exact ⟨rfl, hM⟩
  | cons p l ih =>
    rw [List.foldl_cons]
    have h1 := settle_text (f := p.2) (hl p (List.mem_cons_self ..)) hM
    have h2 := ih (M := settle M p.1 p.2) (fun v hv => by rw [h1.1]; exact hl v (List.mem_cons_of_mem _ hv)) h1.2
    exact ⟨h2.1.trans h1.1, h2.2⟩
theorem settles_take {M : List ByteArray} {c : List (Nat × ByteArray)} {fs : List Int} {k : Nat} (hk : k < c.length) (hf : k < fs.length) : settles M ((c.zip fs).take (k + 1)) = settle (settles M ((c.zip fs).take k)) c[k] fs[k] := by
  unfold settles
  have hz : k < (c.zip fs).length := by rw [List.length_zip]; omega
  rw [List.take_succ_eq_append_getElem hz, List.foldl_append, List.getElem_zip]
  rfl
theorem settles_stay {M : List ByteArray} {c : List (Nat × ByteArray)} {fs : List Int} {k : Nat} (hf : fs.length ≤ k) : settles M ((c.zip fs).take (k + 1)) = settles M ((c.zip fs).take k) := by
  rw [List.take_of_length_le (by rw [List.length_zip]; omega), List.take_of_length_le (by rw [List.length_zip]; omega)]
end Dev
set_option maxRecDepth 100000 in
set_option maxHeartbeats 4000000 in
theorem devsettle_any {b m q : Nat} {cv : Value} {d : Dev.St} {w : World} {M : List ByteArray} (s : Nat) (t : ByteArray) (f : Int) (hf : -9223372036854775808 ≤ f ∧ f ≤ 9223372036854775807) (hs : s < 9) (ht : t.size = 128) (hr : RowIs b 80 (devRow d m q cv) w) (hm : ListAt 9 .string w m M) (hM : M.length = 9) (hMt : ∀ x ∈ M, x.size = 128) :
    Calls Try.prog 49 #[.pointer (some ⟨b, 0, none⟩), .agg #[.int .i64 (s : Int), .string t], .int .i64 f] w fun e w' =>
      (∃ v, e = .returned v) ∧ ListAt 9 .string w' m (Dev.settle M (s, t) f) ∧ But m w w' := by
  have ce := World.cell?_alloc_new w #[.int .i64 (s : Int), .string t] 95 0
  have ct := World.cell?_alloc_new w #[.int .i64 (s : Int), .string t] 95 1
  have hx := Ext.alloc w (.cells #[.int .i64 (s : Int), .string t] 95)
  have hr1 := hr.ext hx
  have hm1 := hm.ext hx
  have c2 := hr1.cell 2 (.slice (some ⟨m, 0, none⟩) 9 9) rfl
  have c1 := hr1.cell 1 (.int .i64 128) rfl
  have cm := hm1.cellT s (by omega)
  have fm := hm1.free s
  have hzs : (M.getD s .empty).size = 128 := by
    rw [List.getD_eq_getElem?_getD, List.getElem?_eq_getElem (by omega)]
    exact hMt _ (List.getElem_mem (by omega))
  have hi : 0 ≤ (s : Int) ∧ (s : Int) < 9 := by omega
  by_cases h1 : f = 1
  · subst h1
    rw [Dev.settle_keep ht]
    have HM := Lib.hid hm1; have HX := Lib.hid hx
    clear hr hm hr1 hm1 hx hzs hMt
    go_enter Try.func49, Try.ntmps49
    go_wp2_with fail
    generalize w.alloc (.cells #[.int .i64 (s : Int), .string t] 95) = w1 at *
    go_still_tail 9, (by kernel_rfl)
    change wpList _ _ _ _ _ w1.drew
    go_wp2_with fail
    go_end0
    exact ⟨⟨_, rfl⟩, (HM.out.set s t).ext (Ext.drew _), ((But.of HX.out).trans (HM.out.wrote s _).but).trans (But.of (Ext.drew _))⟩
  · by_cases h2 : 2 ≤ f
    · rw [Dev.settle_tear h2]
      obtain ⟨n, hn, hn1, hn2⟩ : ∃ n : Nat, min (f - 2) 127 = (n : Int) ∧ min (f - 2).toNat 127 = n ∧ n ≤ 127 := ⟨min (f - 2).toNat 127, by omega, rfl, by omega⟩
      rw [hn1]
      have e1 : (f == 1) = false := beq_eq_false_iff_ne.2 h1
      have HM := Lib.hid hm1; have HX := Lib.hid hx
      obtain ⟨z, hz⟩ : ∃ z, M.getD s .empty = z := ⟨_, rfl⟩
      rw [hz] at cm hzs ⊢
      obtain ⟨y, hy⟩ : ∃ y, t.extract 0 n ++ z.extract n 128 = y := ⟨_, rfl⟩
      have HY := Lib.hid hy
      rw [hy]
      have k1 : (n : Int) ≤ (t.size : Int) := by omega
      have k2 : (n : Int) ≤ (z.size : Int) := by omega
      clear hr hm hr1 hm1 hx hMt hn1 hz hy
      go_enter Try.func49, Try.ntmps49
      go_upto_region 4 with (fail)
      generalize w.alloc (.cells #[.int .i64 (s : Int), .string t] 95) = w1 at *
      go_cut [6] (fun v wr => v = .int .i64 (n : Int) ∧ wr = w1)
      case first =>
        go_wp2_with fail
        all_goals go_meet
        all_goals exact ⟨by congr 1; omega, rfl⟩
      obtain ⟨rfl, rfl⟩ := hcut
      have k3 : (0 : Int) ≤ (n : Int) := by omega
      have k4 : (n : Int) ≤ 128 := by omega
      have k5 : n ≤ 128 := by omega
      clear k1 k2
      go_wp2_with fail
      go_still_tail 22, (by kernel_rfl)
      change wpList _ _ _ _ _ wc.drew
      go_wp2_with fail
      try rw [HY.out]
      go_end0
      exact ⟨⟨_, rfl⟩, (HM.out.set s y).ext (Ext.drew _), ((But.of HX.out).trans (HM.out.wrote s _).but).trans (But.of (Ext.drew _))⟩
    · rw [Dev.settle_drop ⟨h1, by omega⟩ (by omega) hMt]
      have HM := Lib.hid hm1; have HX := Lib.hid hx
      clear hr hm hr1 hm1 hx hzs hMt
      go_enter Try.func49, Try.ntmps49
      go_wp2_with fail
      go_end0
      exact ⟨⟨_, rfl⟩, HM.out, But.of HX.out⟩
set_option maxRecDepth 100000 in
set_option maxHeartbeats 8000000 in
theorem devcrash_any {B b m q : Nat} {d : Dev.St} {w : World} (fa : Option Addr) (fc : Nat) (fs : List Int) (hfl : fs.length ≤ 1000) (hfb : ∀ f ∈ fs, -9223372036854775808 ≤ f ∧ f ≤ 9223372036854775807)
    (hF : ∀ w', DF 95 B b m q w w' → ∀ i (h : i < fs.length), ∃ g o, fa = some ⟨g, o, none⟩ ∧ w'.cell? ⟨g, o + i, none⟩ = some (.int .i64 fs[i])) (hf : Dev.Fit d) (hP : PD w B b m q d) :
    Calls Try.prog 15 #[.pointer (some ⟨b, 0, none⟩), .slice fa fs.length fc] w fun e w' => (∃ v, e = .returned v) ∧ PD w' B b m q (Dev.crash d fs) ∧ DF 95 B b m q w w' := by
  obtain ⟨⟨cv, hr, hc⟩, hm, hq, hok, hlow⟩ := hP
  obtain ⟨a, cap, rfl, hcc, hcells⟩ := CacheIs.cells hc
  have HR := Lib.hid hr; have HC := Lib.hid hc; have HM := Lib.hid hm; have HQ := Lib.hid hq; have HOK := Lib.hid hok; have HF := Lib.hid hF; have HFB := Lib.hid hfb
  have hlc := hf.cache
  have c4 := hr.cell 4 (.slice a d.cache.length cap) rfl
  clear hr hc hm hq hok hcells hF hfb
  go_enter Try.func15, Try.ntmps15
  go_wp2_with fail
  go_loopw [13] (fun i wx => ∃ k : Nat, k ≤ d.cache.length ∧ i = .int .i64 k ∧ But m w wx ∧ ListAt 9 .string wx m (Dev.settles d.media ((d.cache.zip fs).take k))) (fun i _ => d.cache.length - (intOf i).toNat)
  case atStart => exact ⟨0, by omega, rfl, But.refl _ _, by simpa [Dev.settles] using HM.out⟩
  case round =>
    obtain ⟨k, hk, rfl, hbw, hmk⟩ := hrel
    have hrW : RowIs b 80 (devRow d m q (.slice a d.cache.length cap)) wr := hbw.row HR.out (HR.out.ne_list HM.out (by decide))
    have hcW : CacheIs 95 wr B (.slice a d.cache.length cap) d.cache := by
      obtain ⟨cs, hrm, _⟩ := HM.out
      exact HC.out.but hrm (by decide) hbw
    have hdf : DF 95 B b m q w wr := DF.but hbw (.inr (.inl rfl))
    have htx : (Dev.settles d.media ((d.cache.zip fs).take k)).length = d.media.length ∧ ∀ x ∈ Dev.settles d.media ((d.cache.zip fs).take k), x.size = 128 := Dev.settles_text (fun p hp => by
      have := (List.of_mem_zip (List.mem_of_mem_take hp)).1
      have := HOK.out.cache _ this
      exact ⟨by rw [HOK.out.media]; exact this.1, this.2⟩) HOK.out.text
    rw [HOK.out.media] at htx
    have HRW := Lib.hid hrW; have HBW := Lib.hid hbw; have HMK := Lib.hid hmk; have HTX := Lib.hid htx
    clear hrW hbw hmk htx
    by_cases hlt : k < d.cache.length
    · obtain ⟨a', cap', ea, _, hcells⟩ := CacheIs.cells hcW
      simp only [Value.slice.injEq, true_and] at ea
      obtain ⟨rfl, rfl⟩ := ea
      obtain ⟨g, rfl, hg, x0, x1⟩ := hcells k hlt
      have hsec := (HOK.out.cache d.cache[k] (List.getElem_mem hlt))
      clear hcells hcW c4
      by_cases hkf : k < fs.length
      · obtain ⟨g2, o2, rfl, y0⟩ := HF.out wr hdf k hkf
        have hst := Dev.settles_take (M := d.media) hlt hkf
        have HST := Lib.hid hst
        have hfk := HFB.out fs[k] (List.getElem_mem hkf)
        clear hst
        generalize d.cache[k] = x at *
        obtain ⟨s, t⟩ := x
        simp only at x0 x1 hsec
        generalize fs[k] = f at *
        go_upto_region 5 with (fail)
        have hxa := Ext.alloc wr (.cells #[.int .i64 (s : Int), .string t] 95)
        have n0 := World.cell?_alloc_new wr #[.int .i64 (s : Int), .string t] 95 0
        have n1 := World.cell?_alloc_new wr #[.int .i64 (s : Int), .string t] 95 1
        generalize wr.alloc (.cells #[.int .i64 (s : Int), .string t] 95) = w1 at *
        replace y0 := cell_ext y0 hxa
        have kI : 0 ≤ (k : Int) ∧ (k : Int) < (fs.length : Int) := by omega
        have HXA := Lib.hid hxa
        clear hxa x0 x1
        go_still_tail 6, (by kernel_rfl)
        change wpList _ _ _ _ _ w1.drew
        have hxd := Lib.hid (HXA.out.trans (Ext.drew _))
        go_wp2_with fail
        refine (devsettle_any s t f hfk hsec.1 hsec.2 (HRW.out.ext hxd.out) (HMK.out.ext hxd.out) HTX.out.1 HTX.out.2).mono ?_
        rintro e w2 ⟨⟨v, rfl⟩, hm2, hb2⟩
        have HM2 := Lib.hid hm2; have HB2 := Lib.hid hb2
        clear hm2 hb2
        go_wp2_with fail
        go_roundw
        case rel => exact ⟨k + 1, by omega, by go_num, (HBW.out.trans (But.of hxd.out)).trans HB2.out, by rw [HST.out]; exact HM2.out⟩
        case measure => simp [intOf]; omega
      · have hst := Dev.settles_stay (M := d.media) (c := d.cache) (fs := fs) (k := k) (by omega)
        have HST := Lib.hid hst
        clear hst
        generalize d.cache[k] = x at *
        obtain ⟨s, t⟩ := x
        simp only at x0 x1
        go_wp2_with fail
        go_roundw
        case rel => exact ⟨k + 1, by omega, by go_num, HBW.out.trans (But.of (Ext.alloc _ _)), by rw [HST.out]; exact HMK.out.ext (Ext.alloc _ _)⟩
        case measure => simp [intOf]; omega
    · obtain rfl : k = d.cache.length := by omega
      clear hcW c4
      have hz : (d.cache.zip fs).take d.cache.length = d.cache.zip fs := List.take_of_length_le (by rw [List.length_zip]; omega)
      rw [hz] at HMK HTX
      have g4 := HRW.out.free 4
      have g5 := HRW.out.free 5
      have g9 := HRW.out.free 9
      have c4 := HRW.out.cell 4 _ rfl
      have c9 := HRW.out.cell 9 _ rfl
      have c5 := HRW.out.cell 5 _ rfl
      have HG := Lib.hid (HR.out.ne_list HM.out (by decide))
      go_wp2_with fail
      go_end0
      have hr1 := HRW.out.setCell 4 (.slice none 0 0)
      have hr2 := hr1.setCell 9 (.bool false)
      have hr3 := hr2.setCell 5 (.int .i64 0)
      have hw3 := (((Wrote.setCell HRW.out 4 (.slice none 0 0)).trans (Wrote.setCell hr1 9 (.bool false))).trans (Wrote.setCell hr2 5 (.int .i64 0))).but
      have hnq : q ≠ m := HQ.out.ne_list HM.out (by decide)
      have hnb : q ≠ b := (HRW.out.ne_list (HQ.out.but HBW.out hnq) (by decide)).symm
      refine ⟨⟨_, rfl⟩, ⟨⟨.slice none 0 0, hr3, CacheIs.nil _ _ _⟩, HMK.out.but hw3 (fun e => HG.out e.symm), (HQ.out.but HBW.out hnq).but hw3 hnb, ?_, hlow⟩, hdf.trans (DF.but hw3 (.inl rfl))⟩
      exact ⟨HTX.out.1, HOK.out.bad, HTX.out.2, fun w hw => by cases hw⟩
end Go.Proofs.Ytcpbpfngiimcnaa
