/- Garble, the program's. -/
import Derived.Test.YtcpbpfngiimcnaaDevT
namespace Go.Proofs.Ytcpbpfngiimcnaa
open Go.RowKit
namespace Dev
/-- the first k are other ones -/
def mid {α : Type} (f : α → α) (c : List α) (k : Nat) : List α := (c.take k).map f ++ c.drop k
section
variable {α : Type} {f : α → α} {c : List α} {k : Nat}
theorem mid_zero : mid f c 0 = c := by simp [mid]
theorem mid_all : mid f c c.length = c.map f := by simp [mid]
theorem mid_length (hk : k ≤ c.length) : (mid f c k).length = c.length := by
  unfold mid
  rw [List.length_append, List.length_map, List.length_take, List.length_drop]
  omega
theorem mid_at (hk : k < c.length) : (mid f c k)[k]'(by rw [mid_length (by omega)]; exact hk) = c[k] := by
  unfold mid
  rw [List.getElem_append_right (by simp; omega)]
  simp [Nat.min_eq_left (Nat.le_of_lt hk)]
theorem mid_succ (hk : k < c.length) : mid f c (k + 1) = (mid f c k).set k (f c[k]) := by
  have hl : ((c.take k).map f).length = k := by simp; omega
  unfold mid
  rw [List.take_succ_eq_append_getElem hk, List.map_append, List.set_append_right _ _ (by omega), hl, Nat.sub_self]
  conv => rhs; rw [List.drop_eq_getElem_cons hk, List.set_cons_zero]
  rw [List.append_assoc]
  rfl
theorem mid_stay (hk : k < c.length) (h : f c[k] = c[k]) : mid f c (k + 1) = mid f c k := by
  rw [mid_succ hk, h]
  conv => lhs; rw [← mid_at (f := f) hk]
  exact List.set_getElem_self _
end
def turned (j n : Nat) (y : UInt8) (w : Nat × ByteArray) : Nat × ByteArray := if w.1 = j then (w.1, turn w.2 n y) else w
theorem garble_ok {d : St} (h : Ok d) (i a : Int) (y : UInt8) : Ok (garble d i a y) := by
  unfold garble
  split
  · refine ⟨by show (d.media.set _ _).length = 9; rw [List.length_set]; exact h.media, h.bad, fun s hs => ?_, fun w hw => ?_⟩
    · rcases List.mem_or_eq_of_mem_set hs with hs | rfl
      · exact h.text s hs
      · rename_i h9
        have h8 := isSec_iff.1 h9.1
        rw [turn_size, List.getD_eq_getElem?_getD, List.getElem?_eq_getElem (by rw [h.media]; omega)]
        exact h.text _ (List.getElem_mem _)
    · obtain ⟨v, hv, rfl⟩ := List.mem_map.1 hw
      have := h.cache v hv
      split
      · exact ⟨this.1, by rw [turn_size]; exact this.2⟩
      · exact this
  · exact h
end Dev
theorem flat_set (c : List (Nat × ByteArray)) (k : Nat) (hk : k < c.length) (t : ByteArray) : (c.flatMap cellsW).set (k * 2 + 1) (.string t) = (c.set k (c[k].1, t)).flatMap cellsW := by
  induction c generalizing k with
  | nil => simp at hk
  | cons x c ih =>
    cases k with
    | zero => simp [cellsW]
    | succ k =>
      have e : (k + 1) * 2 + 1 = (k * 2 + 1) + 2 := by omega
      rw [e, List.flatMap_cons, List.set_cons_succ, List.flatMap_cons, List.getElem_cons_succ, ← ih k (by simpa using hk)]
      simp [cellsW]
/-- a text of the cache is another one -/
theorem CacheIs.write {T : TypeId} {w : World} {B n cap : Nat} {a : Option Addr} {c : List (Nat × ByteArray)} (h : CacheIs T w B (.slice a n cap) c) (k : Nat) (hk : k < c.length) (t : ByteArray) :
    ∃ g cur, a = some ⟨g, 0, none⟩ ∧ B ≤ g ∧ RowIs g T cur w ∧ CacheIs T (w.setCell ⟨g, k * 2 + 1, none⟩ (.string t)) B (.slice a n cap) (c.set k (c[k].1, t)) := by
  obtain ⟨hx, ⟨h0, h1⟩ | ⟨g, cap', cur, e, hb, hg, h1, h2, h3, h4⟩⟩ := h
  · omega
  · simp only [Value.slice.injEq] at e
    obtain ⟨rfl, rfl, rfl⟩ := e
    refine ⟨g, cur, rfl, hb, hg, by rw [flat_length cellsW 2 cellsW_length, List.length_set], .inr ⟨g, cap, cur.setIfInBounds (k * 2 + 1) (.string t), by rw [List.length_set], hb, RowIs.setCell hg _ _, by rw [List.length_set]; exact h1, h2, by simpa using h3, ?_⟩⟩
    rw [List.length_set, ← flat_set c k hk t, ← h4]
    apply List.ext_getElem?
    intro i
    rw [Array.toList_setIfInBounds, List.getElem?_take, List.getElem?_set, List.getElem?_set, List.getElem?_take, List.length_take]
    by_cases hi : k * 2 + 1 = i
    · subst hi
      have : cur.toList.length = cap * 2 := by rw [Array.length_toList]; exact h3
      rw [if_pos rfl, if_pos rfl, if_pos (by omega), if_pos (by omega), if_pos (by omega)]
    · rw [if_neg hi, if_neg hi]
theorem DF.cell {T : TypeId} {w : World} {B b m q g : Nat} {cur : Array Value} (hr : RowIs g T cur w) (hB : B ≤ g) (o : Nat) (v : Value) : DF T B b m q w (w.setCell ⟨g, o, none⟩ v) := by
  have e := (Wrote.setCell hr o v).but
  refine ⟨e.os, e.tape, e.output, e.size, fun k hk _ _ _ => ?_⟩
  by_cases h : k = g
  · subst h
    exact .inr ⟨hB, cur, (0, 0), hr⟩
  · exact .inl (e.block k hk h)
section
variable {w : World} {B b m q : Nat} {d : Dev.St}
theorem Dev.garble_no {i a : Int} {y : UInt8} (h : ¬ (Dev.isSec i = true ∧ 0 ≤ a)) : Dev.garble d i a y = d := by
  unfold Dev.garble
  rw [if_neg h]
theorem tmod128 {a : Int} (h : 0 ≤ a) : ∃ n : Nat, a.tmod 128 = (n : Int) ∧ n < 128 ∧ (a % 128).toNat = n := by
  refine ⟨(a % 128).toNat, ?_, by omega, rfl⟩
  rw [Int.tmod_eq_emod_of_nonneg h]
  omega
theorem Dev.garble_yes {j n : Nat} {a : Int} {y : UInt8} (hj : j < 9) (h0 : 0 ≤ a) (hn : (a % 128).toNat = n) : Dev.garble d (j : Int) a y = { d with media := d.media.set j (Dev.turn (d.media.getD j .empty) n y), cache := d.cache.map (Dev.turned j n y) } := by
  unfold Dev.garble
  rw [if_pos ⟨Dev.isSec_iff.2 (by omega), h0⟩, hn, Int.toNat_natCast]
  rfl
set_option maxRecDepth 100000 in
set_option maxHeartbeats 8000000 in
theorem devgarble_any (i a : Int) (y : UInt8) (hf : Dev.Fit d) (hP : PD w B b m q d) :
    Calls Try.prog 26 #[.pointer (some ⟨b, 0, none⟩), .int .i64 i, .int .i64 a, .int .u8 (y.toNat : Int)] w fun e w' => (∃ v, e = .returned v) ∧ PD w' B b m q (Dev.garble d i a y) ∧ DF 95 B b m q w w' := by
  have HP0 := Lib.hid hP
  have HOKG := Lib.hid (Dev.garble_ok hP.ok i a y)
  obtain ⟨⟨cv, hr, hc⟩, hm, hq, hok, hlow⟩ := hP
  obtain ⟨ca, cap, rfl, hcc, _⟩ := CacheIs.cells hc
  have HR := Lib.hid hr; have HC := Lib.hid hc; have HM := Lib.hid hm; have HQ := Lib.hid hq; have HOK := Lib.hid hok
  clear hr hc hm hq hok
  go_enter Try.func26, Try.ntmps26
  go_wp2_with fail
  refine (devis_any i HR.out).mono ?_
  rintro e w1 ⟨rfl, he1⟩
  cases hsec : Dev.isSec i with
  | false =>
    have HA := Lib.hid (Dev.garble_no (d := d) (i := i) (a := a) (y := y) (by rw [hsec]; simp))
    clear hsec
    go_wp2_with fail
    refine bodyPost_ret (results_none rfl _ _ _) rfl ?_
    rw [HA.out]
    exact ⟨⟨_, rfl⟩, HP0.out.ext he1, DF.of he1⟩
  | true =>
    by_cases h0 : 0 ≤ a
    case neg =>
      have HA := Lib.hid (Dev.garble_no (d := d) (i := i) (a := a) (y := y) (by intro h; exact h0 h.2))
      have h0' : a < 0 := by omega
      clear hsec h0
      go_wp2_with fail
      refine bodyPost_ret (results_none rfl _ _ _) rfl ?_
      rw [HA.out]
      exact ⟨⟨_, rfl⟩, HP0.out.ext he1, DF.of he1⟩
    have hi := Dev.isSec_iff.1 hsec
    obtain ⟨j, rfl⟩ : ∃ j : Nat, i = (j : Int) := ⟨i.toNat, by omega⟩
    have hj : j < 9 := by omega
    obtain ⟨n, hn, hn8, hnm⟩ := tmod128 h0
    have HA := Lib.hid (Dev.garble_yes (d := d) (y := y) hj h0 hnm)
    have c1 := (HR.out.ext he1).cell 1 (.int .i64 128) rfl
    have h0' : ¬ a < 0 := by omega
    clear hsec hnm
    go_upto_region 2 with (fail)
    clear c1 hn h0 h0'
    have c2 := (HR.out.ext he1).cell 2 (.slice (some ⟨m, 0, none⟩) 9 9) rfl
    have cm := (HM.out.ext he1).cellT j (by rw [HOK.out.media]; exact hj)
    have fm := (HM.out.ext he1).free j
    have hsz : (d.media.getD j .empty).size = 128 := by
      rw [List.getD_eq_getElem?_getD, List.getElem?_eq_getElem (by rw [HOK.out.media]; exact hj)]
      exact HOK.out.text _ (List.getElem_mem _)
    obtain ⟨z, hz⟩ : ∃ z, d.media.getD j .empty = z := ⟨_, rfl⟩
    rw [hz] at cm hsz HA
    have HE1 := Lib.hid he1
    clear hz he1
    go_cut [] (fun wx => ∃ w6, Ext w w6 ∧ wx = w6.setCell ⟨m, j, none⟩ (.string (Dev.turn z n y)))
    case first =>
      go_region_with (go_at_call 54; refine (devturn_any z n y (by omega) (by omega) _).mono ?_; rintro e w6 ⟨rfl, he6⟩; have E6 := Lib.hid ((Ext.drew _).trans he6); have c2' := cell_ext c2 E6.out; have cm' := cell_ext cm E6.out; have fm' := ((HM.out.ext HE1.out).ext E6.out).free j; clear he6)
      all_goals
        go_wp2_with fail
        go_meet
        exact ⟨w6, HE1.out.trans E6.out, rfl⟩
    obtain ⟨w6, e6, rfl⟩ := hcut
    have hm6 := HM.out.ext e6
    have hm7 := hm6.set j (Dev.turn z n y)
    have hb7 : But m w (w6.setCell ⟨m, j, none⟩ (.string (Dev.turn z n y))) := (But.of e6).trans (hm6.wrote j _).but
    have hnm : b ≠ m := HR.out.ne_list HM.out (by decide)
    have hqm : q ≠ m := HQ.out.ne_list HM.out (by decide)
    have hc7 : CacheIs 95 (w6.setCell ⟨m, j, none⟩ (.string (Dev.turn z n y))) B (.slice ca d.cache.length cap) d.cache := by
      obtain ⟨cs, hrm, _⟩ := HM.out
      exact HC.out.but hrm (by decide) hb7
    generalize w6.setCell ⟨m, j, none⟩ (.string (Dev.turn z n y)) = w7 at *
    have HM7 := Lib.hid hm7; have HB7 := Lib.hid hb7; have HC7 := Lib.hid hc7; have HR7 := Lib.hid (hb7.row HR.out hnm); have HQ7 := Lib.hid (HQ.out.but hb7 hqm)
    have hlc := hf.cache
    have k4 := HR7.out.cell 4 (.slice ca d.cache.length cap) rfl
    clear hm6 hm7 hb7 hc7 e6 c2 cm fm
    go_wp2_with fail
    go_loopw [46] (fun i wx => ∃ k : Nat, k ≤ d.cache.length ∧ i = .int .i64 k ∧ CacheIs 95 wx B (.slice ca d.cache.length cap) (Dev.mid (Dev.turned j n y) d.cache k) ∧ RowIs b 80 (devRow d m q (.slice ca d.cache.length cap)) wx ∧ ListAt 9 .string wx m (d.media.set j (Dev.turn z n y)) ∧ ListAt 4 .bool wx q d.bad ∧ DF 95 B b m q w7 wx) (fun i _ => d.cache.length - (intOf i).toNat)
    case atStart => exact ⟨0, by omega, rfl, by rw [Dev.mid_zero]; exact HC7.out, HR7.out, HM7.out, HQ7.out, DF.refl _⟩
    case round =>
      obtain ⟨k, hk, rfl, hck, hrk, hmk, hqk, hdk⟩ := hrel
      have HCK := Lib.hid hck; have HRK := Lib.hid hrk; have HMK := Lib.hid hmk; have HQK := Lib.hid hqk; have HDK := Lib.hid hdk
      clear hck hrk hmk hqk hdk k4
      by_cases hlt : k < d.cache.length
      · have hcl : (Dev.mid (Dev.turned j n y) d.cache k).length = d.cache.length := Dev.mid_length hk
        obtain ⟨a', cap', ea, hxx, hcells⟩ := CacheIs.cells HCK.out
        simp only [Value.slice.injEq] at ea
        obtain ⟨rfl, hxy, rfl⟩ := ea
        clear hxx hxy
        obtain ⟨g, rfl, hg, x0, x1⟩ := hcells k (by rw [hcl]; exact hlt)
        rw [Dev.mid_at hlt] at x0 x1
        have hsec := (HOK.out.cache d.cache[k] (List.getElem_mem hlt))
        have HAT := Lib.hid (Dev.mid_at (f := Dev.turned j n y) hlt)
        have HMS := Lib.hid (Dev.mid_succ (f := Dev.turned j n y) hlt)
        have HST := Lib.hid (Dev.mid_stay (f := Dev.turned j n y) hlt)
        have HCL := Lib.hid hcl
        clear hcells hcl
        generalize d.cache[k] = x at *
        obtain ⟨s, t⟩ := x
        simp only at x0 x1 hsec
        go_upto_region 6 with (fail)
        have hxa := Ext.alloc wr (.cells #[.int .i64 (s : Int), .string t] 95)
        have n0 := World.cell?_alloc_new wr #[.int .i64 (s : Int), .string t] 95 0
        have n1 := World.cell?_alloc_new wr #[.int .i64 (s : Int), .string t] 95 1
        generalize wr.alloc (.cells #[.int .i64 (s : Int), .string t] 95) = w8 at *
        generalize wr.heap.size = X at *
        have HXA := Lib.hid hxa
        have x1' := cell_ext x1 hxa
        have k4 := (HRK.out.ext hxa).cell 4 (.slice (some ⟨g, 0, none⟩) d.cache.length cap) rfl
        clear hxa x0 x1
        by_cases hs : s = j
        · subst hs
          have hti : Dev.turned s n y (s, t) = (s, Dev.turn t n y) := if_pos rfl
          rw [hti] at HMS
          have kI : 0 ≤ (k : Int) ∧ (k : Int) < (d.cache.length : Int) := by omega
          have ht8 := hsec.2
          clear hti HST hsec
          go_upto_region 7 with (fail)
          have hfx : w8.frozen? ⟨g, k * 2 + 1, none⟩ = false := by
            obtain ⟨g', cur, eg, _, hrow, _⟩ := (HCK.out.ext HXA.out).write k (by rw [HCL.out]; exact hlt) t
            cases eg
            exact hrow.free _
          go_region_with (go_at_call 54; refine (devturn_any t n y (by omega) (by omega) _).mono ?_; rintro e w6 ⟨rfl, he6⟩; have E6 := Lib.hid ((Ext.drew _).trans he6); have k4' := cell_ext k4 E6.out; have x1'' := cell_ext x1' E6.out; have fx' : w6.frozen? ⟨g, k * 2 + 1, none⟩ = false := (by
            obtain ⟨g', cur, eg, _, hrow, _⟩ := (HCK.out.ext HXA.out).write k (by rw [HCL.out]; exact hlt) t
            cases eg
            exact (hrow.ext E6.out).free _); clear he6)
          all_goals
            have hx6 := HXA.out.trans E6.out
            obtain ⟨g', cur, eg, hBg, hrow, hnew⟩ := (HCK.out.ext hx6).write k (by rw [HCL.out]; exact hlt) (Dev.turn t n y)
            simp only [Option.some.injEq, Addr.mk.injEq, and_true] at eg
            obtain rfl := eg
            have hbut := (Wrote.setCell hrow (k * 2 + 1) (.string (Dev.turn t n y))).but
            have hdf : DF 95 B b m q wr (w6.setCell ⟨g, k * 2 + 1, none⟩ (.string (Dev.turn t n y))) := (DF.of hx6).trans (DF.cell hrow hBg _ _)
            have hr9 := hbut.row (HRK.out.ext hx6) ((HRK.out.ext hx6).ne hrow (by decide))
            have hm9 := (HMK.out.ext hx6).but hbut (hrow.ne_list (HMK.out.ext hx6) (by decide)).symm
            have hq9 := (HQK.out.ext hx6).but hbut (hrow.ne_list (HQK.out.ext hx6) (by decide)).symm
            rw [HAT.out] at hnew
            have HN := Lib.hid hnew; have HDF := Lib.hid hdf; have HR9 := Lib.hid hr9; have HM9 := Lib.hid hm9; have HQ9 := Lib.hid hq9
            clear hnew hdf hr9 hm9 hq9 hbut hrow k4' x1'' fx'
            generalize w6.setCell ⟨g, k * 2 + 1, none⟩ (.string (Dev.turn t n y)) = w9 at *
            go_wp2_with fail
            go_roundw
            case rel => exact ⟨k + 1, by omega, by go_num, by rw [HMS.out]; exact HN.out, HR9.out, HM9.out, HQ9.out, HDK.out.trans HDF.out⟩
            case measure => simp [intOf]; omega
        · have hti : Dev.turned j n y (s, t) = (s, t) := if_neg hs
          have HS2 := Lib.hid (HST.out hti)
          have hs' : ((s : Int) == (j : Int)) = false := beq_eq_false_iff_ne.2 (by omega)
          clear hti HST
          go_wp2_with fail
          go_roundw
          case rel => exact ⟨k + 1, by omega, by go_num, by rw [HS2.out]; exact HCK.out.ext HXA.out, HRK.out.ext HXA.out, HMK.out.ext HXA.out, HQK.out.ext HXA.out, HDK.out.trans (DF.of HXA.out)⟩
          case measure => simp [intOf]; omega
      · obtain rfl : k = d.cache.length := by omega
        rw [Dev.mid_all] at HCK
        go_wp2_with fail
        go_end0
        have hok := HOKG.out
        rw [HA.out] at hok ⊢
        exact ⟨⟨_, rfl⟩, ⟨⟨_, HRK.out, HCK.out⟩, HMK.out, HQK.out, hok, hlow⟩, (DF.but HB7.out (.inr (.inl rfl))).trans HDK.out⟩
end
end Go.Proofs.Ytcpbpfngiimcnaa
