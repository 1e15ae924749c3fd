/- slices.DeleteFunc over a cache; the program's Stick. -/
import Derived.Test.YtcpbpfngiimcnaaDevY
namespace Go.Proofs.Ytcpbpfngiimcnaa
open Go.RowKit
/-- a cache in the middle of its thinning: i of the first jj are kept, the rest is as it was -/
structure Thin (T : TypeId) (w : World) (g cap j i jj : Nat) (c : List (Nat × ByteArray)) (cur : Array Value) : Prop where
  row : RowIs g T cur w
  size : cur.size = cap * 2
  le : jj ≤ c.length ∧ i < jj
  len : i = ((c.take jj).filter fun w => decide (w.1 ≠ j)).length
  head : cur.toList.take (i * 2) = ((c.take jj).filter fun w => decide (w.1 ≠ j)).flatMap cellsW
  tail : ∀ e (he : e < c.length), jj ≤ e → cur[e * 2]? = some (.int .i64 (c[e].1 : Int)) ∧ cur[e * 2 + 1]? = some (.string c[e].2)
section
variable {T : TypeId} {w w' : World} {g cap j i jj : Nat} {c : List (Nat × ByteArray)} {cur : Array Value}
theorem Thin.ext (h : Thin T w g cap j i jj c cur) (e : Ext w w') : Thin T w' g cap j i jj c cur := ⟨h.row.ext e, h.size, h.le, h.len, h.head, h.tail⟩
theorem Thin.skip (h : Thin T w g cap j i jj c cur) (hlt : jj < c.length) (hj : c[jj].1 = j) : Thin T w g cap j i (jj + 1) c cur := by
  have e := Dev.stick_take (i := j) hlt
  rw [if_pos hj, List.append_nil] at e
  exact ⟨h.row, h.size, ⟨hlt, by have := h.le; omega⟩, by rw [e]; exact h.len, by rw [e]; exact h.head, fun e he hle => h.tail e he (by omega)⟩
theorem Thin.keep (h : Thin T w g cap j i jj c cur) (hlt : jj < c.length) (hj : c[jj].1 ≠ j) (hcap : c.length ≤ cap) :
    Thin T ((w.setCell ⟨g, i * 2, none⟩ (.int .i64 (c[jj].1 : Int))).setCell ⟨g, i * 2 + 1, none⟩ (.string c[jj].2)) g cap j (i + 1) (jj + 1) c ((cur.setIfInBounds (i * 2) (.int .i64 (c[jj].1 : Int))).setIfInBounds (i * 2 + 1) (.string c[jj].2)) := by
  have e := Dev.stick_take (i := j) hlt
  rw [if_neg hj] at e
  have hle := h.le
  refine ⟨(h.row.setCell _ _).setCell _ _, by simpa using h.size, ⟨hlt, by omega⟩, by rw [e, List.length_append, ← h.len]; rfl, ?_, fun e he hle => ?_⟩
  · rw [take_two _ _ _ _ (by rw [h.size]; omega), h.head, e, List.flatMap_append]
    rfl
  · have := h.tail e he (by omega)
    rw [Array.getElem?_setIfInBounds_ne (by omega), Array.getElem?_setIfInBounds_ne (by omega), Array.getElem?_setIfInBounds_ne (by omega), Array.getElem?_setIfInBounds_ne (by omega)]
    exact this
end
theorem Thin.start {T : TypeId} {w : World} {B n cap j k : Nat} {a : Option Addr} {c : List (Nat × ByteArray)} (h : CacheIs T w B (.slice a n cap) c) (hk : k < c.length) (hj : c[k].1 = j) (hno : ∀ i (hi : i < k), (c[i]'(Nat.lt_trans hi hk)).1 ≠ j) :
    ∃ g cur, a = some ⟨g, 0, none⟩ ∧ B ≤ g ∧ c.length ≤ cap ∧ cap ≤ maxLen ∧ Thin T w g cap j k (k + 1) c cur := by
  obtain ⟨hx, ⟨h0, h1⟩ | ⟨g, cap', cur, e, hb, hg, h1, h2, h3, h4⟩⟩ := h
  · omega
  · simp only [Value.slice.injEq] at e
    obtain ⟨rfl, rfl, rfl⟩ := e
    have hf := filter_first hk hj hno
    refine ⟨g, cur, rfl, hb, h1, h2, hg, h3, ⟨hk, by omega⟩, by rw [hf, List.length_take]; omega, ?_, fun e he _ => ?_⟩
    · rw [hf]
      have e1 : cur.toList.take (k * 2) = (cur.toList.take (c.length * 2)).take (k * 2) := by rw [List.take_take, Nat.min_eq_left (by omega)]
      rw [e1, h4]
      have e2 : c = c.take k ++ c.drop k := (List.take_append_drop k c).symm
      conv => lhs; rw [e2, List.flatMap_append]
      rw [List.take_append_of_le_length (by rw [flat_length cellsW 2 cellsW_length, List.length_take]; omega), List.take_of_length_le (by rw [flat_length cellsW 2 cellsW_length, List.length_take]; omega)]
    · have c0 := flat_at cellsW 2 cellsW_length c e he 0 (by omega)
      have c1 := flat_at cellsW 2 cellsW_length c e he 1 (by omega)
      rw [← h4, List.getElem?_take, if_pos (by omega)] at c0 c1
      exact ⟨by simpa [cellsW] using c0, by simpa [cellsW] using c1⟩
/-- the rest is wiped -/
theorem clear_run {T S : TypeId} (ht : Try.prog.underlying S = some (.slice T)) (hz : ∀ w, (zeroValue T).run Try.prog w = .ok (.agg #[.int .i64 0, .string ⟨#[]⟩]) w) {w : World} {g o n c : Nat} {cur : Array Value} (hr : RowIs g T cur w) (h0 : 0 < n) (hn : o * 2 + n * 2 ≤ cur.size) (ty : TypeId) :
    ∃ cur', (Builtin.clear_ #[S] ty #[.slice (some ⟨g, o * 2, none⟩) n c]).run Try.prog w = .ok (.tuple #[]) (w.setRow g cur') ∧ cur'.size = cur.size ∧ cur'.toList.take (o * 2) = cur.toList.take (o * 2) := by
  have hl : (Builtin.zeroCells (Value.agg #[.int .i64 0, .string ⟨#[]⟩]).cells n).toList.length = n * 2 := by
    simp [Builtin.zeroCells, Value.cells]
  have hst := run_storeCells_at Try.prog g (o * 2) T (Builtin.zeroCells (Value.agg #[.int .i64 0, .string ⟨#[]⟩]).cells n).toList 0 cur w hr (by rw [hl]; omega) (by
    intro v hv
    rw [Array.mem_toList_iff] at hv
    unfold Builtin.zeroCells at hv
    rw [Array.mem_map] at hv
    obtain ⟨i, _, rfl⟩ := hv
    have : i % 2 = 0 ∨ i % 2 = 1 := by omega
    rcases this with h | h <;> simp [Value.cells, h, Value.oneCell'])
  obtain ⟨m, rfl⟩ : ∃ m, n = m + 1 := ⟨n - 1, by omega⟩
  simp only [Nat.add_zero, hl] at hst
  refine ⟨(cur.toList.take (o * 2) ++ (Builtin.zeroCells (Value.agg #[.int .i64 0, .string ⟨#[]⟩]).cells (m + 1)).toList ++ cur.toList.drop (o * 2 + (m + 1) * 2)).toArray, ?_, ?_, ?_⟩
  · simp only [Builtin.clear_, List.getElem?_toArray, List.getElem?_cons_zero, Sem.run_bind, run_underlying ht, Result.andThen_ok, hz, Sem.run_pure]
    rw [hst]
    rfl
  · rw [List.size_toArray, List.length_append, List.length_append, List.length_take, List.length_drop, hl, Array.length_toList]
    omega
  · rw [List.append_assoc, List.take_append_of_le_length (by rw [List.length_take, Array.length_toList]; omega), List.take_take, Nat.min_self]
theorem DF.own {T : TypeId} {w w' : World} {B b m q g : Nat} {cur : Array Value} (hr : RowIs g T cur w) (hB : B ≤ g) (e : But g w w') : DF T B b m q w w' := by
  refine ⟨e.os, e.tape, e.output, e.size, fun k hk _ _ _ => ?_⟩
  by_cases h : k = g
  · subst h
    exact .inr ⟨hB, cur, (0, 0), hr⟩
  · exact .inl (e.block k hk h)
set_option maxRecDepth 100000 in
set_option maxHeartbeats 8000000 in
theorem deletefn_any (A j B : Nat) (v : Value) (c : List (Nat × ByteArray)) (hlc : c.length ≤ 1000) (w : World) (hA : RowIs A 3 #[.int .i64 (j : Int)] w) (hC : CacheIs 95 w B v c) :
    Calls Try.prog 50 #[v, .func (.func 51) #[] #[.pointer (some ⟨A, 0, none⟩)]] w fun e w' =>
      (∃ v', e = .returned v' ∧ CacheIs 95 w' B v' (c.filter fun w => decide (w.1 ≠ j))) ∧ ∀ b m q, DF 95 B b m q w w' := by
  obtain ⟨a, cap, rfl, hcc, hcells⟩ := CacheIs.cells hC
  have HA := Lib.hid hA; have HC := Lib.hid hC; have HCC := Lib.hid hcells
  clear hA hC hcells
  go_enter Try.func50, Try.ntmps50
  go_wp2_with fail
  refine (indexfn_any A j a cap c hlc _ (HA.out.cell 0 _ rfl) (fun i hi => let ⟨g, h1, _, h2, h3⟩ := HCC.out i hi; ⟨g, h1, h2, h3⟩)).mono ?_
  rintro e w1 ⟨⟨r, rfl, hr⟩, he1⟩
  have HE1 := Lib.hid he1
  clear he1
  rcases hr with ⟨rfl, hno⟩ | ⟨k, hk, rfl, hj, hno⟩
  · have HN := Lib.hid (filter_none hno)
    clear hno
    go_wp2_with fail
    go_ret
    rw [HN.out]
    exact ⟨⟨_, rfl, HC.out.ext HE1.out⟩, fun b m q => DF.of HE1.out⟩
  · obtain ⟨g, cur, rfl, hBg, hcap, hcm, ht⟩ := Thin.start (HC.out.ext HE1.out) hk hj hno
    have HT := Lib.hid ht
    have hk1 : ((k : Int) == -1) = false := beq_eq_false_iff_ne.2 (by omega)
    clear hj hno ht HCC
    go_wp2_with fail
    go_loopw [5, 6] (fun iv jv wx => ∃ (i jj : Nat) (cur : Array Value), iv = .int .i64 i ∧ jv = .int .i64 jj ∧ Thin 95 wx g cap j i jj c cur ∧ RowIs A 3 #[.int .i64 (j : Int)] wx ∧ ∀ b m q, DF 95 B b m q w wx) (fun _ jv _ => c.length - (intOf jv).toNat)
    case atStart => exact ⟨k, k + 1, cur, rfl, by go_num, HT.out, HA.out.ext HE1.out, fun b m q => DF.of HE1.out⟩
    case round =>
      obtain ⟨i, jj, cur, rfl, rfl, ht, ha, hd⟩ := hrel
      have hle := ht.le
      have HT := Lib.hid ht; have HAX := Lib.hid ha; have HD := Lib.hid hd
      clear ht ha hd
      by_cases hlt : jj < c.length
      · obtain ⟨t0, t1⟩ := HT.out.tail jj hlt (Nat.le_refl _)
        have x0 := HT.out.row.cell _ _ t0
        have x1 := HT.out.row.cell _ _ t1
        clear t0 t1
        have HK := Lib.hid (fun (w' : World) (h : Thin 95 w' g cap j i jj c cur) hn => h.keep hlt hn hcap)
        have HS := Lib.hid (fun (w' : World) (h : Thin 95 w' g cap j i jj c cur) hn => h.skip hlt hn)
        generalize c[jj] = y at *
        obtain ⟨s, t⟩ := y
        simp only at x0 x1 HK HS
        go_upto_region 8 with (fail)
        have hx8 := Ext.alloc wr (.cells #[.int .i64 (s : Int), .string t] 95)
        have n0 : (wr.alloc (.cells #[.int .i64 (s : Int), .string t] 95)).cell? ⟨wr.heap.size, 0, none⟩ = some (.int .i64 (s : Int)) := World.cell?_alloc_new wr #[.int .i64 (s : Int), .string t] 95 0
        have n1 : (wr.alloc (.cells #[.int .i64 (s : Int), .string t] 95)).cell? ⟨wr.heap.size, 1, none⟩ = some (.string t) := World.cell?_alloc_new wr #[.int .i64 (s : Int), .string t] 95 1
        generalize wr.alloc (.cells #[.int .i64 (s : Int), .string t] 95) = w8 at *
        generalize wr.heap.size = X at *
        have HX8 := Lib.hid hx8
        clear hx8 x0 x1
        go_wp2_with fail
        refine (stickfn_any A s j t _ ((HAX.out.ext HX8.out).cell 0 _ rfl)).mono ?_
        rintro e w9 ⟨rfl, he9⟩
        have HX9 := Lib.hid (HX8.out.trans he9)
        by_cases hsj : s = j
        · have HT9 := Lib.hid (HS.out _ (HT.out.ext HX9.out) hsj)
          rw [decide_eq_true hsj]
          clear hsj he9 HK HS
          go_wp2_with fail
          go_roundw
          case rel => exact ⟨i, jj + 1, cur, rfl, by go_num, HT9.out, HAX.out.ext HX9.out, fun b m q => (HD.out b m q).trans (DF.of HX9.out)⟩
          case measure => simp [intOf]; omega
        · have ht9 := HT.out.ext HX9.out
          have HT9 := Lib.hid (HK.out _ ht9 hsj)
          have n0' := cell_ext n0 he9
          have n1' := cell_ext n1 he9
          have hsz := ht9.size
          have c0 := ht9.row.cell (i * 2) _ (Array.getElem?_eq_getElem (show i * 2 < cur.size by omega))
          have c1 := (ht9.row.setCell (i * 2) (.int .i64 (s : Int))).cell (i * 2 + 1) (cur[i * 2 + 1]'(by omega)) (by rw [Array.getElem?_setIfInBounds_ne (by omega)]; exact Array.getElem?_eq_getElem _)
          have c1' := ht9.row.cell (i * 2 + 1) _ (Array.getElem?_eq_getElem (show i * 2 + 1 < cur.size by omega))
          have f0 := ht9.row.free (i * 2)
          have f1 := ht9.row.free (i * 2 + 1)
          generalize cur[i * 2]'(by omega) = u0 at *
          generalize cur[i * 2 + 1]'(by omega) = u1 at *
          have HD9 : Hid (∀ b m q, DF 95 B b m q wr ((w9.setCell ⟨g, i * 2, none⟩ (.int .i64 (s : Int))).setCell ⟨g, i * 2 + 1, none⟩ (.string t))) := Lib.hid fun b m q => ((DF.of HX9.out).trans (DF.cell ht9.row hBg _ _)).trans (DF.cell (ht9.row.setCell _ _) hBg _ _)
          have HA9 := Lib.hid ((Wrote.setCell (ht9.row.setCell (i * 2) (.int .i64 (s : Int))) (i * 2 + 1) (.string t)).row ((Wrote.setCell ht9.row (i * 2) (.int .i64 (s : Int))).row (HAX.out.ext HX9.out) ((HAX.out.ext HX9.out).ne ht9.row (by decide))) ((HAX.out.ext HX9.out).ne ht9.row (by decide)))
          have hidx : 0 ≤ (i : Int) ∧ (i : Int) < (c.length : Int) := by omega
          rw [decide_eq_false hsj]
          clear hsj he9 HK HS n0 n1 ht9 hsz
          go_wp2_with fail
          go_roundw
          case rel => exact ⟨i + 1, jj + 1, _, by go_num, by go_num, HT9.out, HA9.out, fun b m q => (HD.out b m q).trans (HD9.out b m q)⟩
          case measure => simp [intOf]; omega
      · obtain rfl : jj = c.length := by omega
        obtain ⟨cur', hcl, hsz, htk⟩ := clear_run (S := 77) (c := cap - i) Try.underlying77 (fun w => Try.zeroValue95 w) HT.out.row (show 0 < c.length - i by omega) (show i * 2 + (c.length - i) * 2 ≤ cur.size by rw [HT.out.size]; omega) 0
        go_wp2_with fail
        go_ret
        have hlen := HT.out.len
        have hhead := HT.out.head
        rw [List.take_length] at hlen hhead
        refine ⟨⟨_, rfl, ?_⟩, fun b m q => (HD.out b m q).trans (DF.own HT.out.row hBg (Wrote.setRow g wr cur').but)⟩
        refine ⟨flat_length cellsW 2 cellsW_length _, .inr ⟨g, cap, cur', by rw [← hlen]; rfl, hBg, setRow_heap wr g cur cur' 95 (0, 0) HT.out.row, by rw [← hlen]; omega, hcm, by rw [hsz]; exact HT.out.size, ?_⟩⟩
        rw [← hlen, htk]
        exact hhead
section
variable {w : World} {B b m q : Nat} {d : Dev.St}
set_option maxRecDepth 100000 in
set_option maxHeartbeats 8000000 in
theorem devthin_any (i : Int) (hf : Dev.Fit d) (hP : PD w B b m q d) :
    Calls Try.prog 16 #[.pointer (some ⟨b, 0, none⟩), .int .i64 i] w fun e w' => (∃ v, e = .returned v) ∧ PD w' B b m q (Dev.stick d i) ∧ DF 95 B b m q w w' := by
  have hok' := Dev.stick_ok hP.ok i
  have HP0 := Lib.hid hP; have HOK' := Lib.hid hok'
  have hlts : b < w.heap.size ∧ m < w.heap.size ∧ q < w.heap.size := ⟨(by obtain ⟨cv, hr, _⟩ := hP.row; exact hr.lt), hP.media.lt, hP.bad.lt⟩
  obtain ⟨⟨cv, hr, hc⟩, hm, hq, hok, hlow⟩ := hP
  obtain ⟨ca, cap, rfl, hcc, _⟩ := CacheIs.cells hc
  have HR := Lib.hid hr; have HC := Lib.hid hc; have HM := Lib.hid hm; have HQ := Lib.hid hq; have HOK := Lib.hid hok
  clear hr hc hm hq hok hok'
  go_enter Try.func16, Try.ntmps16
  go_upto_region 1 with (fail)
  have rA : RowIs w.heap.size 3 #[.int .i64 i] (w.alloc (.cells #[.int .i64 i] 3)) := RowIs.new _ _ _
  have hx1 := Ext.alloc w (.cells #[.int .i64 i] 3)
  generalize w.alloc (.cells #[.int .i64 i] 3) = w1 at *
  obtain ⟨A, hAA⟩ : ∃ A, w.heap.size = A := ⟨_, rfl⟩
  rw [hAA] at rA ⊢
  have cA := rA.cell 0 (.int .i64 i) rfl
  have HRA := Lib.hid rA; have HX1 := Lib.hid hx1
  clear rA hx1 hAA
  go_wp2_with fail
  refine (devis_any i (HR.out.ext HX1.out)).mono ?_
  rintro e w2 ⟨rfl, he2⟩
  have HX2 := Lib.hid (HX1.out.trans he2)
  replace HRA := Lib.hid (HRA.out.ext he2)
  replace cA := cell_ext cA he2
  clear he2
  cases hsec : Dev.isSec i with
  | false =>
    have HA := Lib.hid (show Dev.stick d i = d from by unfold Dev.stick; rw [if_neg (by rw [hsec]; decide)])
    clear hsec
    go_wp2_with fail
    go_end0
    rw [HA.out]
    exact ⟨⟨_, rfl⟩, HP0.out.ext HX2.out, DF.of HX2.out⟩
  | true =>
    have hi := Dev.isSec_iff.1 hsec
    obtain ⟨j, rfl⟩ : ∃ j : Nat, i = (j : Int) := ⟨i.toNat, by omega⟩
    have hj : j < 9 := by omega
    have HA := Lib.hid (show Dev.stick d (j : Int) = { d with bad := d.bad.set j true, cache := d.cache.filter fun w => decide (w.1 ≠ j) } from by
      unfold Dev.stick
      rw [if_pos hsec, Int.toNat_natCast])
    have c3 := (HR.out.ext HX2.out).cell 3 (.slice (some ⟨q, 0, none⟩) 9 9) rfl
    have cb := (HQ.out.ext HX2.out).cellD j (by rw [HOK.out.bad]; exact hj)
    have fb := (HQ.out.ext HX2.out).free j
    have hlc := hf.cache
    clear hsec
    go_upto_region 2 with (fail)
    go_still_tail 6, (by kernel_rfl)
    change wpList _ _ _ _ _ w2.drew
    go_upto_region 3 with (fail)
    have hq3 := ((HQ.out.ext HX2.out).set j true).ext (Ext.drew _)
    have hb3 : But q w ((w2.setCell ⟨q, j, none⟩ (.bool true)).drew) := ((But.of HX2.out).trans ((HQ.out.ext HX2.out).wrote j (.bool true)).but).trans (But.of (Ext.drew _))
    have hb23 : But q w2 ((w2.setCell ⟨q, j, none⟩ (.bool true)).drew) := ((HQ.out.ext HX2.out).wrote j (.bool true)).but.trans (But.of (Ext.drew _))
    generalize (w2.setCell ⟨q, j, none⟩ (.bool true)).drew = w3 at *
    have hnq : b ≠ q := HR.out.ne_list HQ.out (by decide)
    have hmq : m ≠ q := HM.out.ne_list HQ.out (by decide)
    have hAq : A ≠ q := HRA.out.ne_list (HQ.out.ext HX2.out) (by decide)
    have hc3 : CacheIs 95 w3 B (.slice ca d.cache.length cap) d.cache := by
      obtain ⟨cs, hrq, _⟩ := HQ.out
      exact HC.out.but hrq (by decide) hb3
    have HR3 := Lib.hid (hb3.row HR.out hnq); have HM3 := Lib.hid (HM.out.but hb3 hmq); have HQ3 := Lib.hid hq3; have HC3 := Lib.hid hc3; have HA3 := Lib.hid (hb23.row HRA.out hAq); have HB3 := Lib.hid hb3
    have c4 := HR3.out.cell 4 (.slice ca d.cache.length cap) rfl
    clear hq3 hb3 hb23 hc3 cA c3 cb fb
    go_wp2_with fail
    refine (deletefn_any A j B _ d.cache hlc _ HA3.out HC3.out).mono ?_
    rintro e w4 ⟨⟨v4, rfl, hc4⟩, hd4⟩
    obtain ⟨a4, n4, p4, rfl⟩ := CacheIs.shape hc4
    have hz := HB3.out.size
    have e4 := hd4 w3.heap.size w3.heap.size w3.heap.size
    have hr4 := e4.row HR3.out (by decide) (by omega)
    have hm4 := e4.list HM3.out (by decide) (by omega)
    have hq4 := e4.list HQ3.out (by decide) (by omega)
    have g4 := hr4.free 4
    have k4 := hr4.cell 4 (.slice ca d.cache.length cap) rfl
    have HR4 := Lib.hid hr4; have HM4 := Lib.hid hm4; have HQ4 := Lib.hid hq4; have HC4 := Lib.hid hc4; have HD4 := Lib.hid (hd4 b m q)
    clear hr4 hm4 hq4 hc4 hd4 e4
    go_wp2_with fail
    go_end0
    have hr5 := HR4.out.setCell 4 (.slice a4 n4 p4)
    have hb5 := (Wrote.setCell HR4.out 4 (.slice a4 n4 p4)).but
    have hok := HOK'.out
    rw [HA.out] at hok ⊢
    exact ⟨⟨_, rfl⟩, ⟨⟨_, hr5, HC4.out.but HR4.out (by decide) hb5⟩, HM4.out.but hb5 (HR4.out.ne_list HM4.out (by decide)).symm, HQ4.out.but hb5 (HR4.out.ne_list HQ4.out (by decide)).symm, hok, hlow⟩, ((DF.but HB3.out (.inr (.inr rfl))).trans HD4.out).trans (DF.but hb5 (.inl rfl))⟩
end
end Go.Proofs.Ytcpbpfngiimcnaa
