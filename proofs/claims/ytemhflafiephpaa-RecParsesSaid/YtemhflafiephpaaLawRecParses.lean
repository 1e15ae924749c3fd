/- The walk of law12.RecParses. -/
import Derived.Test.YtemhflafiephpaaRecQ
import Derived.Test.YtemhflafiephpaaOpenRecs
import Derived.StillTailTactics
import Derived.Deep.DeepCutAuto
namespace Go.Proofs.Ytemhflafiephpaa
open Go.RowKit
theorem info_lupd : (Try.prog.info? 67).map (fun i => (i.zero, i.size, i.bytes)) = some (some (.agg #[.int .u8 0, .string ⟨#[]⟩, .string ⟨#[]⟩, .int .u64 0]), 4, 48) := by kernel_rfl
theorem recs_cuts {w : World} {a : Option Addr} {l : List Msg.Up} {ca : Nat} (hU : Recs w a l) (hcb : l.length ≤ ca) (hS : ∀ u ∈ l, FitU u ∧ ShortKey u) (n : Nat) :
    Recs w a (l.take n) ∧ (∀ u ∈ l.take n, FitU u ∧ ShortKey u) ∧ (l.take n).length ≤ n ∧ (l.take n).length ≤ ca := ⟨hU.take n, fun u hu => hS u (List.mem_of_mem_take hu), by rw [List.length_take]; omega, by rw [List.length_take]; omega⟩
theorem tmod_nat (x n : Nat) (h : 0 < n) : ∃ k : Nat, (x : Int).tmod (n : Int) = k ∧ k < n := ⟨x % n, by rw [Int.tmod_eq_emod_of_nonneg (by omega)]; omega, Nat.mod_lt _ h⟩
set_option maxRecDepth 100000 in
set_option maxHeartbeats 8000000 in
theorem recParses_walk (a : Option Addr) (l : List Msg.Up) (ca : Nat) (raw : ByteArray) (x y : Nat) (w : World) (hU : Recs w a l) (hca : l.length ≤ ca ∧ ca ≤ maxLen) (hS : ∀ u ∈ l, FitU u ∧ ShortKey u)
    (hraw : raw.size ≤ maxLen) (hx16 : x < 65536) (hy16 : y < 65536) :
    Calls Try.prog 10 #[.slice a l.length ca, .string raw, .agg #[.int .u16 (x : Int), .int .u16 (y : Int)]] w fun e w' => e = .returned (.bool true) ∧ Ext w w' := by
  unfold maxLen at hca hraw
  obtain ⟨hcb, hcb2⟩ := hca
  obtain ⟨m, hm1, hm2, hm3⟩ : ∃ m : Nat, min (raw.size : Int) 200 = (m : Int) ∧ m ≤ raw.size ∧ m ≤ 200 := ⟨min raw.size 200, by omega, by omega, by omega⟩
  obtain ⟨R, hR⟩ : ∃ R, raw.extract 0 m = R := ⟨_, rfl⟩
  have hRs : R.size ≤ 200 := by rw [← hR]; simp; omega
  go_enter Try.func10, Try.ntmps10
  go_upto_region 2 with (fail)
  have he0 := Ext.alloc w (.cells #[.int .u16 (x : Int), .int .u16 (y : Int)] 71)
  have cx := World.cell?_alloc_new w #[.int .u16 (x : Int), .int .u16 (y : Int)] 71 0
  have cy := World.cell?_alloc_new w #[.int .u16 (x : Int), .int .u16 (y : Int)] 71 1
  replace hU := hU.ext he0
  generalize w.alloc (.cells #[.int .u16 (x : Int), .int .u16 (y : Int)] 71) = w0 at *
  generalize w.heap.size = D0 at *
  have hUcM := recs_cuts hU hcb hS 8
  clear hU hS
  go_upto_region 3 with (fail)
  go_cut [34, 35, 36] (fun sl n i wr => ∃ L : List Msg.Up, sl = .slice a L.length ca ∧ n = .int .i64 L.length ∧ i = .int .i64 0 ∧ L.length ≤ 8 ∧ L.length ≤ ca ∧ Recs w0 a L ∧ (∀ u ∈ L, FitU u ∧ ShortKey u) ∧ wr = w0)
  case first =>
    obtain ⟨q1, q2, q3, q4⟩ := hUcM
    have q5 : (l.take 8).length = min 8 l.length := List.length_take
    go_wp2_with fail
    all_goals go_meet
    all_goals exact ⟨l.take 8, by rw [q5]; congr 1; omega, by rw [q5]; congr 1; omega, rfl, q3, q4, q1, q2, rfl⟩
  obtain ⟨LM, rfl, rfl, rfl, hlM, hlcM, hUM, hSM, rfl⟩ := hcut
  clear hUcM
  have HUM := Lib.hid hUM; clear hUM
  have HSM := Lib.hid hSM; clear hSM
  go_wp2_with fail
  go_loopw [7, 36] (fun p i wx => ∃ acc : List Msg.Up, acc.length ≤ LM.length ∧ i = .int .i64 acc.length ∧ (∀ u ∈ acc, Rec.check u = 0 ∧ FitU u) ∧ OwnE 67 wx wc.heap.size p acc ∧ Ext wc wx) (fun _ i _ => LM.length - (intOf i).toNat)
  case atStart => exact ⟨[], by simp, rfl, fun u hu => by simp at hu, OwnE.nil _ _ _, Ext.refl _⟩
  case round =>
    obtain ⟨acc, hj, rfl, hfa, hown, hex⟩ := hrel
    have HFA := Lib.hid hfa; have HOW := Lib.hid hown
    clear hfa hown
    by_cases hlt : acc.length < LM.length
    · obtain ⟨b, o, hbo, hc0, hc1, hc2, hc3⟩ := (HUM.out.ext hex) acc.length hlt
      subst hbo
      have hfit := HSM.out LM[acc.length] (by simp)
      have hB2 : wc.heap.size ≤ wr.heap.size := hex.size
      have hal : acc.length ≤ 1000000 := by omega
      generalize LM[acc.length] = u at *
      obtain ⟨K, Y, V, D⟩ := u
      obtain ⟨⟨f1, f2, f3, f4⟩, f5⟩ := hfit
      unfold ShortKey at f5
      simp only at hc0 hc1 hc2 hc3 f1 f2 f3 f4 f5
      have htm := fun w => tame12_any K D Y V w f1 f4 f5 f3
      have HTM := Lib.hid htm
      clear htm
      go_wp2_with fail
      refine (HTM.out _).mono ?_
      rintro e w1 ⟨⟨K1, D1, Y1, V1, rfl, hck1, hft1⟩, he1⟩
      replace he1 := (Ext.alloc wr _).trans he1
      have HC1 := Lib.hid (And.intro hck1 hft1)
      have HO1 := Lib.hid (OwnE.ext HOW.out he1)
      have hB3 : wc.heap.size ≤ w1.heap.size := by have := he1.size; omega
      replace hex := hex.trans he1
      clear hck1 hft1 hc0 hc1 hc2 hc3 HOW HTM he1
      go_wp2_with (at_builtin; refine wpl_upd2 Try.underlying55 info_lupd rfl _ _ rfl rfl HO1.out hB3 hal rfl K1 D1 Y1 V1 ?_; intro v7 w7 ho7 hb7 _ _; have HO7 := Lib.hid ho7; have HB7 := Lib.hid hb7; clear ho7 hb7)
      go_roundw
      case rel =>
        refine ⟨acc ++ [⟨K1, Y1, V1, D1⟩], by rw [List.length_append]; simp; omega, by rw [List.length_append]; go_num, fun u hu => ?_, HO7.out, Below.trans hex HB7.out⟩
        rcases List.mem_append.1 hu with hu | hu
        · exact HFA.out u hu
        · obtain rfl := List.mem_singleton.1 hu
          exact HC1.out
      case measure => simp [intOf]; omega
    · have hM8 : acc.length ≤ 8 := by omega
      have hMr : LM.length = acc.length := by omega
      clear hj hlt hlM hlcM HUM HSM
      obtain ⟨m1, rfl⟩ : ∃ m1, m1 = acc := ⟨_, rfl⟩
      obtain ⟨p0, d0, rfl, hd0, _, hR0⟩ := own_recs HOW.out
      have hc1 := fun u hu => (HFA.out u hu).1
      have hf1 := fun u hu => (HFA.out u hu).2
      have hof := of_any m1 p0 d0 wr hd0 hR0 hf1
      rw [cutL_same (by omega) hc1] at hof
      have htx := fun a c w' (h : Recs w' a m1) => reftext_any m1 a c w' (by omega) h hf1
      have htl := text_le m1
      rw [Rec.text_ok hc1] at htx htl
      have hpy := fun a ca w' (h : Recs w' a m1) => refpayload_any x y m1 a ca w' (by omega) (by omega) (by omega) h hf1
      rw [Rec.text_ok hc1] at hpy
      have hps := payR_size x y m1
      have hSs : (⟨(m1.flatMap Rec.bytes).toArray⟩ : ByteArray).size ≤ 10000 := by
        rw [show (⟨(m1.flatMap Rec.bytes).toArray⟩ : ByteArray).size = (m1.flatMap Rec.bytes).length from List.size_toArray]
        simp only at htl
        omega
      have hPs : (payR x y m1).size ≤ 10000 := by omega
      generalize payR x y m1 = PY at *
      generalize (⟨(m1.flatMap Rec.bytes).toArray⟩ : ByteArray) = S at *
      simp only at htx hpy
      replace cx := cell_ext cx hex
      replace cy := cell_ext cy hex
      have HOF := Lib.hid hof; have HTX := Lib.hid htx; have HPY := Lib.hid hpy
      clear hof htx hpy hps htl hR0 HOW hd0 hc1 hf1 HFA
      go_wp2_with fail
      refine HOF.out.mono ?_
      rintro e w1 ⟨⟨v1, v2, rfl, _, ho2⟩, he1⟩
      obtain ⟨a2, c2, rfl, _, _, hR2⟩ := own_recs ho2
      have HR2 := Lib.hid hR2
      clear ho2 hR2 HOF
      replace cx := cell_ext cx he1
      replace cy := cell_ext cy he1
      go_wp2_with fail
      refine (HTX.out _ _ _ HR2.out).mono ?_
      rintro e w2 ⟨rfl, he2⟩
      replace cx := cell_ext cx he2
      replace cy := cell_ext cy he2
      replace HR2 := Lib.hid (HR2.out.ext he2)
      go_wp2_with fail
      refine (HPY.out _ _ _ HR2.out).mono ?_
      rintro e w3 ⟨rfl, he3⟩
      replace cx := cell_ext cx he3
      replace cy := cell_ext cy he3
      clear HR2 HPY HTX
      obtain ⟨T, hT⟩ : ∃ T, S ++ ⟨#[120]⟩ = T := ⟨_, rfl⟩
      have hTs : T.size = S.size + 1 := by rw [← hT, ByteArray.size_append]; rfl
      have hTb : T.size ≤ 10001 := by omega
      have hTp : 0 < T.size := by omega
      clear hTs
      go_wp2_with fail
      try rw [hT]
      obtain ⟨w4, cap, hrun, hrow, he4, hlt⟩ := conv_bytes w3 T
      rw [hrun]
      clear hrun
      obtain ⟨k, hk, hkl⟩ : ∃ k : Nat, (x : Int).tmod (T.size : Int) = k ∧ k < T.size := ⟨x % T.size, by rw [Int.tmod_eq_emod_of_nonneg (by omega)]; omega, Nat.mod_lt _ (by omega)⟩
      have hkL : k < T.data.toList.length := by simpa using hkl
      have hTl : T.data.toList.length = T.size := by simp
      have hcell := (hrow k hkL).1
      have hfroz := (hrow k hkL).2
      obtain ⟨v, hv⟩ := turn_byte T.data.toList[k] y
      have hr5 := hrow.set k v
      have hl5 : (T.data.toList.set k v).length = T.size := by simp
      generalize T.data.toList.set k v = L5 at *
      generalize T.data.toList[k] = u at *
      have cx4 := cell_ext cx he4
      have cy4 := cell_ext cy he4
      obtain ⟨B, hB⟩ : ∃ B, B = w3.heap.size := ⟨_, rfl⟩
      rw [← hB] at hcell hfroz hr5 hlt ⊢
      replace hr5 := hr5.ext (by simpa using hlt) (Ext.drew _)
      have he5 := (he4.trans_set (b := B) (by omega) k (.int .u8 (v.toNat : Int))).trans (Ext.drew _)
      have HR5 := Lib.hid hr5; have HE5 := Lib.hid he5; have HT := Lib.hid hT; have HB := Lib.hid hB; have HL5 := Lib.hid hl5
      clear hr5 he5 hrow hTl hT hB hl5
      have hkI : (k : Int) < (T.size : Int) := by omega
      have hk0 : (0 : Int) ≤ (k : Int) := by omega
      have hz : ¬ T = ByteArray.empty := by
        intro h
        rw [h] at hTp
        exact absurd hTp (by decide)
      have hwx : IntKind.i64.wrap (x : Int) = (x : Int) := by rw [IntKind.wrap_i64]; omega
      go_wp2_with fail
      go_still_tail 14, (by kernel_rfl)
      change wpList _ _ _ _ _ w4.drew
      go_upto_region 13 with (fail)
      rw [hv]
      replace cx := cell_ext cx HE5.out
      have he5 := HE5.out
      have hr5 := HR5.out
      have hl5 : L5.length = T.size := HL5.out
      clear HE5 HR5 cx4 cy4 hcell hfroz hv cy hkI hk0 hz
      generalize (w4.setCell ⟨B, k, none⟩ (.int .u8 (v.toNat : Int))).drew = w5 at *
      have hBx : B < w5.heap.size := by have := (hr5 0 (by omega)).1; exact World.block_lt_of_cell? _ _ this
      have HR5 := Lib.hid hr5
      have HE := Lib.hid (hex.trans (he1.trans (he2.trans (he3.trans he5))))
      clear hr5 hex he1 he2 he3 he4 he5 hlt hk hkl hkL HB
      obtain ⟨k1, g1, g2⟩ := tmod_nat x (S.size + 1) (by omega)
      obtain ⟨k2, g3, g4⟩ := tmod_nat x (PY.size + 1) (by omega)
      have f1 : (x : Int).tmod ((S.size : Int) + 1) = k1 := by rw [← g1]; congr 1
      have f2 : (k1 : Int) ≤ (S.size : Int) := by omega
      have f3 : (x : Int).tmod ((PY.size : Int) + 1) = k2 := by rw [← g3]; congr 1
      have f4 : (k2 : Int) ≤ (PY.size : Int) := by omega
      clear g1 g2 g3 g4
      have f7 : ¬ ((S.size : Int) + 1 = 0) := by omega
      have f8 : ¬ ((PY.size : Int) + 1 = 0) := by omega
      have f11 : ¬ (9223372036854775807 < S.size + R.size) := by omega
      have f12 : ¬ (9223372036854775807 < PY.size + R.size) := by omega
      have f9 : IntKind.i64.wrap ((S.size : Int) + 1) = (S.size : Int) + 1 := by rw [IntKind.wrap_i64]; omega
      have f10 : IntKind.i64.wrap ((PY.size : Int) + 1) = (PY.size : Int) + 1 := by rw [IntKind.wrap_i64]; omega
      have f5 : (0 : Int) ≤ (k1 : Int) := by omega
      have f6 : (0 : Int) ≤ (k2 : Int) := by omega
      obtain ⟨SR, hSR⟩ : ∃ X, S ++ R = X := ⟨_, rfl⟩
      obtain ⟨PR, hPR⟩ : ∃ X, PY ++ R = X := ⟨_, rfl⟩
      obtain ⟨S1, hS1⟩ : ∃ X, S.extract 0 k1 = X := ⟨_, rfl⟩
      obtain ⟨P1, hP1⟩ : ∃ X, PY.extract 0 k2 = X := ⟨_, rfl⟩
      obtain ⟨TT, hTT⟩ : ∃ X : ByteArray, (⟨L5.toArray⟩ : ByteArray) = X := ⟨_, rfl⟩
      have hall : ∀ i (hi : i < [R, S, SR, PY, PR, TT, S1, P1].length), ([R, S, SR, PY, PR, TT, S1, P1][i]).size ≤ 100000 := fun i hi => by
        match i, hi with
        | 0, _ => show R.size ≤ _; omega
        | 1, _ => show S.size ≤ _; omega
        | 2, _ => show SR.size ≤ _; rw [← hSR, ByteArray.size_append]; omega
        | 3, _ => show PY.size ≤ _; omega
        | 4, _ => show PR.size ≤ _; rw [← hPR, ByteArray.size_append]; omega
        | 5, _ => show TT.size ≤ _; rw [← hTT]; show L5.toArray.size ≤ _; rw [List.size_toArray]; omega
        | 6, _ => show S1.size ≤ _; rw [← hS1]; simp; omega
        | 7, _ => show P1.size ≤ _; rw [← hP1]; simp; omega
      have HALL := Lib.hid hall; have HSR := Lib.hid hSR; have HPR := Lib.hid hPR; have HS1 := Lib.hid hS1; have HP1 := Lib.hid hP1; have HTT := Lib.hid hTT
      clear hall hSR hPR hS1 hP1 hTT
      refine wp_region_drift_lit (n := 176) (by kernel_rfl) (by kernel_rfl) (by rfl) ?_
      apply chain_val
      · intro w2 hx  K hK
        simp only [Act.put, List.setIfInBounds_toArray, List.set_cons_zero, List.set_cons_succ] at hK ⊢
        go_simp
        exact hK _ _ (Ext.refl _) rfl
      apply chain_val
      · intro w2 hx  K hK
        simp only [Act.put, List.setIfInBounds_toArray, List.set_cons_zero, List.set_cons_succ] at hK ⊢
        go_simp
        exact hK _ _ (Ext.refl _) rfl
      apply chain_val
      · intro w2 hx  K hK
        simp only [Act.put, List.setIfInBounds_toArray, List.set_cons_zero, List.set_cons_succ] at hK ⊢
        go_simp
        exact hK _ _ (Ext.refl _) rfl
      apply chain_val
      · intro w2 hx  K hK
        simp only [Act.put, List.setIfInBounds_toArray, List.set_cons_zero, List.set_cons_succ] at hK ⊢
        go_simp
        exact hK _ _ (Ext.refl _) rfl
      apply chain_val (.string SR)
      · intro w2 hx  K hK
        simp only [Act.put, List.setIfInBounds_toArray, List.set_cons_zero, List.set_cons_succ] at hK ⊢
        go_simp
        refine hK _ _ (Ext.refl _) ?_
        show Value.string _ = _
        rw [← HSR.out]
      apply chain_val
      · intro w2 hx  K hK
        simp only [Act.put, List.setIfInBounds_toArray, List.set_cons_zero, List.set_cons_succ] at hK ⊢
        go_simp
        exact hK _ _ (Ext.refl _) rfl
      apply chain_val
      · intro w2 hx  K hK
        simp only [Act.put, List.setIfInBounds_toArray, List.set_cons_zero, List.set_cons_succ] at hK ⊢
        go_simp
        exact hK _ _ (Ext.refl _) rfl
      apply chain_val
      · intro w2 hx  K hK
        simp only [Act.put, List.setIfInBounds_toArray, List.set_cons_zero, List.set_cons_succ] at hK ⊢
        go_simp
        exact hK _ _ (Ext.refl _) rfl
      apply chain_val (.string PR)
      · intro w2 hx  K hK
        simp only [Act.put, List.setIfInBounds_toArray, List.set_cons_zero, List.set_cons_succ] at hK ⊢
        go_simp
        refine hK _ _ (Ext.refl _) ?_
        show Value.string _ = _
        rw [← HPR.out]
      apply chain_val
      · intro w2 hx  K hK
        simp only [Act.put, List.setIfInBounds_toArray, List.set_cons_zero, List.set_cons_succ] at hK ⊢
        go_simp
        exact hK _ _ (Ext.refl _) rfl
      apply chain_val (.string TT)
      · intro w2 hx  K hK
        simp only [Act.put, List.setIfInBounds_toArray, List.set_cons_zero, List.set_cons_succ] at hK ⊢
        have hcv : (convert 76 9 (.slice (some ⟨B, 0, none⟩) T.size cap)).run Try.prog w2 = .ok (.string TT) w2 := by rw [← hl5, ← HTT.out]; exact conv_string w2 B cap L5 (HR5.out.ext hBx hx)
        go_simp
        exact hK _ _ (Ext.refl _) rfl
      apply chain_val
      · intro w2 hx  K hK
        simp only [Act.put, List.setIfInBounds_toArray, List.set_cons_zero, List.set_cons_succ] at hK ⊢
        go_simp
        exact hK _ _ (Ext.refl _) rfl
      apply chain_val
      · intro w2 hx  K hK
        simp only [Act.put, List.setIfInBounds_toArray, List.set_cons_zero, List.set_cons_succ] at hK ⊢
        go_simp
        exact hK _ _ (Ext.refl _) rfl
      apply chain_val (.int .u16 (x : Int))
      · intro w2 hx  K hK
        simp only [Act.put, List.setIfInBounds_toArray, List.set_cons_zero, List.set_cons_succ] at hK ⊢
        have x0 := cell_ext cx hx
        go_simp
        exact hK _ _ (Ext.refl _) rfl
      apply chain_val
      · intro w2 hx  K hK
        simp only [Act.put, List.setIfInBounds_toArray, List.set_cons_zero, List.set_cons_succ] at hK ⊢
        go_simp
        exact hK _ _ (Ext.refl _) rfl
      apply chain_val
      · intro w2 hx  K hK
        simp only [Act.put, List.setIfInBounds_toArray, List.set_cons_zero, List.set_cons_succ] at hK ⊢
        go_simp
        exact hK _ _ (Ext.refl _) rfl
      apply chain_val
      · intro w2 hx  K hK
        simp only [Act.put, List.setIfInBounds_toArray, List.set_cons_zero, List.set_cons_succ] at hK ⊢
        go_simp
        exact hK _ _ (Ext.refl _) rfl
      apply chain_val
      · intro w2 hx  K hK
        simp only [Act.put, List.setIfInBounds_toArray, List.set_cons_zero, List.set_cons_succ] at hK ⊢
        go_simp
        exact hK _ _ (Ext.refl _) rfl
      apply chain_val (.int .i64 (k1 : Int))
      · intro w2 hx  K hK
        simp only [Act.put, List.setIfInBounds_toArray, List.set_cons_zero, List.set_cons_succ] at hK ⊢
        go_simp
        exact hK _ _ (Ext.refl _) rfl
      apply chain_val (.string S1)
      · intro w2 hx  K hK
        simp only [Act.put, List.setIfInBounds_toArray, List.set_cons_zero, List.set_cons_succ] at hK ⊢
        go_simp
        refine hK _ _ (Ext.refl _) ?_
        show Value.string _ = _
        rw [← HS1.out]
      apply chain_val
      · intro w2 hx  K hK
        simp only [Act.put, List.setIfInBounds_toArray, List.set_cons_zero, List.set_cons_succ] at hK ⊢
        go_simp
        exact hK _ _ (Ext.refl _) rfl
      apply chain_val
      · intro w2 hx  K hK
        simp only [Act.put, List.setIfInBounds_toArray, List.set_cons_zero, List.set_cons_succ] at hK ⊢
        go_simp
        exact hK _ _ (Ext.refl _) rfl
      apply chain_val (.int .u16 (x : Int))
      · intro w2 hx  K hK
        simp only [Act.put, List.setIfInBounds_toArray, List.set_cons_zero, List.set_cons_succ] at hK ⊢
        have x0 := cell_ext cx hx
        go_simp
        exact hK _ _ (Ext.refl _) rfl
      apply chain_val
      · intro w2 hx  K hK
        simp only [Act.put, List.setIfInBounds_toArray, List.set_cons_zero, List.set_cons_succ] at hK ⊢
        go_simp
        exact hK _ _ (Ext.refl _) rfl
      apply chain_val
      · intro w2 hx  K hK
        simp only [Act.put, List.setIfInBounds_toArray, List.set_cons_zero, List.set_cons_succ] at hK ⊢
        go_simp
        exact hK _ _ (Ext.refl _) rfl
      apply chain_val
      · intro w2 hx  K hK
        simp only [Act.put, List.setIfInBounds_toArray, List.set_cons_zero, List.set_cons_succ] at hK ⊢
        go_simp
        exact hK _ _ (Ext.refl _) rfl
      apply chain_val
      · intro w2 hx  K hK
        simp only [Act.put, List.setIfInBounds_toArray, List.set_cons_zero, List.set_cons_succ] at hK ⊢
        go_simp
        exact hK _ _ (Ext.refl _) rfl
      apply chain_val (.int .i64 (k2 : Int))
      · intro w2 hx  K hK
        simp only [Act.put, List.setIfInBounds_toArray, List.set_cons_zero, List.set_cons_succ] at hK ⊢
        go_simp
        exact hK _ _ (Ext.refl _) rfl
      apply chain_val (.string P1)
      · intro w2 hx  K hK
        simp only [Act.put, List.setIfInBounds_toArray, List.set_cons_zero, List.set_cons_succ] at hK ⊢
        go_simp
        refine hK _ _ (Ext.refl _) ?_
        show Value.string _ = _
        rw [← HP1.out]
      refine chain_pred (SlT [R, S, SR, PY, PR, TT, S1, P1]) (fun _ _ _ e h => SlT.ext h e) ?_ ?_
      · intro w2 hx  K hK
        simp only [Act.put, List.setIfInBounds_toArray, List.set_cons_zero, List.set_cons_succ] at hK ⊢
        go_simp
        exact hK _ _ (Ext.alloc _ _) (SlT.new8 _ _ _ _ _ _ _ _ _)
      apply chain_val (.int .i64 8)
      · intro w2 hx v29 h29 K hK
        simp only [Act.put, List.setIfInBounds_toArray, List.set_cons_zero, List.set_cons_succ] at hK ⊢
        obtain ⟨b1, rfl, _⟩ := h29
        go_simp
        exact hK _ _ (Ext.refl _) rfl
      apply chain_val
      · intro w2 hx  K hK
        simp only [Act.put, List.setIfInBounds_toArray, List.set_cons_zero, List.set_cons_succ] at hK ⊢
        go_simp
        exact hK _ _ (Ext.refl _) rfl
      refine chain_end fun w2 hx => ?_
      simp only [List.reverse_cons, List.reverse_nil, List.nil_append, List.cons_append, withDeps, Act.put, List.setIfInBounds_toArray, List.set_cons_zero, List.set_cons_succ]
      intro v29 h29
      obtain ⟨E, rfl, hST⟩ := h29
      simp only [List.length_cons, List.length_nil, Nat.reduceAdd]
      clear hMr
      have HST := Lib.hid hST
      replace HE := Lib.hid (HE.out.trans hx)
      clear hST hx cx f1 f2 f3 f4 f5 f6 f7 f8 f9 f10 f11 f12 hwx HSR HPR HS1 HP1 HTT HR5
      go_wp2_with fail
      go_loopw [116] (fun i wx => ∃ j : Nat, j ≤ 8 ∧ i = .int .i64 j ∧ Ext w2 wx) (fun i _ => 8 - (intOf i).toNat)
      case atStart => exact ⟨0, by omega, rfl, Ext.refl _⟩
      case round =>
        obtain ⟨j, hj, rfl, hex⟩ := hrel
        by_cases hlt : j < 8
        · have hc0 := cell_ext (HST.out j hlt) hex
          have hsm := HALL.out j hlt
          have hlt' : decide ((j : Int) < 8) = true := decide_eq_true (by omega)
          generalize [R, S, SR, PY, PR, TT, S1, P1][j] = z at *
          have HP := Lib.hid fun w => (rparse_any z w hsm).mono (R' := fun e w' => (∃ a ca, e = .returned (.tuple #[.slice a (parsA z).1.length ca, .int .i64 ((parsA z).2 : Nat)]) ∧ Recs w' a (parsA z).1) ∧ Ext w w') fun e w' ⟨h, he⟩ => ⟨parsA_of h, he⟩
          have RP := Lib.hid fun w => (refparse_any z w hsm).mono (R' := fun e w' => (∃ a ca, e = .returned (.tuple #[.slice a (parsA z).1.length ca, .int .i64 ((parsA z).2 : Nat)]) ∧ Recs w' a (parsA z).1) ∧ Ext w w') fun e w' ⟨h, he⟩ => ⟨parsA_of h, he⟩
          have HO := Lib.hid fun w => (ropen_any z w hsm).mono (R' := fun e w' => (∃ a ca, e = .returned (.tuple #[.agg #[.int .u64 ((opensA z).1 : Int), .int .u32 ((opensA z).2.1 : Int), .slice a (opensA z).2.2.1.length ca], .int .i64 ((opensA z).2.2.2 : Nat)]) ∧ Recs w' a (opensA z).2.2.1) ∧ Ext w w') fun e w' ⟨h, he⟩ => ⟨opensA_of h, he⟩
          have RO := Lib.hid fun w => (refopen_any z w hsm).mono (R' := fun e w' => (∃ a ca, e = .returned (.tuple #[.agg #[.int .u64 ((opensA z).1 : Int), .int .u32 ((opensA z).2.1 : Int), .slice a (opensA z).2.2.1.length ca], .int .i64 ((opensA z).2.2.2 : Nat)]) ∧ Recs w' a (opensA z).2.2.1) ∧ Ext w w') fun e w' ⟨h, he⟩ => ⟨opensA_of h, he⟩
          have hl1 := parsA_length z
          have hl2 := opensA_length z
          generalize (parsA z).1 = l1 at *
          generalize (parsA z).2 = E1 at *
          generalize (opensA z).2.2.1 = l2 at *
          generalize (opensA z).2.2.2 = E2 at *
          generalize (opensA z).2.1 = C at *
          generalize (opensA z).1 = Q0 at *
          go_wp2_with fail
          refine (HP.out _).mono ?_
          rintro e w7 ⟨⟨a7, c7, rfl, hr7⟩, he7⟩
          have HR7 := Lib.hid hr7
          clear hr7
          go_wp2_with fail
          refine (RP.out _).mono ?_
          rintro e w8 ⟨⟨a8, c8, rfl, hr8⟩, he8⟩
          have HR8 := Lib.hid hr8
          replace HR7 := Lib.hid (HR7.out.ext he8)
          clear hr8
          go_wp2_with fail
          refine (same_any l1 a7 a8 c7 c8 _ (by omega) HR7.out HR8.out).mono ?_
          rintro e w9 ⟨rfl, he9⟩
          clear HR7 HR8 HP RP
          go_wp2_with fail
          refine (HO.out _).mono ?_
          rintro e w10 ⟨⟨a10, c10, rfl, hr10⟩, he10⟩
          have r23 := RowIs.new w10 84 #[.int .u64 (Q0 : Int), .int .u32 (C : Int), .slice a10 l2.length c10]
          have hea := Ext.alloc w10 (.cells #[.int .u64 (Q0 : Int), .int .u32 (C : Int), .slice a10 l2.length c10] 84)
          have HR10 := Lib.hid (hr10.ext hea)
          clear hr10
          go_wp2_with fail
          refine (RO.out _).mono ?_
          rintro e w11 ⟨⟨a11, c11, rfl, hr11⟩, he11⟩
          replace r23 := r23.ext he11
          have r24 := RowIs.new w11 75 #[.int .u64 (Q0 : Int), .int .u32 (C : Int), .slice a11 l2.length c11]
          have heb := Ext.alloc w11 (.cells #[.int .u64 (Q0 : Int), .int .u32 (C : Int), .slice a11 l2.length c11] 75)
          replace r23 := r23.ext heb
          replace HR10 := Lib.hid (HR10.out.ext (he11.trans heb))
          have HR11 := Lib.hid (hr11.ext heb)
          have HX := Lib.hid (hex.trans (he7.trans (he8.trans (he9.trans (he10.trans (hea.trans (he11.trans heb)))))))
          clear hr11
          go_upto_region 22 with (fail)
          generalize w11.alloc (.cells #[.int .u64 (Q0 : Int), .int .u32 (C : Int), .slice a11 l2.length c11] 75) = w12 at *
          generalize w11.heap.size = D24 at *
          generalize w10.heap.size = D23 at *
          clear he7 he8 he9 he10 hea he11 heb hex HO RO
          have z2 := r23.cell 2 (.slice a10 l2.length c10) rfl
          have y2 := r24.cell 2 (.slice a11 l2.length c11) rfl
          go_wp2_with fail
          refine (same_any l2 a10 a11 c10 c11 _ (by omega) HR10.out HR11.out).mono ?_
          rintro e w13 ⟨rfl, he13⟩
          have z0 := (r23.ext he13).cell 0 (.int .u64 (Q0 : Int)) rfl
          have z1 := (r23.ext he13).cell 1 (.int .u32 (C : Int)) rfl
          have y0 := (r24.ext he13).cell 0 (.int .u64 (Q0 : Int)) rfl
          have y1 := (r24.ext he13).cell 1 (.int .u32 (C : Int)) rfl
          clear z2 y2
          go_wp2_with fail
          go_roundw
          case rel => exact ⟨j + 1, by omega, by go_num, HX.out.trans he13⟩
          case measure => simp [intOf]; omega
        · obtain rfl : j = 8 := by omega
          go_wp2_with fail
          refine (wakes12 _).mono ?_
          rintro e w8 ⟨rfl, he8⟩
          go_wp2_with fail
          go_ret
          exact ⟨rfl, he0.trans (HE.out.trans (hex.trans he8))⟩
end Go.Proofs.Ytemhflafiephpaa
