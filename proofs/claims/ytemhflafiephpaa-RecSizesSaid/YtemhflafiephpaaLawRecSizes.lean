/- The walk of law12.RecSizes. -/
import Derived.Test.YtemhflafiephpaaRecP
import Derived.Test.YtemhflafiephpaaOpenRecs
import Derived.Deep.DeepCutAuto
namespace Go.Proofs.Ytemhflafiephpaa
open Go.RowKit
theorem info_lupd : (Try.prog.info? 67).map (fun i => (i.zero, i.size, i.bytes)) = some (some (.agg #[.int .u8 0, .string ⟨#[]⟩, .string ⟨#[]⟩, .int .u64 0]), 4, 48) := by kernel_rfl
theorem recs_cuts {w : World} {a : Option Addr} {l : List Msg.Up} {ca : Nat} (hU : Recs w a l) (hcb : l.length ≤ ca) (hS : ∀ u ∈ l, FitU u ∧ ShortKey u) (n : Nat) :
    Recs w a (l.take n) ∧ (∀ u ∈ l.take n, FitU u ∧ ShortKey u) ∧ (l.take n).length ≤ n ∧ (l.take n).length ≤ ca := ⟨hU.take n, fun u hu => hS u (List.mem_of_mem_take hu), by rw [List.length_take]; omega, by rw [List.length_take]; omega⟩
def bsum (l : List Msg.Up) : Nat := (l.flatMap Rec.bytes).length
theorem bsum_step (l : List Msg.Up) (j : Nat) (h : j < l.length) : bsum (l.take (j + 1)) = bsum (l.take j) + (Rec.bytes l[j]).length := by
  unfold bsum
  rw [List.take_add_one, List.getElem?_eq_getElem h, List.flatMap_append, List.length_append]
  simp
theorem bsum_le {l : List Msg.Up} (h : ∀ u ∈ l, Rec.check u = 0) (hl : l.length ≤ 12) : bsum l < 1000000 := by
  have h1 := text_le l
  rw [Rec.text_ok h] at h1
  unfold bsum
  simp only at h1
  omega
theorem bytes_cat (l k : List Msg.Up) : (⟨((l ++ k).flatMap Rec.bytes).toArray⟩ : ByteArray) = ⟨(l.flatMap Rec.bytes).toArray⟩ ++ ⟨(k.flatMap Rec.bytes).toArray⟩ := by
  rw [List.flatMap_append]
  exact (append_list _ _).symm
set_option maxRecDepth 100000 in
set_option maxHeartbeats 8000000 in
theorem recSizes_walk (a : Option Addr) (l : List Msg.Up) (ca : Nat) (a9 : Option Addr) (l9 : List Msg.Up) (ca9 : Nat) (w : World) (hU : Recs w a l) (hca : l.length ≤ ca ∧ ca ≤ maxLen) (hS : ∀ u ∈ l, FitU u ∧ ShortKey u)
    (hU9 : Recs w a9 l9) (hca9 : l9.length ≤ ca9 ∧ ca9 ≤ maxLen) (hS9 : ∀ u ∈ l9, FitU u ∧ ShortKey u) :
    Calls Try.prog 9 #[.slice a l.length ca, .slice a9 l9.length ca9] w fun e w' => e = .returned (.bool true) ∧ Ext w w' := by
  unfold maxLen at hca hca9
  obtain ⟨hcb, hcb2⟩ := hca
  obtain ⟨hcb9, hcb92⟩ := hca9
  have HU9 := Lib.hid hU9; have HS9 := Lib.hid hS9
  clear hU9 hS9
  have hUcM := recs_cuts hU hcb hS 8
  clear hU hS
  go_enter Try.func9, Try.ntmps9
  go_upto_region 2 with (fail)
  go_cut [28, 29, 30] (fun sl n i wr => ∃ L : List Msg.Up, sl = .slice a L.length ca ∧ n = .int .i64 L.length ∧ i = .int .i64 0 ∧ L.length ≤ 8 ∧ L.length ≤ ca ∧ Recs w a L ∧ (∀ u ∈ L, FitU u ∧ ShortKey u) ∧ wr = w)
  case first =>
    obtain ⟨q1, q2, q3, q4⟩ := hUcM
    have q5 : (l.take 8).length = min 8 l.length := List.length_take
    go_wp2_with fail
    all_goals go_meet
    all_goals exact ⟨l.take 8, by rw [q5]; congr 1; omega, by rw [q5]; congr 1; omega, rfl, q3, q4, q1, q2, rfl⟩
  obtain ⟨LM, rfl, rfl, rfl, hlM, hlcM, hUM, hSM, rfl⟩ := hcut
  clear hUcM
  have HUM := Lib.hid hUM; clear hUM
  have HSM := Lib.hid hSM; clear hSM
  go_wp2_with fail
  go_loopw [5, 30] (fun p i wx => ∃ acc : List Msg.Up, acc.length ≤ LM.length ∧ i = .int .i64 acc.length ∧ (∀ u ∈ acc, Rec.check u = 0 ∧ FitU u) ∧ OwnE 67 wx wc.heap.size p acc ∧ Ext wc wx) (fun _ i _ => LM.length - (intOf i).toNat)
  case atStart => exact ⟨[], by simp, rfl, fun u hu => by simp at hu, OwnE.nil _ _ _, Ext.refl _⟩
  case round =>
    obtain ⟨acc, hj, rfl, hfa, hown, hex⟩ := hrel
    have HFA := Lib.hid hfa; have HOW := Lib.hid hown
    clear hfa hown
    by_cases hlt : acc.length < LM.length
    · obtain ⟨b, o, hbo, hc0, hc1, hc2, hc3⟩ := (HUM.out.ext hex) acc.length hlt
      subst hbo
      have hfit := HSM.out LM[acc.length] (by simp)
      have hB2 : wc.heap.size ≤ wr.heap.size := hex.size
      have hal : acc.length ≤ 1000000 := by omega
      generalize LM[acc.length] = u at *
      obtain ⟨K, Y, V, D⟩ := u
      obtain ⟨⟨f1, f2, f3, f4⟩, f5⟩ := hfit
      unfold ShortKey at f5
      simp only at hc0 hc1 hc2 hc3 f1 f2 f3 f4 f5
      have htm := fun w => tame12_any K D Y V w f1 f4 f5 f3
      have HTM := Lib.hid htm
      clear htm
      go_wp2_with fail
      refine (HTM.out _).mono ?_
      rintro e w1 ⟨⟨K1, D1, Y1, V1, rfl, hck1, hft1⟩, he1⟩
      replace he1 := (Ext.alloc wr _).trans he1
      have HC1 := Lib.hid (And.intro hck1 hft1)
      have HO1 := Lib.hid (OwnE.ext HOW.out he1)
      have hB3 : wc.heap.size ≤ w1.heap.size := by have := he1.size; omega
      replace hex := hex.trans he1
      clear hck1 hft1 hc0 hc1 hc2 hc3 HOW HTM he1
      go_wp2_with (at_builtin; refine wpl_upd2 Try.underlying55 info_lupd rfl _ _ rfl rfl HO1.out hB3 hal rfl K1 D1 Y1 V1 ?_; intro v7 w7 ho7 hb7 _ _; have HO7 := Lib.hid ho7; have HB7 := Lib.hid hb7; clear ho7 hb7)
      go_roundw
      case rel =>
        refine ⟨acc ++ [⟨K1, Y1, V1, D1⟩], by rw [List.length_append]; simp; omega, by rw [List.length_append]; go_num, fun u hu => ?_, HO7.out, Below.trans hex HB7.out⟩
        rcases List.mem_append.1 hu with hu | hu
        · exact HFA.out u hu
        · obtain rfl := List.mem_singleton.1 hu
          exact HC1.out
      case measure => simp [intOf]; omega
    · have hM8 : acc.length ≤ 8 := by omega
      have hMr : LM.length = acc.length := by omega
      clear hj hlt hlM hlcM HUM HSM
      obtain ⟨m1, rfl⟩ : ∃ m1, m1 = acc := ⟨_, rfl⟩
      obtain ⟨w0, rfl⟩ : ∃ w0, w0 = wc := ⟨_, rfl⟩
      obtain ⟨w1, rfl⟩ : ∃ w1, w1 = wr := ⟨_, rfl⟩
      have HEX := Lib.hid hex
      have HFA1 := Lib.hid HFA.out
      obtain ⟨p1, d1, rfl, hd1, _, hR1⟩ := own_recs HOW.out
      have HR0 := Lib.hid hR1; have HD1 := Lib.hid hd1
      clear hR1 hd1
      have hU9 := HU9.out.ext hex
      have hS9 := HS9.out
      clear hex HFA HOW HU9 HS9
      have hUcK := recs_cuts hU9 hcb9 hS9 4
      clear hU9 hS9
      go_upto_region 7 with (fail)
      go_cut [44, 45, 46] (fun sl n i wr => ∃ L : List Msg.Up, sl = .slice a9 L.length ca9 ∧ n = .int .i64 L.length ∧ i = .int .i64 0 ∧ L.length ≤ 4 ∧ L.length ≤ ca9 ∧ Recs w1 a9 L ∧ (∀ u ∈ L, FitU u ∧ ShortKey u) ∧ wr = w1)
      case first =>
        obtain ⟨q1, q2, q3, q4⟩ := hUcK
        have q5 : (l9.take 4).length = min 4 l9.length := List.length_take
        go_wp2_with fail
        all_goals go_meet
        all_goals exact ⟨l9.take 4, by rw [q5]; congr 1; omega, by rw [q5]; congr 1; omega, rfl, q3, q4, q1, q2, rfl⟩
      obtain ⟨LK, rfl, rfl, rfl, hlK, hlcK, hUK, hSK, rfl⟩ := hcut
      clear hUcK hMr
      have HUK := Lib.hid hUK; clear hUK
      have HSK := Lib.hid hSK; clear hSK
      go_wp2_with fail
      go_loopw [6, 46] (fun p i wx => ∃ acc : List Msg.Up, acc.length ≤ LK.length ∧ i = .int .i64 acc.length ∧ (∀ u ∈ acc, Rec.check u = 0 ∧ FitU u) ∧ OwnE 67 wx wc.heap.size p acc ∧ Ext wc wx) (fun _ i _ => LK.length - (intOf i).toNat)
      case atStart => exact ⟨[], by simp, rfl, fun u hu => by simp at hu, OwnE.nil _ _ _, Ext.refl _⟩
      case round =>
        obtain ⟨acc, hj, rfl, hfa, hown, hex⟩ := hrel
        have HFA := Lib.hid hfa; have HOW := Lib.hid hown
        clear hfa hown
        by_cases hlt : acc.length < LK.length
        · obtain ⟨b, o, hbo, hc0, hc1, hc2, hc3⟩ := (HUK.out.ext hex) acc.length hlt
          subst hbo
          have hfit := HSK.out LK[acc.length] (by simp)
          have hB2 : wc.heap.size ≤ wr.heap.size := hex.size
          have hal : acc.length ≤ 1000000 := by omega
          generalize LK[acc.length] = u at *
          obtain ⟨K, Y, V, D⟩ := u
          obtain ⟨⟨f1, f2, f3, f4⟩, f5⟩ := hfit
          unfold ShortKey at f5
          simp only at hc0 hc1 hc2 hc3 f1 f2 f3 f4 f5
          have htm := fun w => tame12_any K D Y V w f1 f4 f5 f3
          have HTM := Lib.hid htm
          clear htm
          go_wp2_with fail
          refine (HTM.out _).mono ?_
          rintro e w1 ⟨⟨K1, D1, Y1, V1, rfl, hck1, hft1⟩, he1⟩
          replace he1 := (Ext.alloc wr _).trans he1
          have HC1 := Lib.hid (And.intro hck1 hft1)
          have HO1 := Lib.hid (OwnE.ext HOW.out he1)
          have hB3 : wc.heap.size ≤ w1.heap.size := by have := he1.size; omega
          replace hex := hex.trans he1
          clear hck1 hft1 hc0 hc1 hc2 hc3 HOW HTM he1
          go_wp2_with (at_builtin; refine wpl_upd2 Try.underlying55 info_lupd rfl _ _ rfl rfl HO1.out hB3 hal rfl K1 D1 Y1 V1 ?_; intro v7 w7 ho7 hb7 _ _; have HO7 := Lib.hid ho7; have HB7 := Lib.hid hb7; clear ho7 hb7)
          go_roundw
          case rel =>
            refine ⟨acc ++ [⟨K1, Y1, V1, D1⟩], by rw [List.length_append]; simp; omega, by rw [List.length_append]; go_num, fun u hu => ?_, HO7.out, Below.trans hex HB7.out⟩
            rcases List.mem_append.1 hu with hu | hu
            · exact HFA.out u hu
            · obtain rfl := List.mem_singleton.1 hu
              exact HC1.out
          case measure => simp [intOf]; omega
        · have hM4 : acc.length ≤ 4 := by omega
          have hMr4 : LK.length = acc.length := by omega
          clear hj hlt hlK hlcK HUK HSK
          obtain ⟨m2, rfl⟩ : ∃ m2, m2 = acc := ⟨_, rfl⟩
          have hex0 := HEX.out.trans hex
          have hR1 := HR0.out.ext hex
          have hd1 := HD1.out
          obtain ⟨p2, d2, rfl, hd2, _, hR2⟩ := own_recs HOW.out
          have hc1 := fun u hu => (HFA1.out u hu).1
          have hc2 := fun u hu => (HFA.out u hu).1
          have hf1 := fun u hu => (HFA1.out u hu).2
          have hf2 := fun u hu => (HFA.out u hu).2
          have hof1 := of_any m1 p1 d1 wr hd1 hR1 hf1
          have hof2 := fun w' e => of_any m2 p2 d2 w' hd2 (hR2.ext e) hf2
          rw [cutL_same (by omega) hc1] at hof1
          rw [cutL_same (by omega) hc2] at hof2
          have ht1 := fun a c w' (h : Recs w' a m1) => text_any m1 a c w' (by omega) h hf1
          have ht2 := fun a c w' (h : Recs w' a m2) => text_any m2 a c w' (by omega) h hf2
          have hc12 : ∀ u ∈ m1 ++ m2, Rec.check u = 0 := fun u hu => (List.mem_append.1 hu).elim (hc1 u) (hc2 u)
          have hf12 : ∀ u ∈ m1 ++ m2, FitU u := fun u hu => (List.mem_append.1 hu).elim (hf1 u) (hf2 u)
          have ht3 := fun a c w' (h : Recs w' a (m1 ++ m2)) => text_any (m1 ++ m2) a c w' (by rw [List.length_append]; omega) h hf12
          rw [Rec.text_ok hc1] at ht1
          rw [Rec.text_ok hc2] at ht2
          rw [Rec.text_ok hc12] at ht3
          simp only [bytes_cat] at ht1 ht2 ht3
          simp only [List.length_append] at ht3
          have hsz : (⟨(m1.flatMap Rec.bytes).toArray⟩ : ByteArray).size = bsum m1 := List.size_toArray
          have hbl := bsum_le hc1 (by omega)
          have hTb : (⟨(m1.flatMap Rec.bytes).toArray⟩ : ByteArray).size + (⟨(m2.flatMap Rec.bytes).toArray⟩ : ByteArray).size < 2000000 := by
            have h1 := bsum_le hc2 (by omega)
            have h2 : (⟨(m2.flatMap Rec.bytes).toArray⟩ : ByteArray).size = bsum m2 := List.size_toArray
            omega
          generalize (⟨(m1.flatMap Rec.bytes).toArray⟩ : ByteArray) = T1 at *
          generalize (⟨(m2.flatMap Rec.bytes).toArray⟩ : ByteArray) = T2 at *
          obtain ⟨T3, hT3⟩ : ∃ T3, T1 ++ T2 = T3 := ⟨_, rfl⟩
          rw [hT3] at ht3
          have HT3 := Lib.hid hT3
          have HC1 := Lib.hid (And.intro hc1 hf1)
          have HOF1 := Lib.hid hof1; have HOF2 := Lib.hid hof2; have HX1 := Lib.hid ht1; have HX2 := Lib.hid ht2; have HX3 := Lib.hid ht3; have HSZ := Lib.hid hsz
          clear hT3 hsz hof1 hof2 ht1 ht2 ht3 hc1 hc2 hf1 hf2 hc12 hf12 hR1 hR2 HOW HR0 HD1 hd1 hd2 HFA HFA1 HEX
          go_wp2_with fail
          refine HOF1.out.mono ?_
          rintro e w2 ⟨⟨v1, v2, rfl, ho1, _⟩, he1⟩
          obtain ⟨a1, c1, rfl, ⟨hk1, hk1'⟩, _, hR1⟩ := own_recs ho1
          have HR1 := Lib.hid hR1
          clear ho1 hR1 HOF1
          go_wp2_with fail
          refine (HOF2.out _ he1).mono ?_
          rintro e w3 ⟨⟨v3, v4, rfl, ho2, _⟩, he2⟩
          obtain ⟨a2, c2, rfl, ⟨hk2, hk2'⟩, _, hR2⟩ := own_recs ho2
          have HR2 := Lib.hid hR2
          unfold maxLen at hk1' hk2'
          replace HR1 := Lib.hid (HR1.out.ext he2)
          clear ho2 hR2 HOF2
          go_wp2_with fail
          refine (HX1.out _ _ _ HR1.out).mono ?_
          rintro e w4 ⟨rfl, he3⟩
          replace HR1 := Lib.hid (HR1.out.ext he3)
          replace HR2 := Lib.hid (HR2.out.ext he3)
          go_wp2_with fail
          refine (HX2.out _ _ _ HR2.out).mono ?_
          rintro e w5 ⟨rfl, he4⟩
          replace HR1 := Lib.hid (HR1.out.ext he4)
          replace HR2 := Lib.hid (HR2.out.ext he4)
          go_wp2_with (at_builtin; refine wpl_cat (l := m1) (m := m2) (n := m1.length) (k := m2.length) (c := c2) (p := a1) (q := a2) rfl (.tmp 82) (.tmp 83) rfl rfl rfl rfl rfl (by omega) (by omega) HR1.out HR2.out ?_; rintro v7 w7 ⟨p7, c7, rfl, hr7⟩ he7; have HR7 := Lib.hid hr7; have HE7 := Lib.hid he7; clear hr7 he7)
          refine (HX3.out _ _ _ HR7.out).mono ?_
          rintro e w8 ⟨rfl, he8⟩
          replace HR1 := Lib.hid (HR1.out.ext (HE7.out.trans he8))
          have HE := Lib.hid (hex0.trans (he1.trans (he2.trans (he3.trans (he4.trans (HE7.out.trans he8))))))
          clear hex0 he1 he2 he3 he4 HE7 he8 HR7 HR2 HX1 HX2 HX3 hex
          clear hMr4
          go_wp2_with fail
          go_loopw [90, 21] (fun i s wx => ∃ j : Nat, j ≤ m1.length ∧ i = .int .i64 j ∧ s = .int .i64 (bsum (m1.take j)) ∧ Ext w8 wx) (fun i _ _ => m1.length - (intOf i).toNat)
          case atStart => exact ⟨0, by omega, rfl, by simp [bsum], Ext.refl _⟩
          case round =>
            obtain ⟨j, hj, rfl, rfl, hex⟩ := hrel
            by_cases hlt : j < m1.length
            · obtain ⟨b1, o1, rfl, hc0, hc1, hc2, hc3⟩ := (HR1.out.ext hex) j hlt
              have hfu := HC1.out.2 m1[j] (by simp)
              have hcu := HC1.out.1 m1[j] (by simp)
              have hst := bsum_step m1 j hlt
              have hbs : bsum (m1.take j) < 1000000 := bsum_le (fun u hu => HC1.out.1 u (List.mem_of_mem_take hu)) (by rw [List.length_take]; omega)
              have hbt : bsum (m1.take (j + 1)) < 1000000 := bsum_le (fun u hu => HC1.out.1 u (List.mem_of_mem_take hu)) (by rw [List.length_take]; omega)
              generalize m1[j] = u at *
              obtain ⟨K, Y, V, D⟩ := u
              obtain ⟨f1, f2, f3, f4⟩ := hfu
              simp only at hc0 hc1 hc2 hc3 f1 f2 f3 f4
              have hck := fun w => check_any K D Y V w f1 f4 f2 f3
              have hsz := fun w => usize_any K D Y V w f1 f4 f2 f3
              simp only [hcu, if_true] at hck hsz
              have HCK := Lib.hid hck; have HSZ2 := Lib.hid hsz; have HST := Lib.hid hst
              clear hck hsz hcu
              rw [hst] at hbt
              clear hst
              generalize (Rec.bytes ⟨K, Y, V, D⟩).length = N1 at *
              generalize bsum (m1.take j) = S1 at *
              go_wp2_with fail
              refine (HCK.out _).mono ?_
              rintro e w9 ⟨rfl, he9⟩
              have x0 := cell_ext (World.cell?_alloc_new wr #[.int .u8 (K : Int), .string Y, .string V, .int .u64 (D : Int)] 37 0) he9
              have x1 := cell_ext (World.cell?_alloc_new wr #[.int .u8 (K : Int), .string Y, .string V, .int .u64 (D : Int)] 37 1) he9
              have x2 := cell_ext (World.cell?_alloc_new wr #[.int .u8 (K : Int), .string Y, .string V, .int .u64 (D : Int)] 37 2) he9
              have x3 := cell_ext (World.cell?_alloc_new wr #[.int .u8 (K : Int), .string Y, .string V, .int .u64 (D : Int)] 37 3) he9
              go_wp2_with fail
              refine (HSZ2.out _).mono ?_
              rintro e w10 ⟨rfl, he10⟩
              go_wp2_with fail
              go_roundw
              case rel => exact ⟨j + 1, by omega, by go_num, by rw [HST.out]; go_num, hex.trans ((Ext.alloc _ _).trans (he9.trans he10))⟩
              case measure => simp [intOf]; omega
            · obtain rfl : j = m1.length := by omega
              rw [List.take_length] at *
              rw [← HSZ.out]
              go_wp2_with fail
              refine (wakes12 _).mono ?_
              rintro e w9 ⟨rfl, he9⟩
              have hT := HT3.out
              subst hT
              go_wp2_with fail
              go_ret
              exact ⟨rfl, HE.out.trans (hex.trans he9)⟩
end Go.Proofs.Ytemhflafiephpaa
