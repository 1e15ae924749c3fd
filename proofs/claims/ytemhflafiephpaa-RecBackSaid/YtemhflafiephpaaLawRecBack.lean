/- The walk of law12.RecBack. -/
import Derived.Test.YtemhflafiephpaaRecO
import Derived.Test.YtemhflafiephpaaOpenRecs
import Derived.Deep.DeepCutAuto
namespace Go.Proofs.Ytemhflafiephpaa
open Go.RowKit
theorem info_lupd : (Try.prog.info? 67).map (fun i => (i.zero, i.size, i.bytes)) = some (some (.agg #[.int .u8 0, .string ⟨#[]⟩, .string ⟨#[]⟩, .int .u64 0]), 4, 48) := by kernel_rfl
theorem recs_cuts {w : World} {a : Option Addr} {l : List Msg.Up} {ca : Nat} (hU : Recs w a l) (hcb : l.length ≤ ca) (hS : ∀ u ∈ l, FitU u ∧ ShortKey u) (n : Nat) :
    Recs w a (l.take n) ∧ (∀ u ∈ l.take n, FitU u ∧ ShortKey u) ∧ (l.take n).length ≤ n ∧ (l.take n).length ≤ ca := ⟨hU.take n, fun u hu => hS u (List.mem_of_mem_take hu), by rw [List.length_take]; omega, by rw [List.length_take]; omega⟩
set_option maxRecDepth 100000 in
set_option maxHeartbeats 8000000 in
theorem recBack_walk (q : Nat) (a : Option Addr) (l : List Msg.Up) (ca : Nat) (ct : Nat) (w : World) (hq : q < 18446744073709551616) (hU : Recs w a l) (hca : l.length ≤ ca ∧ ca ≤ maxLen) (hS : ∀ u ∈ l, FitU u ∧ ShortKey u) (hct : ct < 65536) :
    Calls Try.prog 11 #[.int .u64 (q : Int), .slice a l.length ca, .int .u16 (ct : Int)] w fun e w' => e = .returned (.bool true) ∧ Ext w w' := by
  unfold maxLen at hca
  obtain ⟨hcb, hcb2⟩ := hca
  have hUcM := recs_cuts hU hcb hS 10
  clear hU hS
  go_enter Try.func11, Try.ntmps11
  go_upto_region 2 with (fail)
  go_cut [27, 28, 29] (fun sl n i wr => ∃ L : List Msg.Up, sl = .slice a L.length ca ∧ n = .int .i64 L.length ∧ i = .int .i64 0 ∧ L.length ≤ 10 ∧ L.length ≤ ca ∧ Recs w a L ∧ (∀ u ∈ L, FitU u ∧ ShortKey u) ∧ wr = w)
  case first =>
    obtain ⟨q1, q2, q3, q4⟩ := hUcM
    have q5 : (l.take 10).length = min 10 l.length := List.length_take
    go_wp2_with fail
    all_goals go_meet
    all_goals exact ⟨l.take 10, by rw [q5]; congr 1; omega, by rw [q5]; congr 1; omega, rfl, q3, q4, q1, q2, rfl⟩
  obtain ⟨LM, rfl, rfl, rfl, hlM, hlcM, hUM, hSM, rfl⟩ := hcut
  clear hUcM
  have HUM := Lib.hid hUM; clear hUM
  have HSM := Lib.hid hSM; clear hSM
  go_wp2_with fail
  go_loopw [7, 29] (fun p i wx => ∃ acc : List Msg.Up, acc.length ≤ LM.length ∧ i = .int .i64 acc.length ∧ (∀ u ∈ acc, Rec.check u = 0 ∧ FitU u) ∧ OwnE 67 wx wc.heap.size p acc ∧ Ext wc wx) (fun _ i _ => LM.length - (intOf i).toNat)
  case atStart => exact ⟨[], by simp, rfl, fun u hu => by simp at hu, OwnE.nil _ _ _, Ext.refl _⟩
  case round =>
    obtain ⟨acc, hj, rfl, hfa, hown, hex⟩ := hrel
    have HFA := Lib.hid hfa; have HOW := Lib.hid hown
    clear hfa hown
    by_cases hlt : acc.length < LM.length
    · obtain ⟨b, o, hbo, hc0, hc1, hc2, hc3⟩ := (HUM.out.ext hex) acc.length hlt
      subst hbo
      have hfit := HSM.out LM[acc.length] (by simp)
      have hB2 : wc.heap.size ≤ wr.heap.size := hex.size
      have hal : acc.length ≤ 1000000 := by omega
      generalize LM[acc.length] = u at *
      obtain ⟨K, Y, V, D⟩ := u
      obtain ⟨⟨f1, f2, f3, f4⟩, f5⟩ := hfit
      unfold ShortKey at f5
      simp only at hc0 hc1 hc2 hc3 f1 f2 f3 f4 f5
      have htm := fun w => tame12_any K D Y V w f1 f4 f5 f3
      have HTM := Lib.hid htm
      clear htm
      go_wp2_with fail
      refine (HTM.out _).mono ?_
      rintro e w1 ⟨⟨K1, D1, Y1, V1, rfl, hck1, hft1⟩, he1⟩
      replace he1 := (Ext.alloc wr _).trans he1
      have HC1 := Lib.hid (And.intro hck1 hft1)
      have HO1 := Lib.hid (OwnE.ext HOW.out he1)
      have hB3 : wc.heap.size ≤ w1.heap.size := by have := he1.size; omega
      replace hex := hex.trans he1
      clear hck1 hft1 hc0 hc1 hc2 hc3 HOW HTM he1
      go_wp2_with (at_builtin; refine wpl_upd2 Try.underlying55 info_lupd rfl _ _ rfl rfl HO1.out hB3 hal rfl K1 D1 Y1 V1 ?_; intro v7 w7 ho7 hb7 _ _; have HO7 := Lib.hid ho7; have HB7 := Lib.hid hb7; clear ho7 hb7)
      go_roundw
      case rel =>
        refine ⟨acc ++ [⟨K1, Y1, V1, D1⟩], by rw [List.length_append]; simp; omega, by rw [List.length_append]; go_num, fun u hu => ?_, HO7.out, Below.trans hex HB7.out⟩
        rcases List.mem_append.1 hu with hu | hu
        · exact HFA.out u hu
        · obtain rfl := List.mem_singleton.1 hu
          exact HC1.out
      case measure => simp [intOf]; omega
    · have hM10 : acc.length ≤ 10 := by omega
      have hMr : LM.length = acc.length := by omega
      clear hj hlt hlM hlcM HUM HSM
      obtain ⟨a0, c0, rfl, hc0, _, hR0⟩ := own_recs HOW.out
      have hof := of_any acc a0 c0 wr hc0 hR0 fun u hu => (HFA.out u hu).2
      rw [cutL_same (by omega) fun u hu => (HFA.out u hu).1] at hof
      have htx := fun a c w' (h : Recs w' a acc) => text_any acc a c w' (by omega) h fun u hu => (HFA.out u hu).2
      rw [Rec.text_ok fun u hu => (HFA.out u hu).1] at htx
      have hsp := fun w' => rparse_any ⟨(acc.flatMap Rec.bytes).toArray⟩ w' (by
        have h1 := text_le acc
        rw [Rec.text_ok fun u hu => (HFA.out u hu).1] at h1
        have h2 : (⟨(acc.flatMap Rec.bytes).toArray⟩ : ByteArray).size = (acc.flatMap Rec.bytes).length := List.size_toArray
        simp only at h1
        omega)
      rw [Rec.parse_text HFA.out] at hsp
      obtain ⟨c, hcd⟩ : ∃ c : Nat, q / 512 % 4294967296 = c := ⟨_, rfl⟩
      have hcl : c < 4294967296 := by omega
      have hpy := fun a ca w' (h : Recs w' a acc) => payload_any q c acc a ca w' hq hcl (by omega) h fun u hu => (HFA.out u hu).2
      rw [Rec.text_ok fun u hu => (HFA.out u hu).1] at hpy
      have hps := payR_size q c acc
      have hpg := payR_ge (q := q) (c := c) HFA.out
      have hop := fun w' => ropen_any (payR q c acc) w' (by omega)
      rw [opens_ok hq hcl (by omega) HFA.out] at hop
      have hop2 := fun n (hn : n < (payR q c acc).size) w' => ropen_any ((payR q c acc).extract 0 n) w' (by simp; omega)
      have hop3 := fun n (hn : n < (payR q c acc).size) => opens_part (q := q) (c := c) hq hcl (by omega) HFA.out hn
      generalize payR q c acc = P at *
      generalize (⟨(acc.flatMap Rec.bytes).toArray⟩ : ByteArray) = T at *
      simp only at htx hpy
      have HOF := Lib.hid hof; have HTX := Lib.hid htx; have HSP := Lib.hid hsp; have HPY := Lib.hid hpy; have HOP := Lib.hid hop; have HOP2 := Lib.hid hop2; have HOP3 := Lib.hid hop3; have HCD := Lib.hid hcd
      clear hof htx hsp hpy hop hop2 hop3 hcd hR0 HOW hc0
      go_wp2_with fail
      refine HOF.out.mono ?_
      rintro e w1 ⟨⟨v1, v2, rfl, ho1, ho2⟩, he1⟩
      obtain ⟨a1, c1, rfl, _, _, hR1⟩ := own_recs ho1
      obtain ⟨a2, c2, rfl, _, _, hR2⟩ := own_recs ho2
      have HR1 := Lib.hid hR1; have HR2 := Lib.hid hR2
      clear ho1 ho2 hR1 hR2 HOF
      go_wp2_with fail
      refine (HTX.out _ _ _ HR1.out).mono ?_
      rintro e w2 ⟨rfl, he2⟩
      go_wp2_with fail
      refine (HSP.out _).mono ?_
      rintro e w3 ⟨⟨v3, rfl, ho3, _⟩, he3⟩
      obtain ⟨a3, c3, rfl, _, _, hR3⟩ := own_recs ho3
      have HR3 := Lib.hid hR3
      clear ho3 hR3
      have hci : (q : Int) / 512 % 4294967296 = (c : Int) := by have := HCD.out; omega
      obtain ⟨n, hn, hnl⟩ : ∃ n : Nat, (ct : Int).tmod (P.size : Int) = n ∧ n < P.size := ⟨ct % P.size, by rw [Int.tmod_eq_emod_of_nonneg (by omega)]; omega, Nat.mod_lt _ (by omega)⟩
      have hni : (n : Int) ≤ (P.size : Int) := by omega
      have hp2 := fun w' => HOP2.out n hnl w'
      rw [HOP3.out n hnl] at hp2
      have HP2 := Lib.hid hp2; have HN := Lib.hid hn
      clear hp2 hn HOP2 HOP3 HCD
      go_upto_region 11 with (fail)
      rw [hci]
      have r16 := RowIs.new w3 84 #[.int .u64 (q : Int), .int .u32 (c : Int), .slice a1 acc.length c1]
      have he4 := Ext.alloc w3 (.cells #[.int .u64 (q : Int), .int .u32 (c : Int), .slice a1 acc.length c1] 84)
      generalize w3.alloc (.cells #[.int .u64 (q : Int), .int .u32 (c : Int), .slice a1 acc.length c1] 84) = w4 at *
      generalize w3.heap.size = D16 at *
      replace HR1 := Lib.hid (HR1.out.ext (he2.trans (he3.trans he4)))
      replace HR2 := Lib.hid (HR2.out.ext (he2.trans (he3.trans he4)))
      replace HR3 := Lib.hid (HR3.out.ext he4)
      have HE := Lib.hid (hex.trans (he1.trans (he2.trans (he3.trans he4))))
      clear hex he1 he2 he3 he4 hci
      have k0 := r16.cell 0 (.int .u64 (q : Int)) rfl
      have k1 := r16.cell 1 (.int .u32 (c : Int)) rfl
      have k2 := r16.cell 2 (.slice a1 acc.length c1) rfl
      go_wp2_with fail
      refine (HPY.out _ _ _ HR1.out).mono ?_
      rintro e w5 ⟨rfl, he5⟩
      go_wp2_with fail
      refine (HOP.out _).mono ?_
      rintro e w6 ⟨⟨a5, c5, rfl, hR5⟩, he6⟩
      go_upto_region 13 with (fail)
      have r19 := RowIs.new w6 84 #[.int .u64 (q : Int), .int .u32 (c : Int), .slice a5 acc.length c5]
      have he7 := Ext.alloc w6 (.cells #[.int .u64 (q : Int), .int .u32 (c : Int), .slice a5 acc.length c5] 84)
      generalize w6.alloc (.cells #[.int .u64 (q : Int), .int .u32 (c : Int), .slice a5 acc.length c5] 84) = w7 at *
      generalize w6.heap.size = D19 at *
      replace r16 := r16.ext (he5.trans (he6.trans he7))
      replace HR2 := Lib.hid (HR2.out.ext (he5.trans (he6.trans he7)))
      replace HR3 := Lib.hid (HR3.out.ext (he5.trans (he6.trans he7)))
      have HR5 := Lib.hid (hR5.ext he7)
      replace HE := Lib.hid (HE.out.trans (he5.trans (he6.trans he7)))
      clear he5 he6 he7 hR5 HR1 k0 k1 k2 HPY HOP HTX HSP
      go_wp2_with fail
      refine (wakes12 _).mono ?_
      rintro e w8 ⟨rfl, he8⟩
      replace HR2 := Lib.hid (HR2.out.ext he8)
      replace HR3 := Lib.hid (HR3.out.ext he8)
      replace HR5 := Lib.hid (HR5.out.ext he8)
      go_wp2_with fail
      refine (same_any acc a3 a2 c3 c2 _ (by omega) HR3.out HR2.out).mono ?_
      rintro e w9 ⟨rfl, he9⟩
      replace HR2 := Lib.hid (HR2.out.ext he9)
      replace HR5 := Lib.hid (HR5.out.ext he9)
      have r19' := r19.ext (he8.trans he9)
      have z2 := r19'.cell 2 (.slice a5 acc.length c5) rfl
      go_wp2_with fail
      refine (same_any acc a5 a2 c5 c2 _ (by omega) HR5.out HR2.out).mono ?_
      rintro e w10 ⟨rfl, he10⟩
      have he11 := he8.trans (he9.trans he10)
      have z0 := (r19.ext he11).cell 0 (.int .u64 (q : Int)) rfl
      have z1 := (r19.ext he11).cell 1 (.int .u32 (c : Int)) rfl
      have k1 := (r16.ext he11).cell 1 (.int .u32 (c : Int)) rfl
      clear z2 HR2 HR3 HR5 r19' r19 r16
      have hpz : (P.size == 0) = false := beq_eq_false_iff_ne.2 (by omega)
      have hpz2 : ((P.size : Int) == 0) = false := beq_eq_false_iff_ne.2 (by omega)
      have hn := HN.out
      go_wp2_with fail
      refine (HP2.out _).mono ?_
      rintro e w12 ⟨rfl, he12⟩
      go_wp2_with fail
      go_ret
      exact ⟨rfl, HE.out.trans (he11.trans (he12.trans (Ext.alloc _ _)))⟩
end Go.Proofs.Ytemhflafiephpaa
