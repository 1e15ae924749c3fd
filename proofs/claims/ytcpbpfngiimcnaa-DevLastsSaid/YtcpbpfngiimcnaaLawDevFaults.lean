/- The walk of law03.DevFaults. -/
import Derived.Test.YtcpbpfngiimcnaaDevL
import Derived.Test.YtcpbpfngiimcnaaDevM
import Derived.Test.YtcpbpfngiimcnaaOpenFaults
namespace Go.Proofs.Ytcpbpfngiimcnaa
open Go.RowKit
theorem PD.size {w : World} {B b m q : Nat} {d : Dev.St} (h : PD w B b m q d) : B ≤ w.heap.size := by
  obtain ⟨⟨cv, hr, _⟩, _, _, _, hl⟩ := h
  have := hr.lt
  omega
theorem tmod9 (x : Nat) : ∃ n : Nat, (x : Int).tmod 9 = (n : Int) ∧ n < 9 := ⟨x % 9, by rw [Int.tmod_eq_emod_of_nonneg (by omega)]; omega, Nat.mod_lt _ (by omega)⟩
theorem tmod3 (x : Nat) : (x : Int).tmod 3 = 0 ∨ (x : Int).tmod 3 = 1 ∨ (x : Int).tmod 3 = 2 := by rw [Int.tmod_eq_emod_of_nonneg (by omega)]; omega
theorem ints_cuts {w : World} {a : Option Addr} {l : List Int} {ca : Nat} (hI : IntsOf .u8 w a l) (hcb : l.length ≤ ca) (hS : ∀ u ∈ l, 0 ≤ u ∧ u < 256) (n : Nat) :
    IntsOf .u8 w a (l.take n) ∧ (∀ u ∈ l.take n, 0 ≤ u ∧ u < 256) ∧ (l.take n).length ≤ n ∧ (l.take n).length ≤ ca := ⟨hI.take n, fun u hu => hS u (List.mem_of_mem_take hu), by rw [List.length_take]; omega, by rw [List.length_take]; omega⟩
set_option maxRecDepth 100000 in
set_option maxHeartbeats 12000000 in
theorem devFaults_walk (x y z : Nat) (a : Option Addr) (al : List Int) (ca : Nat) (w : World) (hx : x < 256) (hy : y < 256) (hz : z < 256) (hI : IntsOf .u8 w a al) (hca : al.length ≤ ca ∧ ca ≤ maxLen) (hS : ∀ u ∈ al, 0 ≤ u ∧ u < 256) :
    Calls Try.prog 4 #[.agg #[.int .u8 (x : Int), .int .u8 (y : Int), .int .u8 (z : Int), .slice a al.length ca]] w fun e w' => e = .returned (.bool true) ∧ Ext w w' := by
  unfold maxLen at hca
  obtain ⟨hcb, hcb2⟩ := hca
  have hUc := ints_cuts hI hcb hS 20
  clear hI hS
  have hfo := fun w => full_any ⟨#[111, 108, 100]⟩ w (by decide)
  have hfl := fun w => full_any ⟨#[108, 111, 115, 116]⟩ w (by decide)
  have hfs := fun w => full_any ⟨#[115, 116, 114, 97, 121, 115]⟩ w (by decide)
  have hfb := fun w => full_any ⟨#[98]⟩ w (by decide)
  have hfx := fun w => full_any ⟨#[120]⟩ w (by decide)
  have so := fullT_size ⟨#[111, 108, 100]⟩
  have sl := fullT_size ⟨#[108, 111, 115, 116]⟩
  have ss := fullT_size ⟨#[115, 116, 114, 97, 121, 115]⟩
  have sb := fullT_size ⟨#[98]⟩
  have sx := fullT_size ⟨#[120]⟩
  generalize fullT ⟨#[111, 108, 100]⟩ = fo at *
  generalize fullT ⟨#[108, 111, 115, 116]⟩ = fl at *
  generalize fullT ⟨#[115, 116, 114, 97, 121, 115]⟩ = fs at *
  generalize fullT ⟨#[98]⟩ = fb at *
  generalize fullT ⟨#[120]⟩ = fx at *
  have HFO := Lib.hid hfo; have HFL := Lib.hid hfl; have HFS := Lib.hid hfs; have HFB := Lib.hid hfb; have HFX := Lib.hid hfx; have HUC := Lib.hid hUc
  clear hfo hfl hfs hfb hfx hUc
  obtain ⟨b, hb, hb9⟩ := tmod9 x
  obtain ⟨l, hl, hl9⟩ := tmod9 y
  obtain ⟨t, ht, ht9⟩ := tmod9 z
  have wx : IntKind.i64.wrap (x : Int) = (x : Int) := by rw [IntKind.wrap_i64]; omega
  have wy : IntKind.i64.wrap (y : Int) = (y : Int) := by rw [IntKind.wrap_i64]; omega
  have wz : IntKind.i64.wrap (z : Int) = (z : Int) := by rw [IntKind.wrap_i64]; omega
  go_enter Try.func4, Try.ntmps4
  go_upto_region 2 with (fail)
  have c0 := World.cell?_alloc_new w #[.int .u8 (x : Int), .int .u8 (y : Int), .int .u8 (z : Int), .slice a al.length ca] 44 0
  have c1 := World.cell?_alloc_new w #[.int .u8 (x : Int), .int .u8 (y : Int), .int .u8 (z : Int), .slice a al.length ca] 44 1
  have c2 := World.cell?_alloc_new w #[.int .u8 (x : Int), .int .u8 (y : Int), .int .u8 (z : Int), .slice a al.length ca] 44 2
  have hx0 := Ext.alloc w (.cells #[.int .u8 (x : Int), .int .u8 (y : Int), .int .u8 (z : Int), .slice a al.length ca] 44)
  generalize w.alloc (.cells #[.int .u8 (x : Int), .int .u8 (y : Int), .int .u8 (z : Int), .slice a al.length ca] 44) = w0 at *
  have hBw : w.heap.size ≤ w0.heap.size := hx0.size
  obtain ⟨A, hA⟩ : ∃ A, w.heap.size = A := ⟨_, rfl⟩
  rw [hA] at c0 c1 c2 ⊢
  have HA := Lib.hid hA
  clear hA
  go_wp2_with fail
  refine (new_yes _).mono ?_
  rintro e w1 ⟨⟨v, rfl, db, dm, dq, rfl, hp⟩, he1⟩
  replace c0 := cell_ext c0 he1
  replace c1 := cell_ext c1 he1
  replace c2 := cell_ext c2 he1
  obtain ⟨B, hB⟩ : ∃ B, w0.heap.size = B := ⟨_, rfl⟩
  rw [hB] at hp hBw
  have HP := Lib.hid hp
  have HE := Lib.hid (hx0.trans he1)
  have hlow := hp.low
  clear hp hx0 he1 hB
  go_wp2_with fail
  go_quiet (fail)
  have hdr := Ext.drewN w1 nq
  replace HP := Lib.hid (HP.out.ext hdr)
  replace HE := Lib.hid (HE.out.trans hdr)
  clear hdr c0 c1 c2 hb hl ht wx wy wz
  generalize w1.drewN nq = w2 at *
  go_wp2_with fail
  refine (wakes03 _).mono ?_
  rintro e w3 ⟨rfl, he3⟩
  replace HP := Lib.hid (HP.out.ext he3)
  replace HE := Lib.hid (HE.out.trans he3)
  clear he3
  by_cases e1 : b = l
  case pos =>
    have q1 : ((b : Int) == (l : Int)) = true := by rw [e1]; simp
    clear e1
    go_wp2_with fail
    go_ret
    exact ⟨rfl, HE.out⟩
  by_cases e2 : b = t
  case pos =>
    have q1 : ((b : Int) == (l : Int)) = false := beq_eq_false_iff_ne.2 (by omega)
    have q2 : ((b : Int) == (t : Int)) = true := by rw [e2]; simp
    clear e1 e2
    go_wp2_with fail
    go_ret
    exact ⟨rfl, HE.out⟩
  by_cases e3 : l = t
  case pos =>
    have q1 : ((b : Int) == (l : Int)) = false := beq_eq_false_iff_ne.2 (by omega)
    have q2 : ((b : Int) == (t : Int)) = false := beq_eq_false_iff_ne.2 (by omega)
    have q3 : ((l : Int) == (t : Int)) = true := by rw [e3]; simp
    clear e1 e2 e3
    go_wp2_with fail
    go_ret
    exact ⟨rfl, HE.out⟩
  have q1 : ((b : Int) == (l : Int)) = false := beq_eq_false_iff_ne.2 (by omega)
  have q2 : ((b : Int) == (t : Int)) = false := beq_eq_false_iff_ne.2 (by omega)
  have q3 : ((l : Int) == (t : Int)) = false := beq_eq_false_iff_ne.2 (by omega)
  go_wp2_with fail
  refine (HFO.out _).mono ?_
  rintro e w9 ⟨rfl, he9⟩
  replace HP := Lib.hid (HP.out.ext he9)
  replace HE := Lib.hid (HE.out.trans he9)
  clear he9
  go_wp2_with fail
  refine (devwrite_any (l : Int) fo (by unfold maxLen; omega) HP.out.size fit_new HP.out).mono ?_
  rw [Dev.w1 hl9 so]
  rintro e w9 ⟨rfl, hp, hd⟩
  replace HP := Lib.hid hp
  replace HE := Lib.hid (hd.low HE.out hBw hlow)
  clear hp hd
  go_wp2_with fail
  refine (devflush_any Dev.fitF1 HP.out).mono ?_
  rw [Dev.fl1]
  rintro e w9 ⟨rfl, hp, hd⟩
  replace HP := Lib.hid hp
  replace HE := Lib.hid (hd.low HE.out hBw hlow)
  clear hp hd
  go_wp2_with fail
  refine (devstick_empty b hb9 HP.out rfl).mono ?_
  rintro e w9 ⟨⟨v, rfl⟩, hp, hd⟩
  replace HP := Lib.hid hp
  replace HE := Lib.hid (hd.low HE.out hBw hlow)
  clear hp hd
  go_wp2_with fail
  refine (devlose_any 1 HP.out).mono ?_
  rintro e w9 ⟨⟨v, rfl⟩, hp, hd⟩
  replace HP := Lib.hid hp
  replace HE := Lib.hid (hd.low HE.out hBw hlow)
  clear hp hd
  go_wp2_with fail
  refine (HFL.out _).mono ?_
  rintro e w9 ⟨rfl, he9⟩
  replace HP := Lib.hid (HP.out.ext he9)
  replace HE := Lib.hid (HE.out.trans he9)
  clear he9
  go_wp2_with fail
  refine (devwrite_any (d := Dev.f4 b l fo) (l : Int) fl (by unfold maxLen; omega) HP.out.size Dev.fitF4 HP.out).mono ?_
  rw [Dev.w5 hl9 e1 sl]
  rintro e w9 ⟨rfl, hp, hd⟩
  replace HP := Lib.hid hp
  replace HE := Lib.hid (hd.low HE.out hBw hlow)
  clear hp hd
  go_wp2_with fail
  refine (devread_any (l : Int) Dev.fitF5 HP.out).mono ?_
  rw [Dev.r6 hl9 e1]
  rintro e w9 ⟨rfl, hp, hd⟩
  replace HP := Lib.hid hp
  replace HE := Lib.hid (hd.low HE.out hBw hlow)
  clear hp hd
  go_wp2_with fail
  refine (devstray_any 1 (t : Int) HP.out).mono ?_
  rintro e w9 ⟨⟨v, rfl⟩, hp, hd⟩
  replace HP := Lib.hid hp
  replace HE := Lib.hid (hd.low HE.out hBw hlow)
  clear hp hd
  go_wp2_with fail
  refine (HFS.out _).mono ?_
  rintro e w9 ⟨rfl, he9⟩
  replace HP := Lib.hid (HP.out.ext he9)
  replace HE := Lib.hid (HE.out.trans he9)
  clear he9
  go_wp2_with fail
  refine (devwrite_any (d := Dev.f7 b l fo t) (l : Int) fs (by unfold maxLen; omega) HP.out.size Dev.fitF7 HP.out).mono ?_
  rw [Dev.w8 hl9 ht9 e1 e2 ss]
  rintro e w9 ⟨rfl, hp, hd⟩
  replace HP := Lib.hid hp
  replace HE := Lib.hid (hd.low HE.out hBw hlow)
  clear hp hd
  go_wp2_with fail
  refine (devread_any (l : Int) Dev.fitF8 HP.out).mono ?_
  rw [Dev.r9 hl9 e1 e3]
  rintro e w9 ⟨rfl, hp, hd⟩
  replace HP := Lib.hid hp
  replace HE := Lib.hid (hd.low HE.out hBw hlow)
  clear hp hd
  go_wp2_with fail
  refine (devread_any (t : Int) Dev.fitF9 HP.out).mono ?_
  rw [Dev.r10 ht9 e2]
  rintro e w9 ⟨rfl, hp, hd⟩
  replace HP := Lib.hid hp
  replace HE := Lib.hid (hd.low HE.out hBw hlow)
  clear hp hd
  go_wp2_with fail
  refine (HFO.out _).mono ?_
  rintro e w9 ⟨rfl, he9⟩
  replace HP := Lib.hid (HP.out.ext he9)
  replace HE := Lib.hid (HE.out.trans he9)
  clear he9
  go_wp2_with fail
  refine (HFO.out _).mono ?_
  rintro e w9 ⟨rfl, he9⟩
  replace HP := Lib.hid (HP.out.ext he9)
  replace HE := Lib.hid (HE.out.trans he9)
  clear he9
  go_wp2_with fail
  refine (HFS.out _).mono ?_
  rintro e w9 ⟨rfl, he9⟩
  replace HP := Lib.hid (HP.out.ext he9)
  replace HE := Lib.hid (HE.out.trans he9)
  clear he9
  go_upto_region 20 with (fail)
  have hst := Dev.stuck10 (b := b) (l := l) (t := t) (fo := fo) (fs := fs) hb9
  obtain ⟨W, hW⟩ : ∃ W, W = w9 := ⟨_, rfl⟩
  rw [← hW] at HP HE ⊢
  clear hW HFO HFL HFS so sl ss q1 q2 q3 e1 e2 e3
  have HST := Lib.hid hst
  clear hst
  go_cut [130, 131, 132] (fun sl n i wr => ∃ L : List Int, sl = .slice a L.length ca ∧ n = .int .i64 L.length ∧ i = .int .i64 0 ∧ L.length ≤ 20 ∧ L.length ≤ ca ∧ IntsOf .u8 w a L ∧ (∀ u ∈ L, 0 ≤ u ∧ u < 256) ∧ wr = W)
  case first =>
    obtain ⟨q1, q2, q3, q4⟩ := HUC.out
    have q5 : (al.take 20).length = min 20 al.length := List.length_take
    go_wp2_with fail
    all_goals go_meet
    all_goals exact ⟨al.take 20, by rw [q5]; congr 1; omega, by rw [q5]; congr 1; omega, rfl, q3, q4, q1, q2, rfl⟩
  obtain ⟨L, rfl, rfl, rfl, hL20, hLc, hIL, hSL, rfl⟩ := hcut
  have HIL := Lib.hid hIL; have HSL := Lib.hid hSL
  clear hIL hSL HUC
  go_wp2_with fail
  go_loopw [132] (fun i wx => ∃ (k : Nat) (d : Dev.St), k ≤ L.length ∧ i = .int .i64 k ∧ Dev.Stuck b k d ∧ PD wx B db dm dq d ∧ Ext w wx) (fun i _ => L.length - (intOf i).toNat)
  case atStart => exact ⟨0, _, by omega, rfl, HST.out, HP.out, HE.out⟩
  case round =>
    obtain ⟨k, d, hk, rfl, hsk, hp, hex⟩ := hrel
    have HSK := Lib.hid hsk; have HP := Lib.hid hp; have HE := Lib.hid hex
    clear hsk hp
    by_cases hlt : k < L.length
    · obtain ⟨g, og, rfl, hc⟩ := (HIL.out.ext hex) k hlt
      have hu := HSL.out L[k] (List.getElem_mem hlt)
      obtain ⟨n, hn⟩ : ∃ n : Nat, L[k] = (n : Int) := ⟨L[k].toNat, by omega⟩
      rw [hn] at hc hu
      have hk20 : k + 1 ≤ 100 := by omega
      clear hn hex
      rcases tmod3 n with h3 | h3 | h3
      · obtain ⟨d', hfl, hs'⟩ := HSK.out.flush
        have HFL := Lib.hid hfl; have HS := Lib.hid hs'
        clear hfl hs'
        go_wp2_with fail
        refine (devflush_any (HSK.out.fit (by omega)) HP.out).mono ?_
        rw [HFL.out]
        rintro e w5 ⟨rfl, hp, hd⟩
        have HP5 := Lib.hid hp; have HE5 := Lib.hid (hd.low HE.out hBw hlow)
        clear hp hd
        go_wp2_with fail
        refine (devread_any (b : Int) (HS.out.fit (by omega)) HP5.out).mono ?_
        rw [HS.out.read hb9]
        rintro e w6 ⟨rfl, hp, hd⟩
        have HP6 := Lib.hid hp; have HE6 := Lib.hid (hd.low HE5.out hBw hlow)
        clear hp hd
        go_wp2_with fail
        go_roundw
        case rel => exact ⟨k + 1, _, by omega, by go_num, HS.out, HP6.out, HE6.out⟩
        case measure => simp [intOf]; omega
      · have HS := Lib.hid (HSK.out.crash [1])
        have hcr := devcrash_any (w := wr.alloc (.cells #[.int .i64 1] 40)) (some ⟨wr.heap.size, 0, none⟩) 1 [1] (by simp) (by intro f hf; simp at hf; omega) (fun w' hd i hi => by obtain rfl : i = 0 := (by simpa using hi); exact ⟨_, 0, rfl, (hd.row (RowIs.new wr 40 #[.int .i64 1]) (by decide) ⟨(by obtain ⟨cv, hr, _⟩ := HP.out.row; have := hr.lt; omega), (by have := HP.out.media.lt; omega), (by have := HP.out.bad.lt; omega)⟩).cell 0 _ rfl⟩) (HSK.out.fit (by omega)) (HP.out.ext (Ext.alloc _ _))
        simp only [List.length_cons, List.length_nil, Nat.zero_add] at hcr
        have HCR := Lib.hid hcr
        clear hcr
        go_wp2_with fail
        refine HCR.out.mono ?_
        rintro e w5 ⟨⟨v, rfl⟩, hp, hd⟩
        have HP5 := Lib.hid hp; have HE5 := Lib.hid (hd.low (HE.out.trans (Ext.alloc _ _)) hBw hlow)
        clear hp hd
        go_wp2_with fail
        refine (devread_any (b : Int) (HS.out.fit (by omega)) HP5.out).mono ?_
        rw [HS.out.read hb9]
        rintro e w6 ⟨rfl, hp, hd⟩
        have HP6 := Lib.hid hp; have HE6 := Lib.hid (hd.low HE5.out hBw hlow)
        clear hp hd
        go_wp2_with fail
        go_roundw
        case rel => exact ⟨k + 1, _, by omega, by go_num, HS.out, HP6.out, HE6.out⟩
        case measure => simp [intOf]; omega
      · have HS := Lib.hid HSK.out.next
        go_wp2_with fail
        refine (HFB.out _).mono ?_
        rintro e w4 ⟨rfl, he4⟩
        replace HP := Lib.hid (HP.out.ext he4)
        replace HE := Lib.hid (HE.out.trans he4)
        clear he4
        go_wp2_with fail
        refine (devwrite_any (b : Int) fb (by unfold maxLen; omega) HP.out.size (HSK.out.fit (by omega)) HP.out).mono ?_
        rw [HSK.out.write hb9 sb]
        rintro e w5 ⟨rfl, hp, hd⟩
        have HP5 := Lib.hid hp; have HE5 := Lib.hid (hd.low HE.out hBw hlow)
        clear hp hd
        go_wp2_with fail
        refine (devread_any (b : Int) (HS.out.fit (by omega)) HP5.out).mono ?_
        rw [HS.out.read hb9]
        rintro e w6 ⟨rfl, hp, hd⟩
        have HP6 := Lib.hid hp; have HE6 := Lib.hid (hd.low HE5.out hBw hlow)
        clear hp hd
        go_wp2_with fail
        go_roundw
        case rel => exact ⟨k + 1, _, by omega, by go_num, HS.out, HP6.out, HE6.out⟩
        case measure => simp [intOf]; omega
    · obtain rfl : k = L.length := by omega
      have hf := HSK.out.fit (b := b) (by omega)
      have hof := HSK.out.off
      clear hex hlt
      go_wp2_with fail
      refine (devkill_any HP.out).mono ?_
      rintro e w5 ⟨⟨v, rfl⟩, hp, hd⟩
      have HP5 := Lib.hid hp; have HE5 := Lib.hid (hd.low HE.out hBw hlow)
      clear hp hd
      go_wp2_with fail
      refine (devcrash_any none 0 [] (by simp) (fun f hf => by cases hf) (fun w' _ i h => by cases h) (Dev.fit_gone hf) HP5.out).mono ?_
      rintro e w6 ⟨⟨v, rfl⟩, hp, hd⟩
      have HP6 := Lib.hid hp; have HE6 := Lib.hid (hd.low HE5.out hBw hlow)
      have hf6 := Dev.fit_crash (Dev.fit_gone hf) []
      have ho6 : (Dev.crash { d with gone := true } []).off = false := rfl
      have hg6 : (Dev.crash { d with gone := true } []).gone = true := rfl
      clear hp hd
      generalize Dev.crash { d with gone := true } [] = d6 at *
      go_wp2_with fail
      refine (devread_any (l : Int) hf6 HP6.out).mono ?_
      rw [Dev.gone_read ho6 hg6]
      rintro e w7 ⟨rfl, hp, hd⟩
      have HP7 := Lib.hid hp; have HE7 := Lib.hid (hd.low HE6.out hBw hlow)
      clear hp hd
      go_wp2_with fail
      refine (HFX.out _).mono ?_
      rintro e w8 ⟨rfl, he8⟩
      replace HP7 := Lib.hid (HP7.out.ext he8)
      replace HE7 := Lib.hid (HE7.out.trans he8)
      clear he8
      go_wp2_with fail
      refine (devwrite_any (l : Int) fx (by unfold maxLen; omega) HP7.out.size hf6 HP7.out).mono ?_
      rw [Dev.gone_write ho6 hg6]
      rintro e w10 ⟨rfl, hp, hd⟩
      have HP10 := Lib.hid hp; have HE10 := Lib.hid (hd.low HE7.out hBw hlow)
      clear hp hd
      go_wp2_with fail
      refine (devdead_any HP10.out).mono ?_
      rw [hg6]
      rintro e w11 ⟨rfl, he11⟩
      go_wp2_with fail
      go_ret
      exact ⟨rfl, HE10.out.trans he11⟩
end Go.Proofs.Ytcpbpfngiimcnaa
