/- The walk of law03.DevPlays. -/
import Derived.Test.YtcpbpfngiimcnaaPlayC
namespace Go.Proofs.Ytcpbpfngiimcnaa
open Go.RowKit
set_option maxRecDepth 100000 in
set_option maxHeartbeats 12000000 in
theorem devPlays_walk (a1 : Option Addr) (l1 : List Act3) (c1 : Nat) (w : World) (hI1 : Acts w a1 l1) (hca1 : l1.length ≤ c1 ∧ c1 ≤ maxLen) (hS1 : ∀ u ∈ l1, FitAct u) :
    Calls Try.prog 5 #[.slice a1 l1.length c1] w fun e w' => e = .returned (.bool true) ∧ Ext w w' := by
  unfold maxLen at hca1
  obtain ⟨hcb1, hcc1⟩ := hca1
  have hU1 := acts_cuts hI1 hcb1 hS1 60
  have HU1 := Lib.hid hU1
  clear hI1 hS1 hU1
  go_enter Try.func5, Try.ntmps5
  go_wp2_with fail
  refine (new_yes _).mono ?_
  rintro e w1 ⟨⟨v, rfl, db, dm, dq, rfl, hp⟩, he1⟩
  obtain ⟨B, hB⟩ : ∃ B, w.heap.size = B := ⟨_, rfl⟩
  rw [hB] at hp
  have hBw : w.heap.size ≤ B := by omega
  have hlow := hp.low
  have hlts := hp.lts
  have HP := Lib.hid hp; have HE := Lib.hid he1
  clear hp he1
  go_wp2_with fail
  refine (refnew_any _).mono ?_
  rintro e w2 ⟨⟨rb, rm, rq, rfl, hd⟩, he2⟩
  have hsz1 := HE.out.size
  obtain ⟨B', hB'⟩ : ∃ B, w1.heap.size = B := ⟨_, rfl⟩
  rw [hB'] at hd
  have hlow' := hd.low
  have hBw' : w.heap.size ≤ B' := by omega
  have hne : rm ≠ dm ∧ rq ≠ dq := by omega
  replace HP := Lib.hid (HP.out.ext he2)
  replace HE := Lib.hid (HE.out.trans he2)
  have HD := Lib.hid hd
  clear hd he2 hB hB' hsz1 hlts
  go_wp2_with fail
  refine (wakes03 _).mono ?_
  rintro e w3 ⟨rfl, he3⟩
  have HT : Hid (Two w3 B db dm dq B' rb rm rq Dev.new) := Lib.hid ⟨HP.out.ext he3, HD.out.ext he3, hne⟩
  replace HE := Lib.hid (HE.out.trans he3)
  clear he3 HP HD
  go_upto_region 5 with (fail)
  go_cut [35, 36, 37] (fun sl n i wx => ∃ L : List Act3, sl = .slice a1 L.length c1 ∧ n = .int .i64 L.length ∧ i = .int .i64 0 ∧ L.length ≤ 60 ∧ L.length ≤ c1 ∧ Acts w a1 L ∧ (∀ u ∈ L, FitAct u) ∧ wx = w3)
  case first =>
    obtain ⟨q1, q2, q3, q4⟩ := HU1.out
    have q5 : (l1.take 60).length = min 60 l1.length := List.length_take
    go_wp2_with fail
    all_goals go_meet
    all_goals exact ⟨l1.take 60, by rw [q5]; congr 1; omega, by rw [q5]; congr 1; omega, rfl, q3, q4, q1, q2, rfl⟩
  obtain ⟨L, rfl, rfl, rfl, hL60, hLc, hIL, hSL, rfl⟩ := hcut
  have HIL := Lib.hid hIL; have HSL := Lib.hid hSL
  have HU0 := Lib.hid Dev.Upto.new
  clear hIL hSL HU1
  go_wp2_with fail
  go_loopw [37] (fun i wx => ∃ (k : Nat) (d : Dev.St), k ≤ L.length ∧ i = .int .i64 k ∧ Two wx B db dm dq B' rb rm rq d ∧ Dev.Upto k d ∧ Ext w wx) (fun i _ => L.length - (intOf i).toNat)
  case atStart => exact ⟨0, _, by omega, rfl, HT.out, HU0.out, HE.out⟩
  case round =>
    obtain ⟨k, d, hk, rfl, ht, hu, hex⟩ := hrel
    have HTW := Lib.hid ht; have HUP := Lib.hid hu; have HEX := Lib.hid hex
    clear ht hu hex HT HE HU0
    by_cases hlt : k < L.length
    · have hfa := HSL.out L[k] (List.getElem_mem hlt)
      have hck := (HIL.out.ext HEX.out) k hlt
      have hif := (HIL.out k hlt).2
      obtain ⟨x, hx⟩ : ∃ x, L[k] = x := ⟨_, rfl⟩
      rw [hx] at hfa hck hif
      clear hx
      obtain ⟨act, sec, n, data, fa, fl, fc⟩ := x
      obtain ⟨⟨g, og, rfl, c0, c1', c2, c3, c4⟩, _⟩ := hck
      obtain ⟨⟨hact, hsec, hn⟩, hdat, ⟨hfc, hfm⟩, hfl⟩ := hfa
      simp only at c0 c1' c2 c3 c4 hif hact hsec hn hdat hfc hfm hfl
      unfold I64 at hact hsec hn
      unfold maxLen at hdat hfm
      have HIF := Lib.hid hif; have HFL := Lib.hid hfl
      clear hif hfl
      go_upto_region 8 with (fail)
      have r7 : RowIs wr.heap.size 53 #[.int .i64 act, .int .i64 sec, .int .i64 n, .string data, .slice fa fl.length fc] (wr.alloc (.cells #[.int .i64 act, .int .i64 sec, .int .i64 n, .string data, .slice fa fl.length fc] 53)) := RowIs.new _ _ _
      have hx5 := Ext.alloc wr (.cells #[.int .i64 act, .int .i64 sec, .int .i64 n, .string data, .slice fa fl.length fc] 53)
      generalize wr.alloc (.cells #[.int .i64 act, .int .i64 sec, .int .i64 n, .string data, .slice fa fl.length fc] 53) = w5 at *
      have hap1 := HTW.out.prog.lts
      have hap2 := HTW.out.doc.lts
      generalize wr.heap.size = A7 at *
      have hap : A7 ≠ db ∧ A7 ≠ dm ∧ A7 ≠ dq ∧ A7 ≠ rb ∧ A7 ≠ rm ∧ A7 ≠ rq := by omega
      have HT5 := Lib.hid (HTW.out.ext hx5); have HE5 := Lib.hid (HEX.out.trans hx5); have R7 := Lib.hid r7
      have y0 := r7.cell 0 _ rfl
      have y1 := r7.cell 1 _ rfl
      have y2 := r7.cell 2 _ rfl
      have y3 := r7.cell 3 _ rfl
      have y4 := r7.cell 4 _ rfl
      clear c0 c1' c2 c3 c4 hx5 r7 HTW HEX hap1 hap2
      go_cut [8, 9] (fun v8 v9 wx => ∃ s : ByteArray, v8 = .string s ∧ s.size ≤ 140 ∧ v9 = .bool true ∧ wx = w5)
      case first =>
        go_wp2_with fail
        all_goals go_meet
        all_goals exact ⟨_, rfl, by first | (simp; omega) | omega, rfl, rfl⟩
      obtain ⟨s, rfl, hs140, rfl, rfl⟩ := hcut
      obtain ⟨r, hr, hr12⟩ : ∃ r : Nat, (max 0 act).tmod 12 = (r : Int) ∧ r < 12 := ⟨((max 0 act).tmod 12).toNat, by rw [Int.tmod_eq_emod_of_nonneg (by omega)]; omega, by rw [Int.tmod_eq_emod_of_nonneg (by omega)]; omega⟩
      have hk60 : k ≤ 60 := by omega
      have HF := Lib.hid (HUP.out.fit (show k ≤ 1000 by omega))
      go_upto_block 2 with (fail)
      clear hr
      go_cut [9] (fun v9 wx => v9 = .bool true ∧ (∃ d', Two wx B db dm dq B' rb rm rq d' ∧ Dev.Upto (k + 1) d') ∧ Ext w wx)
      case first =>
        have hrc : r = 0 ∨ r = 1 ∨ r = 2 ∨ r = 3 ∨ r = 4 ∨ r = 5 ∨ r = 6 ∨ r = 7 ∨ r = 8 ∨ r = 9 ∨ r = 10 ∨ r = 11 := by omega
        clear hr12
        rcases hrc with rfl | rfl | rfl | rfl | rfl | rfl | rfl | rfl | rfl | rfl | rfl | rfl
        · as_aux_lemma =>
            rw [show ((0 : Nat) : Int) = 0 from rfl]
            have hFs : (fullT s).size = 128 := fullT_size s
            obtain ⟨F, hF⟩ : ∃ F, fullT s = F := ⟨_, rfl⟩
            rw [hF] at hFs
            have hfull := fun w => full_any s w (by omega)
            rw [hF] at hfull
            have HFU := Lib.hid hfull
            have HT6 := fun (w6 : World) (e : Ext wc w6) => HT5.out.ext e
            have HTE := Lib.hid HT6
            clear hfull hF HT6 y0 y2 y3 y4
            go_upto_region 12 with (fail)
            go_region_held3 (fun wx => wx.cell? ⟨A7, 1, none⟩ = some (.int .i64 sec)) (first | assumption | exact cell_ext y1 (Ext.drew _)) (first
              | (go_at_call 22; have e8 := E8.out; refine (refwrite_any sec F (by unfold maxLen; omega) (by have := (HD7.out.ext E8.out).lts; have := hlow'; omega) HF.out (HD7.out.ext E8.out)).mono ?_; rintro e w9 ⟨rfl, hd9, hf9⟩; have HP9 := Lib.hid ((HP7.out.ext E8.out).df (HD7.out.ext E8.out) ⟨hne.1.symm, hne.2.symm⟩ hf9); have HD9 := Lib.hid hd9; have EX9 := Lib.hid (hf9.low (EX7.out.trans E8.out) hBw' hlow'); have q1 := (hf9.row (R77.out.ext E8.out) (by decide) ⟨hap.2.2.2.1, hap.2.2.2.2.1, hap.2.2.2.2.2⟩).cell 1 _ rfl; clear hd9 hf9 e8)
              | (go_at_call 11; have h7 := HP7.out; refine (HFU.out _).mono ?_; rintro e w8 ⟨rfl, he8⟩; have z1' := cell_ext z1 he8; have E8 := Lib.hid he8; clear he8 h7)
              | (go_at_call 12; have e6 := E6.out; refine (devwrite_any sec F (by unfold maxLen; omega) (by have := (HT5.out.prog.ext E6.out).lts; have := hlow; omega) HF.out (HT5.out.prog.ext E6.out)).mono ?_; rintro e w7 ⟨rfl, hp7, hd7⟩; have HP7 := Lib.hid hp7; have HD7 := Lib.hid ((HT5.out.ext E6.out).doc.df (HT5.out.ext E6.out).prog hne hd7); have EX7 := Lib.hid (hd7.low (HE5.out.trans E6.out) hBw hlow); have R77 := Lib.hid (hd7.row (R7.out.ext E6.out) (by decide) ⟨hap.1, hap.2.1, hap.2.2.1⟩); have z1 := R77.out.cell 1 _ rfl; have z2 := R77.out.cell 2 _ rfl; have z4 := R77.out.cell 4 _ rfl; clear hp7 hd7; clear e6 z2 z4)
              | (go_at_call 11; refine (HFU.out _).mono ?_; rintro e w6 ⟨rfl, he6⟩; have E6 := Lib.hid ((Ext.drew _).trans he6); have x1 := cell_ext y1 E6.out; clear he6))
            all_goals
              go_wp2_with fail
              go_meet
              exact ⟨rfl, ⟨_, ⟨HP9.out, HD9.out, hne⟩, HUP.out.write sec F⟩, EX9.out⟩
        · as_aux_lemma =>
            rw [show ((1 : Nat) : Int) = 1 from rfl]
            have hFs : (fullT s).size = 128 := fullT_size s
            obtain ⟨F, hF⟩ : ∃ F, fullT s = F := ⟨_, rfl⟩
            rw [hF] at hFs
            have hfull := fun w => full_any s w (by omega)
            rw [hF] at hfull
            have HFU := Lib.hid hfull
            have HT6 := fun (w6 : World) (e : Ext wc w6) => HT5.out.ext e
            have HTE := Lib.hid HT6
            clear hfull hF HT6 y0 y2 y3 y4
            go_upto_region 12 with (fail)
            go_region_held3 (fun wx => wx.cell? ⟨A7, 1, none⟩ = some (.int .i64 sec)) (first | assumption | exact cell_ext y1 (Ext.drew _)) (first
              | (go_at_call 22; have e8 := E8.out; refine (refwrite_any sec F (by unfold maxLen; omega) (by have := (HD7.out.ext E8.out).lts; have := hlow'; omega) HF.out (HD7.out.ext E8.out)).mono ?_; rintro e w9 ⟨rfl, hd9, hf9⟩; have HP9 := Lib.hid ((HP7.out.ext E8.out).df (HD7.out.ext E8.out) ⟨hne.1.symm, hne.2.symm⟩ hf9); have HD9 := Lib.hid hd9; have EX9 := Lib.hid (hf9.low (EX7.out.trans E8.out) hBw' hlow'); have q1 := (hf9.row (R77.out.ext E8.out) (by decide) ⟨hap.2.2.2.1, hap.2.2.2.2.1, hap.2.2.2.2.2⟩).cell 1 _ rfl; clear hd9 hf9 e8)
              | (go_at_call 11; have h7 := HP7.out; refine (HFU.out _).mono ?_; rintro e w8 ⟨rfl, he8⟩; have z1' := cell_ext z1 he8; have E8 := Lib.hid he8; clear he8 h7)
              | (go_at_call 12; have e6 := E6.out; refine (devwrite_any sec F (by unfold maxLen; omega) (by have := (HT5.out.prog.ext E6.out).lts; have := hlow; omega) HF.out (HT5.out.prog.ext E6.out)).mono ?_; rintro e w7 ⟨rfl, hp7, hd7⟩; have HP7 := Lib.hid hp7; have HD7 := Lib.hid ((HT5.out.ext E6.out).doc.df (HT5.out.ext E6.out).prog hne hd7); have EX7 := Lib.hid (hd7.low (HE5.out.trans E6.out) hBw hlow); have R77 := Lib.hid (hd7.row (R7.out.ext E6.out) (by decide) ⟨hap.1, hap.2.1, hap.2.2.1⟩); have z1 := R77.out.cell 1 _ rfl; have z2 := R77.out.cell 2 _ rfl; have z4 := R77.out.cell 4 _ rfl; clear hp7 hd7; clear e6 z2 z4)
              | (go_at_call 11; refine (HFU.out _).mono ?_; rintro e w6 ⟨rfl, he6⟩; have E6 := Lib.hid ((Ext.drew _).trans he6); have x1 := cell_ext y1 E6.out; clear he6))
            all_goals
              go_wp2_with fail
              go_meet
              exact ⟨rfl, ⟨_, ⟨HP9.out, HD9.out, hne⟩, HUP.out.write sec F⟩, EX9.out⟩
        · as_aux_lemma =>
            rw [show ((2 : Nat) : Int) = 2 from rfl]
            clear y0 y2 y3 y4
            go_upto_region 14 with (fail)
            go_region_held3 (fun wx => wx.cell? ⟨A7, 1, none⟩ = some (.int .i64 sec)) (first | assumption | exact cell_ext y1 (Ext.drew _)) (first
              | (go_at_call 22; have h7 := HP7.out; refine (refwrite_any sec s (by unfold maxLen; omega) (by have := HD7.out.lts; have := hlow'; omega) HF.out HD7.out).mono ?_; rintro e w9 ⟨rfl, hd9, hf9⟩; have HP9 := Lib.hid (HP7.out.df HD7.out ⟨hne.1.symm, hne.2.symm⟩ hf9); have HD9 := Lib.hid hd9; have EX9 := Lib.hid (hf9.low EX7.out hBw' hlow'); have q1 := (hf9.row R77.out (by decide) ⟨hap.2.2.2.1, hap.2.2.2.2.1, hap.2.2.2.2.2⟩).cell 1 _ rfl; clear hd9 hf9 h7)
              | (go_at_call 12; refine (devwrite_any sec s (by unfold maxLen; omega) (by have := (HT5.out.ext (Ext.drew wc)).prog.lts; have := hlow; omega) HF.out (HT5.out.ext (Ext.drew _)).prog).mono ?_; rintro e w7 ⟨rfl, hp7, hd7⟩; have HP7 := Lib.hid hp7; have HD7 := Lib.hid ((HT5.out.ext (Ext.drew _)).doc.df (HT5.out.ext (Ext.drew _)).prog hne hd7); have EX7 := Lib.hid (hd7.low (HE5.out.trans (Ext.drew _)) hBw hlow); have R77 := Lib.hid (hd7.row (R7.out.ext (Ext.drew _)) (by decide) ⟨hap.1, hap.2.1, hap.2.2.1⟩); have z1 := R77.out.cell 1 _ rfl; have z2 := R77.out.cell 2 _ rfl; have z4 := R77.out.cell 4 _ rfl; clear hp7 hd7; clear z2 z4))
            all_goals
              go_wp2_with fail
              go_meet
              exact ⟨rfl, ⟨_, ⟨HP9.out, HD9.out, hne⟩, HUP.out.write sec s⟩, EX9.out⟩
        · as_aux_lemma =>
            rw [show ((3 : Nat) : Int) = 3 from rfl]
            go_wp2_with fail
            refine (devflush_any HF.out HT5.out.prog).mono ?_
            rintro e w7 ⟨rfl, hp7, hd7⟩
            have HP7 := Lib.hid hp7; have HD7 := Lib.hid (HT5.out.doc.df HT5.out.prog hne hd7); have EX7 := Lib.hid (hd7.low HE5.out hBw hlow); have R77 := Lib.hid (hd7.row R7.out (by decide) ⟨hap.1, hap.2.1, hap.2.2.1⟩); have z1 := R77.out.cell 1 _ rfl; have z2 := R77.out.cell 2 _ rfl; have z4 := R77.out.cell 4 _ rfl; clear hp7 hd7
            go_wp2_with fail
            refine (refflush_any HF.out HD7.out).mono ?_
            rintro e w9 ⟨rfl, hd9, hf9⟩
            have HP9 := Lib.hid (HP7.out.df HD7.out ⟨hne.1.symm, hne.2.symm⟩ hf9); have HD9 := Lib.hid hd9; have EX9 := Lib.hid (hf9.low EX7.out hBw' hlow'); clear hd9 hf9
            go_wp2_with fail
            go_meet
            exact ⟨rfl, ⟨_, ⟨HP9.out, HD9.out, hne⟩, HUP.out.flush⟩, EX9.out⟩
        · as_aux_lemma =>
            rw [show ((4 : Nat) : Int) = 4 from rfl]
            go_wp2_with fail
            refine (devread_any sec HF.out HT5.out.prog).mono ?_
            rintro e w7 ⟨rfl, hp7, hd7⟩
            have HP7 := Lib.hid hp7; have HD7 := Lib.hid (HT5.out.doc.df HT5.out.prog hne hd7); have EX7 := Lib.hid (hd7.low HE5.out hBw hlow); have R77 := Lib.hid (hd7.row R7.out (by decide) ⟨hap.1, hap.2.1, hap.2.2.1⟩); have z1 := R77.out.cell 1 _ rfl; have z2 := R77.out.cell 2 _ rfl; have z4 := R77.out.cell 4 _ rfl; clear hp7 hd7
            go_wp2_with fail
            refine (refread_any sec HF.out HD7.out).mono ?_
            rintro e w9 ⟨rfl, hd9, hf9⟩
            have HP9 := Lib.hid (HP7.out.df HD7.out ⟨hne.1.symm, hne.2.symm⟩ hf9); have HD9 := Lib.hid hd9; have EX9 := Lib.hid (hf9.low EX7.out hBw' hlow'); clear hd9 hf9
            go_wp2_with fail
            go_meet
            exact ⟨rfl, ⟨_, ⟨HP9.out, HD9.out, hne⟩, HUP.out.read sec⟩, EX9.out⟩
        · as_aux_lemma =>
            rw [show ((5 : Nat) : Int) = 5 from rfl]
            go_wp2_with fail
            refine (devthin_any sec HF.out HT5.out.prog).mono ?_
            rintro e w7 ⟨⟨vv, rfl⟩, hp7, hd7⟩
            have HP7 := Lib.hid hp7; have HD7 := Lib.hid (HT5.out.doc.df HT5.out.prog hne hd7); have EX7 := Lib.hid (hd7.low HE5.out hBw hlow); have R77 := Lib.hid (hd7.row R7.out (by decide) ⟨hap.1, hap.2.1, hap.2.2.1⟩); have z1 := R77.out.cell 1 _ rfl; have z2 := R77.out.cell 2 _ rfl; have z4 := R77.out.cell 4 _ rfl; clear hp7 hd7
            go_wp2_with fail
            refine (refstick_any sec HF.out (by have := HD7.out.lts; have := hlow'; omega) HD7.out).mono ?_
            rintro e w9 ⟨⟨vw, rfl⟩, hd9, hf9⟩
            have HP9 := Lib.hid (HP7.out.df HD7.out ⟨hne.1.symm, hne.2.symm⟩ hf9); have HD9 := Lib.hid hd9; have EX9 := Lib.hid (hf9.low EX7.out hBw' hlow'); clear hd9 hf9
            go_wp2_with fail
            go_meet
            exact ⟨rfl, ⟨_, ⟨HP9.out, HD9.out, hne⟩, HUP.out.stick sec⟩, EX9.out⟩
        · as_aux_lemma =>
            rw [show ((6 : Nat) : Int) = 6 from rfl]
            obtain ⟨y, hy⟩ : ∃ y : UInt8, (s.size : Int) = (y.toNat : Int) := ⟨UInt8.ofNat s.size, by simp; omega⟩
            have hwy : IntKind.u8.wrap (s.size : Int) = (y.toNat : Int) := by rw [IntKind.wrap_u8', hy]; have := y.toNat_lt; omega
            have hmd : (s.size : Int) % 256 = (y.toNat : Int) := by have := y.toNat_lt; omega
            clear hy
            go_wp2_with fail
            refine (devgarble_any sec n y HF.out HT5.out.prog).mono ?_
            rintro e w7 ⟨⟨vv, rfl⟩, hp7, hd7⟩
            have HP7 := Lib.hid hp7; have HD7 := Lib.hid (HT5.out.doc.df HT5.out.prog hne hd7); have EX7 := Lib.hid (hd7.low HE5.out hBw hlow); have R77 := Lib.hid (hd7.row R7.out (by decide) ⟨hap.1, hap.2.1, hap.2.2.1⟩); have z1 := R77.out.cell 1 _ rfl; have z2 := R77.out.cell 2 _ rfl; have z4 := R77.out.cell 4 _ rfl; clear hp7 hd7
            go_wp2_with fail
            refine (refgarble_any sec n y HF.out HD7.out).mono ?_
            rintro e w9 ⟨⟨vw, rfl⟩, hd9, hf9⟩
            have HP9 := Lib.hid (HP7.out.df HD7.out ⟨hne.1.symm, hne.2.symm⟩ hf9); have HD9 := Lib.hid hd9; have EX9 := Lib.hid (hf9.low EX7.out hBw' hlow'); clear hd9 hf9
            go_wp2_with fail
            go_meet
            exact ⟨rfl, ⟨_, ⟨HP9.out, HD9.out, hne⟩, HUP.out.garble sec n y⟩, EX9.out⟩
        · as_aux_lemma =>
            rw [show ((7 : Nat) : Int) = 7 from rfl]
            obtain ⟨u, hmx, hun⟩ : ∃ u : Nat, max n 0 = (u : Int) ∧ n.toNat = u := ⟨n.toNat, by omega, rfl⟩
            have HUN := Lib.hid hun
            clear hun
            go_wp2_with fail
            refine (devlose_int n HT5.out.prog).mono ?_
            rw [HUN.out]
            rintro e w7 ⟨⟨vv, rfl⟩, hp7, hd7⟩
            have HP7 := Lib.hid hp7; have HD7 := Lib.hid (HT5.out.doc.df HT5.out.prog hne hd7); have EX7 := Lib.hid (hd7.low HE5.out hBw hlow); have R77 := Lib.hid (hd7.row R7.out (by decide) ⟨hap.1, hap.2.1, hap.2.2.1⟩); have z1 := R77.out.cell 1 _ rfl; have z2 := R77.out.cell 2 _ rfl; have z4 := R77.out.cell 4 _ rfl; clear hp7 hd7
            obtain ⟨⟨cv, cm, cq, hr, hc⟩, hm, hq, hok, _⟩ := HD7.out
            have c5 := hr.cell 5 _ rfl
            have f5 := hr.free 5
            obtain ⟨hd9, hf9⟩ := RD.field (d' := { d with lose := u }) hr hc hm hq hok hlow' (hr.setCell 5 (.int .i64 (u : Int))) (Wrote.setCell hr 5 _).but rfl rfl rfl
            have HP9 := Lib.hid (HP7.out.df HD7.out ⟨hne.1.symm, hne.2.symm⟩ hf9); have HD9 := Lib.hid hd9; have EX9 := Lib.hid (hf9.low EX7.out hBw' hlow'); clear hd9 hf9
            clear hr hc hm hq hok
            go_wp2_with fail
            go_meet
            exact ⟨rfl, ⟨_, ⟨HP9.out, HD9.out, hne⟩, by rw [← HUN.out]; exact HUP.out.lose' hn.2⟩, EX9.out⟩
        · as_aux_lemma =>
            rw [show ((8 : Nat) : Int) = 8 from rfl]
            obtain ⟨u, hmx, hun⟩ : ∃ u : Nat, max n 0 = (u : Int) ∧ n.toNat = u := ⟨n.toNat, by omega, rfl⟩
            have HUN := Lib.hid hun
            clear hun
            go_wp2_with fail
            refine (devstray_int n sec HT5.out.prog).mono ?_
            rw [HUN.out]
            rintro e w7 ⟨⟨vv, rfl⟩, hp7, hd7⟩
            have HP7 := Lib.hid hp7; have HD7 := Lib.hid (HT5.out.doc.df HT5.out.prog hne hd7); have EX7 := Lib.hid (hd7.low HE5.out hBw hlow); have R77 := Lib.hid (hd7.row R7.out (by decide) ⟨hap.1, hap.2.1, hap.2.2.1⟩); have z1 := R77.out.cell 1 _ rfl; have z2 := R77.out.cell 2 _ rfl; have z4 := R77.out.cell 4 _ rfl; clear hp7 hd7
            obtain ⟨⟨cv0, cm0, cq0, hr0, hc0⟩, _⟩ := HD7.out
            have c6 := hr0.cell 6 _ rfl
            have f6 := hr0.free 6
            have c7 := hr0.cell 7 _ rfl
            have f7 := hr0.free 7
            have hA1 : ¬ A7 = rb := hap.2.2.2.1
            have hA2 : ¬ rb = A7 := fun h => hA1 h.symm
            clear hr0 hc0
            replace HP7 := Lib.hid (HP7.out.ext (Ext.drew w7))
            replace HD7 := Lib.hid (HD7.out.ext (Ext.drew w7))
            replace EX7 := Lib.hid (EX7.out.trans (Ext.drew w7))
            replace R77 := Lib.hid (R77.out.ext (Ext.drew w7))
            clear y0 y1 y2 y3 y4
            obtain ⟨⟨cv, cm, cq, hr, hc⟩, hm, hq, hok, _⟩ := HD7.out
            obtain ⟨hd9, hf9⟩ := RD.field (d' := { d with stray := u, «to» := sec }) hr hc hm hq hok hlow' ((hr.setCell 6 (.int .i64 (u : Int))).setCell 7 (.int .i64 sec)) ((Wrote.setCell hr 6 _).trans (Wrote.setCell (hr.setCell 6 (.int .i64 (u : Int))) 7 _)).but rfl rfl rfl
            have HP9 := Lib.hid (HP7.out.df HD7.out ⟨hne.1.symm, hne.2.symm⟩ hf9); have HD9 := Lib.hid hd9; have EX9 := Lib.hid (hf9.low EX7.out hBw' hlow'); clear hd9 hf9
            clear hr hc hm hq hok
            go_upto_region 32 with (fail)
            go_region_with (fail)
            all_goals
              go_wp2_with fail
              go_meet
              exact ⟨rfl, ⟨_, ⟨HP9.out, HD9.out, hne⟩, by rw [← HUN.out]; exact HUP.out.stray' hn.2⟩, EX9.out⟩
        · as_aux_lemma =>
            rw [show ((9 : Nat) : Int) = 9 from rfl]
            obtain ⟨u, hmx, hun⟩ : ∃ u : Nat, max n 0 = (u : Int) ∧ n.toNat = u := ⟨n.toNat, by omega, rfl⟩
            have HUN := Lib.hid hun
            clear hun
            go_wp2_with fail
            refine (devfuse_int n HT5.out.prog).mono ?_
            rw [HUN.out]
            rintro e w7 ⟨⟨vv, rfl⟩, hp7, hd7⟩
            have HP7 := Lib.hid hp7; have HD7 := Lib.hid (HT5.out.doc.df HT5.out.prog hne hd7); have EX7 := Lib.hid (hd7.low HE5.out hBw hlow); have R77 := Lib.hid (hd7.row R7.out (by decide) ⟨hap.1, hap.2.1, hap.2.2.1⟩); have z1 := R77.out.cell 1 _ rfl; have z2 := R77.out.cell 2 _ rfl; have z4 := R77.out.cell 4 _ rfl; clear hp7 hd7
            obtain ⟨⟨cv, cm, cq, hr, hc⟩, hm, hq, hok, _⟩ := HD7.out
            have c4 := hr.cell 4 _ rfl
            have f4 := hr.free 4
            obtain ⟨hd9, hf9⟩ := RD.field (d' := { d with fuse := u }) hr hc hm hq hok hlow' (hr.setCell 4 (.int .i64 (u : Int))) (Wrote.setCell hr 4 _).but rfl rfl rfl
            have HP9 := Lib.hid (HP7.out.df HD7.out ⟨hne.1.symm, hne.2.symm⟩ hf9); have HD9 := Lib.hid hd9; have EX9 := Lib.hid (hf9.low EX7.out hBw' hlow'); clear hd9 hf9
            clear hr hc hm hq hok
            go_wp2_with fail
            go_meet
            exact ⟨rfl, ⟨_, ⟨HP9.out, HD9.out, hne⟩, by rw [← HUN.out]; exact HUP.out.fuse' hn.2⟩, EX9.out⟩
        · as_aux_lemma =>
            rw [show ((10 : Nat) : Int) = 10 from rfl]
            have hcut30 : ∀ k, IntsOf .i64 w fa (fl.take k) ∧ (∀ f ∈ fl.take k, I64 f) := fun k => ⟨HIF.out.take k, fun f hf => HFL.out f (List.mem_of_mem_take hf)⟩
            have HCT := Lib.hid hcut30
            clear hcut30
            go_upto_region 37 with (fail)
            go_cut [14] (fun v14 wx => ∃ xs : List Int, v14 = .slice fa xs.length fc ∧ xs.length ≤ 30 ∧ IntsOf .i64 w fa xs ∧ (∀ f ∈ xs, I64 f) ∧ wx = wc)
            case first =>
              have q5 : (fl.take 30).length = min 30 fl.length := List.length_take
              go_wp2_with fail
              all_goals go_meet
              all_goals exact ⟨fl.take 30, by rw [q5]; congr 1; omega, by rw [q5]; omega, (HCT.out 30).1, (HCT.out 30).2, rfl⟩
            obtain ⟨xs, rfl, hx30, hIX, hXB, rfl⟩ := hcut
            have HIX := Lib.hid hIX; have HXB := Lib.hid hXB
            clear hIX hXB HCT HIF HFL
            have hl5 := HT5.out.prog.lts
            go_wp2_with fail
            refine (fates_any fa xs fc (by omega) (HIX.out.ext HE5.out)).mono ?_
            rintro e w6 ⟨⟨v6, rfl, ho6⟩, he6⟩
            obtain ⟨fa2, fc2, rfl, hF2⟩ := fates_cells (B := B) (b := db) (m := dm) (q := dq) ho6 rfl hl5
            have HF2 := Lib.hid hF2; have E6 := Lib.hid he6
            clear hF2 he6 ho6 hl5
            go_wp2_with fail
            refine (devcrash_any fa2 fc2 xs (by omega) (fun f hf => HXB.out f hf) HF2.out HF.out (HT5.out.prog.ext E6.out)).mono ?_
            rintro e w7 ⟨⟨vv, rfl⟩, hp7, hd7⟩
            have HP7 := Lib.hid hp7; have HD7 := Lib.hid ((HT5.out.ext E6.out).doc.df (HT5.out.ext E6.out).prog hne hd7); have EX7 := Lib.hid (hd7.low (HE5.out.trans E6.out) hBw hlow); have R77 := Lib.hid (hd7.row (R7.out.ext E6.out) (by decide) ⟨hap.1, hap.2.1, hap.2.2.1⟩); have z1 := R77.out.cell 1 _ rfl; have z2 := R77.out.cell 2 _ rfl; have z4 := R77.out.cell 4 _ rfl; clear hp7 hd7
            go_wp2_with fail
            refine (refcrash_any fa fc xs (by omega) (fun f hf => HXB.out f hf) (fun w' h i hi => (HIX.out.ext (h.low EX7.out hBw' hlow')) i hi) HF.out HD7.out).mono ?_
            rintro e w9 ⟨⟨vw, rfl⟩, hd9, hf9⟩
            have HP9 := Lib.hid (HP7.out.df HD7.out ⟨hne.1.symm, hne.2.symm⟩ hf9); have HD9 := Lib.hid hd9; have EX9 := Lib.hid (hf9.low EX7.out hBw' hlow'); clear hd9 hf9
            go_wp2_with fail
            go_meet
            exact ⟨rfl, ⟨_, ⟨HP9.out, HD9.out, hne⟩, HUP.out.crash xs⟩, EX9.out⟩
        · as_aux_lemma =>
            rw [show ((11 : Nat) : Int) = 11 from rfl]
            by_cases h5 : n.tmod 5 = 0
            · go_wp2_with fail
              refine (devkill_any HT5.out.prog).mono ?_
              rintro e w7 ⟨⟨vv, rfl⟩, hp7, hd7⟩
              have HP7 := Lib.hid hp7; have HD7 := Lib.hid (HT5.out.doc.df HT5.out.prog hne hd7); have EX7 := Lib.hid (hd7.low HE5.out hBw hlow); have R77 := Lib.hid (hd7.row R7.out (by decide) ⟨hap.1, hap.2.1, hap.2.2.1⟩); have z1 := R77.out.cell 1 _ rfl; have z2 := R77.out.cell 2 _ rfl; have z4 := R77.out.cell 4 _ rfl; clear hp7 hd7
              obtain ⟨⟨cv, cm, cq, hr, hc⟩, hm, hq, hok, _⟩ := HD7.out
              have c9 := hr.cell 9 _ rfl
              have f9 := hr.free 9
              obtain ⟨hd9, hf9⟩ := RD.field (d' := { d with gone := true }) hr hc hm hq hok hlow' (hr.setCell 9 (.bool true)) (Wrote.setCell hr 9 _).but rfl rfl rfl
              have HP9 := Lib.hid (HP7.out.df HD7.out ⟨hne.1.symm, hne.2.symm⟩ hf9); have HD9 := Lib.hid hd9; have EX9 := Lib.hid (hf9.low EX7.out hBw' hlow'); clear hd9 hf9
              clear hr hc hm hq hok
              go_wp2_with fail
              go_meet
              exact ⟨rfl, ⟨_, ⟨HP9.out, HD9.out, hne⟩, HUP.out.kill⟩, EX9.out⟩
            · have h5' : (n.tmod 5 == 0) = false := beq_eq_false_iff_ne.2 h5
              clear h5
              go_wp2_with fail
              go_meet
              exact ⟨rfl, ⟨d, HT5.out, HUP.out.succ⟩, HE5.out⟩
      obtain ⟨rfl, ⟨d', ht', hu'⟩, hex'⟩ := hcut
      have HT9 := Lib.hid ht'; have HU9 := Lib.hid hu'; have HE9 := Lib.hid hex'
      clear ht' hu' hex' HT5 HE5 R7 y0 y1 y2 y3 y4
      go_wp2_with fail
      refine (same_any HT9.out).mono ?_
      rintro e w9 ⟨rfl, he9⟩
      have HX9 := Lib.hid he9
      clear he9
      go_wp2_with fail
      go_roundw
      case rel => exact ⟨k + 1, d', by omega, by go_num, HT9.out.ext HX9.out, HU9.out, HE9.out.trans HX9.out⟩
      case measure => simp [intOf]; omega
    · obtain rfl : k = L.length := by omega
      obtain ⟨n0, hn0⟩ : ∃ n, L.length = n := ⟨_, rfl⟩
      have hm1 : (if Dev.isSec (-1) = true then d.media.getD ((-1 : Int)).toNat .empty else .empty) = ByteArray.empty := rfl
      have hm9 : (if Dev.isSec 9 = true then d.media.getD ((9 : Int)).toNat .empty else .empty) = ByteArray.empty := rfl
      have HM1 := Lib.hid hm1; have HM9 := Lib.hid hm9
      clear hn0 hm1 hm9
      go_wp2_with fail
      refine (devmedia_any (-1) HTW.out.prog).mono ?_
      rw [HM1.out]
      rintro e w8 ⟨rfl, he8⟩
      have HX8 := Lib.hid he8
      clear he8
      go_wp2_with fail
      refine (devmedia_any 9 (HTW.out.prog.ext HX8.out)).mono ?_
      rw [HM9.out]
      rintro e w9 ⟨rfl, he9⟩
      have HX9 := Lib.hid he9
      clear he9
      go_wp2_with fail
      go_ret
      exact ⟨rfl, (HEX.out.trans HX8.out).trans HX9.out⟩
end Go.Proofs.Ytcpbpfngiimcnaa
