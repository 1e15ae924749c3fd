/- Contract of ref12.Parse. -/
import Derived.Test.YtemhflafiephpaaRecK
namespace Go.Proofs.Ytemhflafiephpaa
open Go.RowKit
theorem round_facts {S R : ByteArray} {O : Option (List Msg.Up)} {acc : List Msg.Up} {u : Msg.Up} (h0 : S.size ≠ 0) (hS : S.size ≤ 1000000) (hmap : O = (Rec.parseAll S).map (acc ++ ·)) (hf : Rec.first S = if Rec.check u = 0 then some (u, R) else none) :
    (Rec.check u ≠ 0 → O = none) ∧ (Rec.check u = 0 → O = (Rec.parseAll R).map ((acc ++ [u]) ++ ·) ∧ (Rec.check u = 0 ∧ FitU u) ∧ R.size < S.size) := by
  refine ⟨fun hc => ?_, fun hc => ?_⟩
  · rw [if_neg hc] at hf
    rw [hmap, Rec.parse_none h0 hf]; rfl
  · rw [if_pos hc] at hf
    exact ⟨by rw [hmap, Rec.parse_some h0 hf, map_snoc], ⟨hc, fit_first hS hf⟩, (Rec.first_size hf).2.1⟩
theorem get8_any (r : ByteArray) (w : World) : Calls Try.prog 14 #[.string (r.extract 0 8)] w fun e w' => e = .returned (.int .u64 (Crc.le (r.data.toList.take 8) : Nat)) ∧ w = w' := by
  have h := get_any (r.extract 0 8) w (by simp; omega)
  rw [show (r.extract 0 8).data.toList = r.data.toList.take 8 by rw [ext_data, List.drop_zero]] at h
  exact h
set_option maxRecDepth 100000 in
set_option maxHeartbeats 8000000 in
theorem refparse_any (s : ByteArray) (w : World) (hs : s.size ≤ 100000) : Calls Try.prog 34 #[.string s] w fun e w' => ParsePost 39 w.heap.size (Rec.parseAll s) e w' ∧ Ext w w' := by
  obtain ⟨O, hO⟩ : ∃ O, Rec.parseAll s = O := ⟨_, rfl⟩
  rw [hO]
  have HO := Lib.hid hO
  clear hO
  go_enter Try.func34, Try.ntmps34
  go_wp2_with fail
  go_loopw [0, 4] (fun t v wx => ∃ (S : ByteArray) (acc : List Msg.Up), t = .string S ∧ acc.length + S.size ≤ s.size ∧ OwnE 39 wx w.heap.size v acc ∧ (∀ u ∈ acc, Rec.check u = 0 ∧ FitU u) ∧ O = (Rec.parseAll S).map (acc ++ ·) ∧ Ext w wx) (fun t _ _ => txtLen t)
  case atStart => exact ⟨s, [], rfl, by simp, OwnE.nil _ _ _, fun u hu => by simp at hu, by rw [HO.out]; cases O <;> rfl, Ext.refl _⟩
  case round =>
    obtain ⟨S, acc, rfl, hln, hown, hfit, hmap, hex⟩ := hrel
    have HOWN := Lib.hid hown; have HFIT := Lib.hid hfit; have HMAP := Lib.hid hmap
    clear hown hfit hmap
    by_cases h0 : S.size = 0
    · have hans : O = some acc := by rw [HMAP.out, Rec.parse_empty h0]; simp
      have HANS := Lib.hid hans
      have hd : decide (0 < S.size) = false := decide_eq_false (by omega)
      clear hans h0
      go_wp2_with fail
      go_ret2
      refine ⟨?_, hex⟩
      rw [HANS.out]
      exact ⟨_, rfl, HOWN.out, HFIT.out⟩
    · have hd : decide (0 < S.size) = true := decide_eq_true (by omega)
      have h1 : 0 < S.size := by omega
      have hpn : Rec.first S = none → O = none := fun hf => by rw [HMAP.out, Rec.parse_none h0 hf]; rfl
      have hrf := fun (R : ByteArray) (u : Msg.Up) => round_facts (R := R) (u := u) h0 (by omega) HMAP.out
      have hsp := fun w => refsplit_any (S.extract 1 S.size) w (by simp; unfold maxLen; omega)
      have HRF := Lib.hid hrf
      have hB2 : w.heap.size ≤ wr.heap.size := hex.size
      have hal : acc.length ≤ 1000000 := by omega
      have hk256 := S[0].toNat_lt
      clear hrf HMAP HO
      rw [splitAns_spl] at hsp
      cases h2 : Rec.spl (S.extract 1 S.size) with
      | none =>
        have hans := hpn (Rec.first_nokey h1 h2)
        have HANS := Lib.hid hans
        rw [h2] at hsp
        simp only at hsp
        have HSP := Lib.hid hsp
        clear hans hsp h2 hpn
        go_wp2_with fail
        refine (HSP.out _).mono ?_
        rintro e w1 ⟨rfl, he1⟩
        go_wp2_with fail
        go_ret2
        refine ⟨?_, hex.trans he1⟩
        rw [HANS.out]
        exact rfl
      | some p =>
        obtain ⟨y, r⟩ := p
        have hz := Rec.spl_size h2
        have hE1 : (S.extract 1 S.size).size = S.size - 1 := by simp
        rw [h2] at hsp
        simp only at hsp
        have HSP := Lib.hid hsp
        clear hsp
        by_cases hk1 : S[0].toNat = 1
        · cases h3 : Rec.spl r with
          | none =>
            have hans := hpn (Rec.first_1n h1 h2 hk1 h3)
            have HANS := Lib.hid hans
            have hsp2 := fun w => refsplit_any r w (by unfold maxLen; omega)
            rw [splitAns_spl, h3] at hsp2
            simp only at hsp2
            have HSP2 := Lib.hid hsp2
            clear hans hpn h2 h3 hsp2 HRF
            go_wp2_with fail
            refine (HSP.out _).mono ?_
            rintro e w1 ⟨rfl, he1⟩
            go_upto_region 7 with (fail)
            have r8 := RowIs.new w1 39 #[.int .u8 1, .string y, .string ⟨#[]⟩, .int .u64 0]
            replace hex := hex.trans (he1.trans (Ext.alloc w1 (.cells #[.int .u8 1, .string y, .string ⟨#[]⟩, .int .u64 0] 39)))
            have hgB : w.heap.size ≤ w1.heap.size := by have := he1.size; omega
            have hHO : OwnE 39 (w1.alloc (.cells #[.int .u8 1, .string y, .string ⟨#[]⟩, .int .u64 0] 39)) w.heap.size u4 acc := OwnE.ext (OwnE.ext HOWN.out he1) (Ext.alloc _ _)
            have hne : (Value.ownBlock u4) ≠ some w1.heap.size := fun hq => by
              have := (World.ownsRow.lt (OwnE.ext HOWN.out he1) _ hq).2
              omega
            have HOA := Lib.hid (And.intro hHO hne)
            clear hHO hne HOWN he1 HSP
            generalize w1.alloc (.cells #[.int .u8 1, .string y, .string ⟨#[]⟩, .int .u64 0] 39) = w2 at *
            generalize w1.heap.size = g at *
            have c0 := r8.cell 0 (.int .u8 1) rfl
            go_wp2_with fail
            refine (HSP2.out _).mono ?_
            rintro e w4 ⟨rfl, he4⟩
            go_wp2_with fail
            go_ret2
            refine ⟨?_, hex.trans he4⟩
            rw [HANS.out]
            exact rfl
          | some p2 =>
            obtain ⟨v, r2⟩ := p2
            have hz2 := Rec.spl_size h3
            have hf := Rec.first_1y h1 h2 hk1 h3
            have hsp2 := fun w => refsplit_any r w (by unfold maxLen; omega)
            rw [splitAns_spl, h3] at hsp2
            simp only at hsp2
            have HSP2 := Lib.hid hsp2
            clear hsp2 h3
            have hck := fun w => refcheck_any 1 0 y v w (by decide) (by decide) (by unfold maxLen; omega) (by unfold maxLen; omega)
            obtain ⟨ra0, ra1⟩ := HRF.out _ _ hf
            have RA0 := Lib.hid ra0
            have RA1 := Lib.hid ra1
            clear hf hpn h2 HRF ra0 ra1
            have HCK := Lib.hid hck
            clear hck
            generalize hccE : Rec.check ⟨1, y, v, 0⟩ = cc at *
            have HCE := Lib.hid hccE
            clear hccE
            go_wp2_with fail
            refine (HSP.out _).mono ?_
            rintro e w1 ⟨rfl, he1⟩
            go_upto_region 7 with (fail)
            have r8 := RowIs.new w1 39 #[.int .u8 1, .string y, .string ⟨#[]⟩, .int .u64 0]
            replace hex := hex.trans (he1.trans (Ext.alloc w1 (.cells #[.int .u8 1, .string y, .string ⟨#[]⟩, .int .u64 0] 39)))
            have hgB : w.heap.size ≤ w1.heap.size := by have := he1.size; omega
            have hHO : OwnE 39 (w1.alloc (.cells #[.int .u8 1, .string y, .string ⟨#[]⟩, .int .u64 0] 39)) w.heap.size u4 acc := OwnE.ext (OwnE.ext HOWN.out he1) (Ext.alloc _ _)
            have hne : (Value.ownBlock u4) ≠ some w1.heap.size := fun hq => by
              have := (World.ownsRow.lt (OwnE.ext HOWN.out he1) _ hq).2
              omega
            have HOA := Lib.hid (And.intro hHO hne)
            clear hHO hne HOWN he1 HSP
            generalize w1.alloc (.cells #[.int .u8 1, .string y, .string ⟨#[]⟩, .int .u64 0] 39) = w2 at *
            generalize w1.heap.size = g at *
            have c0 := r8.cell 0 (.int .u8 1) rfl
            go_wp2_with fail
            refine (HSP2.out _).mono ?_
            rintro e w4 ⟨rfl, he4⟩
            replace r8 := r8.ext he4
            replace hex := hex.trans he4
            have HOB := Lib.hid (And.intro (OwnE.ext HOA.out.1 he4) HOA.out.2)
            clear he4 HOA c0
            have c0 := r8.cell 0 (.int .u8 1) rfl
            have f1 := r8.free 2
            have c1 := r8.cell 2 _ rfl
            go_upto_region 13 with (fail)
            have hst := Wrote.setCell r8 2 (.string v)
            replace r8 : RowIs g 39 #[.int .u8 1, .string y, .string v, .int .u64 0] _ := r8.setCell 2 (.string v)
            replace hex := hst.ext hex hgB
            have HOC := Lib.hid (And.intro (ownsRow_setCell_other HOB.out.1 (a := ⟨g, 2, none⟩) HOB.out.2 (.string v)) HOB.out.2)
            clear f1 c1 hst HOB
            generalize w4.setCell ⟨g, 2, none⟩ (.string v) = w5 at *
            have d0 := r8.cell 0 _ rfl
            have d1 := r8.cell 1 _ rfl
            have d2 := r8.cell 2 _ rfl
            have d3 := r8.cell 3 _ rfl
            go_wp2_with fail
            refine (HCK.out _).mono ?_
            rintro e w6 ⟨rfl, he6⟩
            replace hex := hex.trans he6
            replace d0 := cell_ext d0 he6
            replace d1 := cell_ext d1 he6
            replace d2 := cell_ext d2 he6
            replace d3 := cell_ext d3 he6
            have HOE := Lib.hid (OwnE.ext HOC.out.1 he6)
            have hB6 : w.heap.size ≤ w6.heap.size := hex.size
            clear HOC r8 he6 HCK
            by_cases hcc : cc = 0
            · obtain ⟨q1, q2, q3⟩ := RA1.out hcc
              have HQ1 := Lib.hid q1
              have HQ2 := Lib.hid q2
              have hq : ((cc : Int) != 0) = false := by simp; omega
              clear q1 q2 hcc RA0 RA1
              go_wp2_with (at_builtin; refine wpl_upd2 Try.underlying56 info_rupd rfl _ _ rfl rfl HOE.out hB6 hal rfl 1 0 y v ?_; intro v7 w7 ho7 hb7 _ _; have HO7 := Lib.hid ho7; have HB7 := Lib.hid hb7; clear ho7 hb7)
              go_roundw
              case rel =>
                refine ⟨r2, acc ++ [⟨1, y, v, 0⟩], rfl, by simp; omega, HO7.out, fun u hu => ?_, HQ1.out, Below.trans hex HB7.out⟩
                rcases List.mem_append.1 hu with hu | hu
                · exact HFIT.out u hu
                · obtain rfl := List.mem_singleton.1 hu
                  exact ⟨HCE.out.trans HQ2.out.1, HQ2.out.2⟩
              case measure => exact q3
            · have hans := RA0.out hcc
              have HANS := Lib.hid hans
              have hq : ((cc : Int) != 0) = true := by simp; omega
              clear hans hcc RA0 RA1
              go_wp2_with fail
              go_ret2
              refine ⟨?_, hex⟩
              rw [HANS.out]
              exact rfl
        · by_cases hk3 : S[0].toNat = 3
          · by_cases h8 : 8 ≤ r.size
            · have hf := Rec.first_3y h1 h2 hk3 h8
              have hle := Lend.le_lt (r.data.toList.take 8)
              have hl8 : (r.data.toList.take 8).length ≤ 8 := by rw [List.length_take]; omega
              have hdb : Crc.le (r.data.toList.take 8) < 18446744073709551616 := Nat.lt_of_lt_of_le hle (Nat.pow_le_pow_right (by decide) hl8 : 256 ^ _ ≤ 256 ^ 8)
              have hg8 := get8_any r
              clear hle hl8
              generalize Crc.le (r.data.toList.take 8) = Dn at *
              have hck := fun w => refcheck_any 3 Dn y ⟨#[]⟩ w (by decide) hdb (by unfold maxLen; omega) (Nat.zero_le _)
              obtain ⟨ra0, ra1⟩ := HRF.out _ _ hf
              have RA0 := Lib.hid ra0
              have RA1 := Lib.hid ra1
              clear hf hpn h2 HRF ra0 ra1
              have HCK := Lib.hid hck
              clear hck
              have HG8 := Lib.hid hg8
              generalize hccE : Rec.check ⟨3, y, ⟨#[]⟩, Dn⟩ = cc at *
              have HCE := Lib.hid hccE
              clear hccE
              have hz8 : (r.extract 8 r.size).size = r.size - 8 := by simp
              have hl9 : decide (r.size < 8) = false := decide_eq_false (by omega)
              clear hg8
              go_wp2_with fail
              refine (HSP.out _).mono ?_
              rintro e w1 ⟨rfl, he1⟩
              go_upto_region 7 with (fail)
              have r8 := RowIs.new w1 39 #[.int .u8 3, .string y, .string ⟨#[]⟩, .int .u64 0]
              replace hex := hex.trans (he1.trans (Ext.alloc w1 (.cells #[.int .u8 3, .string y, .string ⟨#[]⟩, .int .u64 0] 39)))
              have hgB : w.heap.size ≤ w1.heap.size := by have := he1.size; omega
              have hHO : OwnE 39 (w1.alloc (.cells #[.int .u8 3, .string y, .string ⟨#[]⟩, .int .u64 0] 39)) w.heap.size u4 acc := OwnE.ext (OwnE.ext HOWN.out he1) (Ext.alloc _ _)
              have hne : (Value.ownBlock u4) ≠ some w1.heap.size := fun hq => by
                have := (World.ownsRow.lt (OwnE.ext HOWN.out he1) _ hq).2
                omega
              have HOA := Lib.hid (And.intro hHO hne)
              clear hHO hne HOWN he1 HSP
              generalize w1.alloc (.cells #[.int .u8 3, .string y, .string ⟨#[]⟩, .int .u64 0] 39) = w2 at *
              generalize w1.heap.size = g at *
              have c0 := r8.cell 0 (.int .u8 3) rfl
              go_wp2_with fail
              refine (HG8.out _).mono ?_
              rintro e w4 ⟨rfl, rfl⟩
              have HOB := HOA
              clear HOA
              have f1 := r8.free 3
              have c1 := r8.cell 3 _ rfl
              go_upto_region 18 with (fail)
              have hst := Wrote.setCell r8 3 (.int .u64 (Dn : Int))
              replace r8 : RowIs g 39 #[.int .u8 3, .string y, .string ⟨#[]⟩, .int .u64 (Dn : Int)] _ := r8.setCell 3 (.int .u64 (Dn : Int))
              replace hex := hst.ext hex hgB
              have HOC := Lib.hid (And.intro (ownsRow_setCell_other HOB.out.1 (a := ⟨g, 3, none⟩) HOB.out.2 (.int .u64 (Dn : Int))) HOB.out.2)
              clear f1 c1 hst HOB
              generalize w2.setCell ⟨g, 3, none⟩ (.int .u64 (Dn : Int)) = w5 at *
              have d0 := r8.cell 0 _ rfl
              have d1 := r8.cell 1 _ rfl
              have d2 := r8.cell 2 _ rfl
              have d3 := r8.cell 3 _ rfl
              go_wp2_with fail
              refine (HCK.out _).mono ?_
              rintro e w6 ⟨rfl, he6⟩
              replace hex := hex.trans he6
              replace d0 := cell_ext d0 he6
              replace d1 := cell_ext d1 he6
              replace d2 := cell_ext d2 he6
              replace d3 := cell_ext d3 he6
              have HOE := Lib.hid (OwnE.ext HOC.out.1 he6)
              have hB6 : w.heap.size ≤ w6.heap.size := hex.size
              clear HOC r8 he6 HCK
              by_cases hcc : cc = 0
              · obtain ⟨q1, q2, q3⟩ := RA1.out hcc
                have HQ1 := Lib.hid q1
                have HQ2 := Lib.hid q2
                have hq : ((cc : Int) != 0) = false := by simp; omega
                clear q1 q2 hcc RA0 RA1
                go_wp2_with (at_builtin; refine wpl_upd2 Try.underlying56 info_rupd rfl _ _ rfl rfl HOE.out hB6 hal rfl 3 Dn y ⟨#[]⟩ ?_; intro v7 w7 ho7 hb7 _ _; have HO7 := Lib.hid ho7; have HB7 := Lib.hid hb7; clear ho7 hb7)
                go_roundw
                case rel =>
                  refine ⟨(r.extract 8 r.size), acc ++ [⟨3, y, ⟨#[]⟩, Dn⟩], rfl, by simp; omega, HO7.out, fun u hu => ?_, HQ1.out, Below.trans hex HB7.out⟩
                  rcases List.mem_append.1 hu with hu | hu
                  · exact HFIT.out u hu
                  · obtain rfl := List.mem_singleton.1 hu
                    exact ⟨HCE.out.trans HQ2.out.1, HQ2.out.2⟩
                case measure => exact q3
              · have hans := RA0.out hcc
                have HANS := Lib.hid hans
                have hq : ((cc : Int) != 0) = true := by simp; omega
                clear hans hcc RA0 RA1
                go_wp2_with fail
                go_ret2
                refine ⟨?_, hex⟩
                rw [HANS.out]
                exact rfl
            · have hans := hpn (Rec.first_3n h1 h2 hk3 h8)
              have HANS := Lib.hid hans
              have hl9 : decide (r.size < 8) = true := decide_eq_true (by omega)
              clear hans hpn h2 HRF
              go_wp2_with fail
              refine (HSP.out _).mono ?_
              rintro e w1 ⟨rfl, he1⟩
              go_upto_region 7 with (fail)
              have r8 := RowIs.new w1 39 #[.int .u8 3, .string y, .string ⟨#[]⟩, .int .u64 0]
              replace hex := hex.trans (he1.trans (Ext.alloc w1 (.cells #[.int .u8 3, .string y, .string ⟨#[]⟩, .int .u64 0] 39)))
              have hgB : w.heap.size ≤ w1.heap.size := by have := he1.size; omega
              have hHO : OwnE 39 (w1.alloc (.cells #[.int .u8 3, .string y, .string ⟨#[]⟩, .int .u64 0] 39)) w.heap.size u4 acc := OwnE.ext (OwnE.ext HOWN.out he1) (Ext.alloc _ _)
              have hne : (Value.ownBlock u4) ≠ some w1.heap.size := fun hq => by
                have := (World.ownsRow.lt (OwnE.ext HOWN.out he1) _ hq).2
                omega
              have HOA := Lib.hid (And.intro hHO hne)
              clear hHO hne HOWN he1 HSP
              generalize w1.alloc (.cells #[.int .u8 3, .string y, .string ⟨#[]⟩, .int .u64 0] 39) = w2 at *
              generalize w1.heap.size = g at *
              have c0 := r8.cell 0 (.int .u8 3) rfl
              go_wp2_with fail
              go_ret2
              refine ⟨?_, hex⟩
              rw [HANS.out]
              exact rfl
          · have hf := Rec.first_x h1 h2 hk1 hk3
            have hck := fun w => refcheck_any S[0].toNat 0 y ⟨#[]⟩ w hk256 (by decide) (by unfold maxLen; omega) (Nat.zero_le _)
            obtain ⟨ra0, ra1⟩ := HRF.out _ _ hf
            have RA0 := Lib.hid ra0
            have RA1 := Lib.hid ra1
            clear hf hpn h2 HRF ra0 ra1
            have HCK := Lib.hid hck
            clear hck
            generalize hccE : Rec.check ⟨S[0].toNat, y, ⟨#[]⟩, 0⟩ = cc at *
            have HCE := Lib.hid hccE
            clear hccE
            go_wp2_with fail
            refine (HSP.out _).mono ?_
            rintro e w1 ⟨rfl, he1⟩
            go_upto_region 7 with (fail)
            generalize S[0].toNat = Kd at *
            have hkk1 : ((Kd : Int) == 1) = false := by simp; omega
            have hkk3 : ((Kd : Int) == 3) = false := by simp; omega
            clear hk1 hk3
            have r8 := RowIs.new w1 39 #[.int .u8 (Kd : Int), .string y, .string ⟨#[]⟩, .int .u64 0]
            replace hex := hex.trans (he1.trans (Ext.alloc w1 (.cells #[.int .u8 (Kd : Int), .string y, .string ⟨#[]⟩, .int .u64 0] 39)))
            have hgB : w.heap.size ≤ w1.heap.size := by have := he1.size; omega
            have hHO : OwnE 39 (w1.alloc (.cells #[.int .u8 (Kd : Int), .string y, .string ⟨#[]⟩, .int .u64 0] 39)) w.heap.size u4 acc := OwnE.ext (OwnE.ext HOWN.out he1) (Ext.alloc _ _)
            have hne : (Value.ownBlock u4) ≠ some w1.heap.size := fun hq => by
              have := (World.ownsRow.lt (OwnE.ext HOWN.out he1) _ hq).2
              omega
            have HOA := Lib.hid (And.intro hHO hne)
            clear hHO hne HOWN he1 HSP
            generalize w1.alloc (.cells #[.int .u8 (Kd : Int), .string y, .string ⟨#[]⟩, .int .u64 0] 39) = w2 at *
            generalize w1.heap.size = g at *
            have c0 := r8.cell 0 (.int .u8 (Kd : Int)) rfl
            have d0 := r8.cell 0 _ rfl
            have d1 := r8.cell 1 _ rfl
            have d2 := r8.cell 2 _ rfl
            have d3 := r8.cell 3 _ rfl
            go_wp2_with fail
            refine (HCK.out _).mono ?_
            rintro e w6 ⟨rfl, he6⟩
            replace hex := hex.trans he6
            replace d0 := cell_ext d0 he6
            replace d1 := cell_ext d1 he6
            replace d2 := cell_ext d2 he6
            replace d3 := cell_ext d3 he6
            have HOE := Lib.hid (OwnE.ext HOA.out.1 he6)
            have hB6 : w.heap.size ≤ w6.heap.size := hex.size
            clear HOA r8 he6 HCK
            by_cases hcc : cc = 0
            · obtain ⟨q1, q2, q3⟩ := RA1.out hcc
              have HQ1 := Lib.hid q1
              have HQ2 := Lib.hid q2
              have hq : ((cc : Int) != 0) = false := by simp; omega
              clear q1 q2 hcc RA0 RA1
              go_wp2_with (at_builtin; refine wpl_upd2 Try.underlying56 info_rupd rfl _ _ rfl rfl HOE.out hB6 hal rfl Kd 0 y ⟨#[]⟩ ?_; intro v7 w7 ho7 hb7 _ _; have HO7 := Lib.hid ho7; have HB7 := Lib.hid hb7; clear ho7 hb7)
              go_roundw
              case rel =>
                refine ⟨r, acc ++ [⟨Kd, y, ⟨#[]⟩, 0⟩], rfl, by simp; omega, HO7.out, fun u hu => ?_, HQ1.out, Below.trans hex HB7.out⟩
                rcases List.mem_append.1 hu with hu | hu
                · exact HFIT.out u hu
                · obtain rfl := List.mem_singleton.1 hu
                  exact ⟨HCE.out.trans HQ2.out.1, HQ2.out.2⟩
              case measure => exact q3
            · have hans := RA0.out hcc
              have HANS := Lib.hid hans
              have hq : ((cc : Int) != 0) = true := by simp; omega
              clear hans hcc RA0 RA1
              go_wp2_with fail
              go_ret2
              refine ⟨?_, hex⟩
              rw [HANS.out]
              exact rfl
end Go.Proofs.Ytemhflafiephpaa
