/- The walk of law12.RecTexts. -/
import Derived.Test.YtemhflafiephpaaRecJ
namespace Go.Proofs.Ytemhflafiephpaa
open Go.RowKit
theorem cutU_fit {u : Msg.Up} (h : FitU u) : FitU (cutU u) := by
  obtain ⟨h1, h2, h3, h4⟩ := h
  have := cutS_size u.key
  have := cutS_size u.value
  exact ⟨h1, by show (cutS u.key).size ≤ _; omega, by show (cutS u.value).size ≤ _; omega, h4⟩
theorem cutL_fit {l : List Msg.Up} (h : ∀ u ∈ l, FitU u) : ∀ u ∈ cutL l, FitU u := fun u hu => by
  obtain ⟨v, hv, rfl⟩ := List.mem_map.1 hu
  exact cutU_fit (h v (List.mem_of_mem_take hv))
theorem cutL_length (l : List Msg.Up) : (cutL l).length ≤ 12 := by
  unfold cutL; rw [List.length_map, List.length_take]; omega
theorem text_one (u : Msg.Up) : Rec.text [u] = if Rec.check u = 0 then (Rec.bytes u, 0) else ([], Rec.check u) := by
  unfold Rec.text
  split
  · simp [Rec.text]
  · rfl
theorem recs_one {w : World} {a : Option Addr} {b o : Nat} {l : List Msg.Up} (h : Recs w a l) {j : Nat} (hj : j < l.length) (ha : a = some ⟨b, o, none⟩) : Recs w (some ⟨b, o + j * 4, none⟩) [l[j]] := fun i hi => by
  obtain rfl : i = 0 := by simpa using hi
  obtain ⟨b', o', h0, h1⟩ := h j hj
  rw [ha] at h0
  cases h0
  exact ⟨b, o + j * 4, rfl, by simpa using h1⟩
set_option maxRecDepth 100000 in
set_option maxHeartbeats 4000000 in
theorem recTexts_walk (a : Option Addr) (l : List Msg.Up) (ca : Nat) (w : World) (hR : Recs w a l) (hca : l.length ≤ ca ∧ ca ≤ maxLen) (hS : ∀ u ∈ l, FitU u) :
    Calls Try.prog 8 #[.slice a l.length ca] w fun e w' => e = .returned (.bool true) ∧ Ext w w' := by
  have hof := of_any l a ca w hca hR hS
  have hfit := cutL_fit hS
  have hln := cutL_length l
  generalize cutL l = L at *
  have HOF := Lib.hid hof; have HF := Lib.hid hfit
  clear hof hfit hR hS hca
  go_enter Try.func8, Try.ntmps8
  go_wp2_with fail
  refine HOF.out.mono ?_
  rintro e w1 ⟨⟨v1, v2, rfl, ho1, ho2⟩, he1⟩
  obtain ⟨a1, c1, rfl, _, _, hR1⟩ := own_recs ho1
  obtain ⟨a2, c2, rfl, ⟨hk1, hk2⟩, _, hR2⟩ := own_recs ho2
  unfold maxLen at hk2
  have HR1 := Lib.hid hR1; have HR2 := Lib.hid hR2
  clear hR1 hR2 ho1 ho2 HOF
  go_wp2_with fail
  go_loopw [19] (fun i wx => ∃ j : Nat, j ≤ L.length ∧ i = .int .i64 j ∧ Ext w1 wx) (fun i _ => L.length - (intOf i).toNat)
  case atStart => exact ⟨0, by omega, rfl, Ext.refl _⟩
  case round =>
    obtain ⟨j, hj, rfl, hex⟩ := hrel
    by_cases hlt : j < L.length
    · obtain ⟨b1, o1, rfl, hc0, hc1, hc2, hc3⟩ := (HR1.out.ext hex) j hlt
      obtain ⟨b2, o2, rfl, _⟩ := (HR2.out.ext hex) j hlt
      have hone := recs_one (HR2.out.ext hex) hlt rfl
      have htx := reftext_any [L[j]] (some ⟨b2, o2 + j * 4, none⟩) (c2 - j) wr (by simp) hone (fun u hu => by
        obtain rfl := List.mem_singleton.1 hu
        exact HF.out _ (by simp))
      have hfu := HF.out L[j] (by simp)
      rw [text_one] at htx
      have HTX := Lib.hid htx
      clear htx hone
      generalize L[j] = u at *
      obtain ⟨K, Y, V, D⟩ := u
      obtain ⟨f1, f2, f3, f4⟩ := hfu
      simp only at hc0 hc1 hc2 hc3 f1 f2 f3 f4
      have hck := fun w => check_any K D Y V w f1 f4 f2 f3
      have hsz := fun w => usize_any K D Y V w f1 f4 f2 f3
      have HCK := Lib.hid hck
      have HSZ := Lib.hid hsz
      clear hck hsz
      have htx := HTX.out
      clear HTX
      have hq : (⟨(if Rec.check ⟨K, Y, V, D⟩ = 0 then (Rec.bytes ⟨K, Y, V, D⟩, 0) else ([], Rec.check ⟨K, Y, V, D⟩) : List UInt8 × Nat).1.toArray⟩ : ByteArray).size = if Rec.check ⟨K, Y, V, D⟩ = 0 then (Rec.bytes ⟨K, Y, V, D⟩).length else 0 := by split <;> exact List.size_toArray
      have hq2 : (if Rec.check ⟨K, Y, V, D⟩ = 0 then (Rec.bytes ⟨K, Y, V, D⟩, 0) else ([], Rec.check ⟨K, Y, V, D⟩) : List UInt8 × Nat).2 = Rec.check ⟨K, Y, V, D⟩ := by split <;> simp_all
      rw [hq2] at htx
      have HTX := Lib.hid htx
      clear htx hq2
      generalize (⟨(if Rec.check ⟨K, Y, V, D⟩ = 0 then (Rec.bytes ⟨K, Y, V, D⟩, 0) else ([], Rec.check ⟨K, Y, V, D⟩) : List UInt8 × Nat).1.toArray⟩ : ByteArray) = Bz at *
      generalize (if Rec.check ⟨K, Y, V, D⟩ = 0 then (Rec.bytes ⟨K, Y, V, D⟩).length else 0) = N1 at *
      generalize Rec.check ⟨K, Y, V, D⟩ = C1 at *
      go_wp2_with fail
      refine HTX.out.mono ?_
      rintro e w2 ⟨rfl, he2⟩
      replace hc0 := cell_ext hc0 he2
      replace hc1 := cell_ext hc1 he2
      replace hc2 := cell_ext hc2 he2
      replace hc3 := cell_ext hc3 he2
      go_wp2_with fail
      refine (HCK.out _).mono ?_
      rintro e w3 ⟨rfl, he3⟩
      replace hc0 := cell_ext hc0 he3
      replace hc1 := cell_ext hc1 he3
      replace hc2 := cell_ext hc2 he3
      replace hc3 := cell_ext hc3 he3
      go_wp2_with fail
      refine (HSZ.out _).mono ?_
      rintro e w4 ⟨rfl, he4⟩
      go_wp2_with fail
      go_roundw
      case rel => exact ⟨j + 1, by omega, by go_num, hex.trans (he2.trans (he3.trans he4))⟩
      case measure => simp [intOf]; omega
    · obtain rfl : j = L.length := by omega
      have htx := fun w' (e : Ext w1 w') => text_any L a1 c1 w' (by omega) (HR1.out.ext e) HF.out
      have hrt := fun w' (e : Ext w1 w') => reftext_any L a2 c2 w' (by omega) (HR2.out.ext e) HF.out
      have HTX := Lib.hid htx; have HRT := Lib.hid hrt
      clear htx hrt
      generalize (⟨(Rec.text L).1.toArray⟩ : ByteArray) = T at *
      generalize (Rec.text L).2 = E at *
      clear HR1 HR2 HF hlt hj
      go_wp2_with fail
      refine (HTX.out _ hex).mono ?_
      rintro e w2 ⟨rfl, he2⟩
      go_wp2_with fail
      refine (HRT.out _ (hex.trans he2)).mono ?_
      rintro e w3 ⟨rfl, he3⟩
      go_wp2_with fail
      refine (wakes12 _).mono ?_
      rintro e w4 ⟨rfl, he4⟩
      go_wp2_with fail
      go_ret
      exact ⟨rfl, he1.trans (hex.trans (he2.trans (he3.trans he4)))⟩
end Go.Proofs.Ytemhflafiephpaa
