/- The walk of law03.DevLasts. -/
import Derived.Test.YtcpbpfngiimcnaaDevO
import Derived.Test.YtcpbpfngiimcnaaDevP
import Derived.Test.YtcpbpfngiimcnaaLawDevFaults
import Derived.Test.YtcpbpfngiimcnaaOwnG
namespace Go.Proofs.Ytcpbpfngiimcnaa
open Go.RowKit
/-- nine texts in an array's cells -/
def rowL (L : List ByteArray) : Array Value := (L.map Value.string).toArray
theorem rowL_set (L : List ByteArray) (k : Nat) (z : ByteArray) : (rowL L).setIfInBounds k (.string z) = rowL (L.set k z) := by
  unfold rowL
  rw [List.map_set, List.setIfInBounds_toArray]
theorem rowL_at {L : List ByteArray} {A k : Nat} {w : World} {T : TypeId} (h : RowIs A T (rowL L) w) (hk : k < L.length) : w.cell? ⟨A, k, none⟩ = some (.string (L.getD k .empty)) := by
  refine h.cell k _ ?_
  unfold rowL
  rw [List.getElem?_toArray, List.getElem?_map, List.getElem?_eq_getElem hk, List.getD_eq_getElem?_getD, List.getElem?_eq_getElem hk]
  rfl
theorem nine {L : List ByteArray} (h : L.length = 9) : ∃ a b c d e f g i j, L = [a, b, c, d, e, f, g, i, j] := by
  match L, h with
  | [a, b, c, d, e, f, g, i, j], _ => exact ⟨a, b, c, d, e, f, g, i, j, rfl⟩
theorem all_same {L : List ByteArray} {Z : ByteArray} (hL : L.length = 9) (h : ∀ j, j < 9 → L.getD j .empty = Z) : L = List.replicate 9 Z := by
  apply List.ext_getElem
  · simpa using hL
  · intro i h1 h2
    rw [List.getElem_replicate, ← h i (by omega), List.getD_eq_getElem?_getD, List.getElem?_eq_getElem h1]
    rfl
theorem PD.far {w w' : World} {B b m q g : Nat} {d : Dev.St} {T : TypeId} {cs : Array Value} (h : PD w B b m q d) (hr : RowIs g T cs w) (hT : 95 ≠ T) (hg : b ≠ g ∧ m ≠ g ∧ q ≠ g) (e : But g w w') : PD w' B b m q d := by
  obtain ⟨⟨cv, hb, hc⟩, hm, hq, hok, hlow⟩ := h
  exact ⟨⟨cv, e.row hb hg.1, hc.but hr hT e⟩, hm.but e hg.2.1, hq.but e hg.2.2, hok, hlow⟩
theorem PD.lts {w : World} {B b m q : Nat} {d : Dev.St} (h : PD w B b m q d) : b < w.heap.size ∧ m < w.heap.size ∧ q < w.heap.size := by
  obtain ⟨⟨cv, hb, _⟩, hm, hq, _, _⟩ := h
  exact ⟨hb.lt, hm.lt, hq.lt⟩
theorem PD.map_ne {w : World} {B b m q M n : Nat} {d : Dev.St} {later : Nat → Bool} (h : PD w B b m q d) (hl : LaterAt w M n later) : M ≠ b ∧ M ≠ m ∧ M ≠ q := by
  obtain ⟨⟨cv, hb, _⟩, ⟨c1, hm, _⟩, ⟨c2, hq, _⟩, _, _⟩ := h
  exact ⟨hl.ne_row hb, hl.ne_row hm, hl.ne_row hq⟩
/-- a map is written: all rows stay -/
theorem PD.map {w w' : World} {B b m q M n : Nat} {d : Dev.St} {later : Nat → Bool} (h : PD w B b m q d) (hl : LaterAt w M n later) (e : But M w w') : PD w' B b m q d := by
  obtain ⟨h1, h2, h3⟩ := h.map_ne hl
  obtain ⟨⟨cv, hb, hc⟩, hm, hq, hok, hlow⟩ := h
  exact ⟨⟨cv, e.row hb (Ne.symm h1), hc.kept fun k cs z hk => e.block k (Array.getElem?_eq_some_iff.1 hk).1 (fun e2 => hl.ne_row hk e2.symm)⟩, hm.but e (Ne.symm h2), hq.but e (Ne.symm h3), hok, hlow⟩
theorem info_fate : (Try.prog.info? 40).map (fun i => (i.zero, i.size, i.bytes)) = some (some (.int .i64 0), 1, 8) := by kernel_rfl
def fateV (xs : List Int) : List Value := xs.map fun x => .int .i64 x
/-- fates that the call itself has gathered, as Crash reads them -/
theorem fate_cells {w : World} {B0 B b m q n : Nat} {v : Value} {xs : List Int} (h : w.ownsRow B0 40 1 v n (fateV xs)) (hn : n = xs.length) (hb : b < B0 ∧ m < B0 ∧ q < B0) :
    ∃ a c, v = .slice a xs.length c ∧ ∀ w', DF 95 B b m q w w' → ∀ i (hi : i < xs.length), ∃ g o, a = some ⟨g, o, none⟩ ∧ w'.cell? ⟨g, o + i, none⟩ = some (.int .i64 xs[i]) := by
  subst hn
  obtain ⟨hx, ⟨rfl, h0⟩ | ⟨g, cap, cur, rfl, hB, hg, h1, h2, h3, ht⟩⟩ := h
  · have e : xs = [] := by simpa [fateV] using h0
    subst e
    exact ⟨none, 0, rfl, fun w' _ i hi => by simp at hi⟩
  · refine ⟨_, cap, rfl, fun w' hd i hi => ⟨g, 0, rfl, ?_⟩⟩
    have hr : RowIs g 40 cur w' := hd.row (show RowIs g 40 cur w from hg) (by decide) (by omega)
    refine hr.cell _ _ ?_
    have e1 : (fateV xs)[i]? = some (.int .i64 xs[i]) := by simp [fateV, hi]
    rw [← ht, List.getElem?_take] at e1
    split at e1
    · simpa using e1
    · cases e1
theorem tmod7 (x : Nat) : (x : Int).tmod 7 = 0 ∨ ∃ r : Nat, (x : Int).tmod 7 = (r : Int) ∧ ((r : Int) == 0) = false := by
  by_cases h : (x : Int).tmod 7 = 0
  · exact .inl h
  · refine .inr ⟨((x : Int).tmod 7).toNat, ?_, ?_⟩
    · rw [Int.tmod_eq_emod_of_nonneg (by omega)] at h ⊢
      omega
    · rw [Int.tmod_eq_emod_of_nonneg (by omega)] at h ⊢
      exact beq_eq_false_iff_ne.2 (by omega)
set_option maxRecDepth 100000 in
set_option maxHeartbeats 12000000 in
theorem devLasts_walk (a1 : Option Addr) (l1 : List Int) (c1 : Nat) (a2 : Option Addr) (l2 : List Int) (c2 : Nat) (w : World) (hI1 : IntsOf .u8 w a1 l1) (hca1 : l1.length ≤ c1 ∧ c1 ≤ maxLen) (hS1 : ∀ u ∈ l1, 0 ≤ u ∧ u < 256)
    (hI2 : IntsOf .u8 w a2 l2) (hca2 : l2.length ≤ c2 ∧ c2 ≤ maxLen) (hS2 : ∀ u ∈ l2, 0 ≤ u ∧ u < 256) :
    Calls Try.prog 3 #[.slice a1 l1.length c1, .slice a2 l2.length c2] w fun e w' => e = .returned (.bool true) ∧ Ext w w' := by
  unfold maxLen at hca1 hca2
  obtain ⟨hcb1, hcc1⟩ := hca1
  obtain ⟨hcb2, hcc2⟩ := hca2
  have hU1 := ints_cuts hI1 hcb1 hS1 40
  have hU2 := ints_cuts hI2 hcb2 hS2 40
  have HU1 := Lib.hid hU1; have HU2 := Lib.hid hU2
  clear hI1 hS1 hI2 hS2 hU1 hU2
  have hz : Dev.zero = ⟨Array.replicate 128 0⟩ := rfl
  have hrp := fun w => srepeat_any 0 w
  rw [← hz] at hrp
  obtain ⟨Z, hzz⟩ : ∃ Z, Dev.zero = Z := ⟨_, rfl⟩
  rw [hzz] at hrp
  have HRP := Lib.hid hrp; have HZ := Lib.hid hzz
  clear hrp hz hzz
  go_enter Try.func3, Try.ntmps3
  go_wp2_with fail
  refine (new_yes _).mono ?_
  rintro e w1 ⟨⟨v, rfl, db, dm, dq, rfl, hp⟩, he1⟩
  obtain ⟨B, hB⟩ : ∃ B, w.heap.size = B := ⟨_, rfl⟩
  rw [hB] at hp
  have hBw : w.heap.size ≤ B := by omega
  have hlow := hp.low
  have HP := Lib.hid hp; have HE := Lib.hid he1
  clear hp he1 hB
  go_wp2_with fail
  refine (wakes03 _).mono ?_
  rintro e w2 ⟨rfl, he2⟩
  replace HP := Lib.hid (HP.out.ext he2)
  replace HE := Lib.hid (HE.out.trans he2)
  clear he2
  go_upto_region 5 with (fail)
  have r7 : RowIs w2.heap.size 30 (rowL (List.replicate 9 ⟨#[]⟩)) (w2.alloc (.cells #[.string ⟨#[]⟩, .string ⟨#[]⟩, .string ⟨#[]⟩, .string ⟨#[]⟩, .string ⟨#[]⟩, .string ⟨#[]⟩, .string ⟨#[]⟩, .string ⟨#[]⟩, .string ⟨#[]⟩] 30)) := RowIs.new _ _ _
  have hx3 := Ext.alloc w2 (.cells #[.string ⟨#[]⟩, .string ⟨#[]⟩, .string ⟨#[]⟩, .string ⟨#[]⟩, .string ⟨#[]⟩, .string ⟨#[]⟩, .string ⟨#[]⟩, .string ⟨#[]⟩, .string ⟨#[]⟩] 30)
  have hl7 : db < w2.heap.size ∧ dm < w2.heap.size ∧ dq < w2.heap.size ∧ w.heap.size ≤ w2.heap.size := ⟨(by obtain ⟨cv, hr, _⟩ := HP.out.row; exact hr.lt), HP.out.media.lt, HP.out.bad.lt, HE.out.size⟩
  generalize w2.alloc (.cells #[.string ⟨#[]⟩, .string ⟨#[]⟩, .string ⟨#[]⟩, .string ⟨#[]⟩, .string ⟨#[]⟩, .string ⟨#[]⟩, .string ⟨#[]⟩, .string ⟨#[]⟩, .string ⟨#[]⟩] 30) = w3 at *
  generalize w2.heap.size = A7 at *
  replace HP := Lib.hid (HP.out.ext hx3)
  replace HE := Lib.hid (HE.out.trans hx3)
  clear hx3
  have hmm := run_makeMap (P := Try.prog) 31 w3
  have hla := LaterAt.new w3
  have hx4 := Ext.alloc w3 (.map #[] 0)
  have hl8 : A7 < w3.heap.size := r7.lt
  replace r7 := r7.ext hx4
  obtain ⟨M8, hM8⟩ : ∃ M, w3.heap.size = M := ⟨_, rfl⟩
  rw [hM8] at hmm hla hl8
  generalize w3.alloc (.map #[] 0) = w4 at *
  replace HP := Lib.hid (HP.out.ext hx4)
  replace HE := Lib.hid (HE.out.trans hx4)
  have HLA := Lib.hid hla; have R7 := Lib.hid r7
  clear hx4 hla r7 hM8
  go_upto_region 6 with (fail)
  clear hmm
  go_wp2_with fail
  go_loopw [39] (fun i wx => ∃ (k : Nat) (L : List ByteArray), k ≤ 9 ∧ i = .int .i64 k ∧ L.length = 9 ∧ (∀ j, j < k → L.getD j .empty = Z) ∧ RowIs A7 30 (rowL L) wx ∧ But A7 w4 wx) (fun i _ => 9 - (intOf i).toNat)
  case atStart => exact ⟨0, _, by omega, rfl, by simp, fun j hj => (by omega), R7.out, But.refl _ _⟩
  case round =>
    obtain ⟨k, L, hk, rfl, hL, hLz, hrL, hbL⟩ := hrel
    have HRL := Lib.hid hrL; have HBL := Lib.hid hbL; have HLZ := Lib.hid hLz
    clear hrL hbL hLz
    by_cases hlt : k < 9
    · have hlt' : 0 ≤ (k : Int) ∧ (k : Int) < 9 := by omega
      have hd : decide ((k : Int) < 9) = true := decide_eq_true (by omega)
      go_wp2_with fail
      refine (HRP.out _).mono ?_
      rintro e w5 ⟨rfl, he5⟩
      have hr5 := HRL.out.ext he5
      have f5 := hr5.free k
      have k5 := rowL_at hr5 (show k < L.length by omega)
      have HR5 := Lib.hid hr5; have HE5 := Lib.hid he5
      clear hr5 he5
      go_wp2_with fail
      go_roundw
      case rel =>
        refine ⟨k + 1, L.set k Z, by omega, by go_num, by simpa using hL, fun j hj => ?_, by rw [← rowL_set]; exact HR5.out.setCell k (.string Z), (HBL.out.trans (But.of HE5.out)).trans (Wrote.setCell HR5.out k _).but⟩
        rw [Dev.getD_set _ _ _ _ (by omega)]
        split
        · rfl
        · exact HLZ.out j (by omega)
      case measure => simp [intOf]; omega
    · obtain rfl : k = 9 := by omega
      obtain rfl := all_same hL HLZ.out
      clear hL HLZ hk hlt
      rw [show ((9 : Nat) : Int) = 9 from rfl]
      have hne7 : db ≠ A7 ∧ dm ≠ A7 ∧ dq ≠ A7 := by omega
      have hp5 := HP.out.far R7.out (by decide) hne7 HBL.out
      have he5 : Ext w wr := HBL.out.ext HE.out (by omega)
      have hla5 : LaterAt wr M8 0 (fun _ => false) := HLA.out.same (HBL.out.block M8 HLA.out.lt (by omega))
      have HP5 := Lib.hid hp5; have HE5 := Lib.hid he5; have HLA5 := Lib.hid hla5
      clear hp5 he5 hla5 HP HE HLA R7 HBL
      have c0 := HRL.out.cell 0 (.string Z) rfl
      have c1' := HRL.out.cell 1 (.string Z) rfl
      have c2' := HRL.out.cell 2 (.string Z) rfl
      have c3 := HRL.out.cell 3 (.string Z) rfl
      have c4 := HRL.out.cell 4 (.string Z) rfl
      have c5 := HRL.out.cell 5 (.string Z) rfl
      have c6 := HRL.out.cell 6 (.string Z) rfl
      have c7 := HRL.out.cell 7 (.string Z) rfl
      have c8 := HRL.out.cell 8 (.string Z) rfl
      go_upto_region 12 with (fail)
      have r10 : RowIs wr.heap.size 30 (rowL (List.replicate 9 Z)) (wr.alloc (.cells #[.string Z, .string Z, .string Z, .string Z, .string Z, .string Z, .string Z, .string Z, .string Z] 30)) := RowIs.new _ _ _
      have hx6 := Ext.alloc wr (.cells #[.string Z, .string Z, .string Z, .string Z, .string Z, .string Z, .string Z, .string Z, .string Z] 30)
      generalize wr.alloc (.cells #[.string Z, .string Z, .string Z, .string Z, .string Z, .string Z, .string Z, .string Z, .string Z] 30) = w6 at *
      have hlt10 : A7 < wr.heap.size ∧ M8 < wr.heap.size ∧ w.heap.size ≤ wr.heap.size := ⟨HRL.out.lt, HLA5.out.lt, HE5.out.size⟩
      have hlts := HP5.out.lts
      generalize wr.heap.size = A10 at *
      have HP6 := Lib.hid (HP5.out.ext hx6); have HE6 := Lib.hid (HE5.out.trans hx6); have HLA6 := Lib.hid (HLA5.out.ext hx6); have HR7 := Lib.hid (HRL.out.ext hx6); have HR10 := Lib.hid r10
      clear c0 c1' c2' c3 c4 c5 c6 c7 c8 HP5 HE5 HLA5 HRL r10 hx6
      have hcalm : Dev.Calm (List.replicate 9 Z) (List.replicate 9 Z) (fun _ => false) 0 Dev.new := by rw [← HZ.out]; exact Dev.calm_new
      have HC := Lib.hid hcalm
      clear hcalm
      have hne10 : db ≠ A10 ∧ dm ≠ A10 ∧ dq ≠ A10 := by omega
      have hne : A10 ≠ A7 := by omega
      go_cut [51, 52, 53] (fun sl n i wx => ∃ L : List Int, sl = .slice a1 L.length c1 ∧ n = .int .i64 L.length ∧ i = .int .i64 0 ∧ L.length ≤ 40 ∧ L.length ≤ c1 ∧ IntsOf .u8 w a1 L ∧ (∀ u ∈ L, 0 ≤ u ∧ u < 256) ∧ wx = w6)
      case first =>
        obtain ⟨q1, q2, q3, q4⟩ := HU1.out
        have q5 : (l1.take 40).length = min 40 l1.length := List.length_take
        go_wp2_with fail
        all_goals go_meet
        all_goals exact ⟨l1.take 40, by rw [q5]; congr 1; omega, by rw [q5]; congr 1; omega, rfl, q3, q4, q1, q2, rfl⟩
      obtain ⟨L, rfl, rfl, rfl, hL40, hLc, hIL, hSL, rfl⟩ := hcut
      have HIL := Lib.hid hIL; have HSL := Lib.hid hSL
      clear hIL hSL HU1
      go_wp2_with fail
      go_loopw [8, 53] (fun mv i wx => ∃ (k M : Nat) (d : Dev.St) (old now : List ByteArray) (later : Nat → Bool), k ≤ L.length ∧ i = .int .i64 k ∧ mv = .map (some M) ∧ Dev.Calm old now later k d ∧ PD wx B db dm dq d ∧ (old.length = 9 ∧ now.length = 9) ∧ RowIs A7 30 (rowL old) wx ∧ RowIs A10 30 (rowL now) wx ∧ LaterAt wx M k later ∧ w.heap.size ≤ M ∧ Ext w wx) (fun _ i _ => L.length - (intOf i).toNat)
      case atStart => exact ⟨0, M8, _, _, _, _, by omega, rfl, rfl, HC.out, HP6.out, ⟨by simp, by simp⟩, HR7.out, HR10.out, HLA6.out, by omega, HE6.out⟩
      case round =>
        obtain ⟨k, M, d, old, now, later, hk, rfl, rfl, hc, hp, ⟨hol, hnl⟩, hr7, hr10, hlm, hMw, hex⟩ := hrel
        have HC := Lib.hid hc; have HP := Lib.hid hp; have HR7 := Lib.hid hr7; have HR10 := Lib.hid hr10; have HLM := Lib.hid hlm; have HE := Lib.hid hex
        clear hc hp hr7 hr10 hlm HP6 HE6 HLA6
        by_cases hlt : k < L.length
        · obtain ⟨g, og, rfl, hcu⟩ := (HIL.out.ext hex) k hlt
          have hu := HSL.out L[k] (List.getElem_mem hlt)
          obtain ⟨n, hn⟩ : ∃ n : Nat, L[k] = (n : Int) := ⟨L[k].toNat, by omega⟩
          rw [hn] at hcu hu
          have hn256 : n < 256 := by omega
          clear hn hex
          obtain ⟨ix, hix, hi9⟩ := tmod9 n
          have wn : IntKind.i64.wrap (n : Int) = (n : Int) := by rw [IntKind.wrap_i64]; omega
          have hi9' : 0 ≤ (ix : Int) ∧ (ix : Int) < 9 := by omega
          rcases tmod7 n with h7 | ⟨r7, h7, h70⟩
          · obtain ⟨d', hfl, hs'⟩ := HC.out.flush HP.out.ok
            have HFL := Lib.hid hfl; have HS := Lib.hid hs'
            clear hfl hs'
            go_wp2_with fail
            refine (devflush_any (HC.out.fit (by omega)) HP.out).mono ?_
            rw [HFL.out]
            rintro e w7 ⟨rfl, hp, hd⟩
            have HP7 := Lib.hid hp; have HE7 := Lib.hid (hd.low HE.out hBw hlow)
            have hr7 := hd.row HR7.out (by decide) (by omega)
            have hr10 := hd.row HR10.out (by decide) (by omega)
            clear hp hd
            obtain ⟨n0, n1, n2, n3, n4, n5, n6, n7, n8, rfl⟩ := nine hnl
            have k0 := hr10.cell 0 (.string n0) rfl
            have k1 := hr10.cell 1 (.string n1) rfl
            have k2 := hr10.cell 2 (.string n2) rfl
            have k3 := hr10.cell 3 (.string n3) rfl
            have k4 := hr10.cell 4 (.string n4) rfl
            have k5 := hr10.cell 5 (.string n5) rfl
            have k6 := hr10.cell 6 (.string n6) rfl
            have k7 := hr10.cell 7 (.string n7) rfl
            have k8 := hr10.cell 8 (.string n8) rfl
            have HA7 := Lib.hid hr7; have HA10 := Lib.hid hr10
            clear hr7 hr10
            have hmm := run_makeMap (P := Try.prog) 31 w7
            have hla := LaterAt.new w7
            have hx8 := Ext.alloc w7 (.map #[] 0)
            obtain ⟨M9, hM9⟩ : ∃ M, w7.heap.size = M := ⟨_, rfl⟩
            rw [hM9] at hmm hla
            have hM9w : w.heap.size ≤ M9 := by have := HE7.out.size; omega
            generalize w7.alloc (.map #[] 0) = w8 at *
            have HA7 := Lib.hid (HA7.out.ext hx8); have HA10 := Lib.hid (HA10.out.ext hx8); have HP8 := Lib.hid (HP7.out.ext hx8); have HE8 := Lib.hid (HE7.out.trans hx8); have HLA := Lib.hid hla
            clear hla hM9 HP7 HE7 hx8
            go_wp2_with (refine wpl_row (ty := 30) (T := 30) rfl rfl rfl rfl HA7.out (by kernel_rfl) (by simp [rowL, hol]) (by simp [Value.oneCell']) ?_; intro w9 hw9 hr9; have HW9 := Lib.hid hw9; have HR9 := Lib.hid hr9; clear hw9 hr9)
            go_roundw
            case rel =>
              have hne9 : db ≠ A7 ∧ dm ≠ A7 ∧ dq ≠ A7 := hne7
              exact ⟨k + 1, M9, _, _, _, _, by omega, by go_num, rfl, HS.out, HP8.out.far HA7.out (by decide) hne9 HW9.out.but, ⟨rfl, rfl⟩, HR9.out, HW9.out.row HA10.out hne, (HLA.out.same (HW9.out.block M9 (fun e => HLA.out.ne_row HA7.out e))).mono (by omega), hM9w, HW9.out.ext HE8.out (by omega)⟩
            case measure => simp [intOf]; omega
          · have hk256 : (k : Int) % 256 = (k : Int) := by omega
            obtain ⟨ub, hub⟩ : ∃ u : UInt8, (n : Int) = (u.toNat : Int) := ⟨UInt8.ofNat n, by simp; omega⟩
            obtain ⟨kb, hkb⟩ : ∃ u : UInt8, (k : Int) = (u.toNat : Int) := ⟨UInt8.ofNat k, by simp; omega⟩
            have hcv : ∀ w : World, (convert 22 9 (.slice (some ⟨w.heap.size, 0, none⟩) 2 2)).run Try.prog (w.alloc (.cells #[.int .u8 (n : Int), .int .u8 (k : Int)] 5)) = .ok (.string ⟨#[ub, kb]⟩) (w.alloc (.cells #[.int .u8 (n : Int), .int .u8 (k : Int)] 5)) := fun w => by rw [hub, hkb]; exact conv_two w ub kb 2
            have hful := fun w => full_any ⟨#[ub, kb]⟩ w (show (2 : Nat) ≤ 1000000 by omega)
            have hfs := fullT_size ⟨#[ub, kb]⟩
            generalize fullT ⟨#[ub, kb]⟩ = F at *
            have HFUL := Lib.hid hful
            clear hful hub hkb
            obtain ⟨d', hwq, hs'⟩ := HC.out.write hi9 hfs hnl
            have HWQ := Lib.hid hwq; have HS := Lib.hid hs'
            clear hwq hs'
            go_wp2_with fail
            refine (HFUL.out _).mono ?_
            rintro e w7 ⟨rfl, he7⟩
            have hx7 := (Ext.alloc wr (.cells #[.int .u8 (n : Int), .int .u8 (k : Int)] 5)).trans he7
            have HA10 := Lib.hid (HR10.out.ext hx7); have HA7 := Lib.hid (HR7.out.ext hx7); have HP7 := Lib.hid (HP.out.ext hx7); have HE7 := Lib.hid (HE.out.trans hx7); have HL7 := Lib.hid (HLM.out.ext hx7)
            clear he7 hx7
            have f10 := HA10.out.free ix
            have k10 := rowL_at HA10.out (show ix < now.length by omega)
            have hr8 := HA10.out.setCell ix (.string F)
            rw [rowL_set] at hr8
            have hw8 := (Wrote.setCell HA10.out ix (.string F))
            go_upto_region 21 with (fail)
            have HW8 := Lib.hid hw8; have HR8 := Lib.hid hr8
            clear hw8 hr8
            generalize w7.setCell ⟨A10, ix, none⟩ (.string F) = w8 at *
            have HP8 := Lib.hid (HP7.out.far HA10.out (by decide) hne10 HW8.out.but)
            have HA8 := Lib.hid (HW8.out.row HA7.out hne.symm)
            have HE8 := Lib.hid (HW8.out.ext HE7.out (by omega))
            have HL8 := Lib.hid (HL7.out.same (HW8.out.block M (fun e => HL7.out.ne_row HA10.out e)))
            clear f10 k10 HP7 HA7 HE7 HL7 HA10 HW8
            obtain ⟨w9, hup, hl9, hb9⟩ := HL8.out.set (by omega) hi9
            have HP9 := Lib.hid (HP8.out.map HL8.out hb9)
            have HA9 := Lib.hid (hb9.row HA8.out (fun e => HL8.out.ne_row HA8.out e.symm))
            have HR9 := Lib.hid (hb9.row HR8.out (fun e => HL8.out.ne_row HR8.out e.symm))
            have HE9 := Lib.hid (hb9.ext HE8.out hMw)
            have HL9 := Lib.hid hl9
            clear hl9 hb9 HP8 HA8 HR8 HE8 HL8
            have k9 := rowL_at HR9.out (show ix < (now.set ix F).length by rw [List.length_set]; omega)
            rw [Dev.getD_set _ _ _ _ (by omega), if_pos rfl] at k9
            go_wp2_with fail
            refine (devwrite_any (ix : Int) F (by unfold maxLen; omega) HP9.out.size (HC.out.fit (by omega)) HP9.out).mono ?_
            rw [HWQ.out]
            rintro e w11 ⟨rfl, hp, hd⟩
            have HP11 := Lib.hid hp; have HE11 := Lib.hid (hd.low HE9.out hBw hlow)
            have HA11 := Lib.hid (hd.row HA9.out (by decide) (by omega))
            have HR11 := Lib.hid (hd.row HR9.out (by decide) (by omega))
            have HL11 := Lib.hid (HL9.out.df hd (HP9.out.map_ne HL9.out))
            clear hp hd
            go_wp2_with fail
            go_roundw
            case rel => exact ⟨k + 1, M, _, _, _, _, by omega, by go_num, rfl, HS.out, HP11.out, ⟨hol, by rw [List.length_set]; exact hnl⟩, HA11.out, HR11.out, HL11.out, hMw, HE11.out⟩
            case measure => simp [intOf]; omega
        · obtain rfl : k = L.length := by omega
          clear hex hlt hk HIL HSL
          have hk40 : L.length ≤ 40 := hL40
          go_upto_region 25 with (fail)
          obtain ⟨n0, hn0⟩ : ∃ n, L.length = n := ⟨_, rfl⟩
          rw [hn0] at HC HLM hk40
          clear hn0
          go_wp2_with fail
          go_loopw [87] (fun i wx => ∃ (k : Nat) (d : Dev.St), k ≤ 9 ∧ i = .int .i64 k ∧ Dev.Calm old now later (n0 + k) d ∧ PD wx B db dm dq d ∧ RowIs A7 30 (rowL old) wx ∧ RowIs A10 30 (rowL now) wx ∧ LaterAt wx M n0 later ∧ Ext w wx) (fun i _ => 9 - (intOf i).toNat)
          case atStart => exact ⟨0, d, by omega, rfl, HC.out, HP.out, HR7.out, HR10.out, HLM.out, HE.out⟩
          case round =>
            clear HC HP HR7 HR10 HLM HE
            obtain ⟨k, d, hk, rfl, hc, hp, hr7, hr10, hlm, hex⟩ := hrel
            have HC := Lib.hid hc; have HP := Lib.hid hp; have HR7 := Lib.hid hr7; have HR10 := Lib.hid hr10; have HLM := Lib.hid hlm; have HE := Lib.hid hex
            clear hc hp hr7 hr10 hlm hex
            by_cases hlt : k < 9
            · obtain ⟨d', hrd, hs'⟩ := HC.out.read hlt
              have HRD := Lib.hid hrd; have HS := Lib.hid hs'
              clear hrd hs'
              have hlt' : 0 ≤ (k : Int) ∧ (k : Int) < 9 := by omega
              have hd9 : decide ((k : Int) < 9) = true := decide_eq_true (by omega)
              obtain ⟨z, hz⟩ : ∃ z, now.getD k .empty = z := ⟨_, rfl⟩
              obtain ⟨y, hy⟩ : ∃ y, old.getD k .empty = y := ⟨_, rfl⟩
              have hmed : (if Dev.isSec (k : Int) = true then d'.media.getD ((k : Int)).toNat .empty else .empty) = y := by
                rw [if_pos (Dev.isSec_iff.2 hlt'), Int.toNat_natCast, ← hy]
                exact HS.out.old k hlt
              have HMED := Lib.hid hmed
              clear hmed
              go_wp2_with fail
              refine (devread_any (k : Int) (HC.out.fit (by omega)) HP.out).mono ?_
              rw [HRD.out, hz]
              rintro e w5 ⟨rfl, hp, hd⟩
              have HP5 := Lib.hid hp; have HE5 := Lib.hid (hd.low HE.out hBw hlow)
              have HA7 := Lib.hid (hd.row HR7.out (by decide) (by omega))
              have HA10 := Lib.hid (hd.row HR10.out (by decide) (by omega))
              have HL5 := Lib.hid (HLM.out.df hd (HP.out.map_ne HLM.out))
              clear hp hd
              have kz := rowL_at HA10.out (show k < now.length by omega)
              have ky := rowL_at HA7.out (show k < old.length by omega)
              rw [hz] at kz
              rw [hy] at ky
              go_upto_region 29 with (fail)
              clear hz hy
              refine wp_region_drift_lit (n := 160) (by kernel_rfl) (by kernel_rfl) (by rfl) ?_
              apply chain_val
              · intro w2 hx  K hK
                simp only [Act.put, List.setIfInBounds_toArray, List.set_cons_zero, List.set_cons_succ] at hK ⊢
                go_simp
                exact hK _ _ (Ext.refl _) rfl
              apply chain_val (.bool false)
              · intro w2 hx  K hK
                simp only [Act.put, List.setIfInBounds_toArray, List.set_cons_zero, List.set_cons_succ] at hK ⊢
                go_simp
                exact hK _ _ (Ext.refl _) rfl
              apply chain_val
              · intro w2 hx  K hK
                simp only [Act.put, List.setIfInBounds_toArray, List.set_cons_zero, List.set_cons_succ] at hK ⊢
                go_simp
                exact hK _ _ (Ext.refl _) rfl
              apply chain_val
              · intro w2 hx  K hK
                simp only [Act.put, List.setIfInBounds_toArray, List.set_cons_zero, List.set_cons_succ] at hK ⊢
                go_simp
                exact hK _ _ (Ext.refl _) rfl
              apply chain_val
              · intro w2 hx  K hK
                simp only [Act.put, List.setIfInBounds_toArray, List.set_cons_zero, List.set_cons_succ] at hK ⊢
                go_simp
                exact hK _ _ (Ext.refl _) rfl
              apply chain_val
              · intro w2 hx  K hK
                simp only [Act.put, List.setIfInBounds_toArray, List.set_cons_zero, List.set_cons_succ] at hK ⊢
                go_simp
                exact hK _ _ (Ext.refl _) rfl
              apply chain_val (.string z)
              · intro w2 hx  K hK
                simp only [Act.put, List.setIfInBounds_toArray, List.set_cons_zero, List.set_cons_succ] at hK ⊢
                have x0 := cell_ext kz hx
                go_simp
                exact hK _ _ (Ext.refl _) rfl
              apply chain_val (.bool false)
              · intro w2 hx  K hK
                simp only [Act.put, List.setIfInBounds_toArray, List.set_cons_zero, List.set_cons_succ] at hK ⊢
                go_simp
                exact hK _ _ (Ext.refl _) rfl
              apply chain_val (.bool false)
              · intro w2 hx  K hK
                simp only [Act.put, List.setIfInBounds_toArray, List.set_cons_zero, List.set_cons_succ] at hK ⊢
                go_simp
                exact hK _ _ (Ext.refl _) rfl
              apply chain_val
              · intro w2 hx  K hK
                simp only [Act.put, List.setIfInBounds_toArray, List.set_cons_zero, List.set_cons_succ] at hK ⊢
                go_simp
                exact hK _ _ (Ext.refl _) rfl
              apply chain_val
              · intro w2 hx  K hK
                simp only [Act.put, List.setIfInBounds_toArray, List.set_cons_zero, List.set_cons_succ] at hK ⊢
                go_simp
                exact hK _ _ (Ext.refl _) rfl
              apply chain_val
              · intro w2 hx  K hK
                simp only [Act.put, List.setIfInBounds_toArray, List.set_cons_zero, List.set_cons_succ] at hK ⊢
                go_simp
                exact hK _ _ (Ext.refl _) rfl
              apply chain_val (.string y)
              · intro w2 hx  K hK
                simp only [Act.put, List.setIfInBounds_toArray, List.set_cons_zero, List.set_cons_succ] at hK ⊢
                go_simp
                refine (devmedia_any (k : Int) (HP5.out.ext hx)).mono ?_
                rw [HMED.out]
                rintro e w9 ⟨rfl, he9⟩
                exact hK _ _ he9 rfl
              apply chain_val
              · intro w2 hx  K hK
                simp only [Act.put, List.setIfInBounds_toArray, List.set_cons_zero, List.set_cons_succ] at hK ⊢
                go_simp
                exact hK _ _ (Ext.refl _) rfl
              apply chain_val
              · intro w2 hx  K hK
                simp only [Act.put, List.setIfInBounds_toArray, List.set_cons_zero, List.set_cons_succ] at hK ⊢
                go_simp
                exact hK _ _ (Ext.refl _) rfl
              apply chain_val (.string y)
              · intro w2 hx  K hK
                simp only [Act.put, List.setIfInBounds_toArray, List.set_cons_zero, List.set_cons_succ] at hK ⊢
                have x0 := cell_ext ky hx
                go_simp
                exact hK _ _ (Ext.refl _) rfl
              apply chain_val (.bool false)
              · intro w2 hx  K hK
                simp only [Act.put, List.setIfInBounds_toArray, List.set_cons_zero, List.set_cons_succ] at hK ⊢
                go_simp
                exact hK _ _ (Ext.refl _) rfl
              apply chain_val (.bool false)
              · intro w2 hx  K hK
                simp only [Act.put, List.setIfInBounds_toArray, List.set_cons_zero, List.set_cons_succ] at hK ⊢
                go_simp
                exact hK _ _ (Ext.refl _) rfl
              refine chain_end fun w2 hx => ?_
              simp only [List.reverse_cons, List.reverse_nil, List.nil_append, List.cons_append, withDeps, Act.put, List.setIfInBounds_toArray, List.set_cons_zero, List.set_cons_succ]
              go_wp2_with fail
              go_roundw
              case rel => exact ⟨k + 1, d', by omega, by go_num, HS.out, HP5.out.ext hx, HA7.out.ext hx, HA10.out.ext hx, HL5.out.ext hx, HE5.out.trans hx⟩
              case measure => simp [intOf]; omega
            · obtain rfl : k = 9 := by omega
              rw [show ((9 : Nat) : Int) = 9 from rfl]
              clear hlt hk
              have hltB := HP.out.lts
              go_upto_region 33 with (fail)
              go_cut [119, 120, 121] (fun sl n i wx => ∃ L : List Int, sl = .slice a2 L.length c2 ∧ n = .int .i64 L.length ∧ i = .int .i64 0 ∧ L.length ≤ 40 ∧ L.length ≤ c2 ∧ IntsOf .u8 w a2 L ∧ (∀ u ∈ L, 0 ≤ u ∧ u < 256) ∧ wx = wr)
              case first =>
                obtain ⟨q1, q2, q3, q4⟩ := HU2.out
                have q5 : (l2.take 40).length = min 40 l2.length := List.length_take
                go_wp2_with fail
                all_goals go_meet
                all_goals exact ⟨l2.take 40, by rw [q5]; congr 1; omega, by rw [q5]; congr 1; omega, rfl, q3, q4, q1, q2, rfl⟩
              obtain ⟨L2, rfl, rfl, rfl, hM40, hMc, hIM, hSM, rfl⟩ := hcut
              have HIM := Lib.hid hIM; have HSM := Lib.hid hSM
              clear hIM hSM HU2
              go_wp2_with fail
              go_loopw [17, 121] (fun v i wx => ∃ xs : List Int, xs.length ≤ L2.length ∧ i = .int .i64 xs.length ∧ (∀ x ∈ xs, -9223372036854775808 ≤ x ∧ x ≤ 9223372036854775807) ∧ wx.ownsRow wc.heap.size 40 1 v xs.length (fateV xs) ∧ Ext wc wx) (fun _ i _ => L2.length - (intOf i).toNat)
              case atStart => exact ⟨[], by simp, rfl, fun x hx => (by cases hx), World.ownsRow_nil _ _ _ _, Ext.refl _⟩
              case round =>
                obtain ⟨xs, hxl, rfl, hxb, hown, hxx⟩ := hrel
                have HXB := Lib.hid hxb; have HOW := Lib.hid hown; have HXX := Lib.hid hxx
                clear hxb hown hxx
                by_cases hlt : xs.length < L2.length
                · obtain ⟨g, og, rfl, hcu⟩ := (HIM.out.ext (HE.out.trans HXX.out)) xs.length hlt
                  have hu := HSM.out L2[xs.length] (List.getElem_mem hlt)
                  obtain ⟨n, hn⟩ : ∃ n : Nat, L2[xs.length] = (n : Int) := ⟨L2[xs.length].toNat, by omega⟩
                  rw [hn] at hcu hu
                  clear hn
                  obtain ⟨r, hr3, hrl⟩ : ∃ r : Nat, (n : Int).tmod 3 = (r : Int) ∧ r < 3 := ⟨n % 3, by rw [Int.tmod_eq_emod_of_nonneg (by omega)]; omega, Nat.mod_lt _ (by omega)⟩
                  have hwr : IntKind.i64.wrap (r : Int) = (r : Int) := by rw [IntKind.wrap_i64]; omega
                  have hB2 : wc.heap.size ≤ wr.heap.size := HXX.out.size
                  have hx1 : xs.length ≤ 1000000 := by omega
                  go_wp2_with (at_builtin; refine wpl_app (P := Try.prog) Try.underlying39 info_fate rfl (by decide) (by decide) rfl _ _ rfl wc.heap.size _ rfl xs.length (fateV xs) HOW.out hB2 hx1 _ rfl [.int .i64 (r : Int)] rfl (by intro u hu; simp at hu; subst hu; rfl) ?_; intro v7 w7 ho7 hb7; have HO7 := Lib.hid ho7; have HB7 := Lib.hid hb7; clear ho7 hb7)
                  go_roundw
                  case rel => exact ⟨xs ++ [(r : Int)], by rw [List.length_append]; simp; omega, by rw [List.length_append]; go_num, fun x hx => (List.mem_append.1 hx).elim (HXB.out x) (fun h => by simp at h; omega), by rw [List.length_append]; unfold fateV; rw [List.map_append]; exact HO7.out, Below.trans HXX.out HB7.out⟩
                  case measure => simp [intOf]; omega
                · obtain ⟨fa, fc, rfl, hF⟩ := fate_cells (B := B) (b := db) (m := dm) (q := dq) HOW.out rfl hltB
                  have HF := Lib.hid hF
                  have hxs : xs.length ≤ 1000 := by omega
                  have hlq : xs.length = L2.length := by omega
                  clear hF HOW hlq
                  clear HIM HSM
                  have HPX := Lib.hid (HP.out.ext HXX.out); have HAX := Lib.hid (HR7.out.ext HXX.out); have HLX := Lib.hid (HLM.out.ext HXX.out); have HEX := Lib.hid (HE.out.trans HXX.out)
                  clear HXX
                  go_wp2_with fail
                  refine (devcrash_any fa fc xs hxs HXB.out HF.out (HC.out.fit (by omega)) HPX.out).mono ?_
                  rintro e w20 ⟨⟨vv, rfl⟩, hp, hd⟩
                  have HW := Lib.hid (HC.out.crash xs)
                  generalize Dev.crash d xs = d2 at *
                  have HP2 := Lib.hid hp; have HE2 := Lib.hid (hd.low HEX.out hBw hlow)
                  have HA2 := Lib.hid (hd.row HAX.out (by decide) (by omega))
                  have HL2 := Lib.hid (HLX.out.df hd (HPX.out.map_ne HLX.out))
                  clear hp hd HP HR7 HR10 HLM HE HPX HAX HLX HEX HC HF HXB
                  go_upto_region 39 with (fail)
                  obtain ⟨n1, hn1⟩ : ∃ n, n0 + 9 = n := ⟨_, rfl⟩
                  rw [hn1] at HW
                  have hn100 : n1 ≤ 60 := by omega
                  clear hn1
                  go_wp2_with fail
                  go_loopw [135] (fun i wx => ∃ (k : Nat) (d : Dev.St), k ≤ 9 ∧ i = .int .i64 k ∧ Dev.Woke old later (n1 + k) d ∧ PD wx B db dm dq d ∧ RowIs A7 30 (rowL old) wx ∧ LaterAt wx M n0 later ∧ Ext w wx) (fun i _ => 9 - (intOf i).toNat)
                  case atStart => exact ⟨0, d2, by omega, rfl, HW.out, HP2.out, HA2.out, HL2.out, HE2.out⟩
                  case round =>
                    clear HW HP2 HA2 HL2 HE2
                    obtain ⟨k, d, hk, rfl, hw, hp, hr7, hlm, hex⟩ := hrel
                    have HW := Lib.hid hw; have HP := Lib.hid hp; have HR7 := Lib.hid hr7; have HLM := Lib.hid hlm; have HE := Lib.hid hex
                    clear hw hp hr7 hlm hex
                    by_cases hlt : k < 9
                    · obtain ⟨d', z, hrd, hz, hs'⟩ := HW.out.read hlt
                      have HRD := Lib.hid hrd; have HS := Lib.hid hs'; have HZZ := Lib.hid hz
                      clear hrd hs' hz
                      have hlt' : 0 ≤ (k : Int) ∧ (k : Int) < 9 := by omega
                      have hd9 : decide ((k : Int) < 9) = true := decide_eq_true (by omega)
                      go_wp2_with fail
                      refine (devread_any (k : Int) (HW.out.fit (by omega)) HP.out).mono ?_
                      rw [HRD.out]
                      rintro e w5 ⟨rfl, hp, hd⟩
                      have HP5 := Lib.hid hp; have HE5 := Lib.hid (hd.low HE.out hBw hlow)
                      have HA7 := Lib.hid (hd.row HR7.out (by decide) (by omega))
                      have HL5 := Lib.hid (HLM.out.df hd (HP.out.map_ne HLM.out))
                      clear hp hd
                      have ky := rowL_at HA7.out (show k < old.length by omega)
                      have hlk := HL5.out.look hlt
                      obtain ⟨y, hy⟩ : ∃ y, old.getD k .empty = y := ⟨_, rfl⟩
                      rw [hy] at ky
                      have hzz := HZZ.out
                      rw [hy] at hzz
                      clear hy HZZ
                      go_upto_region 43 with (fail)
                      cases hlat : later k
                      case' true =>
                        rw [hlat] at hlk
                        clear hlat hzz
                        go_wp2_with fail
                      case' false =>
                        rw [hlat] at hlk
                        obtain rfl := hzz hlat
                        clear hlat hzz
                        go_wp2_with fail
                      all_goals
                        go_roundw
                        case rel => exact ⟨k + 1, d', by omega, by go_num, HS.out, HP5.out, HA7.out, HL5.out, HE5.out⟩
                        case measure => simp [intOf]; omega
                    · obtain rfl : k = 9 := by omega
                      rw [show ((9 : Nat) : Int) = 9 from rfl]
                      clear hlt hk
                      go_wp2_with fail
                      go_ret
                      exact ⟨rfl, HE.out⟩
end Go.Proofs.Ytcpbpfngiimcnaa
