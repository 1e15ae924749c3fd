/- DevPlays: the setters at whole numbers, on both devices; fates; same. -/
import Derived.Test.YtcpbpfngiimcnaaDevZ
import Derived.Test.YtcpbpfngiimcnaaOpenFaults
namespace Go.Proofs.Ytcpbpfngiimcnaa
open Go.RowKit
section
variable {B b m q : Nat} {d : Dev.St} {w : World}
set_option maxRecDepth 100000 in
set_option maxHeartbeats 4000000 in
theorem devlose_int (n : Int) (hP : PD w B b m q d) : Calls Try.prog 17 #[.pointer (some ⟨b, 0, none⟩), .int .i64 n] w fun e w' => (∃ v, e = .returned v) ∧ PD w' B b m q { d with lose := n.toNat } ∧ DF 95 B b m q w w' := by
  obtain ⟨⟨cv, hr, hc⟩, hm, hq, hok, hlow⟩ := hP
  have c6 := hr.cell 6 _ rfl
  have f6 := hr.free 6
  obtain ⟨k, hmx, hkn⟩ : ∃ k : Nat, max n 0 = (k : Int) ∧ n.toNat = k := ⟨n.toNat, by omega, rfl⟩
  rw [hkn]
  clear hkn
  have HR := Lib.hid hr; have HC := Lib.hid hc; have HM := Lib.hid hm; have HQ := Lib.hid hq; have HOK := Lib.hid hok
  clear hr hc hm hq hok
  go_enter Try.func17, Try.ntmps17
  go_wp2_with fail
  go_end0
  exact ⟨⟨_, rfl⟩, PD.field HR.out HC.out HM.out HQ.out HOK.out hlow (HR.out.setCell 6 (.int .i64 (k : Int))) (Wrote.setCell HR.out 6 _).but rfl rfl rfl⟩
set_option maxRecDepth 100000 in
set_option maxHeartbeats 4000000 in
theorem devstray_int (n t : Int) (hP : PD w B b m q d) : Calls Try.prog 18 #[.pointer (some ⟨b, 0, none⟩), .int .i64 n, .int .i64 t] w fun e w' => (∃ v, e = .returned v) ∧ PD w' B b m q { d with stray := n.toNat, «to» := t } ∧ DF 95 B b m q w w' := by
  obtain ⟨⟨cv, hr, hc⟩, hm, hq, hok, hlow⟩ := hP
  have c7 := hr.cell 7 _ rfl
  have f7 := hr.free 7
  have c8 := hr.cell 8 _ rfl
  have f8 := hr.free 8
  obtain ⟨k, hmx, hkn⟩ : ∃ k : Nat, max n 0 = (k : Int) ∧ n.toNat = k := ⟨n.toNat, by omega, rfl⟩
  rw [hkn]
  clear hkn
  have HR := Lib.hid hr; have HC := Lib.hid hc; have HM := Lib.hid hm; have HQ := Lib.hid hq; have HOK := Lib.hid hok
  clear hr hc hm hq hok
  go_enter Try.func18, Try.ntmps18
  go_wp2_with fail
  go_end0
  exact ⟨⟨_, rfl⟩, PD.field HR.out HC.out HM.out HQ.out HOK.out hlow ((HR.out.setCell 7 (.int .i64 (k : Int))).setCell 8 (.int .i64 t)) ((Wrote.setCell HR.out 7 _).trans (Wrote.setCell (HR.out.setCell 7 (.int .i64 (k : Int))) 8 _)).but rfl rfl rfl⟩
set_option maxRecDepth 100000 in
set_option maxHeartbeats 4000000 in
theorem devfuse_int (n : Int) (hP : PD w B b m q d) : Calls Try.prog 28 #[.pointer (some ⟨b, 0, none⟩), .int .i64 n] w fun e w' => (∃ v, e = .returned v) ∧ PD w' B b m q { d with fuse := n.toNat } ∧ DF 95 B b m q w w' := by
  obtain ⟨⟨cv, hr, hc⟩, hm, hq, hok, hlow⟩ := hP
  have c5 := hr.cell 5 _ rfl
  have f5 := hr.free 5
  obtain ⟨k, hmx, hkn⟩ : ∃ k : Nat, max n 0 = (k : Int) ∧ n.toNat = k := ⟨n.toNat, by omega, rfl⟩
  rw [hkn]
  clear hkn
  have HR := Lib.hid hr; have HC := Lib.hid hc; have HM := Lib.hid hm; have HQ := Lib.hid hq; have HOK := Lib.hid hok
  clear hr hc hm hq hok
  go_enter Try.func28, Try.ntmps28
  go_wp2_with fail
  go_end0
  exact ⟨⟨_, rfl⟩, PD.field HR.out HC.out HM.out HQ.out HOK.out hlow (HR.out.setCell 5 (.int .i64 (k : Int))) (Wrote.setCell HR.out 5 _).but rfl rfl rfl⟩
/-- a field of the document's device is set -/
theorem RD.field {w w' : World} {B b m q : Nat} {d d' : Dev.St} {cv : Value} {cm cq : Nat} (hr : RowIs b 65 (refRow d m q cm cq cv) w) (hc : CacheIs 107 w B cv d.cache) (hm : ListAt 9 .string w m d.media) (hq : ListAt 4 .bool w q d.bad) (hok : Dev.Ok d) (hlow : B ≤ b ∧ B ≤ m ∧ B ≤ q)
    (hr' : RowIs b 65 (refRow d' m q cm cq cv) w') (e : But b w w') (h1 : d'.cache = d.cache) (h2 : d'.media = d.media) (h3 : d'.bad = d.bad) : RD w' B b m q d' ∧ DF 107 B b m q w w' :=
  ⟨RD.row' hr hc hm hq hlow hr' e h1 h2 h3 (hok.same h2 h3 h1), DF.but e (.inl rfl)⟩
/-- the two devices, the program's and the document's, alike -/
structure Two (w : World) (B b m q B' b' m' q' : Nat) (d : Dev.St) : Prop where
  prog : PD w B b m q d
  doc : RD w B' b' m' q' d
  ne : m' ≠ m ∧ q' ≠ q
/-- what is as it was: all below N but what is the devices' -/
theorem DF.lowN {T : TypeId} {a w w' : World} {B b m q : Nat} (e : DF T B b m q w w') (h : Ext a w) (h1 : a.heap.size ≤ B) (h2 : B ≤ b ∧ B ≤ m ∧ B ≤ q) : Ext a w' := e.low h h1 h2
theorem info_fate3 : (Try.prog.info? 40).map (fun i => (i.zero, i.size, i.bytes)) = some (some (.int .i64 0), 1, 8) := by kernel_rfl
set_option maxRecDepth 100000 in
set_option maxHeartbeats 4000000 in
theorem fates_any (a : Option Addr) (xs : List Int) (c : Nat) (hx : xs.length ≤ 1000) (hI : IntsOf .i64 w a xs) :
    Calls Try.prog 29 #[.slice a xs.length c] w fun e w' => (∃ v, e = .returned v ∧ w'.ownsRow w.heap.size 40 1 v xs.length (xs.map fun x => .int .i64 x)) ∧ Ext w w' := by
  have HI := Lib.hid hI
  clear hI
  go_enter Try.func29, Try.ntmps29
  go_wp2_with fail
  go_loopw [3, 8] (fun v i wx => ∃ k : Nat, k ≤ xs.length ∧ i = .int .i64 k ∧ wx.ownsRow w.heap.size 40 1 v k ((xs.take k).map fun x => .int .i64 x) ∧ Ext w wx) (fun _ i _ => xs.length - (intOf i).toNat)
  case atStart => exact ⟨0, by omega, rfl, World.ownsRow_nil _ _ _ _, Ext.refl _⟩
  case round =>
    obtain ⟨k, hk, rfl, hown, hex⟩ := hrel
    obtain ⟨av, pv, rfl⟩ := owns_shape hown
    have HOW := Lib.hid hown; have HEX := Lib.hid hex
    by_cases hlt : k < xs.length
    · obtain ⟨g, o, rfl, hcu⟩ := (HI.out.ext hex) k hlt
      have hsz := hex.size
      have HTK := Lib.hid (List.take_succ_eq_append_getElem hlt)
      obtain ⟨x, hxx⟩ : ∃ x, xs[k] = x := ⟨_, rfl⟩
      rw [hxx] at hcu HTK
      clear hxx hown hex
      go_wp2_with (at_builtin; refine wpl_app (P := Try.prog) Try.underlying39 info_fate3 rfl (by decide) (by decide) rfl _ _ rfl w.heap.size _ rfl k _ HOW.out hsz (by omega) _ rfl [.int .i64 x] rfl (by intro u hu; simp at hu; subst hu; rfl) ?_; intro v7 w7 ho7 hb7; have HO7 := Lib.hid ho7; have HB7 := Lib.hid hb7; clear ho7 hb7)
      go_roundw
      case rel => exact ⟨k + 1, by omega, by go_num, by rw [HTK.out, List.map_append]; exact HO7.out, Below.trans HEX.out HB7.out⟩
      case measure => simp [intOf]; omega
    · obtain rfl : k = xs.length := by omega
      rw [List.take_length] at HOW
      clear hown hex
      go_wp2_with fail
      go_ret
      exact ⟨⟨_, rfl, HOW.out⟩, HEX.out⟩
set_option maxRecDepth 100000 in
set_option maxHeartbeats 4000000 in
theorem same_any {B' b' m' q' : Nat} (hP : Two w B b m q B' b' m' q' d) :
    Calls Try.prog 31 #[.pointer (some ⟨b, 0, none⟩), .pointer (some ⟨b', 0, none⟩)] w fun e w' => e = .returned (.bool true) ∧ Ext w w' := by
  obtain ⟨hp, hd, _⟩ := hP
  have HP := Lib.hid hp; have HD := Lib.hid hd
  clear hp hd
  go_enter Try.func31, Try.ntmps31
  go_wp2_with fail
  refine (devcount_any HP.out).mono ?_
  rintro e w1 ⟨rfl, he1⟩
  replace HP := Lib.hid (HP.out.ext he1)
  replace HD := Lib.hid (HD.out.ext he1)
  obtain ⟨⟨cv, cm, cq, hr, _⟩, hml, _, hok, _⟩ := HD.out
  have c10 := hr.cell 10 (.int .i64 (d.reads : Int)) rfl
  have c11 := hr.cell 11 (.int .i64 (d.writes : Int)) rfl
  have c12 := hr.cell 12 (.int .i64 (d.fls : Int)) rfl
  have c8 := hr.cell 8 (.bool d.off) rfl
  have c9 := hr.cell 9 (.bool d.gone) rfl
  have c1 := hr.cell 1 (.slice (some ⟨m', 0, none⟩) 9 cm) rfl
  have HE1 := Lib.hid he1; have HML := Lib.hid hml; have HOK := Lib.hid hok
  clear hr he1 hml hok
  go_upto_region 2 with (fail)
  refine wp_region_drift_lit (n := 70) (by kernel_rfl) (by kernel_rfl) (by rfl) ?_
  apply chain_val
  · intro w2 hx  K hK
    simp only [Act.put, List.setIfInBounds_toArray, List.set_cons_zero, List.set_cons_succ] at hK ⊢
    go_simp
    exact hK _ _ (Ext.refl _) rfl
  apply chain_val
  · intro w2 hx  K hK
    simp only [Act.put, List.setIfInBounds_toArray, List.set_cons_zero, List.set_cons_succ] at hK ⊢
    go_simp
    exact hK _ _ (Ext.refl _) rfl
  apply chain_val
  · intro w2 hx  K hK
    simp only [Act.put, List.setIfInBounds_toArray, List.set_cons_zero, List.set_cons_succ] at hK ⊢
    go_simp
    exact hK _ _ (Ext.refl _) rfl
  apply chain_val
  · intro w2 hx  K hK
    simp only [Act.put, List.setIfInBounds_toArray, List.set_cons_zero, List.set_cons_succ] at hK ⊢
    go_simp
    exact hK _ _ (Ext.refl _) rfl
  apply chain_val (.int .i64 (d.reads : Int))
  · intro w2 hx  K hK
    simp only [Act.put, List.setIfInBounds_toArray, List.set_cons_zero, List.set_cons_succ] at hK ⊢
    have x0 := cell_ext c10 hx
    go_simp
    exact hK _ _ (Ext.refl _) rfl
  apply chain_val (.bool false)
  · intro w2 hx  K hK
    simp only [Act.put, List.setIfInBounds_toArray, List.set_cons_zero, List.set_cons_succ] at hK ⊢
    go_simp
    exact hK _ _ (Ext.refl _) rfl
  apply chain_val (.bool false)
  · intro w2 hx  K hK
    simp only [Act.put, List.setIfInBounds_toArray, List.set_cons_zero, List.set_cons_succ] at hK ⊢
    go_simp
    exact hK _ _ (Ext.refl _) rfl
  apply chain_val
  · intro w2 hx  K hK
    simp only [Act.put, List.setIfInBounds_toArray, List.set_cons_zero, List.set_cons_succ] at hK ⊢
    go_simp
    exact hK _ _ (Ext.refl _) rfl
  apply chain_val
  · intro w2 hx  K hK
    simp only [Act.put, List.setIfInBounds_toArray, List.set_cons_zero, List.set_cons_succ] at hK ⊢
    go_simp
    exact hK _ _ (Ext.refl _) rfl
  apply chain_val
  · intro w2 hx  K hK
    simp only [Act.put, List.setIfInBounds_toArray, List.set_cons_zero, List.set_cons_succ] at hK ⊢
    go_simp
    exact hK _ _ (Ext.refl _) rfl
  apply chain_val
  · intro w2 hx  K hK
    simp only [Act.put, List.setIfInBounds_toArray, List.set_cons_zero, List.set_cons_succ] at hK ⊢
    go_simp
    exact hK _ _ (Ext.refl _) rfl
  apply chain_val (.int .i64 (d.writes : Int))
  · intro w2 hx  K hK
    simp only [Act.put, List.setIfInBounds_toArray, List.set_cons_zero, List.set_cons_succ] at hK ⊢
    have x0 := cell_ext c11 hx
    go_simp
    exact hK _ _ (Ext.refl _) rfl
  apply chain_val (.bool false)
  · intro w2 hx  K hK
    simp only [Act.put, List.setIfInBounds_toArray, List.set_cons_zero, List.set_cons_succ] at hK ⊢
    go_simp
    exact hK _ _ (Ext.refl _) rfl
  apply chain_val (.bool false)
  · intro w2 hx  K hK
    simp only [Act.put, List.setIfInBounds_toArray, List.set_cons_zero, List.set_cons_succ] at hK ⊢
    go_simp
    exact hK _ _ (Ext.refl _) rfl
  apply chain_val (.bool false)
  · intro w2 hx  K hK
    simp only [Act.put, List.setIfInBounds_toArray, List.set_cons_zero, List.set_cons_succ] at hK ⊢
    go_simp
    exact hK _ _ (Ext.refl _) rfl
  apply chain_val
  · intro w2 hx  K hK
    simp only [Act.put, List.setIfInBounds_toArray, List.set_cons_zero, List.set_cons_succ] at hK ⊢
    go_simp
    exact hK _ _ (Ext.refl _) rfl
  apply chain_val
  · intro w2 hx  K hK
    simp only [Act.put, List.setIfInBounds_toArray, List.set_cons_zero, List.set_cons_succ] at hK ⊢
    go_simp
    exact hK _ _ (Ext.refl _) rfl
  apply chain_val
  · intro w2 hx  K hK
    simp only [Act.put, List.setIfInBounds_toArray, List.set_cons_zero, List.set_cons_succ] at hK ⊢
    go_simp
    exact hK _ _ (Ext.refl _) rfl
  apply chain_val
  · intro w2 hx  K hK
    simp only [Act.put, List.setIfInBounds_toArray, List.set_cons_zero, List.set_cons_succ] at hK ⊢
    go_simp
    exact hK _ _ (Ext.refl _) rfl
  apply chain_val (.int .i64 (d.fls : Int))
  · intro w2 hx  K hK
    simp only [Act.put, List.setIfInBounds_toArray, List.set_cons_zero, List.set_cons_succ] at hK ⊢
    have x0 := cell_ext c12 hx
    go_simp
    exact hK _ _ (Ext.refl _) rfl
  apply chain_val (.bool false)
  · intro w2 hx  K hK
    simp only [Act.put, List.setIfInBounds_toArray, List.set_cons_zero, List.set_cons_succ] at hK ⊢
    go_simp
    exact hK _ _ (Ext.refl _) rfl
  apply chain_val (.bool false)
  · intro w2 hx  K hK
    simp only [Act.put, List.setIfInBounds_toArray, List.set_cons_zero, List.set_cons_succ] at hK ⊢
    go_simp
    exact hK _ _ (Ext.refl _) rfl
  apply chain_val (.bool false)
  · intro w2 hx  K hK
    simp only [Act.put, List.setIfInBounds_toArray, List.set_cons_zero, List.set_cons_succ] at hK ⊢
    go_simp
    exact hK _ _ (Ext.refl _) rfl
  apply chain_val
  · intro w2 hx  K hK
    simp only [Act.put, List.setIfInBounds_toArray, List.set_cons_zero, List.set_cons_succ] at hK ⊢
    go_simp
    exact hK _ _ (Ext.refl _) rfl
  apply chain_val (.bool d.off)
  · intro w2 hx  K hK
    simp only [Act.put, List.setIfInBounds_toArray, List.set_cons_zero, List.set_cons_succ] at hK ⊢
    go_simp
    refine (devoff_any (HP.out.ext hx)).mono ?_
    rintro e w9 ⟨rfl, he9⟩
    exact hK _ _ he9 rfl
  apply chain_val
  · intro w2 hx  K hK
    simp only [Act.put, List.setIfInBounds_toArray, List.set_cons_zero, List.set_cons_succ] at hK ⊢
    go_simp
    exact hK _ _ (Ext.refl _) rfl
  apply chain_val
  · intro w2 hx  K hK
    simp only [Act.put, List.setIfInBounds_toArray, List.set_cons_zero, List.set_cons_succ] at hK ⊢
    go_simp
    exact hK _ _ (Ext.refl _) rfl
  apply chain_val
  · intro w2 hx  K hK
    simp only [Act.put, List.setIfInBounds_toArray, List.set_cons_zero, List.set_cons_succ] at hK ⊢
    go_simp
    exact hK _ _ (Ext.refl _) rfl
  apply chain_val (.bool d.off)
  · intro w2 hx  K hK
    simp only [Act.put, List.setIfInBounds_toArray, List.set_cons_zero, List.set_cons_succ] at hK ⊢
    have x0 := cell_ext c8 hx
    go_simp
    exact hK _ _ (Ext.refl _) rfl
  apply chain_val (.bool false)
  · intro w2 hx  K hK
    simp only [Act.put, List.setIfInBounds_toArray, List.set_cons_zero, List.set_cons_succ] at hK ⊢
    go_simp
    exact hK _ _ (Ext.refl _) (by first | rfl | simp [RR.holds] | simp [holds])
  apply chain_val (.bool false)
  · intro w2 hx  K hK
    simp only [Act.put, List.setIfInBounds_toArray, List.set_cons_zero, List.set_cons_succ] at hK ⊢
    go_simp
    exact hK _ _ (Ext.refl _) rfl
  apply chain_val (.bool false)
  · intro w2 hx  K hK
    simp only [Act.put, List.setIfInBounds_toArray, List.set_cons_zero, List.set_cons_succ] at hK ⊢
    go_simp
    exact hK _ _ (Ext.refl _) rfl
  apply chain_val
  · intro w2 hx  K hK
    simp only [Act.put, List.setIfInBounds_toArray, List.set_cons_zero, List.set_cons_succ] at hK ⊢
    go_simp
    exact hK _ _ (Ext.refl _) rfl
  apply chain_val (.bool d.gone)
  · intro w2 hx  K hK
    simp only [Act.put, List.setIfInBounds_toArray, List.set_cons_zero, List.set_cons_succ] at hK ⊢
    go_simp
    refine (devdead_any (HP.out.ext hx)).mono ?_
    rintro e w9 ⟨rfl, he9⟩
    exact hK _ _ he9 rfl
  apply chain_val
  · intro w2 hx  K hK
    simp only [Act.put, List.setIfInBounds_toArray, List.set_cons_zero, List.set_cons_succ] at hK ⊢
    go_simp
    exact hK _ _ (Ext.refl _) rfl
  apply chain_val
  · intro w2 hx  K hK
    simp only [Act.put, List.setIfInBounds_toArray, List.set_cons_zero, List.set_cons_succ] at hK ⊢
    go_simp
    exact hK _ _ (Ext.refl _) rfl
  apply chain_val
  · intro w2 hx  K hK
    simp only [Act.put, List.setIfInBounds_toArray, List.set_cons_zero, List.set_cons_succ] at hK ⊢
    go_simp
    exact hK _ _ (Ext.refl _) rfl
  apply chain_val (.bool d.gone)
  · intro w2 hx  K hK
    simp only [Act.put, List.setIfInBounds_toArray, List.set_cons_zero, List.set_cons_succ] at hK ⊢
    have x0 := cell_ext c9 hx
    go_simp
    exact hK _ _ (Ext.refl _) rfl
  apply chain_val (.bool false)
  · intro w2 hx  K hK
    simp only [Act.put, List.setIfInBounds_toArray, List.set_cons_zero, List.set_cons_succ] at hK ⊢
    go_simp
    exact hK _ _ (Ext.refl _) (by first | rfl | simp [RR.holds] | simp [holds])
  apply chain_val (.bool false)
  · intro w2 hx  K hK
    simp only [Act.put, List.setIfInBounds_toArray, List.set_cons_zero, List.set_cons_succ] at hK ⊢
    go_simp
    exact hK _ _ (Ext.refl _) rfl
  refine chain_end fun w2 hx => ?_
  simp only [List.reverse_cons, List.reverse_nil, List.nil_append, List.cons_append, withDeps, Act.put, List.setIfInBounds_toArray, List.set_cons_zero, List.set_cons_succ]
  have HX2 := Lib.hid hx
  clear hx c10 c11 c12 c8 c9
  go_wp2_with fail
  go_loopw [55] (fun i wx => ∃ k : Nat, k ≤ 9 ∧ i = .int .i64 k ∧ Ext w1 wx) (fun i _ => 9 - (intOf i).toNat)
  case atStart => exact ⟨0, by omega, rfl, HX2.out⟩
  case round =>
    obtain ⟨k, hk, rfl, hex⟩ := hrel
    have HEX := Lib.hid hex
    clear hex HX2
    by_cases hlt : k < 9
    · have hlt' : 0 ≤ (k : Int) ∧ (k : Int) < 9 := by omega
      obtain ⟨z, hz⟩ : ∃ z, d.media.getD k .empty = z := ⟨_, rfl⟩
      have hmed : (if Dev.isSec (k : Int) = true then d.media.getD ((k : Int)).toNat .empty else .empty) = z := by
        rw [if_pos (Dev.isSec_iff.2 hlt'), Int.toNat_natCast, hz]
      have cz := (HML.out.ext HEX.out).cellT k (by rw [HOK.out.media]; exact hlt)
      rw [hz] at cz
      have c1' := cell_ext c1 HEX.out
      have HPX := Lib.hid (HP.out.ext HEX.out)
      have HMED := Lib.hid hmed
      clear hmed hz
      go_upto_region 7 with (fail)
      refine wp_region_drift_lit (n := 70) (by kernel_rfl) (by kernel_rfl) (by rfl) ?_
      apply chain_val
      · intro w2 hx  K hK
        simp only [Act.put, List.setIfInBounds_toArray, List.set_cons_zero, List.set_cons_succ] at hK ⊢
        go_simp
        exact hK _ _ (Ext.refl _) rfl
      apply chain_val
      · intro w2 hx  K hK
        simp only [Act.put, List.setIfInBounds_toArray, List.set_cons_zero, List.set_cons_succ] at hK ⊢
        go_simp
        exact hK _ _ (Ext.refl _) rfl
      apply chain_val (.string z)
      · intro w2 hx  K hK
        simp only [Act.put, List.setIfInBounds_toArray, List.set_cons_zero, List.set_cons_succ] at hK ⊢
        go_simp
        refine (devmedia_any (k : Int) (HPX.out.ext hx)).mono ?_
        rw [HMED.out]
        rintro e w9 ⟨rfl, he9⟩
        exact hK _ _ he9 rfl
      apply chain_val
      · intro w2 hx  K hK
        simp only [Act.put, List.setIfInBounds_toArray, List.set_cons_zero, List.set_cons_succ] at hK ⊢
        go_simp
        exact hK _ _ (Ext.refl _) rfl
      apply chain_val
      · intro w2 hx  K hK
        simp only [Act.put, List.setIfInBounds_toArray, List.set_cons_zero, List.set_cons_succ] at hK ⊢
        go_simp
        exact hK _ _ (Ext.refl _) rfl
      apply chain_val
      · intro w2 hx  K hK
        simp only [Act.put, List.setIfInBounds_toArray, List.set_cons_zero, List.set_cons_succ] at hK ⊢
        go_simp
        exact hK _ _ (Ext.refl _) rfl
      apply chain_val (.slice (some ⟨m', 0, none⟩) 9 cm)
      · intro w2 hx  K hK
        simp only [Act.put, List.setIfInBounds_toArray, List.set_cons_zero, List.set_cons_succ] at hK ⊢
        have x0 := cell_ext c1' hx
        go_simp
        exact hK _ _ (Ext.refl _) rfl
      apply chain_val
      · intro w2 hx  K hK
        simp only [Act.put, List.setIfInBounds_toArray, List.set_cons_zero, List.set_cons_succ] at hK ⊢
        go_simp
        exact hK _ _ (Ext.refl _) rfl
      apply chain_val (.pointer (some ⟨m', k, none⟩))
      · intro w2 hx  K hK
        simp only [Act.put, List.setIfInBounds_toArray, List.set_cons_zero, List.set_cons_succ] at hK ⊢
        go_simp
        exact hK _ _ (Ext.refl _) rfl
      apply chain_val (.string z)
      · intro w2 hx  K hK
        simp only [Act.put, List.setIfInBounds_toArray, List.set_cons_zero, List.set_cons_succ] at hK ⊢
        have x0 := cell_ext cz hx
        go_simp
        exact hK _ _ (Ext.refl _) rfl
      apply chain_val (.bool false)
      · intro w2 hx  K hK
        simp only [Act.put, List.setIfInBounds_toArray, List.set_cons_zero, List.set_cons_succ] at hK ⊢
        go_simp
        exact hK _ _ (Ext.refl _) rfl
      refine chain_end fun w2 hx => ?_
      simp only [List.reverse_cons, List.reverse_nil, List.nil_append, List.cons_append, withDeps, Act.put, List.setIfInBounds_toArray, List.set_cons_zero, List.set_cons_succ]
      have HXX := Lib.hid hx
      clear hx cz c1'
      go_wp2_with fail
      go_roundw
      case rel => exact ⟨k + 1, by omega, by go_num, HEX.out.trans HXX.out⟩
      case measure => simp [intOf]; omega
    · obtain rfl : k = 9 := by omega
      rw [show ((9 : Nat) : Int) = 9 from rfl]
      go_wp2_with fail
      go_ret
      exact ⟨rfl, HE1.out.trans HEX.out⟩
end
end Go.Proofs.Ytcpbpfngiimcnaa
