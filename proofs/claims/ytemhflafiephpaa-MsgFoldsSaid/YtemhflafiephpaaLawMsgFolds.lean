/- The walk of law14.MsgFolds. -/
import Derived.Test.YtemhflafiephpaaMsgFoldsP
import Derived.Test.YtemhflafiephpaaMsgFull
import Derived.Test.YtemhflafiephpaaMsgAll
import Derived.Test.YtemhflafiephpaaMsgTame
import Derived.Test.YtemhflafiephpaaMsgJoin
import Derived.Deep.RegionWith
namespace Go.Proofs.Ytemhflafiephpaa
open Go.RowKit
def GoodU (u : Msg.Up) : Prop := Msg.K3 u ∧ SmallUp u
theorem ups_cut' {w : World} {a : Option Addr} {l : List Msg.Up} {ca : Nat} (hU : Ups w a l) (hcb : l.length ≤ ca) (hS : ∀ u ∈ l, SmallUp u) (n : Nat) :
    Ups w a (l.take n) ∧ (∀ u ∈ l.take n, SmallUp u) ∧ (l.take n).length ≤ n ∧ (l.take n).length ≤ ca := ⟨hU.take n, fun u hu => hS u (List.mem_of_mem_take hu), by rw [List.length_take]; omega, by rw [List.length_take]; omega⟩
/-- a slice of one update; of some -/
def One (u : Msg.Up) (v : Value) (w : World) : Prop := ∃ b c, v = .slice (some ⟨b, 0, none⟩) 1 c ∧ Recs w (some ⟨b, 0, none⟩) [u]
theorem One.ext {u : Msg.Up} {v : Value} {w w' : World} (h : One u v w) (e : Ext w w') : One u v w' := let ⟨b, c, h1, h2⟩ := h; ⟨b, c, h1, h2.ext e⟩
def Many (n : Nat) (l : List Msg.Up) (v : Value) (w : World) : Prop := ∃ a c, v = .slice a n c ∧ Recs w a l
theorem Many.ext {n : Nat} {l : List Msg.Up} {v : Value} {w w' : World} (h : Many n l v w) (e : Ext w w') : Many n l v w' := let ⟨b, c, h1, h2⟩ := h; ⟨b, c, h1, h2.ext e⟩
set_option maxRecDepth 100000 in
set_option maxHeartbeats 4000000 in
theorem msgFolds_walk (v : ByteArray) (t : Bool) (a : Option Addr) (l : List Msg.Up) (ca : Nat) (at' : Nat) (w : World) (hv : v.size ≤ maxLen) (hU : Ups w a l) (hca : l.length ≤ ca ∧ ca ≤ maxLen) (hS : ∀ u ∈ l, SmallUp u) (hat : at' < 256) :
    Calls Try.prog 6 #[.agg #[.string v, .bool t, .slice a l.length ca, .int .u8 (at' : Int)]] w fun e w' => e = .returned (.bool true) ∧ Ext w w' := by
  unfold maxLen at hv hca
  obtain ⟨hcb, hcb2⟩ := hca
  have hUc := ups_cut' hU hcb hS 12
  have HU := Lib.hid hU; clear hU
  go_enter Try.func6, Try.ntmps6
  go_upto_region 1 with (fail)
  obtain ⟨W, hW⟩ : ∃ W, W = w.alloc (.cells #[.string v, .bool t, .slice a l.length ca, .int .u8 (at' : Int)] 51) := ⟨_, rfl⟩
  have x0 : W.cell? ⟨w.heap.size, 0, none⟩ = some (.string v) := by rw [hW]; exact World.cell?_alloc_new _ _ _ 0
  have x1 : W.cell? ⟨w.heap.size, 1, none⟩ = some (.bool t) := by rw [hW]; exact World.cell?_alloc_new _ _ _ 1
  have x2 : W.cell? ⟨w.heap.size, 2, none⟩ = some (.slice a l.length ca) := by rw [hW]; exact World.cell?_alloc_new _ _ _ 2
  have x3 : W.cell? ⟨w.heap.size, 3, none⟩ = some (.int .u8 (at' : Int)) := by rw [hW]; exact World.cell?_alloc_new _ _ _ 3
  have hE : Ext w W := by rw [hW]; exact Ext.alloc _ _
  rw [← hW]
  clear hW
  go_cut [3] (fun x wr => ∃ V : ByteArray, x = .string V ∧ V.size ≤ 60 ∧ wr = W)
  case first =>
    go_wp2_with fail
    all_goals go_meet
    all_goals exact ⟨_, rfl, by first | exact (cut_le _ _).1 | omega, rfl⟩
  obtain ⟨V, rfl, h1, rfl⟩ := hcut
  go_upto_region 3 with (fail)
  go_cut [34, 35, 36] (fun sl n i wr => ∃ L : List Msg.Up, sl = .slice a L.length ca ∧ n = .int .i64 L.length ∧ i = .int .i64 0 ∧ L.length ≤ 12 ∧ L.length ≤ ca ∧ Ups wr a L ∧ (∀ u ∈ L, SmallUp u) ∧ wr = wc)
  case first =>
    obtain ⟨q1, q2, q3, q4⟩ := hUc
    have q5 : (l.take 12).length = min 12 l.length := List.length_take
    have q6 := Lib.hid (q1.ext hE)
    clear q1
    go_wp2_with fail
    all_goals go_meet
    all_goals exact ⟨l.take 12, by rw [q5]; congr 1; omega, by rw [q5]; congr 1; omega, rfl, q3, q4, q6.out, q2, rfl⟩
  obtain ⟨L, rfl, rfl, rfl, h3, h4, hU2, hS2, rfl⟩ := hcut
  clear hUc HU
  have HU := Lib.hid hU2; clear hU2
  go_wp2_with fail
  go_loopw [4, 36] (fun al i wx => ∃ (k : Nat) (A : List Msg.Up), k ≤ L.length ∧ i = .int .i64 k ∧ A.length = k ∧ (∀ u ∈ A, GoodU u) ∧ OwnU wx wc.heap.size al A ∧ Ext wc wx) (fun _ i _ => L.length - (intOf i).toNat)
  case atStart => exact ⟨0, [], by omega, rfl, rfl, fun u hu => by simp at hu, OwnE.nil _ _ _, Ext.refl _⟩
  case round =>
    obtain ⟨k, A, hk, rfl, hAk, hAs, hown, hex⟩ := hrel
    have HO := Lib.hid hown; have HA := Lib.hid hAs
    clear hown hAs
    by_cases hlt : k < L.length
    · obtain ⟨b1, o1, rfl, hc0, hc1, hc2⟩ := (HU.out.ext hex) k hlt
      obtain ⟨s1, s2, s3⟩ := hS2 L[k] (by simp)
      generalize L[k] = u at *
      obtain ⟨K, Ky, X, D⟩ := u
      simp only at hc0 hc1 hc2
      obtain ⟨s1, s2, s3⟩ : K < 256 ∧ X.size ≤ maxLen ∧ D < 18446744073709551616 := ⟨s1, s2, s3⟩
      go_wp2_with fail
      refine (tame_ex K D X _ s1 s2 s3).mono ?_
      rintro e w1 ⟨K1, V1, D1, rfl, t1, he1⟩
      replace he1 := (Ext.alloc _ _).trans he1
      go_wp2_with fail
      refine (of_any K1 D1 V1 _ t1.size).mono ?_
      rintro e w2 ⟨X1, hx1, hy1, rfl, he2⟩
      have T1 := t1.cut hy1
      clear t1 hy1
      unfold upV
      replace he2 := he1.trans he2
      have hln : A.length ≤ 1000000 := by omega
      have hg := Lib.hid (show ∀ u ∈ A ++ [⟨K1, keyK, X1, D1⟩], GoodU u from fun u hu => by
        rcases List.mem_append.1 hu with hu | hu
        · exact HA.out u hu
        · obtain rfl := List.mem_singleton.1 hu; exact ⟨T1.kind, T1.lt, T1.size, T1.less⟩)
      go_upto_region 7 with (fail)
      obtain ⟨W7, hW7⟩ : ∃ W7, W7 = ((w2.alloc (.cells #[.int .u8 (K1 : Int), .string keyK, .string X1, .int .u64 (D1 : Int)] 37)).alloc (.cells #[.int .u8 (K1 : Int), .string keyK, .string X1, .int .u64 (D1 : Int)] 39)) := ⟨_, rfl⟩
      have hE7 : Ext w2 W7 := by rw [hW7]; exact (Ext.alloc _ _).trans (Ext.alloc _ _)
      have c0 : W7.cell? ⟨w2.heap.size, 0, none⟩ = some (.int .u8 (K1 : Int)) := by rw [hW7]; exact cell_ext (World.cell?_alloc_new w2 _ _ 0) (Ext.alloc _ _)
      have c1 : W7.cell? ⟨w2.heap.size, 1, none⟩ = some (.string keyK) := by rw [hW7]; exact cell_ext (World.cell?_alloc_new w2 _ _ 1) (Ext.alloc _ _)
      have c2 : W7.cell? ⟨w2.heap.size, 2, none⟩ = some (.string X1) := by rw [hW7]; exact cell_ext (World.cell?_alloc_new w2 _ _ 2) (Ext.alloc _ _)
      have c3 : W7.cell? ⟨w2.heap.size, 3, none⟩ = some (.int .u64 (D1 : Int)) := by rw [hW7]; exact cell_ext (World.cell?_alloc_new w2 _ _ 3) (Ext.alloc _ _)
      rw [← hW7]
      clear hW7
      have hE8 := hex.trans (he2.trans hE7)
      have hO3 := Lib.hid (OwnU.ext HO.out (he2.trans hE7))
      have hB := hE8.size
      go_wp2_with (at_builtin; refine wpl_upd rfl _ _ rfl rfl hO3.out hB hln rfl K1 D1 keyK X1 ?_; intro v' w' ho hb; have HO2 := Lib.hid ho; clear ho)
      go_roundw
      case rel => exact ⟨k + 1, A ++ [⟨K1, keyK, X1, D1⟩], by omega, by go_num, by simp; omega, hg.out, HO2.out, Below.trans hE8 hb⟩
      case measure => simp [intOf]; omega
    · obtain rfl : k = L.length := by omega
      obtain ⟨a2, cap, rfl, ⟨hc1, hc2⟩, hg, hR⟩ := own_recs HO.out
      rw [hAk] at hc1 hg
      unfold maxLen at hc2
      have HR := Lib.hid hR; clear hR
      replace x0 := cell_ext x0 hex
      replace x1 := cell_ext x1 hex
      replace x3 := cell_ext x3 hex
      have HAS := Lib.hid (show ∀ u ∈ A, SmallUp u from fun u hu => (HA.out u hu).2)
      obtain ⟨P, b, hP⟩ : ∃ P b, Msg.all (V, t) A = (P, b) := ⟨_, _, rfl⟩
      have HP := Lib.hid hP; clear hP
      go_wp2_with fail
      refine (all_len V t A hAk a2 cap _ (by omega) (by unfold maxLen; omega) HR.out HAS.out).mono ?_
      rw [HP.out]
      unfold pairV
      rintro e w1 ⟨rfl, he1⟩
      go_wp2_with fail
      refine (wakes14 _).mono ?_
      rintro e w2 ⟨rfl, he2⟩
      replace he2 := he1.trans he2
      by_cases h0 : L.length = 0
      · have hle : ((L.length : Int) == 0) = true := by rw [h0]; rfl
        go_wp2_with fail
        refine (wakes14 _).mono ?_
        rintro e w3 ⟨rfl, he3⟩
        go_wp2_with fail
        go_ret
        exact ⟨rfl, hE.trans (hex.trans (he2.trans he3))⟩
      · obtain ⟨g, rfl, hgB⟩ := hg (by omega)
        clear hg HU
        generalize L.length = N at *
        obtain ⟨n, rfl⟩ : ∃ n, N = n + 1 := ⟨N - 1, by omega⟩
        have hle : ((n : Int) + 1 == 0) = false := beq_eq_false_iff_ne.2 (by omega)
        have hle2 : (((n + 1 : Nat) : Int) == 0) = false := beq_eq_false_iff_ne.2 (by omega)
        replace HR := Lib.hid (HR.out.ext he2)
        replace x0 := cell_ext x0 he2
        replace x1 := cell_ext x1 he2
        replace x3 := cell_ext x3 he2
        have hE2 := hE.trans (hex.trans he2)
        go_upto_region 12 with (fail)
        obtain ⟨F, hF⟩ : ∃ F, F = A[0]'(by omega) := ⟨_, rfl⟩
        obtain ⟨G, hG⟩ : ∃ G, G = A[n]'(by omega) := ⟨_, rfl⟩
        have hF0 := HR.out 0 (by omega)
        have hG0 := HR.out n (by omega)
        obtain ⟨b', o', e', c0, c1, c2, c3⟩ := hF0
        cases e'
        obtain ⟨b', o', e', d0, d1, d2, d3⟩ := hG0
        cases e'
        rw [← hF] at c0 c1 c2 c3
        rw [← hG] at d0 d1 d2 d3
        simp only [Nat.zero_mul, Nat.add_zero, Nat.zero_add] at c0 c1 c2 c3 d0 d1 d2 d3
        have HF := Lib.hid hF; have HG := Lib.hid hG
        clear hF hG
        go_cut [11, 12] (fun x y wr => ∃ b1 b2, x = .pointer (some ⟨b1, 0, none⟩) ∧ y = .pointer (some ⟨b2, 0, none⟩) ∧ b1 ≠ b2 ∧ w2.heap.size ≤ b1 ∧ w2.heap.size ≤ b2 ∧ RowIs b1 37 (updC F) wr ∧ RowIs b2 37 (updC G) wr ∧ Ext w2 wr)
        case first =>
          try clear x0; try clear x1; try clear x3; try clear HR; try clear HAS; try clear HP; try clear HF; try clear HG; try clear HA; try clear hE; try clear hE2; try clear hex; try clear he1; try clear he2; try clear hS2; try clear hS
          have c0a := cell_ext c0 (Ext.drew _)
          have c0b := fun A => cell_ext c0 (Ext.alloc _ A)
          have c0c := fun A B => cell_ext (c0b A) (Ext.alloc _ B)
          have c0d := fun A => cell_ext (c0b A) (Ext.drew _)
          have c0e := fun A B => cell_ext (c0d A) (Ext.alloc _ B)
          have c0f := fun A B => cell_ext (c0c A B) (Ext.drew _)
          have c0g := fun A => cell_ext c0a (Ext.alloc _ A)
          have c0h := fun A B => cell_ext (c0g A) (Ext.alloc _ B)
          have c1a := cell_ext c1 (Ext.drew _)
          have c1b := fun A => cell_ext c1 (Ext.alloc _ A)
          have c1c := fun A B => cell_ext (c1b A) (Ext.alloc _ B)
          have c1d := fun A => cell_ext (c1b A) (Ext.drew _)
          have c1e := fun A B => cell_ext (c1d A) (Ext.alloc _ B)
          have c1f := fun A B => cell_ext (c1c A B) (Ext.drew _)
          have c1g := fun A => cell_ext c1a (Ext.alloc _ A)
          have c1h := fun A B => cell_ext (c1g A) (Ext.alloc _ B)
          have c2a := cell_ext c2 (Ext.drew _)
          have c2b := fun A => cell_ext c2 (Ext.alloc _ A)
          have c2c := fun A B => cell_ext (c2b A) (Ext.alloc _ B)
          have c2d := fun A => cell_ext (c2b A) (Ext.drew _)
          have c2e := fun A B => cell_ext (c2d A) (Ext.alloc _ B)
          have c2f := fun A B => cell_ext (c2c A B) (Ext.drew _)
          have c2g := fun A => cell_ext c2a (Ext.alloc _ A)
          have c2h := fun A B => cell_ext (c2g A) (Ext.alloc _ B)
          have c3a := cell_ext c3 (Ext.drew _)
          have c3b := fun A => cell_ext c3 (Ext.alloc _ A)
          have c3c := fun A B => cell_ext (c3b A) (Ext.alloc _ B)
          have c3d := fun A => cell_ext (c3b A) (Ext.drew _)
          have c3e := fun A B => cell_ext (c3d A) (Ext.alloc _ B)
          have c3f := fun A B => cell_ext (c3c A B) (Ext.drew _)
          have c3g := fun A => cell_ext c3a (Ext.alloc _ A)
          have c3h := fun A B => cell_ext (c3g A) (Ext.alloc _ B)
          have d0a := cell_ext d0 (Ext.drew _)
          have d0b := fun A => cell_ext d0 (Ext.alloc _ A)
          have d0c := fun A B => cell_ext (d0b A) (Ext.alloc _ B)
          have d0d := fun A => cell_ext (d0b A) (Ext.drew _)
          have d0e := fun A B => cell_ext (d0d A) (Ext.alloc _ B)
          have d0f := fun A B => cell_ext (d0c A B) (Ext.drew _)
          have d0g := fun A => cell_ext d0a (Ext.alloc _ A)
          have d0h := fun A B => cell_ext (d0g A) (Ext.alloc _ B)
          have d1a := cell_ext d1 (Ext.drew _)
          have d1b := fun A => cell_ext d1 (Ext.alloc _ A)
          have d1c := fun A B => cell_ext (d1b A) (Ext.alloc _ B)
          have d1d := fun A => cell_ext (d1b A) (Ext.drew _)
          have d1e := fun A B => cell_ext (d1d A) (Ext.alloc _ B)
          have d1f := fun A B => cell_ext (d1c A B) (Ext.drew _)
          have d1g := fun A => cell_ext d1a (Ext.alloc _ A)
          have d1h := fun A B => cell_ext (d1g A) (Ext.alloc _ B)
          have d2a := cell_ext d2 (Ext.drew _)
          have d2b := fun A => cell_ext d2 (Ext.alloc _ A)
          have d2c := fun A B => cell_ext (d2b A) (Ext.alloc _ B)
          have d2d := fun A => cell_ext (d2b A) (Ext.drew _)
          have d2e := fun A B => cell_ext (d2d A) (Ext.alloc _ B)
          have d2f := fun A B => cell_ext (d2c A B) (Ext.drew _)
          have d2g := fun A => cell_ext d2a (Ext.alloc _ A)
          have d2h := fun A B => cell_ext (d2g A) (Ext.alloc _ B)
          have d3a := cell_ext d3 (Ext.drew _)
          have d3b := fun A => cell_ext d3 (Ext.alloc _ A)
          have d3c := fun A B => cell_ext (d3b A) (Ext.alloc _ B)
          have d3d := fun A => cell_ext (d3b A) (Ext.drew _)
          have d3e := fun A B => cell_ext (d3d A) (Ext.alloc _ B)
          have d3f := fun A B => cell_ext (d3c A B) (Ext.drew _)
          have d3g := fun A => cell_ext d3a (Ext.alloc _ A)
          have d3h := fun A B => cell_ext (d3g A) (Ext.alloc _ B)
          have l1 : IntKind.i64.wrap (n : Int) = (n : Int) := by rw [IntKind.wrap_i64]; omega
          have l2 : (n : Int) < (n : Int) + 1 := by omega
          have l3 : (0 : Int) < (n : Int) + 1 := by omega
          go_region_with (fail)
          all_goals
            go_wp2_with fail
            go_meet
            first
              | exact ⟨_, _, rfl, rfl, by omega, by omega, by omega, ((RowIs.new w2 _ _).ext (Ext.alloc _ _)).ext (Ext.drew _), (RowIs.new2 w2 _ _ _).ext (Ext.drew _), (Ext.alloc _ _).trans ((Ext.alloc _ _).trans (Ext.drew _))⟩
              | exact ⟨_, _, rfl, rfl, by omega, by omega, by omega, (RowIs.new2 w2 _ _ _).ext (Ext.drew _), ((RowIs.new w2 _ _).ext (Ext.alloc _ _)).ext (Ext.drew _), (Ext.alloc _ _).trans ((Ext.alloc _ _).trans (Ext.drew _))⟩
        obtain ⟨b1, b2, rfl, rfl, hne, hb1, hb2, r1, r2, hE3⟩ := hcut
        have hxl : w.heap.size < w2.heap.size := World.block_lt_of_cell? _ _ x0
        have hgl : g < w2.heap.size := World.block_lt_of_cell? _ _ c0
        replace x0 := cell_ext x0 hE3
        replace x1 := cell_ext x1 hE3
        replace x3 := cell_ext x3 hE3
        replace HR := Lib.hid (HR.out.ext hE3)
        have hE3 := hE2.trans hE3
        clear c0 c1 c2 c3 d0 d1 d2 d3
        have HAd : (A.drop 1).length = n := by simp; omega
        go_upto_region 13 with (fail)
        go_cut [4, 77, 78, 79] (fun al sl m i wx => ∃ a3 c3, al = .slice (some ⟨g, 0, none⟩) (n + 1) cap ∧ sl = .slice a3 n c3 ∧ m = .int .i64 (n : Int) ∧ i = .int .i64 0 ∧ Recs wx a3 (A.drop 1) ∧ (∀ b o, a3 = some ⟨b, o, none⟩ → b = g) ∧ wx = wc)
        case first =>
          go_wp2_with fail
          all_goals go_meet
          · exact ⟨_, _, by rw [h], rfl, rfl, rfl, fun i hi => by omega, fun b o e => by cases e; rfl, rfl⟩
          · exact ⟨_, _, rfl, rfl, rfl, rfl, by have := HR.out.drop 1; simpa using this, fun b o e => by cases e; rfl, rfl⟩
        obtain ⟨a3, c3, rfl, rfl, rfl, rfl, hR3, hg3, rfl⟩ := hcut
        have HR3 := Lib.hid hR3; clear hR3
        have HR1 := Lib.hid r1; have HR2 := Lib.hid r2
        clear r1 r2
        go_wp2_with fail
        go_loopw [79] (fun i wx => ∃ (k : Nat) (one : Msg.Up), k ≤ n ∧ i = .int .i64 k ∧ GoodU one ∧ Msg.Does one (A.take (k + 1)) ∧ RowIs b1 37 (updC one) wx ∧ But b1 wc wx) (fun i _ => n - (intOf i).toNat)
        case atStart =>
          refine ⟨0, F, by omega, rfl, HA.out _ (by rw [HF.out]; simp), ?_, HR1.out, But.refl _ _⟩
          rw [List.take_succ_eq_append_getElem (by omega), List.take_zero, ← HF.out]
          exact Msg.does_one F
        case round =>
          obtain ⟨k, one, hk, rfl, hgo, hdo, hrw, hbut⟩ := hrel
          have HDO := Lib.hid hdo; have HRW := Lib.hid hrw
          clear hdo
          by_cases hlt : k < n
          · have hk1 : k + 1 ≤ n := hlt
            have hm1 : n - (k + 1) < n - k := by omega
            obtain ⟨b3, o3, rfl, e0, e1, e2, e3⟩ := (HR3.out.but hbut fun b o e => by have := hg3 b o e; omega) k (by rw [HAd]; exact hlt)
            obtain rfl := hg3 b3 o3 rfl
            clear hg3
            have hu := HA.out ((A.drop 1)[k]'(by rw [HAd]; exact hlt)) (List.mem_of_mem_drop (List.getElem_mem _))
            have hta := Lib.hid (show A.take (k + 1 + 1) = A.take (k + 1) ++ [(A.drop 1)[k]'(by rw [HAd]; exact hlt)] by
              rw [List.take_succ_eq_append_getElem (by omega)]; congr 2; simp; try (congr 1; omega))
            generalize (A.drop 1)[k]'(by rw [HAd]; exact hlt) = u at *
            have hdn := Lib.hid (Msg.does_snoc hgo.1 hu.1 HDO.out)
            rw [← hta.out] at hdn
            have hgj := Lib.hid (show GoodU (Msg.join one u) from ⟨Msg.join_k3 hu.1, by have := Msg.join_k3 (a := one) hu.1; unfold Msg.K3 at this; omega, Msg.join_value maxLen (by decide) hgo.2.2.1 hu.2.2.1, Msg.join_delta hu.2.2.2⟩)
            clear hta
            obtain ⟨K1, Y1, X1, D1⟩ := one
            obtain ⟨K2, Y2, X2, D2⟩ := u
            simp only at e0 e1 e2 e3
            obtain ⟨z1, z2, z3⟩ : K1 < 256 ∧ X1.size ≤ maxLen ∧ D1 < 18446744073709551616 := hgo.2
            obtain ⟨y1, y2, y3⟩ : K2 < 256 ∧ X2.size ≤ maxLen ∧ D2 < 18446744073709551616 := hu.2
            have r0 := fun o => (hrw.ext (Ext.alloc _ o)).cell 0 (.int .u8 (K1 : Int)) rfl
            have r1 := fun o => (hrw.ext (Ext.alloc _ o)).cell 1 (.string Y1) rfl
            have r2 := fun o => (hrw.ext (Ext.alloc _ o)).cell 2 (.string X1) rfl
            have r3 := fun o => (hrw.ext (Ext.alloc _ o)).cell 3 (.int .u64 (D1 : Int)) rfl
            clear hrw
            go_wp2_with fail
            refine (join_any K1 D1 K2 D2 Y1 X1 Y2 X2 _ z1 y1 z3 y3 z2).mono ?_
            unfold upV
            rintro e w4 ⟨rfl, he4⟩
            have HR4 := Lib.hid ((HRW.out.ext (Ext.alloc _ _)).ext he4)
            have HB4 := Lib.hid (hbut.trans (But.of ((Ext.alloc _ _).trans he4)))
            go_wp2_with (refine wpl_row rfl rfl rfl rfl HR4.out (by kernel_rfl) rfl (by simp [Value.oneCell']) ?_; intro w5 hw5 hr5; have HW5 := Lib.hid hw5; have HR5 := Lib.hid hr5; clear hw5 hr5)
            go_roundw
            case rel => exact ⟨k + 1, _, hk1, by go_num, hgj.out, hdn.out, HR5.out, HB4.out.trans HW5.out.but⟩
            case measure => simp [intOf]; exact hm1
          · obtain rfl : k = n := by omega
            rw [List.take_of_length_le (by omega)] at HDO
            replace x0 := hbut.cell x0 (show w.heap.size ≠ b1 by omega)
            replace x1 := hbut.cell x1 (show w.heap.size ≠ b1 by omega)
            replace x3 := hbut.cell x3 (show w.heap.size ≠ b1 by omega)
            have hE4 := hbut.ext hE3 (by have := hE2.size; omega)
            have HRA := Lib.hid (HR.out.but hbut fun b o e => by cases e; omega)
            have HR2' := Lib.hid (hbut.row HR2.out (by omega))
            have htm : Int.tmod (at' : Int) ((k : Int) + 1) = ((at' % (k + 1) : Nat) : Int) := by
              rw [Int.tmod_eq_emod_of_nonneg (Int.natCast_nonneg _)]
              exact (Int.natCast_emod at' (k + 1)).symm
            have hql : at' % (k + 1) < k + 1 := Nat.mod_lt _ (by omega)
            generalize at' % (k + 1) = q at *
            go_upto_region 19 with (fail)
            have hkb : k ≤ 11 := by omega
            go_wp2_with fail
            have HRW2 := Lib.hid hrw
            clear hrw
            go_loopw [16] (fun i wx => ∃ (m : Nat) (last : Msg.Up), q ≤ m ∧ m ≤ k ∧ i = .int .i64 ((m : Int) - 1) ∧ GoodU last ∧ Msg.Does last (A.drop m) ∧ RowIs b2 37 (updC last) wx ∧ But b2 wr wx) (fun i _ => (intOf i + 1).toNat)
            case atStart =>
              refine ⟨k, G, by omega, by omega, by congr 1; omega, HA.out _ (by rw [HG.out]; simp), ?_, HR2'.out, But.refl _ _⟩
              rw [List.drop_eq_getElem_cons (by omega), List.drop_of_length_le (by omega), ← HG.out]
              exact Msg.does_one G
            case round =>
              obtain ⟨m, last, hqm, hmk, rfl, hgl2, hdl, hrl, hbl⟩ := hrel
              have HDL := Lib.hid hdl; have HRL := Lib.hid hrl
              clear hdl
              by_cases hlt2 : q < m
              · obtain ⟨j, rfl⟩ : ∃ j, m = j + 1 := ⟨m - 1, by omega⟩
                obtain ⟨b', o', e', e0, e1, e2, e3⟩ := (HRA.out.but hbl fun b o e => by cases e; omega) j (by omega)
                cases e'
                simp only [Nat.zero_add] at e0 e1 e2 e3
                have hu := HA.out (A[j]'(by omega)) (List.getElem_mem _)
                have hdn := Lib.hid (Msg.does_cons hu.1 hgl2.1 HDL.out)
                have hdd := Lib.hid (show A.drop j = A[j]'(by omega) :: A.drop (j + 1) from List.drop_eq_getElem_cons (by omega))
                rw [← hdd.out] at hdn
                generalize A[j]'(by omega) = u at *
                have hgj := Lib.hid (show GoodU (Msg.join u last) from ⟨Msg.join_k3 hgl2.1, by have := Msg.join_k3 (a := u) hgl2.1; unfold Msg.K3 at this; omega, Msg.join_value maxLen (by decide) hu.2.2.1 hgl2.2.2.1, Msg.join_delta hgl2.2.2.2⟩)
                clear hdd
                obtain ⟨K1, Y1, X1, D1⟩ := u
                obtain ⟨K2, Y2, X2, D2⟩ := last
                simp only at e0 e1 e2 e3
                obtain ⟨z1, z2, z3⟩ : K1 < 256 ∧ X1.size ≤ maxLen ∧ D1 < 18446744073709551616 := hu.2
                obtain ⟨y1, y2, y3⟩ : K2 < 256 ∧ X2.size ≤ maxLen ∧ D2 < 18446744073709551616 := hgl2.2
                have r0 := hrl.cell 0 (.int .u8 (K2 : Int)) rfl
                have r1 := hrl.cell 1 (.string Y2) rfl
                have r2 := hrl.cell 2 (.string X2) rfl
                have r3 := hrl.cell 3 (.int .u64 (D2 : Int)) rfl
                have e0d := cell_ext e0 (Ext.drew _)
                have e1d := cell_ext e1 (Ext.drew _)
                have e2d := cell_ext e2 (Ext.drew _)
                have e3d := cell_ext e3 (Ext.drew _)
                have r0d := cell_ext r0 (Ext.drew _)
                have r1d := cell_ext r1 (Ext.drew _)
                have r2d := cell_ext r2 (Ext.drew _)
                have r3d := cell_ext r3 (Ext.drew _)
                have l1 : ((j : Int) + 1 - 1) = (j : Int) := by omega
                have l2 : (j : Int) < (k : Int) + 1 := by omega
                have l3 : (q : Int) ≤ (j : Int) := by omega
                clear hrl
                try clear x0; try clear x1; try clear x3; try clear HR; try clear HAS; try clear HP; try clear HF; try clear HG; try clear HDO; try clear HRW2; try clear HR1; try clear HR2; try clear HR3; try clear HR2'; try clear HRA; try clear HA; try clear hE; try clear hE2; try clear hE3; try clear hE4; try clear hex; try clear hbut; try clear hgo; try clear hgl2; try clear hu; try clear he1; try clear he2; try clear hca; try clear hS2; try clear hS; try clear htm; try clear hql
                go_upto_region 22 with (fail)
                go_region_with ((go_at_call 23; refine (join_any K1 D1 K2 D2 Y1 X1 Y2 X2 _ z1 y1 z3 y3 z2).mono ?_; unfold upV; rintro e w4 ⟨rfl, he4⟩; have HR4 := Lib.hid ((HRL.out.ext (Ext.drew _)).ext he4); have HB4 := Lib.hid (hbl.trans (But.of ((Ext.drew _).trans he4))); have i0 := HR4.out.cell 0 _ rfl; have i1 := HR4.out.cell 1 _ rfl; have i2 := HR4.out.cell 2 _ rfl; have i3 := HR4.out.cell 3 _ rfl; have j0 := HR4.out.free 0; have j1 := HR4.out.free 1; have j2 := HR4.out.free 2; have j3 := HR4.out.free 3))
                all_goals
                  go_wp2_with fail
                  go_roundw
                  case rel => exact ⟨j, _, by omega, by omega, rfl, hgj.out, hdn.out, RowIs.set4 HR4.out, HB4.out.trans (Wrote.set4 HR4.out).but⟩
                  case measure => simp [intOf]
              · obtain rfl : q = m := by omega
                have l1 : decide ((q : Int) ≤ (q : Int) - 1) = false := decide_eq_false (by omega)
                replace x1 := hbl.cell x1 (show w.heap.size ≠ b2 by omega)
                have HR1 := Lib.hid (hbl.row HRW2.out (by omega))
                have HRA2 := Lib.hid (HRA.out.but hbl fun b o e => by cases e; omega)
                have hE5 := hbl.ext hE4 (by have := hE2.size; omega)
                have hon := Lib.hid (show Msg.on (V, t) one = (P, b) by rw [← HP.out]; exact Msg.does_all hgo.1 HDO.out _)
                have hend := Lib.hid (show Msg.all (V, t) (A.take q ++ [last]) = (P, b) by
                  rw [Msg.does_end HDL.out, List.take_append_drop]; exact HP.out)
                have hsl : ∀ u ∈ A.take q ++ [last], SmallUp u := fun u hu => by
                  rcases List.mem_append.1 hu with hu | hu
                  · exact (HA.out u (List.mem_of_mem_take hu)).2
                  · obtain rfl := List.mem_singleton.1 hu; exact hgl2.2
                have HSL := Lib.hid hsl
                have htl : (A.take q).length = q := by rw [List.length_take]; omega
                have hLL : (A.take q ++ [last]).length = q + 1 := by simp; omega
                have hgo2 := hgo.2
                obtain ⟨K1, Y1, X1, D1⟩ := one
                obtain ⟨K2, Y2, X2, D2⟩ := last
                obtain ⟨z1, z2, z3⟩ : K1 < 256 ∧ X1.size ≤ maxLen ∧ D1 < 18446744073709551616 := hgo2
                have r0 := HR1.out.cell 0 (.int .u8 (K1 : Int)) rfl
                have r1 := HR1.out.cell 1 (.string Y1) rfl
                have r2 := HR1.out.cell 2 (.string X1) rfl
                have r3 := HR1.out.cell 3 (.int .u64 (D1 : Int)) rfl
                clear hsl HDL HDO hrl
                go_wp2_with fail
                refine (on_any V Y1 X1 t K1 D1 _ z1 (by unfold maxLen; omega) z3).mono ?_
                rw [hon.out]
                unfold pairV
                rintro e w5 ⟨rfl, he5⟩
                replace x1 := cell_ext x1 he5
                have s0 := cell_ext (HRL.out.cell 0 (.int .u8 (K2 : Int)) rfl) he5
                have s1 := cell_ext (HRL.out.cell 1 (.string Y2) rfl) he5
                have s2 := cell_ext (HRL.out.cell 2 (.string X2) rfl) he5
                have s3 := cell_ext (HRL.out.cell 3 (.int .u64 (D2 : Int)) rfl) he5
                have HRT := Lib.hid ((HRA2.out.ext he5).take q)
                have hE6 := hE5.trans he5
                have l2 : (q : Int) ≤ (cap : Int) := by omega
                try clear x0; try clear x3; try clear HR; try clear HAS; try clear HP; try clear HF; try clear HG; try clear HRW2; try clear HR1; try clear HR2; try clear HR3; try clear HR2'; try clear HRA; try clear HRA2; try clear HA; try clear hE; try clear hE2; try clear hE3; try clear hE4; try clear hE5; try clear hex; try clear hbut; try clear hgo; try clear hgl2; try clear he1; try clear he2; try clear hca; try clear hS2; try clear hS; try clear htm; try clear hon; try clear r0; try clear r1; try clear r2; try clear r3; try clear hbl; try clear hne
                go_upto_region 24 with (fail)
                refine wp_region_drift_lit (n := 147) (by kernel_rfl) (by kernel_rfl) (by rfl) ?_
                apply chain_val
                · intro w2 hx  K hK
                  simp only [Act.put, List.setIfInBounds_toArray, List.set_cons_zero, List.set_cons_succ] at hK ⊢
                  go_simp
                  exact hK _ _ (Ext.refl _) rfl
                apply chain_val
                · intro w2 hx  K hK
                  simp only [Act.put, List.setIfInBounds_toArray, List.set_cons_zero, List.set_cons_succ] at hK ⊢
                  go_simp
                  exact hK _ _ (Ext.refl _) rfl
                apply chain_val (.bool t)
                · intro w2 hx  K hK
                  simp only [Act.put, List.setIfInBounds_toArray, List.set_cons_zero, List.set_cons_succ] at hK ⊢
                  have hc := cell_ext x1 hx
                  go_simp
                  exact hK _ _ (Ext.refl _) rfl
                apply chain_val
                · intro w2 hx  K hK
                  simp only [Act.put, List.setIfInBounds_toArray, List.set_cons_zero, List.set_cons_succ] at hK ⊢
                  go_simp
                  exact hK _ _ (Ext.refl _) rfl
                apply chain_val
                · intro w2 hx  K hK
                  simp only [Act.put, List.setIfInBounds_toArray, List.set_cons_zero, List.set_cons_succ] at hK ⊢
                  go_simp
                  exact hK _ _ (Ext.refl _) rfl
                apply chain_val
                · intro w2 hx  K hK
                  simp only [Act.put, List.setIfInBounds_toArray, List.set_cons_zero, List.set_cons_succ] at hK ⊢
                  go_simp
                  exact hK _ _ (Ext.refl _) rfl
                apply chain_val (.slice (some ⟨g, 0, none⟩) q q)
                · intro w2 hx  K hK
                  simp only [Act.put, List.setIfInBounds_toArray, List.set_cons_zero, List.set_cons_succ] at hK ⊢
                  go_simp
                  exact hK _ _ (Ext.refl _) rfl
                apply chain_val (.agg #[.int .u8 (K2 : Int), .string Y2, .string X2, .int .u64 (D2 : Int)])
                · intro w2 hx  K hK
                  simp only [Act.put, List.setIfInBounds_toArray, List.set_cons_zero, List.set_cons_succ] at hK ⊢
                  have hc0 := cell_ext s0 hx
                  have hc1 := cell_ext s1 hx
                  have hc2 := cell_ext s2 hx
                  have hc3 := cell_ext s3 hx
                  go_simp
                  exact hK _ _ (Ext.refl _) rfl
                refine chain_pred (One ⟨K2, Y2, X2, D2⟩) (fun _ _ _ e h => One.ext h e) ?_ ?_
                · intro w2 hx  K hK
                  simp only [Act.put, List.setIfInBounds_toArray, List.set_cons_zero, List.set_cons_succ] at hK ⊢
                  refine step_build rfl rfl rfl ?_
                  exact hK _ _ (Ext.alloc _ _) ⟨_, _, rfl, recs_one (World.cell?_alloc_new _ _ _ 0) (World.cell?_alloc_new _ _ _ 1) (World.cell?_alloc_new _ _ _ 2) (World.cell?_alloc_new _ _ _ 3)⟩
                refine chain_pred (Many (q + 1) (A.take q ++ [⟨K2, Y2, X2, D2⟩])) (fun _ _ _ e h => Many.ext h e) ?_ ?_
                · intro w2 hx v8 h8 K hK
                  simp only [Act.put, List.setIfInBounds_toArray, List.set_cons_zero, List.set_cons_succ] at hK ⊢
                  obtain ⟨b8, c8, rfl, hr8⟩ := h8
                  exact step_full rfl _ _ rfl rfl rfl htl (HRT.out.ext hx) rfl hr8 (by omega) (by decide) (by decide) (fun cap w' h1 h2 => hK _ _ h2 ⟨_, _, rfl, h1⟩)
                apply chain_val (.tuple #[.string P, .bool b])
                · intro w2 hx _ _ v9 h9 K hK
                  simp only [Act.put, List.setIfInBounds_toArray, List.set_cons_zero, List.set_cons_succ] at hK ⊢
                  obtain ⟨a9, c9, rfl, hr9⟩ := h9
                  go_simp
                  refine (all_len V t _ hLL a9 c9 _ (by omega) (by unfold maxLen; omega) hr9 HSL.out).mono ?_
                  rw [hend.out]
                  unfold pairV
                  rintro e w6 ⟨rfl, he6⟩
                  exact hK _ _ he6 rfl
                apply chain_val
                · intro w2 hx  K hK
                  simp only [Act.put, List.setIfInBounds_toArray, List.set_cons_zero, List.set_cons_succ] at hK ⊢
                  go_simp
                  exact hK _ _ (Ext.refl _) rfl
                apply chain_val
                · intro w2 hx  K hK
                  simp only [Act.put, List.setIfInBounds_toArray, List.set_cons_zero, List.set_cons_succ] at hK ⊢
                  go_simp
                  exact hK _ _ (Ext.refl _) rfl
                apply chain_val
                · intro w2 hx  K hK
                  simp only [Act.put, List.setIfInBounds_toArray, List.set_cons_zero, List.set_cons_succ] at hK ⊢
                  go_simp
                  exact hK _ _ (Ext.refl _) rfl
                apply chain_val
                · intro w2 hx v8 h8 v9 h9 K hK
                  simp only [Act.put, List.setIfInBounds_toArray, List.set_cons_zero, List.set_cons_succ] at hK ⊢
                  go_simp
                  exact hK _ _ (Ext.refl _) rfl
                apply chain_val
                · intro w2 hx v8 h8 v9 h9 K hK
                  simp only [Act.put, List.setIfInBounds_toArray, List.set_cons_zero, List.set_cons_succ] at hK ⊢
                  go_simp
                  exact hK _ _ (Ext.refl _) rfl
                refine chain_end fun w2 hx => ?_
                simp only [List.reverse_cons, List.reverse_nil, List.nil_append, List.cons_append, withDeps, Act.put, List.setIfInBounds_toArray, List.set_cons_zero, List.set_cons_succ]
                intro v8 h8 v9 h9
                go_wp2_with fail
                go_ret
                exact ⟨rfl, hE6.trans hx⟩
end Go.Proofs.Ytemhflafiephpaa
