/- The document's device: where it lies in memory; its ready, burn, Read. -/
import Derived.Test.YtcpbpfngiimcnaaDevP
import Derived.Test.YtcpbpfngiimcnaaDevN
namespace Go.Proofs.Ytcpbpfngiimcnaa
open Go.RowKit
def refRow (d : Dev.St) (m q cm cq : Nat) (cv : Value) : Array Value := #[.int .i64 128, .slice (some ⟨m, 0, none⟩) 9 cm, .slice (some ⟨q, 0, none⟩) 9 cq, cv, .int .i64 (d.fuse : Int), .int .i64 (d.lose : Int), .int .i64 (d.stray : Int), .int .i64 d.to, .bool d.off, .bool d.gone, .int .i64 (d.reads : Int), .int .i64 (d.writes : Int), .int .i64 (d.fls : Int)]
/-- the document's device, as it lies -/
structure RD (w : World) (B b m q : Nat) (d : Dev.St) : Prop where
  row : ∃ cv cm cq, RowIs b 65 (refRow d m q cm cq cv) w ∧ CacheIs 107 w B cv d.cache
  media : ListAt 9 .string w m d.media
  bad : ListAt 4 .bool w q d.bad
  ok : Dev.Ok d
  low : B ≤ b ∧ B ≤ m ∧ B ≤ q
section
variable {w w' : World} {B b m q : Nat} {d d' : Dev.St} {cv : Value} {cm cq : Nat}
theorem RD.ext (h : RD w B b m q d) (e : Ext w w') : RD w' B b m q d := by
  obtain ⟨⟨cv, cm, cq, hr, hc⟩, h2, h3, h4, h5⟩ := h
  exact ⟨⟨cv, cm, cq, hr.ext e, hc.ext e⟩, h2.ext e, h3.ext e, h4, h5⟩
/-- the row is another one, all else lies as it lay -/
theorem RD.row' (hr : RowIs b 65 (refRow d m q cm cq cv) w) (hc : CacheIs 107 w B cv d.cache) (hm : ListAt 9 .string w m d.media) (hq : ListAt 4 .bool w q d.bad) (hlow : B ≤ b ∧ B ≤ m ∧ B ≤ q)
    (hr' : RowIs b 65 (refRow d' m q cm cq cv) w') (e : But b w w') (h1 : d'.cache = d.cache) (h2 : d'.media = d.media) (h3 : d'.bad = d.bad) (hok : Dev.Ok d') : RD w' B b m q d' :=
  ⟨⟨cv, cm, cq, hr', by rw [h1]; exact hc.but hr (by decide) e⟩, by rw [h2]; exact hm.but e (hr.ne_list hm (by decide)).symm, by rw [h3]; exact hq.but e (hr.ne_list hq (by decide)).symm, hok, hlow⟩
theorem RD.far {g : Nat} {T : TypeId} {cs : Array Value} (h : RD w B b m q d) (hr : RowIs g T cs w) (hT : 107 ≠ T) (hg : b ≠ g ∧ m ≠ g ∧ q ≠ g) (e : But g w w') : RD w' B b m q d := by
  obtain ⟨⟨cv, cm, cq, hb, hc⟩, hm, hq, hok, hlow⟩ := h
  exact ⟨⟨cv, cm, cq, e.row hb hg.1, hc.but hr hT e⟩, hm.but e hg.2.1, hq.but e hg.2.2, hok, hlow⟩
theorem RD.lts (h : RD w B b m q d) : b < w.heap.size ∧ m < w.heap.size ∧ q < w.heap.size := by
  obtain ⟨⟨cv, _, _, hb, _⟩, hm, hq, _, _⟩ := h
  exact ⟨hb.lt, hm.lt, hq.lt⟩
/-- a device of another kind is apart -/
theorem RD.df {B' b' m' q' : Nat} {f : Dev.St} (h : RD w B' b' m' q' f) (hp : PD w B b m q d) (hne : m' ≠ m ∧ q' ≠ q) (e : DF 95 B b m q w w') : RD w' B' b' m' q' f := by
  obtain ⟨⟨cv, cm, cq, hr, hc⟩, hm, hq, hok, hlow⟩ := h
  obtain ⟨⟨cv2, pr, pc⟩, pm, pq, _, _⟩ := hp
  have n1 := hr.ne pr (by decide)
  have n2 := hr.ne_list pm (by decide)
  have n3 := hr.ne_list pq (by decide)
  refine ⟨⟨cv, cm, cq, e.row hr (by decide) ⟨n1, n2, n3⟩, hc.kept fun k cs z hk => ?_⟩, e.list hm (by decide) ⟨(pr.ne_list hm (by decide)).symm, hne.1, hm.ne_list pq (by decide)⟩, e.list hq (by decide) ⟨(pr.ne_list hq (by decide)).symm, (pm.ne_list hq (by decide)).symm, hne.2⟩, hok, hlow⟩
  have hlt := (Array.getElem?_eq_some_iff.1 hk).1
  have ty : ∀ {U : TypeId} {c : Array Value} {x : Nat × Nat}, w.heap[k]? = some (Obj.cells c U x) → U = 107 := fun {U c x} h9 => by
    rw [hk] at h9
    simp only [Option.some.injEq, Obj.cells.injEq] at h9
    exact h9.2.1.symm
  rcases e.block k hlt (fun e2 => by subst e2; exact absurd (ty pr) (by decide)) (fun e2 => by subst e2; obtain ⟨_, h9, _⟩ := pm; exact absurd (ty h9) (by decide)) (fun e2 => by subst e2; obtain ⟨_, h9, _⟩ := pq; exact absurd (ty h9) (by decide)) with e2 | ⟨_, c, x, e2⟩
  · exact e2
  · exact absurd (ty e2) (by decide)
theorem PD.df {B' b' m' q' : Nat} {f : Dev.St} (h : PD w B b m q d) (hp : RD w B' b' m' q' f) (hne : m ≠ m' ∧ q ≠ q') (e : DF 107 B' b' m' q' w w') : PD w' B b m q d := by
  obtain ⟨⟨cv, hr, hc⟩, hm, hq, hok, hlow⟩ := h
  obtain ⟨⟨cv2, _, _, pr, pc⟩, pm, pq, _, _⟩ := hp
  have n1 := hr.ne pr (by decide)
  have n2 := hr.ne_list pm (by decide)
  have n3 := hr.ne_list pq (by decide)
  refine ⟨⟨cv, e.row hr (by decide) ⟨n1, n2, n3⟩, hc.kept fun k cs z hk => ?_⟩, e.list hm (by decide) ⟨(pr.ne_list hm (by decide)).symm, hne.1, hm.ne_list pq (by decide)⟩, e.list hq (by decide) ⟨(pr.ne_list hq (by decide)).symm, (pm.ne_list hq (by decide)).symm, hne.2⟩, hok, hlow⟩
  have hlt := (Array.getElem?_eq_some_iff.1 hk).1
  have ty : ∀ {U : TypeId} {c : Array Value} {x : Nat × Nat}, w.heap[k]? = some (Obj.cells c U x) → U = 95 := fun {U c x} h9 => by
    rw [hk] at h9
    simp only [Option.some.injEq, Obj.cells.injEq] at h9
    exact h9.2.1.symm
  rcases e.block k hlt (fun e2 => by subst e2; exact absurd (ty pr) (by decide)) (fun e2 => by subst e2; obtain ⟨_, h9, _⟩ := pm; exact absurd (ty h9) (by decide)) (fun e2 => by subst e2; obtain ⟨_, h9, _⟩ := pq; exact absurd (ty h9) (by decide)) with e2 | ⟨_, c, x, e2⟩
  · exact e2
  · exact absurd (ty e2) (by decide)
set_option maxRecDepth 100000 in
set_option maxHeartbeats 2000000 in
theorem refready_any (hr : RowIs b 65 (refRow d m q cm cq cv) w) : Calls Try.prog 52 #[.pointer (some ⟨b, 0, none⟩)] w fun e w' => e = .returned (.int .i64 ((Dev.ready d : Nat) : Int)) ∧ w' = w := by
  have c8 := hr.cell 8 (.bool d.off) rfl
  have c9 := hr.cell 9 (.bool d.gone) rfl
  unfold Dev.ready
  clear hr
  generalize d.off = off at *
  generalize d.gone = gone at *
  cases off <;> cases gone
  all_goals
    go_enter Try.func52, Try.ntmps52
    go_wp2_with fail
    go_ret
    exact ⟨rfl, rfl⟩
set_option maxRecDepth 100000 in
set_option maxHeartbeats 4000000 in
theorem refburn_any (hf : d.fuse < 9223372036854775808) (ho : d.off = false) (hr : RowIs b 65 (refRow d m q cm cq cv) w) : Calls Try.prog 53 #[.pointer (some ⟨b, 0, none⟩)] w fun e w' =>
    e = .returned (.bool (Dev.burn d).2) ∧ RowIs b 65 (refRow (Dev.burn d).1 m q cm cq cv) w' ∧ But b w w' := by
  have c4 := hr.cell 4 (.int .i64 (d.fuse : Int)) rfl
  have f4 := hr.free 4
  unfold Dev.burn
  by_cases h0 : d.fuse = 0
  · rw [if_pos h0]
    have HR := Lib.hid hr
    clear hr f4
    rw [h0] at c4
    go_enter Try.func53, Try.ntmps53
    go_wp2_with fail
    go_ret
    exact ⟨rfl, HR.out, But.refl _ _⟩
  · rw [if_neg h0]
    by_cases h1 : d.fuse = 1
    · rw [if_pos h1]
      have hr5 := hr.setCell 4 (.int .i64 0)
      have c5 := hr5.cell 4 (.int .i64 0) rfl
      have c8 := hr5.cell 8 (.bool d.off) rfl
      have f8 := hr5.free 8
      have hr6 := hr5.setCell 8 (.bool true)
      have c9 := hr6.cell 8 (.bool true) rfl
      have HR := Lib.hid hr; have HR5 := Lib.hid hr5; have HR6 := Lib.hid hr6
      clear hr hr5 hr6
      rw [h1] at c4
      rw [ho] at c8
      go_enter Try.func53, Try.ntmps53
      go_wp2_with fail
      go_ret
      exact ⟨rfl, HR6.out, ((Wrote.setCell HR.out 4 _).trans (Wrote.setCell HR5.out 8 _)).but⟩
    · rw [if_neg h1]
      obtain ⟨n, hn⟩ : ∃ n, d.fuse = n + 2 := ⟨d.fuse - 2, by omega⟩
      rw [hn] at c4 hf ⊢
      have e9 : (n : Int) + 2 - 1 = ((n + 1 : Nat) : Int) := by omega
      have hr5 := hr.setCell 4 (.int .i64 ((n : Int) + 2 - 1))
      have c5 := hr5.cell 4 (.int .i64 ((n : Int) + 2 - 1)) rfl
      have c8 := hr5.cell 8 (.bool d.off) rfl
      rw [ho] at c8
      have HR := Lib.hid hr; have HR5 := Lib.hid hr5
      clear hr hr5
      have hz : ((n : Int) + 2 - 1 == 0) = false := beq_eq_false_iff_ne.2 (by omega)
      have E9 := Lib.hid e9
      clear e9
      go_enter Try.func53, Try.ntmps53
      go_wp2_with fail
      go_ret
      refine ⟨rfl, ?_, (Wrote.setCell HR.out 4 _).but⟩
      have h9 := HR5.out
      rw [E9.out] at h9 ⊢
      exact h9
theorem Dev.look_take {c : List (Nat × ByteArray)} {k i : Nat} {z : ByteArray} (hk : k < c.length) : Dev.look (c.take (k + 1)) i z = if c[k].1 = i then c[k].2 else Dev.look (c.take k) i z := by
  rw [List.take_succ_eq_append_getElem hk]
  exact Dev.look_snoc _ _ _ _ _
set_option maxRecDepth 100000 in
set_option maxHeartbeats 8000000 in
theorem refread_any (i : Int) (hf : Dev.Fit d) (hP : RD w B b m q d) :
    Calls Try.prog 24 #[.pointer (some ⟨b, 0, none⟩), .int .i64 i] w fun e w' =>
      e = .returned (.tuple #[.string (Dev.read d i).2.1, .int .i64 (((Dev.read d i).2.2 : Nat) : Int)]) ∧ RD w' B b m q (Dev.read d i).1 ∧ DF 107 B b m q w w' := by
  have HP0 := Lib.hid hP
  obtain ⟨⟨cv, cm, cq, hr, hc⟩, hm, hq, hok, hlow⟩ := hP
  obtain ⟨a, cap, rfl, hcc, _⟩ := CacheIs.cells hc
  have HR := Lib.hid hr; have HC := Lib.hid hc; have HM := Lib.hid hm; have HQ := Lib.hid hq; have HOK := Lib.hid hok
  have c1 := hr.cell 1 (.slice (some ⟨m, 0, none⟩) 9 cm) rfl
  clear hr hc hm hq hok
  go_enter Try.func24, Try.ntmps24
  go_wp2_with fail
  refine (refready_any HR.out).mono ?_
  rintro e w1 ⟨rfl, rfl⟩
  by_cases h0 : Dev.ready d = 0
  case neg =>
    obtain ⟨r, hr⟩ : ∃ r, Dev.ready d = r := ⟨_, rfl⟩
    have hr0 : ((r : Int) != 0) = true := by simp; omega
    have HA := Lib.hid (show Dev.read d i = (d, .empty, r) from by unfold Dev.read; rw [if_pos h0, hr])
    rw [hr]
    clear hr h0 c1
    go_wp2_with fail
    go_ret2
    rw [HA.out]
    exact ⟨rfl, HP0.out, DF.refl _⟩
  rw [h0]
  by_cases hi : 0 ≤ i ∧ i < 9
  case neg =>
    have HA := Lib.hid (show Dev.read d i = (d, .empty, 3) from by
      unfold Dev.read
      rw [if_neg (by omega), if_pos]
      cases h : Dev.isSec i with
      | false => rfl
      | true => exact absurd (Dev.isSec_iff.1 h) hi)
    by_cases hn : i < 0
    · go_wp2_with fail
      go_ret2
      rw [HA.out]
      exact ⟨rfl, HP0.out, DF.refl _⟩
    · have h9 : 9 ≤ i := by omega
      clear hi
      go_wp2_with fail
      go_ret2
      rw [HA.out]
      exact ⟨rfl, HP0.out, DF.refl _⟩
  obtain ⟨j, rfl⟩ : ∃ j : Nat, i = (j : Int) := ⟨i.toNat, by omega⟩
  have hj : j < 9 := by omega
  have hsec : Dev.isSec (j : Int) = true := Dev.isSec_iff.2 hi
  have c2 := HR.out.cell 2 (.slice (some ⟨q, 0, none⟩) 9 cq) rfl
  have cb := HQ.out.cellD j (by rw [HOK.out.bad]; exact hj)
  obtain ⟨x, hx⟩ : ∃ x, d.bad.getD j false = x := ⟨_, rfl⟩
  rw [hx] at cb
  have HRD := Lib.hid (show Dev.read d (j : Int) = if x = true then (d, .empty, 7) else ({ d with reads := d.reads + 1 }, Dev.look d.cache j (d.media.getD j .empty), 0) from by
    unfold Dev.read
    rw [if_neg (by omega), if_neg (by rw [hsec]; decide), Int.toNat_natCast, hx])
  clear hx hsec
  cases x with
  | true =>
    have HA : Hid (Dev.read d (j : Int) = (d, .empty, 7)) := Lib.hid (HRD.out.trans rfl)
    go_wp2_with fail
    go_ret2
    rw [HA.out]
    exact ⟨rfl, HP0.out, DF.refl _⟩
  | false =>
    have HA : Hid (Dev.read d (j : Int) = ({ d with reads := d.reads + 1 }, Dev.look d.cache j (d.media.getD j .empty), 0)) := Lib.hid (HRD.out.trans rfl)
    clear HRD
    have c10 := HR.out.cell 10 (.int .i64 (d.reads : Int)) rfl
    have f10 := HR.out.free 10
    have hrd := hf.reads
    go_upto_region 9 with (fail)
    have e9 : (d.reads : Int) + 1 = ((d.reads + 1 : Nat) : Int) := by omega
    rw [e9]
    have hr1 : RowIs b 65 (refRow { d with reads := d.reads + 1 } m q cm cq (.slice a d.cache.length cap)) (w1.setCell ⟨b, 10, none⟩ (.int .i64 ((d.reads + 1 : Nat) : Int))) := HR.out.setCell 10 (.int .i64 ((d.reads + 1 : Nat) : Int))
    have hb1 := (Wrote.setCell HR.out 10 (.int .i64 ((d.reads + 1 : Nat) : Int))).but
    generalize w1.setCell ⟨b, 10, none⟩ (.int .i64 ((d.reads + 1 : Nat) : Int)) = w2 at *
    have hp2 := RD.row' HR.out HC.out HM.out HQ.out hlow hr1 hb1 rfl rfl rfl (HOK.out.same rfl rfl rfl)
    have HP2 := Lib.hid hp2; have HB1 := Lib.hid hb1; have HR1 := Lib.hid hr1
    have k1 := hr1.cell 1 (.slice (some ⟨m, 0, none⟩) 9 cm) rfl
    have k3 := hr1.cell 3 (.slice a d.cache.length cap) rfl
    have cmj := hp2.media.cellT j (by rw [hp2.ok.media]; exact hj)
    have hcW : CacheIs 107 w2 B (.slice a d.cache.length cap) d.cache := HC.out.but HR.out (by decide) hb1
    have HCW := Lib.hid hcW
    have hlc := hf.cache
    obtain ⟨z, hz⟩ : ∃ z, d.media.getD j .empty = z := ⟨_, rfl⟩
    rw [show ({ d with reads := d.reads + 1 } : Dev.St).media.getD j .empty = z from hz] at cmj
    rw [hz] at HA
    clear e9 c1 c2 cb c10 f10 hp2 hb1 hr1 hcW hz
    go_wp2_with fail
    go_loopw [7, 8] (fun s i wx => ∃ k : Nat, k ≤ d.cache.length ∧ i = .int .i64 k ∧ s = .string (Dev.look (d.cache.take k) j z) ∧ wx = w2) (fun _ i _ => d.cache.length - (intOf i).toNat)
    case atStart => exact ⟨0, by omega, rfl, by simp [Dev.look], rfl⟩
    case round =>
      obtain ⟨k, hk, rfl, rfl, rfl⟩ := hrel
      by_cases hlt : k < d.cache.length
      · obtain ⟨a', cap', ea, _, hcells⟩ := CacheIs.cells HCW.out
        simp only [Value.slice.injEq, true_and] at ea
        obtain ⟨rfl, rfl⟩ := ea
        obtain ⟨g, rfl, hg, x0, x1⟩ := hcells k hlt
        have HLT := Lib.hid (Dev.look_take (i := j) (z := z) hlt)
        clear hcells
        generalize d.cache[k] = x at *
        obtain ⟨s, t⟩ := x
        simp only at x0 x1 HLT
        obtain ⟨y, hy⟩ : ∃ y, Dev.look (d.cache.take k) j z = y := ⟨_, rfl⟩
        rw [hy] at HLT ⊢
        clear hy
        by_cases hs : s = j
        · subst hs
          rw [if_pos rfl] at HLT
          go_wp2_with fail
          go_roundw
          case rel => exact ⟨k + 1, by omega, by go_num, by rw [HLT.out], by first | rfl | trivial⟩
          case measure => simp [intOf]; omega
        · have hs' : ((s : Int) == (j : Int)) = false := beq_eq_false_iff_ne.2 (by omega)
          rw [if_neg hs] at HLT
          go_wp2_with fail
          go_roundw
          case rel => exact ⟨k + 1, by omega, by go_num, by rw [HLT.out], by first | rfl | trivial⟩
          case measure => simp [intOf]; omega
      · obtain rfl : k = d.cache.length := by omega
        rw [List.take_length]
        go_wp2_with fail
        go_ret2
        rw [HA.out]
        exact ⟨rfl, HP2.out, DF.but HB1.out (.inl rfl)⟩
end
end Go.Proofs.Ytcpbpfngiimcnaa
