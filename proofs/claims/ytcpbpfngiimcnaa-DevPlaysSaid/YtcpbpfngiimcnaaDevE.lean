/- The contract of the device's Read. -/
import Derived.Test.YtcpbpfngiimcnaaDevD
namespace Go.Proofs.Ytcpbpfngiimcnaa
open Go.RowKit Go.Shelf
attribute [local go_sem] Oper.semAt_some
namespace Dev
theorem look_none {c : List (Nat × ByteArray)} {i : Nat} {z : ByteArray} (h : ∀ w ∈ c, w.1 ≠ i) : look c i z = z := by
  unfold look
  induction c generalizing z with
  | nil => rfl
  | cons w c ih =>
    rw [List.foldl_cons, if_neg (h w (List.mem_cons_self ..))]
    exact ih fun v hv => h v (List.mem_cons_of_mem _ hv)
theorem look_append {c e : List (Nat × ByteArray)} {i : Nat} {z : ByteArray} : look (c ++ e) i z = look e i (look c i z) := by
  unfold look
  rw [List.foldl_append]
theorem look_at {c : List (Nat × ByteArray)} {i j : Nat} {z : ByteArray} (hj : j < c.length) (hi : c[j].1 = i) (h : ∀ k (hk : k < c.length), j < k → c[k].1 ≠ i) : look c i z = c[j].2 := by
  have e : c = c.take j ++ (c[j] :: c.drop (j + 1)) := by simp
  have h2 : ∀ w ∈ c.drop (j + 1), w.1 ≠ i := fun w hw => by
    obtain ⟨k, hk, rfl⟩ := List.getElem_of_mem hw
    rw [List.getElem_drop]
    exact h _ _ (by omega)
  have h3 : ∀ z, look (c[j] :: c.drop (j + 1)) i z = c[j].2 := fun z => by
    have e2 : look (c[j] :: c.drop (j + 1)) i z = look (c.drop (j + 1)) i c[j].2 := by
      show (c[j] :: c.drop (j + 1)).foldl _ z = _
      rw [List.foldl_cons, if_pos hi]
      rfl
    rw [e2, look_none h2]
  rw [show look c i z = look (c.take j ++ (c[j] :: c.drop (j + 1))) i z from congrArg (fun l => look l i z) e, look_append]
  exact h3 _
end Dev
theorem calls_marks {P : Program} {f : FuncId} {fn : Func} {c : Code} {args : Array Value} {w : World} {R : Ending → World → Prop} (hf : P.funcs[f]? = some fn) (hb : fn.body = some c)
    (h : c.wp P (bodyPostM Fence.wide 9 P fn R) { tmps := args ++ Array.replicate (fn.ntmps - args.size) undef, defers := [] } w) : Calls P f args w R :=
  (callsIn_wide (n := 9)).1 (callsIn_of_wp_marks hf hb trivial (wpIn_wide.2 h) rfl)
theorem leave_plain {P : Program} {fn : Func} {R : Ending → World → Prop} {a : Act} {w : World} {v : Value} (hd : a.defers = []) (hr : (results fn a.tmps).run P w = .ok v w) (h : R (.returned v) w) : bodyPostM Fence.wide 9 P fn R .ret a w := by
  show LeavesInM Fence.wide 9 P fn a.tmps R a.defers .returning w
  rw [hd]
  exact ⟨v, hr, h⟩
theorem leave_marked {P : Program} {fn : Func} {R : Ending → World → Prop} {a : Act} {w : World} {v : Value} {D : Nat} (hd : a.defers = [{ target := .collected D, args := #[] }]) (hK : w.heap[D]? = some (.deferred (some []))) (hr : (results fn a.tmps).run P (w.putObj D (.deferred none)) = .ok v (w.putObj D (.deferred none)))
    (h : R (.returned v) (w.putObj D (.deferred none))) : bodyPostM Fence.wide 9 P fn R .ret a w := by
  show LeavesInM Fence.wide 9 P fn a.tmps R a.defers .returning w
  rw [hd]
  exact ⟨by simp, .inl ⟨_, _, rfl, run_takeDeferred hK, ⟨v, hr, h⟩⟩⟩
theorem results_read (tmps : Array Value) (w : World) {g k : Nat} {s : ByteArray} {r : Int} (hp : tmps.getD 4 undef = .pointer (some ⟨g, 0, none⟩)) (hg : w.cell? ⟨g, 0, none⟩ = some (.string s)) (hq : tmps.getD 5 undef = .pointer (some ⟨k, 0, none⟩)) (hk : w.cell? ⟨k, 0, none⟩ = some (.int .i64 r)) :
    (results Try.f13 tmps).run Try.prog w = .ok (.tuple #[.string s, .int .i64 r]) w := by
  have hp' : tmps[4]?.getD undef = .pointer (some ⟨g, 0, none⟩) := by simpa using hp
  have hq' : tmps[5]?.getD undef = .pointer (some ⟨k, 0, none⟩) := by simpa using hq
  simp [results, Try.results13, hp', hq', asAddr, go_sem, hg, hk]
theorem scan_none {c : List (Nat × ByteArray)} {j : Nat} (h : ∀ x ∈ upto (bk c) c.length, x.2.1 ≠ j) : ∀ w ∈ c, w.1 ≠ j := fun w hw => by
  obtain ⟨k, hk, rfl⟩ := List.getElem_of_mem hw
  have := h (bk c (c.length - (k + 1))) (List.mem_map.2 ⟨_, List.mem_range.2 (by omega), rfl⟩)
  rw [bk_at hk] at this
  exact this
theorem scan_found {c : List (Nat × ByteArray)} {j k : Nat} {z : ByteArray} (hk : k < c.length) (h : ∀ x ∈ upto (bk c) k, x.2.1 ≠ j) (hl : (bk c k).2.1 = j) : Dev.look c j z = (bk c k).2.2 := by
  have e : bk c k = bk c (c.length - ((c.length - 1 - k) + 1)) := by congr 1; omega
  have hj : c.length - 1 - k < c.length := by omega
  rw [e, bk_at hj] at hl ⊢
  refine Dev.look_at hj hl fun n hn hlt => ?_
  have := h (bk c (c.length - (n + 1))) (List.mem_map.2 ⟨_, List.mem_range.2 (by omega), rfl⟩)
  rw [bk_at hn] at this
  exact this
theorem But.low {g : Nat} {a b c : World} (h : But g a b) (k : Below a.heap.size b c) : But g a c :=
  ⟨k.os.trans h.os, k.tape.trans h.tape, k.output.trans h.output, Nat.le_trans h.size k.size, fun i hi hn => (k.block i hi).trans (h.block i hi hn)⟩
/-- two boxes are written -/
theorem two_stores {w : World} {g k N : Nat} {T U : TypeId} {x y s r : Value} (h1 : RowIs g T #[x] w) (h2 : RowIs k U #[y] w) (hT : T ≠ U) (hg : N ≤ g) (hk : N ≤ k) :
    ((w.setCell ⟨g, 0, none⟩ s).setCell ⟨k, 0, none⟩ r).cell? ⟨g, 0, none⟩ = some s ∧ ((w.setCell ⟨g, 0, none⟩ s).setCell ⟨k, 0, none⟩ r).cell? ⟨k, 0, none⟩ = some r ∧ Below N w ((w.setCell ⟨g, 0, none⟩ s).setCell ⟨k, 0, none⟩ r) := by
  have hne := h1.ne h2 hT
  have e1 := h1.setCell 0 s
  have e2 := (Wrote.setCell h1 0 s).row h2 hne.symm
  have e3 := e2.setCell 0 r
  have e4 := (Wrote.setCell e2 0 r).row e1 hne
  exact ⟨e4.cell 0 s rfl, e3.cell 0 r rfl, ((Below.refl N w).setCell (p := ⟨g, 0, none⟩) hg s).setCell (p := ⟨k, 0, none⟩) hk r⟩
set_option maxRecDepth 100000 in
set_option maxHeartbeats 8000000 in
theorem devread_any {B b m q : Nat} {d : Dev.St} {w : World} (i : Int) (hf : Dev.Fit d) (hP : PD w B b m q d) :
    Calls Try.prog 13 #[.pointer (some ⟨b, 0, none⟩), .int .i64 i] w fun e w' =>
      e = .returned (.tuple #[.string (Dev.read d i).2.1, .int .i64 (((Dev.read d i).2.2 : Nat) : Int)]) ∧ PD w' B b m q (Dev.read d i).1 ∧ DF 95 B b m q w w' := by
  have hP0 := Lib.hid hP
  obtain ⟨⟨cv, hr, hc⟩, hm, hq, hok, hlow⟩ := hP
  obtain ⟨a, cap, rfl, hcc, hcells⟩ := CacheIs.cells hc
  have HR := Lib.hid hr; have HC := Lib.hid hc; have HM := Lib.hid hm; have HQ := Lib.hid hq; have HOK := Lib.hid hok; have HCC := Lib.hid hcells
  clear hr hc hm hq hok hcells
  refine calls_marks Try.func13 rfl ?_
  simp only [Try.ntmps13, List.size_toArray, List.length_cons, List.length_nil, Nat.reduceAdd, Nat.reduceSub, Array.replicate_succ, Array.replicate_zero, List.push_toArray, List.append_toArray, List.nil_append, List.cons_append]
  go_upto_region 1 with (fail)
  have r3 := ((RowIs.new w 3 #[.int .i64 i]).ext (Ext.alloc _ (.cells #[.string ⟨#[]⟩] 9))).ext (Ext.alloc _ (.cells #[.int .i64 0] 24))
  have r4 := (RowIs.new2 w (.cells #[.int .i64 i] 3) 9 #[.string ⟨#[]⟩]).ext (Ext.alloc _ (.cells #[.int .i64 0] 24))
  have r5 := RowIs.new3 w (.cells #[.int .i64 i] 3) (.cells #[.string ⟨#[]⟩] 9) 24 #[.int .i64 0]
  have hx0 := ((Ext.alloc w (.cells #[.int .i64 i] 3)).trans (Ext.alloc _ (.cells #[.string ⟨#[]⟩] 9))).trans (Ext.alloc _ (.cells #[.int .i64 0] 24))
  generalize ((w.alloc (.cells #[.int .i64 i] 3)).alloc (.cells #[.string ⟨#[]⟩] 9)).alloc (.cells #[.int .i64 0] 24) = w0 at *
  obtain ⟨A5, h5⟩ : ∃ A, w.heap.size + 1 + 1 = A := ⟨_, rfl⟩
  obtain ⟨A4, h4⟩ : ∃ A, w.heap.size + 1 = A := ⟨_, rfl⟩
  obtain ⟨A3, h3⟩ : ∃ A, w.heap.size = A := ⟨_, rfl⟩
  obtain ⟨N, hN⟩ : ∃ N, w.heap.size = N := ⟨_, rfl⟩
  rw [h5] at r5 ⊢
  rw [h4] at r4 ⊢
  rw [h3] at r3 ⊢
  have g3 : N ≤ A3 := by omega
  have g4 : N ≤ A4 := by omega
  have g5 : N ≤ A5 := by omega
  have HN := Lib.hid hN
  clear h5 h4 h3 hN
  have R3 := Lib.hid r3; have R4 := Lib.hid r4; have R5 := Lib.hid r5
  clear r3 r4 r5
  go_wp2_with fail
  refine (devready_any (HR.out.ext hx0)).mono ?_
  rintro e w1 ⟨rfl, he1⟩
  replace R3 := Lib.hid (R3.out.ext he1)
  replace R4 := Lib.hid (R4.out.ext he1)
  replace R5 := Lib.hid (R5.out.ext he1)
  have HE := Lib.hid (hx0.trans he1)
  clear hx0 he1
  by_cases h0 : Dev.ready d = 0
  case neg =>
    obtain ⟨r, hr⟩ : ∃ r, Dev.ready d = r := ⟨_, rfl⟩
    have hr0 : ((r : Int) != 0) = true := by simp; omega
    have HA := Lib.hid (show Dev.read d i = (d, .empty, r) from by unfold Dev.read; rw [if_pos h0, hr])
    rw [hr]
    clear hr h0
    have c4 := R4.out.cell 0 _ rfl
    have f4 := R4.out.free 0
    have c5 := R5.out.cell 0 _ rfl
    have f5 := R5.out.free 0
    have n45 : ¬ A5 = A4 := (R4.out.ne R5.out (by decide)).symm
    go_wp2_with fail
    obtain ⟨k4, k5, kb⟩ := two_stores (s := .string ⟨#[]⟩) (r := .int .i64 ((r : Int))) R4.out R5.out (by decide) g4 g5
    refine leave_plain rfl (results_read _ _ rfl k4 rfl k5) ?_
    rw [HA.out]
    have hxx : Ext w _ := Below.trans HE.out (by rw [HN.out]; exact kb)
    exact ⟨rfl, hP0.out.ext hxx, DF.of hxx⟩
  rw [h0]
  have c3 := R3.out.cell 0 (.int .i64 i) rfl
  go_wp2_with fail
  refine (devis_any i (HR.out.ext HE.out)).mono ?_
  rintro e w2 ⟨rfl, he2⟩
  replace R3 := Lib.hid (R3.out.ext he2)
  replace R4 := Lib.hid (R4.out.ext he2)
  replace R5 := Lib.hid (R5.out.ext he2)
  replace HE := Lib.hid (HE.out.trans he2)
  clear he2 c3
  cases hsec : Dev.isSec i with
  | false =>
    have HA := Lib.hid (show Dev.read d i = (d, .empty, 3) from by unfold Dev.read; rw [if_neg (by omega), if_pos hsec])
    clear hsec
    have c4 := R4.out.cell 0 _ rfl
    have f4 := R4.out.free 0
    have c5 := R5.out.cell 0 _ rfl
    have f5 := R5.out.free 0
    have n45 : ¬ A5 = A4 := (R4.out.ne R5.out (by decide)).symm
    go_wp2_with fail
    obtain ⟨k4, k5, kb⟩ := two_stores (s := .string ⟨#[]⟩) (r := .int .i64 (3)) R4.out R5.out (by decide) g4 g5
    refine leave_plain rfl (results_read _ _ rfl k4 rfl k5) ?_
    rw [HA.out]
    have hxx : Ext w _ := Below.trans HE.out (by rw [HN.out]; exact kb)
    exact ⟨rfl, hP0.out.ext hxx, DF.of hxx⟩
  | true =>
    have hi := Dev.isSec_iff.1 hsec
    obtain ⟨j, rfl⟩ : ∃ j : Nat, i = (j : Int) := ⟨i.toNat, by omega⟩
    have hj : j < 9 := by omega
    have c3 := R3.out.cell 0 (.int .i64 (j : Int)) rfl
    have e3 := (HR.out.ext HE.out).cell 3 (.slice (some ⟨q, 0, none⟩) 9 9) rfl
    have cb := (HQ.out.ext HE.out).cellD j (by rw [HOK.out.bad]; exact hj)
    obtain ⟨x, hx⟩ : ∃ x, d.bad.getD j false = x := ⟨_, rfl⟩
    rw [hx] at cb
    have hrd : Dev.read d (j : Int) = if x = true then (d, .empty, 7) else ({ d with reads := d.reads + 1 }, Dev.look d.cache j (d.media.getD j .empty), 0) := by
      unfold Dev.read
      rw [if_neg (by omega), if_neg (by rw [hsec]; decide), Int.toNat_natCast, hx]
    have HRD := Lib.hid hrd
    clear hrd hx hsec
    go_wp2_with fail
    go_quiet (fail)
    have hdr := Ext.drewN w2 nq
    replace R3 := Lib.hid (R3.out.ext hdr)
    replace R4 := Lib.hid (R4.out.ext hdr)
    replace R5 := Lib.hid (R5.out.ext hdr)
    replace HE := Lib.hid (HE.out.trans hdr)
    clear hdr cb c3 e3
    generalize w2.drewN nq = w3 at *
    cases x with
    | true =>
      have HA := Lib.hid (show Dev.read d (j : Int) = (d, .empty, 7) from by exact HRD.out)
      have c4 := R4.out.cell 0 _ rfl
      have f4 := R4.out.free 0
      have c5 := R5.out.cell 0 _ rfl
      have f5 := R5.out.free 0
      have n45 : ¬ A5 = A4 := (R4.out.ne R5.out (by decide)).symm
      go_wp2_with fail
      obtain ⟨k4, k5, kb⟩ := two_stores (s := .string ⟨#[]⟩) (r := .int .i64 (7)) R4.out R5.out (by decide) g4 g5
      refine leave_plain rfl (results_read _ _ rfl k4 rfl k5) ?_
      rw [HA.out]
      have hxx : Ext w _ := Below.trans HE.out (by rw [HN.out]; exact kb)
      exact ⟨rfl, hP0.out.ext hxx, DF.of hxx⟩
    | false =>
      have c11 := (HR.out.ext HE.out).cell 11 (.int .i64 (d.reads : Int)) rfl
      have f11 := (HR.out.ext HE.out).free 11
      have hrb := hf.reads
      go_wp2_with fail
      go_still_tail 9, (by kernel_rfl)
      change wpList _ _ _ _ _ w3.drew
      go_upto_region 9 with (fail)
      have e9 : (d.reads : Int) + 1 = ((d.reads + 1 : Nat) : Int) := by omega
      rw [e9]
      have hr5 : RowIs b 80 (devRow { d with reads := d.reads + 1 } m q (.slice a d.cache.length cap)) ((w3.setCell ⟨b, 11, none⟩ (.int .i64 ((d.reads + 1 : Nat) : Int))).drew) := ((HR.out.ext HE.out).setCell 11 (.int .i64 ((d.reads + 1 : Nat) : Int))).ext (Ext.drew _)
      have hw5 := Wrote.setCell (HR.out.ext HE.out) 11 (.int .i64 ((d.reads + 1 : Nat) : Int))
      have hb5 : But b w3 ((w3.setCell ⟨b, 11, none⟩ (.int .i64 ((d.reads + 1 : Nat) : Int))).drew) := hw5.but.trans (But.of (Ext.drew _))
      have q3 := (hw5.row R3.out (R3.out.ne (HR.out.ext HE.out) (by decide))).ext (Ext.drew _)
      have q4 := (hw5.row R4.out (R4.out.ne (HR.out.ext HE.out) (by decide))).ext (Ext.drew _)
      have q5 := (hw5.row R5.out (R5.out.ne (HR.out.ext HE.out) (by decide))).ext (Ext.drew _)
      generalize (w3.setCell ⟨b, 11, none⟩ (.int .i64 ((d.reads + 1 : Nat) : Int))).drew = w5 at *
      have hbw : But b w w5 := (But.of HE.out).trans hb5
      have HR5 := Lib.hid hr5; have HBW := Lib.hid hbw
      have c4 := hr5.cell 4 (.slice a d.cache.length cap) rfl
      clear hr5 hbw hb5 hw5 e9 c11 f11 hrb R3 R4 R5 HE
      have R3 := Lib.hid q3; have R4 := Lib.hid q4; have R5 := Lib.hid q5
      clear q3 q4 q5
      go_wp2_with (go_at_call 48; refine (backward_any _ _ _ _).mono ?_; rintro e w6 ⟨rfl, rfl⟩)
      generalize IntKind.i64.wrap ((d.reads : Int) + 1) = rr
      have bN : (w5.alloc (.cells #[.slice a d.cache.length cap] 77)).cell? ⟨w5.heap.size, 0, none⟩ = some (.slice a d.cache.length cap) := World.cell?_alloc_new _ _ _ 0
      have hBs : w5.heap.size < (w5.alloc (.cells #[.slice a d.cache.length cap] 77)).heap.size := by simp
      have hx6 := Ext.alloc w5 (.cells #[.slice a d.cache.length cap] 77)
      generalize w5.alloc (.cells #[.slice a d.cache.length cap] 77) = w6 at *
      generalize w5.heap.size = Bs at *
      have R3 := Lib.hid (R3.out.ext hx6); have R4 := Lib.hid (R4.out.ext hx6); have R5 := Lib.hid (R5.out.ext hx6)
      have HR5 := Lib.hid (HR5.out.ext hx6); have HBW := Lib.hid (HBW.out.trans (But.of hx6))
      have hN6 : N ≤ w6.heap.size := by rw [← HN.out]; exact HBW.out.size
      obtain ⟨a', cap', ea, _, hcells6⟩ := CacheIs.cells (HC.out.but HR.out (by decide) HBW.out)
      simp only [Value.slice.injEq, true_and] at ea
      obtain ⟨rfl, rfl⟩ := ea
      have hlen := hf.cache
      refine (wpIn_wide (n := 9)).1 ?_
      refine wpIn_rangeFunc_ownH rfl (by decide) (gf := 61) (lb := #[.pointer (some ⟨Bs, 0, none⟩)]) rfl trivial (enters_of Try.func61 (by kernel_rfl) rfl)
        (back_stops 8 (by decide) Bs a cap d.cache hlen w6 hBs bN (fun i hi => by obtain ⟨g, h1, _, h2, h3⟩ := hcells6 i hi; exact ⟨g, h1, h2, h3⟩)) belowK_t (belowK_b (Nat.le_refl _)) (Below.refl _ _) (fun _ => rfl)
        (fun pre W => (∀ x ∈ pre, x.2.1 ≠ j) ∧ Below w6.heap.size w6 W)
        (fun cd pre W => (cd = .ret ∧ ∃ ini last, pre = ini ++ [last] ∧ (∀ x ∈ ini, x.2.1 ≠ j) ∧ last.2.1 = j ∧ W.cell? ⟨A4, 0, none⟩ = some (.string last.2.2) ∧ W.cell? ⟨A5, 0, none⟩ = some (.int .i64 0)) ∧ Below N w6 W)
        (OwnFrom.and (fun s W W' row hs _ _ => hs) (ownFrom_below (Nat.le_refl _) (Nat.le_refl _)))
        (fun cd => OwnFrom.and (Own.from (fun s X Y row hs hg hr => by obtain ⟨hc, ini, last, e1, e2, e3, e4, e5⟩ := hs; exact ⟨hc, ini, last, e1, e2, e3, cell_kept e4 hg hr, cell_kept e5 hg hr⟩) _) (ownFrom_below hN6 hN6))
        ⟨by simp, Below.refl _ _⟩
        (fun x a' W => ∃ Bx, w6.heap.size ≤ Bx ∧ RowIs Bx 95 #[.int .i64 (x.2.1 : Int), .string x.2.2] W ∧ a' = { tmps := #[.pointer (some ⟨b, 0, none⟩), .int .i64 (j : Int), undef, .pointer (some ⟨A3, 0, none⟩), .pointer (some ⟨A4, 0, none⟩), .pointer (some ⟨A5, 0, none⟩), .int .i64 0, undef, .pointer (some ⟨Bx, 0, none⟩), .pointer (some ⟨b, 0, none⟩), .int .i64 0, .int .i64 0, .bool false, undef, .bool false, .pointer (some ⟨b, 0, none⟩), .int .i64 (j : Int), .bool true, .bool false, .bool false, .pointer (some ⟨b, 0, none⟩), .pointer (some ⟨b, 0, none⟩), .pointer (some ⟨b, 3, none⟩), .slice (some ⟨q, 0, none⟩) 9 9, .int .i64 (j : Int), .pointer (some ⟨q, j, none⟩), .bool false, .pointer (some ⟨b, 0, none⟩), .pointer (some ⟨b, 0, none⟩), .pointer (some ⟨b, 11, none⟩), .pointer (some ⟨b, 11, none⟩), .int .i64 (d.reads : Int), .int .i64 rr, .pointer (some ⟨b, 0, none⟩), .pointer (some ⟨b, 11, none⟩), .pointer (some ⟨b, 11, none⟩), .pointer (some ⟨b, 0, none⟩), .pointer (some ⟨b, 0, none⟩), .pointer (some ⟨b, 4, none⟩), .slice a d.cache.length cap, .func (.func 61) #[] #[.pointer (some ⟨Bs, 0, none⟩)], .int .i64 (x.1 : Int), .agg #[.int .i64 (x.2.1 : Int), .string x.2.2], undef, undef, undef, undef, undef, undef, undef, undef, undef, undef, undef, undef, undef], defers := [] })
        (fun x a' => Own.from (fun s X Y row hs hg hr => by
          obtain ⟨Bx, h1, h2, h3⟩ := hs
          refine ⟨Bx, h1, (hg.block Bx h2.lt (fun e => ?_)).trans h2, h3⟩
          obtain ⟨o, ho, hc⟩ := hr Bx e.symm
          rw [show X.heap[Bx]? = _ from h2] at ho
          cases ho
          cases hc) _) ?assign ?body ?done ?stop
      case assign =>
        intro l pre x W K hi hK
        unfold encW
        gi_wp2
        exact hK _ _ ((KeepsOthers.alloc _ _).from _) ((Below.refl _ W).alloc hi.2.size _) ⟨hi.1, hi.2.alloc hi.2.size _⟩ ⟨W.heap.size, hi.2.size, RowIs.new _ _ _, rfl⟩
      case body =>
        rintro l pre x a' W hl ⟨r, hr⟩ ⟨hp, hB⟩ ⟨Bx, hBx, bX, rfl⟩ hlt
        have x0 := bX.cell 0 _ rfl
        have x1 := bX.cell 1 _ rfl
        have q3 : RowIs A3 3 #[.int .i64 (j : Int)] W := (hB.block A3 R3.out.lt).trans R3.out
        have q4 : RowIs A4 9 #[.string ⟨#[]⟩] W := (hB.block A4 R4.out.lt).trans R4.out
        have q5 : RowIs A5 24 #[.int .i64 0] W := (hB.block A5 R5.out.lt).trans R5.out
        have c3 := q3.cell 0 _ rfl
        have c4 := q4.cell 0 _ rfl
        have f4 := q4.free 0
        have c5 := q5.cell 0 _ rfl
        have f5 := q5.free 0
        have n45 : ¬ A5 = A4 := (q4.ne q5 (by decide)).symm
        obtain ⟨k4, k5, kb⟩ := two_stores (s := .string x.2.2) (r := .int .i64 0) q4 q5 (by decide) g4 g5
        have HK := Lib.hid (And.intro k4 (And.intro k5 kb))
        clear k4 k5 kb q3 q4 q5 bX
        by_cases hxj : x.2.1 = j
        · have e1 : ((x.2.1 : Int) == (j : Int)) = true := by rw [hxj]; simp
          have HXJ := Lib.hid hxj
          clear hxj
          gi_wp2
          exact ⟨((KeepsOthers.setCell _ _ _).trans (KeepsOthers.setCell _ _ _)).from _, ⟨rfl, pre, x, rfl, hp, HXJ.out, HK.out.1, HK.out.2.1⟩, (hB.mono hN6).trans HK.out.2.2⟩
        · have e1 : ((x.2.1 : Int) == (j : Int)) = false := beq_eq_false_iff_ne.2 (by omega)
          gi_wp2
          exact ⟨KeepsFrom.refl _ _, Below.refl _ _, ⟨fun y hy => (List.mem_append.1 hy).elim (hp y) (fun e => by simp at e; subst e; exact hxj), hB⟩⟩
      case done =>
        rintro D ys W hD rfl ⟨hne, hB⟩ hK
        have q3 : RowIs A3 3 #[.int .i64 (j : Int)] W := (hB.block A3 R3.out.lt).trans R3.out
        have q4 : RowIs A4 9 #[.string ⟨#[]⟩] W := (hB.block A4 R4.out.lt).trans R4.out
        have q5 : RowIs A5 24 #[.int .i64 0] W := (hB.block A5 R5.out.lt).trans R5.out
        have hrW : RowIs b 80 (devRow { d with reads := d.reads + 1 } m q (.slice a d.cache.length cap)) W := (hB.block b HR5.out.lt).trans HR5.out
        have hbwW : But b w W := HBW.out.trans (But.of hB)
        have c2 := hrW.cell 2 (.slice (some ⟨m, 0, none⟩) 9 9) rfl
        have cm := (HM.out.but hbwW (HR.out.ne_list HM.out (by decide)).symm).cellT j (by rw [HOK.out.media]; exact hj)
        obtain ⟨z, hz⟩ : ∃ z, d.media.getD j .empty = z := ⟨_, rfl⟩
        rw [hz] at cm
        have hread : Dev.read d (j : Int) = ({ d with reads := d.reads + 1 }, z, 0) := by
          rw [HRD.out]
          show (_, Dev.look d.cache j (d.media.getD j .empty), 0) = _
          rw [Dev.look_none (scan_none hne), hz]
        have c3 := q3.cell 0 _ rfl
        have c4 := q4.cell 0 _ rfl
        have f4 := q4.free 0
        have c5 := q5.cell 0 _ rfl
        have f5 := q5.free 0
        have n45 : ¬ A5 = A4 := (q4.ne q5 (by decide)).symm
        obtain ⟨k4, k5, kb⟩ := two_stores (s := .string z) (r := .int .i64 0) q4 q5 (by decide) g4 g5
        have hKK := ((KeepsOthers.setCell W ⟨A4, 0, none⟩ (.string z)).trans (KeepsOthers.setCell _ ⟨A5, 0, none⟩ (.int .i64 0))).same D _ hK rfl
        have HH := Lib.hid (And.intro k4 (And.intro k5 (And.intro kb (And.intro hKK (And.intro hread (And.intro hrW hbwW))))))
        clear k4 k5 kb hKK hread hrW hbwW hne hz q3 q4 q5 hK hB hcells6 bN hx6
        go_wp2_with fail
        go_still_tail 7, (by kernel_rfl)
        change wpList _ _ _ _ _ W.drew
        go_wp2_with fail
        obtain ⟨k4, k5, kb, hKK, hread, hrW, hbwW⟩ := HH.out
        replace k4 := cell_ext k4 (Ext.drew _)
        replace k5 := cell_ext k5 (Ext.drew _)
        rw [← HN.out] at kb
        have hlowW := kb.drew
        replace hKK : (((W.setCell ⟨A4, 0, none⟩ (.string z)).setCell ⟨A5, 0, none⟩ (.int .i64 0)).drew).heap[D]? = some (.deferred (some [])) := hKK
        refine leave_marked (D := D) rfl hKK (results_read _ _ rfl (cell_kept k4 (grownBy_putObj' _ D (.deferred none)) (fun r e => by cases e; exact ⟨_, hKK, rfl⟩)) rfl (cell_kept k5 (grownBy_putObj' _ D (.deferred none)) (fun r e => by cases e; exact ⟨_, hKK, rfl⟩))) ?_
        rw [hread]
        have hbel := hlowW.trans (belowK_b (n₀ := w.heap.size) (w := w) (Nat.le_refl _) _ D _ (.deferred none) (by have := HBW.out.size; omega) hKK rfl rfl)
        have hbx := hbwW.low hbel
        have hrx := (hbel.block b HR.out.lt).trans hrW
        exact ⟨rfl, PD.row' HR.out HC.out HM.out HQ.out hlow hrx hbx rfl rfl rfl (HOK.out.same rfl rfl rfl), DF.but hbx (.inl rfl)⟩
      case stop =>
        rintro D cd pre W hD ⟨k, hk, rfl⟩ ⟨⟨rfl, ini, last, e1, e2, e3, k4, k5⟩, hlowW⟩ hK
        refine wpIn_wide.2 ?_
        obtain ⟨k', rfl⟩ : ∃ k', k = k' + 1 := by
          cases k with
          | zero => simp [upto] at e1
          | succ k' => exact ⟨k', rfl⟩
        rw [upto_succ] at e1
        obtain ⟨rfl, e5⟩ := List.append_inj' e1 rfl
        obtain rfl : bk d.cache k' = last := by simpa using e5
        have hread : Dev.read d (j : Int) = ({ d with reads := d.reads + 1 }, (bk d.cache k').2.2, 0) := by
          rw [HRD.out]
          show (_, Dev.look d.cache j (d.media.getD j .empty), 0) = _
          rw [scan_found hk e2 e3]
        rw [← HN.out] at hlowW
        have hrW : RowIs b 80 (devRow { d with reads := d.reads + 1 } m q (.slice a d.cache.length cap)) w6 := HR5.out
        have hbwW : But b w w6 := HBW.out
        have hKK := hK
        generalize (bk d.cache k').2.2 = z at *
        clear e1 e2 e3 e5 hcells6 bN hx6
        go_wp2_with fail
        refine leave_marked (D := D) rfl hKK (results_read _ _ rfl (cell_kept k4 (grownBy_putObj' _ D (.deferred none)) (fun r e => by cases e; exact ⟨_, hKK, rfl⟩)) rfl (cell_kept k5 (grownBy_putObj' _ D (.deferred none)) (fun r e => by cases e; exact ⟨_, hKK, rfl⟩))) ?_
        rw [hread]
        have hbel := hlowW.trans (belowK_b (n₀ := w.heap.size) (w := w) (Nat.le_refl _) _ D _ (.deferred none) (by have := HBW.out.size; omega) hKK rfl rfl)
        have hbx := hbwW.low hbel
        have hrx := (hbel.block b HR.out.lt).trans hrW
        exact ⟨rfl, PD.row' HR.out HC.out HM.out HQ.out hlow hrx hbx rfl rfl rfl (HOK.out.same rfl rfl rfl), DF.but hbx (.inl rfl)⟩
end Go.Proofs.Ytcpbpfngiimcnaa
