/- law12.of: updates, cut, in two slices of the call's own. -/
import Derived.Test.YtemhflafiephpaaLaw12
import Derived.Deep.DeepCutAuto
import Derived.Lib.OwnKind
namespace Go.Proofs.Ytemhflafiephpaa
open Go.RowKit
def cutS (s : ByteArray) : ByteArray := s.extract 0 (min s.size 40)
theorem cutS_size (s : ByteArray) : (cutS s).size = min s.size 40 := by unfold cutS; simp
theorem cutS_data (s : ByteArray) : (cutS s).data.toList = s.data.toList.take 40 := by
  unfold cutS
  rw [ext_data, List.drop_zero]
  by_cases h : s.size ≤ 40
  · have h1 : s.data.toList.length ≤ 40 := by simpa using h
    rw [Nat.min_eq_left h, List.take_of_length_le (by simp), List.take_of_length_le h1]
  · rw [Nat.min_eq_right (by omega)]
def cutU (u : Msg.Up) : Msg.Up := ⟨u.kind, cutS u.key, cutS u.value, u.delta⟩
def cutL (l : List Msg.Up) : List Msg.Up := (l.take 12).map cutU
/-- a row of four, whose second and third cell may have been put to y and v -/
structure Cut (g : Nat) (T : TypeId) (y v : Value) (w w' : World) : Prop where
  but : But g w w'
  row : ∀ K Y V D, RowIs g T #[K, Y, V, D] w → ∃ Y1 V1, RowIs g T #[K, Y1, V1, D] w' ∧ (Y1 = Y ∨ Y1 = y) ∧ (V1 = V ∨ V1 = v)
theorem Cut.rel (g : Nat) (T : TypeId) (y v : Value) : RR.Rel (Cut g T y v) where
  refl := fun w => ⟨But.refl g w, fun _ Y V _ h => ⟨Y, V, h, .inl rfl, .inl rfl⟩⟩
  trans := fun {a b c} h k => ⟨h.but.trans k.but, fun K Y V D hr => by
    obtain ⟨Y1, V1, hr1, hy, hv⟩ := h.row K Y V D hr
    obtain ⟨Y2, V2, hr2, hy2, hv2⟩ := k.row K Y1 V1 D hr1
    refine ⟨Y2, V2, hr2, ?_, ?_⟩
    · rcases hy2 with rfl | rfl
      · exact hy
      · exact .inr rfl
    · rcases hv2 with rfl | rfl
      · exact hv
      · exact .inr rfl⟩
  drew := fun w => ⟨⟨rfl, rfl, rfl, Nat.le_refl _, fun _ _ _ => rfl⟩, fun _ Y V _ h => ⟨Y, V, h, .inl rfl, .inl rfl⟩⟩
theorem Cut.key {g : Nat} {T : TypeId} {y v K Y V D : Value} {w : World} (h : RowIs g T #[K, Y, V, D] w) : Cut g T y v w (w.setCell ⟨g, 1, none⟩ y) ∧ RowIs g T #[K, y, V, D] (w.setCell ⟨g, 1, none⟩ y) := by
  have hr : ∀ K Y V D, RowIs g T #[K, Y, V, D] w → RowIs g T #[K, y, V, D] (w.setCell ⟨g, 1, none⟩ y) := fun K Y V D h => by simpa using h.setCell 1 y
  exact ⟨⟨(Wrote.setCell h 1 y).but, fun K Y V D h => ⟨y, V, hr K Y V D h, .inr rfl, .inl rfl⟩⟩, hr _ _ _ _ h⟩
theorem Cut.val {g : Nat} {T : TypeId} {y v K Y V D : Value} {w : World} (h : RowIs g T #[K, Y, V, D] w) : Cut g T y v w (w.setCell ⟨g, 2, none⟩ v) ∧ RowIs g T #[K, Y, v, D] (w.setCell ⟨g, 2, none⟩ v) := by
  have hr : ∀ K Y V D, RowIs g T #[K, Y, V, D] w → RowIs g T #[K, Y, v, D] (w.setCell ⟨g, 2, none⟩ v) := fun K Y V D h => by simpa using h.setCell 2 v
  exact ⟨⟨(Wrote.setCell h 2 v).but, fun K Y V D h => ⟨Y, v, hr K Y V D h, .inl rfl, .inr rfl⟩⟩, hr _ _ _ _ h⟩
def KeyIs (g : Nat) (T : TypeId) (y : Value) (p : Value) (w : World) : Prop := p = .pointer (some ⟨g, 1, none⟩) ∧ ∃ K V D, RowIs g T #[K, y, V, D] w
def ValIs (g : Nat) (T : TypeId) (v : Value) (p : Value) (w : World) : Prop := p = .pointer (some ⟨g, 2, none⟩) ∧ ∃ K Y D, RowIs g T #[K, Y, v, D] w
theorem KeyIs.kept {g : Nat} {T : TypeId} {y v p : Value} {w w' : World} (h : KeyIs g T y p w) (e : Cut g T y v w w') : KeyIs g T y p w' := by
  obtain ⟨rfl, K, V, D, hr⟩ := h
  obtain ⟨Y1, V1, hr1, rfl | rfl, _⟩ := e.row K y V D hr
  · exact ⟨rfl, K, V1, D, hr1⟩
  · exact ⟨rfl, K, V1, D, hr1⟩
theorem ValIs.kept {g : Nat} {T : TypeId} {y v p : Value} {w w' : World} (h : ValIs g T v p w) (e : Cut g T y v w w') : ValIs g T v p w' := by
  obtain ⟨rfl, K, Y, D, hr⟩ := h
  obtain ⟨Y1, V1, hr1, _, rfl | rfl⟩ := e.row K Y v D hr
  · exact ⟨rfl, K, Y1, D, hr1⟩
  · exact ⟨rfl, K, Y1, D, hr1⟩
/-- behind both stores -/
theorem Cut.done {g : Nat} {T : TypeId} {y v K Y V D p q : Value} {w w' : World} (h : RowIs g T #[K, Y, V, D] w) (e : Cut g T y v w w') (hk : KeyIs g T y p w') (hv : ValIs g T v q w') : RowIs g T #[K, y, v, D] w' := by
  obtain ⟨Y1, V1, hr, _, _⟩ := e.row K Y V D h
  obtain ⟨_, K2, V2, D2, hr2⟩ := hk
  obtain ⟨_, K3, Y3, D3, hr3⟩ := hv
  obtain ⟨_, e2⟩ := hr.inj hr2
  obtain ⟨_, e3⟩ := hr.inj hr3
  simp at e2 e3
  obtain ⟨rfl, rfl, rfl, rfl⟩ := e2
  obtain ⟨_, _, rfl, _⟩ := e3
  exact hr
def StrOr (Y Z : ByteArray) (v : Value) (_ : World) : Prop := v = .string Y ∨ v = .string Z
theorem StrOr.ext {R : World → World → Prop} {Y Z : ByteArray} {v : Value} {w w' : World} (h : StrOr Y Z v w) (_ : R w w') : StrOr Y Z v w' := h
def LenOr (Y : ByteArray) (Z : Nat) (v : Value) (_ : World) : Prop := v = .int .i64 (Y.size : Int) ∨ v = .int .i64 (Z : Int)
theorem LenOr.ext {R : World → World → Prop} {Y : ByteArray} {Z : Nat} {v : Value} {w w' : World} (h : LenOr Y Z v w) (_ : R w w') : LenOr Y Z v w' := h
/-- a store into a cell of a row, in a region -/
theorem step_cell {P : Program} {w : World} {o : Oper} {a : Act} {y : Nat → Option Bool} {K : Act → World → Prop} {Q : Exit → Act → World → Prop} {ty T : TypeId} {x v : Operand} (hgd : o.guard = none) (ho : o.op = .store ty x v)
    {g i : Nat} (hx : a.eval x = .pointer (some ⟨g, i, none⟩)) {s : ByteArray} (hv : a.eval v = .string s) {old : Array Value} (hg : RowIs g T old w) (hi : (P.info? ty).map (·.size) = some 1) (hs : i < old.size)
    (h : K (a.put o.dst undef) (w.setCell ⟨g, i, none⟩ (.string s))) : if Region.wanted o y = true then o.wp P a w K Q else K (a.put o.dst undef) w := by
  rw [if_pos (by simp [Region.wanted, hgd])]
  have hc := hg.cell i old[i] (by simp [hs])
  have hf := hg.free i
  have hr : (storeVar ty ⟨g, i, none⟩ (.string s)).run P w = .ok () (w.setCell ⟨g, i, none⟩ (.string s)) := by
    cases hq : P.info? ty with
    | none => simp [hq] at hi
    | some j =>
      have hj : j.size = 1 := by simpa [hq] using hi
      have := run_storeCells_cells (P := P) g i [.string s] 0 w (fun j hj => by
        obtain rfl : j = 0 := by simpa using hj
        simp [hc]) (fun j hj => by
        obtain rfl : j = 0 := by simpa using hj
        simpa using hf) (by intro v hv; simp at hv; subst hv; rfl)
      simp only [Nat.add_zero] at this
      simp [storeVar, sizeOf, typeInfo, hq, Value.cells, hj, this, World.setCells]
  unfold Oper.wp execOp
  simp only [ho, hx, hv, Instr.storeAt, Instr.sureAddr, Sem.run_bind, Sem.run_pure, Result.andThen_ok, hr]
  exact h
theorem OwnE.but {e T : TypeId} {w w' : World} {B g : Nat} {v : Value} {l : List Msg.Up} {cs : Array Value} (h : OwnE e w B v l) (k : But g w w') (hr : RowIs g T cs w) (hT : T ≠ e) : OwnE e w' B v l := by
  refine ⟨h.1, ?_⟩
  rcases h.2 with hn | ⟨b, cap, cur, rfl, hb, hg, rest⟩
  · exact .inl hn
  · refine .inr ⟨b, cap, cur, rfl, hb, (k.block b (Array.getElem?_eq_some_iff.1 hg).1 fun heq => ?_).trans hg, rest⟩
    subst heq
    exact hT (RowIs.inj hr (show RowIs b e cur w from hg)).1
/-- one more update of a slice of the call's own; another one's, of another type, stays -/
theorem wpl_upd2 {T S : TypeId} (ht : Try.prog.underlying S = some (.slice T)) (hi : (Try.prog.info? T).map (fun i => (i.zero, i.size, i.bytes)) = some (some (.agg #[.int .u8 0, .string ⟨#[]⟩, .string ⟨#[]⟩, .int .u64 0]), 4, 48))
    {w : World} {ops : Array Oper} {rest : List Oper} {o : Oper} {a : Act} {Q : Exit → Act → World → Prop} (hgd : o.guard = none) (s x : Operand) (ho : o.op = .call { callee := .builtin .append, args := #[s, x], argTypes := #[S, S] })
    {B : Nat} {v : Value} (hs : a.eval s = v) {l : List Msg.Up} (hown : OwnE T w B v l) (hB : B ≤ w.heap.size) (hn : l.length ≤ 1000000) {c : Nat} (hx : a.eval x = .slice (some ⟨w.heap.size, 0, none⟩) 1 c) (k d : Nat) (key value : ByteArray)
    (h : ∀ v' w', OwnE T w' B v' (l ++ [⟨k, key, value, d⟩]) → Below B w w' → (∀ T2 v2 l2, T2 ≠ T → OwnE T2 w B v2 l2 → OwnE T2 w' B v2 l2) → (∀ b T2 cs, T2 ≠ T → RowIs b T2 cs w → RowIs b T2 cs w') → wpList Try.prog ops Q rest (a.put o.dst v') w') : wpList Try.prog ops Q (o :: rest) a (w.alloc (.cells #[.int .u8 (k : Int), .string key, .string value, .int .u64 (d : Int)] T)) := by
  obtain ⟨i0, hi0, hz0, hz1, hz2⟩ := info_parts hi
  have hcells : ∀ j u, [Value.int .u8 (k : Int), .string key, .string value, .int .u64 (d : Int)][j]? = some u → (w.alloc (.cells #[.int .u8 (k : Int), .string key, .string value, .int .u64 (d : Int)] T)).cell? ((⟨w.heap.size, 0, none⟩ : Addr).add j) = some u := fun j u hj => by
    have hp : (⟨w.heap.size, 0, none⟩ : Addr).add j = ⟨w.heap.size, j, none⟩ := by unfold Addr.add; split <;> simp_all
    rw [hp, World.cell?_alloc_new]; simpa using hj
  have hown' : (w.alloc (.cells #[.int .u8 (k : Int), .string key, .string value, .int .u64 (d : Int)] T)).ownsRow B T 4 v l.length (l.flatMap cellsU) := World.ownsRow.alloc hown _
  obtain ⟨v', w', hr, h2, hg, _⟩ := run_append_own (P := Try.prog) (w := w.alloc (.cells #[.int .u8 (k : Int), .string key, .string value, .int .u64 (d : Int)] T)) B S o.type T i0 _ 4 48 ht hi0 hz0 hz1 hz2 rfl (by decide) v _ _ hown' ⟨w.heap.size, 0, none⟩ 1 c [.int .u8 (k : Int), .string key, .string value, .int .u64 (d : Int)] rfl hcells
    (by intro z hz; simp at hz; rcases hz with rfl | rfl | rfl | rfl <;> rfl) (by unfold maxLen; omega) (by omega) (by simp; omega)
  have kind : ∀ b, v.ownBlock = some b → ∃ c fz, (w.alloc (.cells #[.int .u8 (k : Int), .string key, .string value, .int .u64 (d : Int)] T)).heap[b]? = some (.cells c T fz) := Go.Lib.ownsRow_kind hown'
  refine wpList_plain hgd fun K hK => ?_
  unfold Oper.wp
  simp [execOp, ho, resolve, invoke, builtin, hs, hx, hr, Result.andThen]
  refine hK _ _ (h v' w' (by unfold OwnE; rw [List.length_append, List.flatMap_append]; exact h2) (Below.grown ((Below.refl _ _).alloc hB _) hg (by simp; omega) fun k hk => (hown'.lt k hk).1) (fun T2 v2 l2 hT h3 => ?_) (fun b T2 cs hT h3 => ?_))
  · have h4 : (w.alloc (.cells #[.int .u8 (k : Int), .string key, .string value, .int .u64 (d : Int)] T)).ownsRow B T2 4 v2 l2.length (l2.flatMap cellsU) := World.ownsRow.alloc h3 _
    refine h4.kept hg ?_
    by_cases hne : v2.ownBlock = none
    · exact .inl hne
    · refine .inr fun heq => ?_
      obtain ⟨b, hb⟩ := Option.ne_none_iff_exists'.1 hne
      obtain ⟨c1, f1, e1⟩ := Go.Lib.ownsRow_kind h4 b hb
      obtain ⟨c2, f2, e2⟩ := kind b (heq ▸ hb)
      rw [e1] at e2
      simp at e2
      exact hT e2.2.1
  · have h4 := h3.ext (Ext.alloc w (.cells #[.int .u8 (k : Int), .string key, .string value, .int .u64 (d : Int)] T))
    refine (hg.block b h4.lt fun heq => ?_).trans h4
    obtain ⟨c2, f2, e2⟩ := kind b heq.symm
    have e1 : (w.alloc (.cells #[.int .u8 (k : Int), .string key, .string value, .int .u64 (d : Int)] T)).heap[b]? = some (.cells cs T2 (0, 0)) := h4
    rw [e1] at e2
    simp at e2
    exact hT e2.2.1
theorem info_rupd : (Try.prog.info? 39).map (fun i => (i.zero, i.size, i.bytes)) = some (some (.agg #[.int .u8 0, .string ⟨#[]⟩, .string ⟨#[]⟩, .int .u64 0]), 4, 48) := by kernel_rfl
theorem cutS_cut (s : ByteArray) : (cutS s).extract 0 (min s.size 40) = cutS s := bytes_ext (by rw [ext_data, ← cutS_size, List.drop_zero, List.take_of_length_le (by simp)])
theorem cutL_take {l : List Msg.Up} {j : Nat} (h : j < (l.take 12).length) : ((l.take 12).take (j + 1)).map cutU = ((l.take 12).take j).map cutU ++ [cutU (l.take 12)[j]] := by
  rw [List.take_succ_eq_append_getElem h, List.map_append]; rfl
theorem recs_cut {w : World} {a : Option Addr} {l : List Msg.Up} {ca : Nat} (hU : Recs w a l) (hcb : l.length ≤ ca) (hS : ∀ u ∈ l, FitU u) (n : Nat) :
    Recs w a (l.take n) ∧ (∀ u ∈ l.take n, FitU u) ∧ (l.take n).length ≤ n ∧ (l.take n).length ≤ ca := ⟨hU.take n, fun u hu => hS u (List.mem_of_mem_take hu), by rw [List.length_take]; omega, by rw [List.length_take]; omega⟩
set_option maxRecDepth 100000 in
set_option maxHeartbeats 4000000 in
theorem of_any (l : List Msg.Up) (a : Option Addr) (ca : Nat) (w : World) (hca : l.length ≤ ca ∧ ca ≤ maxLen) (hR : Recs w a l) (hS : ∀ u ∈ l, FitU u) :
    Calls Try.prog 25 #[.slice a l.length ca] w fun e w' => (∃ v1 v2, e = .returned (.tuple #[v1, v2]) ∧ OwnE 37 w' w.heap.size v1 (cutL l) ∧ OwnE 39 w' w.heap.size v2 (cutL l)) ∧ Ext w w' := by
  unfold maxLen at hca
  obtain ⟨hcb, hcb2⟩ := hca
  have hUc := recs_cut hR hcb hS 12
  clear hR hS
  obtain ⟨M, hM⟩ : ∃ M, cutL l = M := ⟨_, rfl⟩
  rw [hM]
  unfold cutL at hM
  have HM := Lib.hid hM; clear hM
  go_enter Try.func25, Try.ntmps25
  go_upto_region 3 with (fail)
  go_cut [12, 13, 14] (fun sl n i wr => ∃ L : List Msg.Up, l.take 12 = L ∧ sl = .slice a L.length ca ∧ n = .int .i64 L.length ∧ i = .int .i64 0 ∧ L.length ≤ 12 ∧ L.length ≤ ca ∧ Recs w a L ∧ (∀ u ∈ L, FitU u) ∧ wr = w)
  case first =>
    obtain ⟨q1, q2, q3, q4⟩ := hUc
    have q5 : (l.take 12).length = min 12 l.length := List.length_take
    go_wp2_with fail
    all_goals go_meet
    all_goals exact ⟨l.take 12, rfl, by rw [q5]; congr 1; omega, by rw [q5]; congr 1; omega, rfl, q3, q4, q1, q2, rfl⟩
  obtain ⟨L, hL, rfl, rfl, rfl, h3, h4, hU2, hS2, rfl⟩ := hcut
  have hM2 := HM.out
  rw [hL] at hM2
  have HM2 := Lib.hid hM2
  clear hUc hL HM hM2
  have HU := Lib.hid hU2; clear hU2
  have HS2 := Lib.hid hS2; clear hS2
  go_wp2_with fail
  go_loopw [4, 5, 14] (fun p q i wx => ∃ j : Nat, j ≤ L.length ∧ i = .int .i64 j ∧ OwnE 37 wx wc.heap.size p ((L.take j).map cutU) ∧ OwnE 39 wx wc.heap.size q ((L.take j).map cutU) ∧ Ext wc wx) (fun _ _ i _ => L.length - (intOf i).toNat)
  case atStart => exact ⟨0, by omega, rfl, OwnE.nil _ _ _, OwnE.nil _ _ _, Ext.refl _⟩
  case round =>
    obtain ⟨j, hj, rfl, hp, hq, hex⟩ := hrel
    have HP := Lib.hid hp; have HQ := Lib.hid hq
    clear hp hq
    by_cases hlt : j < L.length
    · obtain ⟨b, o, rfl, hc0, hc1, hc2, hc3⟩ := (HU.out.ext hex) j hlt
      have hfit := HS2.out L[j] (by simp)
      have htk : (L.take (j + 1)).map cutU = (L.take j).map cutU ++ [cutU L[j]] := by rw [List.take_succ_eq_append_getElem hlt, List.map_append]; rfl
      have HTK := Lib.hid htk; clear htk
      have hlm : ((L.take j).map cutU).length ≤ 1000000 := by simp; omega
      have HLM := Lib.hid hlm; clear hlm
      have hB2 : wc.heap.size ≤ wr.heap.size := hex.size
      generalize L[j] = u at *
      obtain ⟨K, Y, V, D⟩ := u
      obtain ⟨f1, f2, f3, f4⟩ := hfit
      simp only at hc0 hc1 hc2 hc3 f1 f2 f3 f4
      unfold maxLen at f2 f3
      go_upto_region 6 with (fail)
      have r0 := RowIs.new wr 67 #[.int .u8 (K : Int), .string Y, .string V, .int .u64 (D : Int)]
      have hEa := Ext.alloc wr (.cells #[.int .u8 (K : Int), .string Y, .string V, .int .u64 (D : Int)] 67)
      have HP1 := Lib.hid (OwnE.ext HP.out hEa)
      have HQ1 := Lib.hid (OwnE.ext HQ.out hEa)
      have hB3 : wc.heap.size ≤ wr.heap.size := hB2
      have hsy := cutS_size Y
      have hsv := cutS_size V
      have hxy : Y.extract 0 (min Y.size 40) = cutS Y := rfl
      have hxv : V.extract 0 (min V.size 40) = cutS V := rfl
      have hcy := cutS_cut Y
      have hcv := cutS_cut V
      have htk2 : (L.take (j + 1)).map cutU = (L.take j).map cutU ++ [⟨K, cutS Y, cutS V, D⟩] := HTK.out
      have HTK2 := Lib.hid htk2
      clear htk2
      clear hc0 hc1 hc2 hc3 HTK HP HQ
      replace hEa := hex.trans hEa
      generalize (L.take j).map cutU = A at *
      generalize wr.alloc (.cells #[.int .u8 (K : Int), .string Y, .string V, .int .u64 (D : Int)] 67) = w6 at *
      generalize wr.heap.size = g at *
      generalize cutS Y = Y1 at *
      generalize cutS V = V1 at *
      obtain ⟨m, hm, hm2, hm3⟩ : ∃ m : Nat, min Y.size 40 = m ∧ (min (Y.size : Int) 40 = (m : Int)) ∧ (min (m : Int) 40 = (m : Int)) := ⟨_, rfl, by omega, by omega⟩
      obtain ⟨n, hn, hn2, hn3⟩ : ∃ m : Nat, min V.size 40 = m ∧ (min (V.size : Int) 40 = (m : Int)) ∧ (min (m : Int) 40 = (m : Int)) := ⟨_, rfl, by omega, by omega⟩
      rw [hm] at hxy hcy hsy
      rw [hn] at hxv hcv hsv
      have hmY : m ≤ Y.size := by omega
      have hnV : n ≤ V.size := by omega
      clear hex hm hn
      refine RR.wp_region_drift_lit (n := 53) (Cut.rel g 67 (.string Y1) (.string V1)) (by kernel_rfl) (by kernel_rfl) (by rfl) ?_
      apply RR.chain_val
      · rfl
      · intro w2 hx  K hK
        simp only [Act.put, List.setIfInBounds_toArray, List.set_cons_zero, List.set_cons_succ] at hK ⊢
        go_simp
        exact hK _ _ (RR.Rel.refl (Cut.rel g 67 (.string Y1) (.string V1)) _) rfl
      refine RR.chain_pred (StrOr Y Y1) (fun _ _ _ e h => StrOr.ext h e) rfl ?_ ?_
      · intro w2 hx  K hK
        simp only [Act.put, List.setIfInBounds_toArray, List.set_cons_zero, List.set_cons_succ] at hK ⊢
        obtain ⟨q1, q2, hr, hc, _⟩ := hx.row _ _ _ _ r0
        have hd := hr.cell 1 _ rfl
        rcases hc with rfl | rfl
        · (go_simp ; exact hK _ _ (RR.Rel.refl (Cut.rel _ _ _ _) _) (.inl rfl))
        · (go_simp ; exact hK _ _ (RR.Rel.refl (Cut.rel _ _ _ _) _) (.inr rfl))
      apply RR.chain_val
      · rfl
      · intro w2 hx  K hK
        simp only [Act.put, List.setIfInBounds_toArray, List.set_cons_zero, List.set_cons_succ] at hK ⊢
        go_simp
        exact hK _ _ (RR.Rel.refl (Cut.rel g 67 (.string Y1) (.string V1)) _) rfl
      refine RR.chain_pred (StrOr Y Y1) (fun _ _ _ e h => StrOr.ext h e) rfl ?_ ?_
      · intro w2 hx  K hK
        simp only [Act.put, List.setIfInBounds_toArray, List.set_cons_zero, List.set_cons_succ] at hK ⊢
        obtain ⟨q1, q2, hr, hc, _⟩ := hx.row _ _ _ _ r0
        have hd := hr.cell 1 _ rfl
        rcases hc with rfl | rfl
        · (go_simp ; exact hK _ _ (RR.Rel.refl (Cut.rel _ _ _ _) _) (.inl rfl))
        · (go_simp ; exact hK _ _ (RR.Rel.refl (Cut.rel _ _ _ _) _) (.inr rfl))
      refine RR.chain_pred (LenOr Y m) (fun _ _ _ e h => LenOr.ext h e) rfl ?_ ?_
      · intro w2 hx v3 h3 K hK
        simp only [Act.put, List.setIfInBounds_toArray, List.set_cons_zero, List.set_cons_succ] at hK ⊢
        rcases h3 with rfl | rfl
        · (go_simp ; exact hK _ _ (RR.Rel.refl (Cut.rel _ _ _ _) _) (.inl rfl))
        · (go_simp ; exact hK _ _ (RR.Rel.refl (Cut.rel _ _ _ _) _) (.inr rfl))
      apply RR.chain_val (.int .i64 (m : Int))
      · rfl
      · intro w2 hx v4 h4 K hK
        simp only [Act.put, List.setIfInBounds_toArray, List.set_cons_zero, List.set_cons_succ] at hK ⊢
        rcases h4 with rfl | rfl
        · (go_simp ; exact hK _ _ (RR.Rel.refl (Cut.rel _ _ _ _) _) rfl)
        · (go_simp ; exact hK _ _ (RR.Rel.refl (Cut.rel _ _ _ _) _) rfl)
      apply RR.chain_val (.string Y1)
      · rfl
      · intro w2 hx v1 h1 K hK
        simp only [Act.put, List.setIfInBounds_toArray, List.set_cons_zero, List.set_cons_succ] at hK ⊢
        rcases h1 with rfl | rfl
        · (go_simp ; exact hK _ _ (RR.Rel.refl (Cut.rel _ _ _ _) _) rfl)
        · (go_simp ; exact hK _ _ (RR.Rel.refl (Cut.rel _ _ _ _) _) rfl)
      apply RR.chain_val
      · rfl
      · intro w2 hx  K hK
        simp only [Act.put, List.setIfInBounds_toArray, List.set_cons_zero, List.set_cons_succ] at hK ⊢
        go_simp
        exact hK _ _ (RR.Rel.refl (Cut.rel g 67 (.string Y1) (.string V1)) _) rfl
      refine RR.chain_pred (StrOr V V1) (fun _ _ _ e h => StrOr.ext h e) rfl ?_ ?_
      · intro w2 hx  K hK
        simp only [Act.put, List.setIfInBounds_toArray, List.set_cons_zero, List.set_cons_succ] at hK ⊢
        obtain ⟨q1, q2, hr, _, hc⟩ := hx.row _ _ _ _ r0
        have hd := hr.cell 2 _ rfl
        rcases hc with rfl | rfl
        · (go_simp ; exact hK _ _ (RR.Rel.refl (Cut.rel _ _ _ _) _) (.inl rfl))
        · (go_simp ; exact hK _ _ (RR.Rel.refl (Cut.rel _ _ _ _) _) (.inr rfl))
      apply RR.chain_val
      · rfl
      · intro w2 hx  K hK
        simp only [Act.put, List.setIfInBounds_toArray, List.set_cons_zero, List.set_cons_succ] at hK ⊢
        go_simp
        exact hK _ _ (RR.Rel.refl (Cut.rel g 67 (.string Y1) (.string V1)) _) rfl
      refine RR.chain_pred (StrOr V V1) (fun _ _ _ e h => StrOr.ext h e) rfl ?_ ?_
      · intro w2 hx  K hK
        simp only [Act.put, List.setIfInBounds_toArray, List.set_cons_zero, List.set_cons_succ] at hK ⊢
        obtain ⟨q1, q2, hr, _, hc⟩ := hx.row _ _ _ _ r0
        have hd := hr.cell 2 _ rfl
        rcases hc with rfl | rfl
        · (go_simp ; exact hK _ _ (RR.Rel.refl (Cut.rel _ _ _ _) _) (.inl rfl))
        · (go_simp ; exact hK _ _ (RR.Rel.refl (Cut.rel _ _ _ _) _) (.inr rfl))
      refine RR.chain_pred (LenOr V n) (fun _ _ _ e h => LenOr.ext h e) rfl ?_ ?_
      · intro w2 hx v10 h10 K hK
        simp only [Act.put, List.setIfInBounds_toArray, List.set_cons_zero, List.set_cons_succ] at hK ⊢
        rcases h10 with rfl | rfl
        · (go_simp ; exact hK _ _ (RR.Rel.refl (Cut.rel _ _ _ _) _) (.inl rfl))
        · (go_simp ; exact hK _ _ (RR.Rel.refl (Cut.rel _ _ _ _) _) (.inr rfl))
      apply RR.chain_val (.int .i64 (n : Int))
      · rfl
      · intro w2 hx v11 h11 K hK
        simp only [Act.put, List.setIfInBounds_toArray, List.set_cons_zero, List.set_cons_succ] at hK ⊢
        rcases h11 with rfl | rfl
        · (go_simp ; exact hK _ _ (RR.Rel.refl (Cut.rel _ _ _ _) _) rfl)
        · (go_simp ; exact hK _ _ (RR.Rel.refl (Cut.rel _ _ _ _) _) rfl)
      apply RR.chain_val (.string V1)
      · rfl
      · intro w2 hx v8 h8 K hK
        simp only [Act.put, List.setIfInBounds_toArray, List.set_cons_zero, List.set_cons_succ] at hK ⊢
        rcases h8 with rfl | rfl
        · (go_simp ; exact hK _ _ (RR.Rel.refl (Cut.rel _ _ _ _) _) rfl)
        · (go_simp ; exact hK _ _ (RR.Rel.refl (Cut.rel _ _ _ _) _) rfl)
      apply RR.chain_val
      · rfl
      · intro w2 hx v1 h1 v3 h3 v4 h4 v8 h8 v10 h10 K hK
        simp only [Act.put, List.setIfInBounds_toArray, List.set_cons_zero, List.set_cons_succ] at hK ⊢
        go_simp
        exact hK _ _ (RR.Rel.refl (Cut.rel g 67 (.string Y1) (.string V1)) _) rfl
      refine RR.chain_store (KeyIs g 67 (.string Y1)) (fun _ _ _ e h => KeyIs.kept h e) rfl rfl ?_ ?_
      · intro w2 hx v1 h1 v3 h3 v4 h4 v8 h8 v10 h10 K hK
        simp only [Act.put, List.setIfInBounds_toArray, List.set_cons_zero, List.set_cons_succ] at hK ⊢
        obtain ⟨q1, q2, hr, _, _⟩ := hx.row _ _ _ _ r0
        exact step_cell rfl rfl rfl rfl hr (by kernel_rfl) (by simp) (let ⟨e, q⟩ := Cut.key (v := .string V1) hr; hK _ e ⟨rfl, _, _, _, q⟩)
      apply RR.chain_val
      · rfl
      · intro w2 hx v1 h1 v3 h3 v4 h4 v8 h8 v10 h10 v11 h11 v15 h15 K hK
        simp only [Act.put, List.setIfInBounds_toArray, List.set_cons_zero, List.set_cons_succ] at hK ⊢
        go_simp
        exact hK _ _ (RR.Rel.refl (Cut.rel g 67 (.string Y1) (.string V1)) _) rfl
      refine RR.chain_store (ValIs g 67 (.string V1)) (fun _ _ _ e h => ValIs.kept h e) rfl rfl ?_ ?_
      · intro w2 hx _ _ v1 h1 v3 h3 v4 h4 v8 h8 v10 h10 v11 h11 v15 h15 K hK
        simp only [Act.put, List.setIfInBounds_toArray, List.set_cons_zero, List.set_cons_succ] at hK ⊢
        obtain ⟨q1, q2, hr, _, _⟩ := hx.row _ _ _ _ r0
        exact step_cell rfl rfl rfl rfl hr (by kernel_rfl) (by simp) (let ⟨e, q⟩ := Cut.val (y := .string Y1) hr; hK _ e ⟨rfl, _, _, _, q⟩)
      refine RR.chain_end fun w2 hx => ?_
      simp only [List.reverse_cons, List.reverse_nil, List.nil_append, List.cons_append, RR.withDeps, Act.put, List.setIfInBounds_toArray, List.set_cons_zero, List.set_cons_succ]
      intro v1 h1 v3 h3 v4 h4 v8 h8 v10 h10 v11 h11 v15 h15 v17 h17
      have r1 := Cut.done r0 hx h15 h17
      have hE2 := hx.but.ext hEa hB3
      have HP2 := Lib.hid (OwnE.but HP1.out hx.but r0 (by decide))
      have HQ2 := Lib.hid (OwnE.but HQ1.out hx.but r0 (by decide))
      have hB4 : wc.heap.size ≤ w2.heap.size := hE2.size
      have c0 := r1.cell 0 _ rfl
      have c1 := r1.cell 1 _ rfl
      have c2 := r1.cell 2 _ rfl
      have c3 := r1.cell 3 _ rfl
      have R1 := Lib.hid r1
      have HLM2 := HLM.out
      clear r1 r0 hx h1 h3 h4 h8 h10 h11 h15 h17 hsy hcy hxy hm2 hm3 hsv hcv hxv hn2 hn3 hEa
      go_wp2_with (at_builtin; first
        | (refine wpl_upd2 Try.underlying32 info_upd rfl _ _ rfl rfl HP2.out hB4 HLM2 rfl K D Y1 V1 ?_
           intro v3 w3 hp3 hb3 ho3 hr3
           have HP3 := Lib.hid hp3
           have HQ3 := Lib.hid (ho3 39 _ _ (by decide) HQ2.out)
           have R3 := Lib.hid (hr3 g 67 _ (by decide) R1.out)
           have hB5 := hb3.size
           replace c0 := R3.out.cell 0 _ rfl
           replace c1 := R3.out.cell 1 _ rfl
           replace c2 := R3.out.cell 2 _ rfl
           replace c3 := R3.out.cell 3 _ rfl
           clear ho3 hr3 hp3)
        | (refine wpl_upd2 Try.underlying56 info_rupd rfl _ _ rfl rfl HQ3.out (Nat.le_trans hB4 hB5) HLM2 rfl K D Y1 V1 ?_
           intro v4 w4 hq4 hb4 ho4 hr4
           have HQ4 := Lib.hid hq4
           have HP4 := Lib.hid (ho4 37 _ _ (by decide) HP3.out)
           clear ho4 hr4 hq4))
      go_roundw
      case rel => exact ⟨j + 1, by omega, by go_num, by rw [HTK2.out]; exact HP4.out, by rw [HTK2.out]; exact HQ4.out, Below.trans hE2 (hb3.trans hb4)⟩
      case measure => simp [intOf]; omega
    · obtain rfl : j = L.length := by omega
      rw [List.take_of_length_le (Nat.le_refl _)] at HP HQ
      have hp' := HP.out; have hq' := HQ.out
      rw [HM2.out] at hp' hq'
      have HP' := Lib.hid hp'; have HQ' := Lib.hid hq'
      clear hp' hq' HP HQ HM2 HU HS2
      go_wp2_with fail
      go_ret2
      exact ⟨⟨_, _, rfl, HP'.out, HQ'.out⟩, hex⟩
end Go.Proofs.Ytemhflafiephpaa
