/- The document's New. -/
import Derived.Test.YtcpbpfngiimcnaaDevW
import Derived.Test.YtcpbpfngiimcnaaOwnG
import Derived.Test.YtcpbpfngiimcnaaDevG
namespace Go.Proofs.Ytcpbpfngiimcnaa
open Go.RowKit
theorem wpl_appD {w : World} {ops : Array Oper} {rest : List Oper} {o : Oper} {a : Act} {Q : Exit → Act → World → Prop} {e t : TypeId} {z : Value} {sz bs : Nat} (ht : Try.prog.underlying t = some (.slice e)) (hi : (Try.prog.info? e).map (fun i => (i.zero, i.size, i.bytes)) = some (some z, sz, bs)) (hz : z.cells.size = sz) (hsz : 0 < sz) (hbs : bs ≤ 1000)
    (hgd : o.guard = none) (s x : Operand) (ho : o.op = .call { callee := .builtin .append, args := #[s, x], argTypes := #[t, t] })
    (B : Nat) (v : Value) (hs : a.eval s = v) (n : Nat) (xs : List Value) (hown : w.ownsRow B e sz v n xs) (hB : B ≤ w.heap.size) (hn : n ≤ 1000000) (c : Nat) (hx : a.eval x = .slice (some ⟨w.heap.size, 0, none⟩) 1 c) (news : List Value) (hl : news.length = sz) (h1 : ∀ u ∈ news, u.oneCell' = true)
    (h : ∀ v' w', w'.ownsRow B e sz v' (n + 1) (xs ++ news) → (∀ b m q, DF e B b m q w w') → wpList Try.prog ops Q rest (a.put o.dst v') w') : wpList Try.prog ops Q (o :: rest) a (w.alloc (.cells news.toArray e)) := by
  obtain ⟨i0, hi, hz0, hz1, hz2⟩ := info_parts hi
  have hcells : ∀ j u, news[j]? = some u → (w.alloc (.cells news.toArray e)).cell? ((⟨w.heap.size, 0, none⟩ : Addr).add j) = some u := fun j u hj => by
    have hp : (⟨w.heap.size, 0, none⟩ : Addr).add j = ⟨w.heap.size, j, none⟩ := by unfold Addr.add; split <;> simp_all
    rw [hp, World.cell?_alloc_new]; simpa using hj
  have hown' : (w.alloc (.cells news.toArray e)).ownsRow B e sz v n xs := hown.alloc _
  obtain ⟨v', w', hr, h2, hg, _⟩ := run_append_own (P := Try.prog) (w := w.alloc (.cells news.toArray e)) B t o.type e i0 z sz bs ht hi hz0 hz1 hz2 hz hsz v n xs hown' ⟨w.heap.size, 0, none⟩ 1 c news (by omega) hcells h1 (by unfold maxLen; omega)
    (by have : (n + 1) * bs ≤ 1000001 * 1000 := Nat.mul_le_mul (by omega) hbs; omega) (by simp; omega)
  have kind : ∀ b, v.ownBlock = some b → ∃ c fz, (w.alloc (.cells news.toArray e)).heap[b]? = some (.cells c e fz) := Go.Lib.ownsRow_kind hown'
  refine wpList_plain hgd fun K hK => ?_
  unfold Oper.wp
  simp [execOp, ho, resolve, invoke, builtin, hs, hx, hr, Result.andThen]
  refine hK _ _ (h v' w' h2 fun b m q => ?_)
  refine (DF.of (Ext.alloc w _)).trans ⟨hg.os, hg.tape, hg.output, hg.size, fun i hi _ _ _ => ?_⟩
  by_cases e : v.ownBlock = some i
  · obtain ⟨c2, f2, e2⟩ := kind i e
    exact .inr ⟨(hown'.lt i e).1, c2, f2, e2⟩
  · exact .inl (hg.block i hi fun e2 => e e2.symm)
/-- one's own slice, kept where the rows of its kind are kept -/
theorem owns_kept {T : TypeId} {w w' : World} {B n : Nat} {cv : Value} {xs : List Value} (h : w.ownsRow B T 1 cv n xs) (hs : ∀ (k : Nat) (cs : Array Value) (z : Nat × Nat), w.heap[k]? = some (Obj.cells cs T z) → w'.heap[k]? = w.heap[k]?) : w'.ownsRow B T 1 cv n xs := by
  obtain ⟨hx, h | ⟨g, cap, cur, e, hb, hg, h1⟩⟩ := h
  · exact ⟨hx, .inl h⟩
  · exact ⟨hx, .inr ⟨g, cap, cur, e, hb, (hs g cur (0, 0) hg).trans hg, h1⟩⟩
theorem owns_df {T U : TypeId} {w w' : World} {B B' n : Nat} {cv : Value} {xs : List Value} (h : w.ownsRow B T 1 cv n xs) (e : ∀ b m q, DF U B' b m q w w') (hT : T ≠ U) : w'.ownsRow B T 1 cv n xs :=
  owns_kept h fun k cs z hk => by
    have hlt := (Array.getElem?_eq_some_iff.1 hk).1
    rcases (e w.heap.size w.heap.size w.heap.size).block k hlt (by omega) (by omega) (by omega) with q | ⟨_, c, x, q⟩
    · exact q
    · rw [hk] at q
      simp only [Option.some.injEq, Obj.cells.injEq] at q
      exact absurd q.2.1 hT
theorem owns_but {T U : TypeId} {w w' : World} {B n g : Nat} {cv : Value} {xs : List Value} {cs0 : Array Value} (h : w.ownsRow B T 1 cv n xs) (hr : RowIs g U cs0 w) (hT : T ≠ U) (e : But g w w') : w'.ownsRow B T 1 cv n xs :=
  owns_kept h fun k cs z hk => e.block k (Array.getElem?_eq_some_iff.1 hk).1 fun ek => by
    subst ek
    have h9 : w.heap[k]? = some (.cells cs0 U (0, 0)) := hr
    rw [h9] at hk
    simp only [Option.some.injEq, Obj.cells.injEq] at hk
    exact hT hk.2.1.symm
theorem owns_list {α : Type} {T : TypeId} {f : α → Value} {w : World} {B n : Nat} {cv : Value} {l : List α} (h : w.ownsRow B T 1 cv n (l.map f)) (hn : n = l.length) (h0 : 0 < n) : ∃ g cap, cv = .slice (some ⟨g, 0, none⟩) n cap ∧ B ≤ g ∧ ListAt T f w g l := by
  obtain ⟨hx, ⟨rfl, h1⟩ | ⟨g, cap, cur, rfl, hb, hg, h1, h2, h3, ht⟩⟩ := h
  · omega
  · refine ⟨g, cap, rfl, hb, cur, hg, fun i hi => ?_⟩
    have e1 : (l.map f)[i]? = some (f l[i]) := by simp [hi]
    rw [← ht, List.getElem?_take, if_pos (by omega)] at e1
    simpa using e1
theorem owns_shape {T : TypeId} {w : World} {B n : Nat} {cv : Value} {xs : List Value} (h : w.ownsRow B T 1 cv n xs) : ∃ a p, cv = .slice a n p := by
  obtain ⟨hx, ⟨rfl, rfl⟩ | ⟨g, cap, cur, rfl, _⟩⟩ := h
  · exact ⟨none, 0, rfl⟩
  · exact ⟨_, cap, rfl⟩
def newRow (vm vb : Value) : Array Value := #[.int .i64 128, vm, vb, .slice none 0 0, .int .i64 0, .int .i64 0, .int .i64 0, .int .i64 0, .bool false, .bool false, .int .i64 0, .int .i64 0, .int .i64 0]
set_option maxRecDepth 100000 in
set_option maxHeartbeats 8000000 in
theorem refnew_any (w : World) : Calls Try.prog 21 #[.int .i64 9, .int .i64 128] w fun e w' => (∃ b m q, e = .returned (.pointer (some ⟨b, 0, none⟩)) ∧ RD w' w.heap.size b m q Dev.new) ∧ Ext w w' := by
  go_enter Try.func21, Try.ntmps21
  go_upto_region 2 with (fail)
  have r5 : RowIs w.heap.size 65 (newRow (.slice none 0 0) (.slice none 0 0)) (w.alloc (.cells #[.int .i64 128, .slice none 0 0, .slice none 0 0, .slice none 0 0, .int .i64 0, .int .i64 0, .int .i64 0, .int .i64 0, .bool false, .bool false, .int .i64 0, .int .i64 0, .int .i64 0] 65)) := RowIs.new _ _ _
  have hx1 := Ext.alloc w (.cells #[.int .i64 128, .slice none 0 0, .slice none 0 0, .slice none 0 0, .int .i64 0, .int .i64 0, .int .i64 0, .int .i64 0, .bool false, .bool false, .int .i64 0, .int .i64 0, .int .i64 0] 65)
  generalize w.alloc (.cells #[.int .i64 128, .slice none 0 0, .slice none 0 0, .slice none 0 0, .int .i64 0, .int .i64 0, .int .i64 0, .int .i64 0, .bool false, .bool false, .int .i64 0, .int .i64 0, .int .i64 0] 65) = w1 at *
  obtain ⟨b, hb⟩ : ∃ b, w.heap.size = b := ⟨_, rfl⟩
  have hBw : w.heap.size ≤ b := by omega
  have HBB := Lib.hid hb
  rw [hb] at r5 ⊢
  obtain ⟨w2, hmk, hrow, hx2, _⟩ := make_bytes w1 128 (by omega)
  have hcv := conv_string w2 w1.heap.size 128 _ hrow
  rw [List.length_replicate] at hcv
  rw [show ((128 : Nat) : Int) = 128 from rfl] at hmk
  have hz : (⟨(List.replicate 128 (0 : UInt8)).toArray⟩ : ByteArray) = Dev.zero := by
    unfold Dev.zero
    congr 1
  rw [hz] at hcv
  obtain ⟨Z, hZ⟩ : ∃ Z, Dev.zero = Z := ⟨_, rfl⟩
  rw [hZ] at hcv
  have HZ := Lib.hid hZ
  have HR := Lib.hid (r5.ext hx2); have HX := Lib.hid (hx1.trans hx2)
  have hbl : b < w2.heap.size := (r5.ext hx2).lt
  clear hz hZ hrow hx2 hx1 r5 hb
  go_upto_region 3 with (fail)
  clear hmk hcv
  go_wp2_with fail
  go_loopw [7] (fun i wx => ∃ (k : Nat) (vm vb : Value), k ≤ 9 ∧ i = .int .i64 k ∧ RowIs b 65 (newRow vm vb) wx ∧ wx.ownsRow b 9 1 vm k ((List.replicate k Z).map .string) ∧ wx.ownsRow b 4 1 vb k ((List.replicate k false).map .bool) ∧ Ext w wx) (fun i _ => 9 - (intOf i).toNat)
  case atStart => exact ⟨0, _, _, by omega, rfl, HR.out, World.ownsRow_nil _ _ _ _, World.ownsRow_nil _ _ _ _, HX.out⟩
  case round =>
    obtain ⟨k, vm, vb, hk, rfl, hrk, hom, hob, hex⟩ := hrel
    obtain ⟨am, pm, rfl⟩ := owns_shape hom
    obtain ⟨ab, pb, rfl⟩ := owns_shape hob
    have c1 := hrk.cell 1 (.slice am k pm) rfl
    have HRK := Lib.hid hrk; have HOM := Lib.hid hom; have HOB := Lib.hid hob; have HEX := Lib.hid hex
    have hbr : b ≤ wr.heap.size := by have := hrk.lt; omega
    clear hrk hom hob hex HR HX
    by_cases hlt : k < 9
    · have hlt' : 0 ≤ (k : Int) ∧ (k : Int) < 9 := by omega
      go_upto_region 7 with (at_builtin; refine wpl_appD Try.underlying61 info_str rfl (by decide) (by decide) rfl _ _ rfl b _ rfl k _ HOM.out hbr (by omega) _ rfl [.string Z] rfl (by intro u hu; simp at hu; subst hu; rfl) ?_; intro v7 w7 ho7 hd7; obtain ⟨a7, p7, rfl⟩ := owns_shape ho7; have HO7 := Lib.hid ho7; have HD7 := Lib.hid hd7; have hr7 := DF.row (HD7.out wr.heap.size wr.heap.size wr.heap.size) HRK.out (by decide) (by have := HRK.out.lt; omega); have g1 := hr7.free 1; have c1' := hr7.cell 1 (.slice am k pm) rfl; have HR7 := Lib.hid hr7; clear ho7 hd7 hr7 c1)
      have hr8 : RowIs b 65 (newRow (.slice a7 (k + 1) p7) (.slice ab k pb)) (w7.setCell ⟨b, 1, none⟩ (.slice a7 (k + 1) p7)) := HR7.out.setCell 1 (.slice a7 (k + 1) p7)
      have hb8 := (Wrote.setCell HR7.out 1 (.slice a7 (k + 1) p7)).but
      have hm8 := owns_but HO7.out HR7.out (by decide) hb8
      have ho8 := owns_but (owns_df HOB.out HD7.out (by decide)) HR7.out (by decide) hb8
      have he8 := hb8.ext ((HD7.out b b b).low HEX.out hBw ⟨Nat.le_refl _, Nat.le_refl _, Nat.le_refl _⟩) hBw
      generalize w7.setCell ⟨b, 1, none⟩ (.slice a7 (k + 1) p7) = w8 at *
      have c2 := hr8.cell 2 (.slice ab k pb) rfl
      have hb9 : b ≤ w8.heap.size := by have := hr8.lt; omega
      have HR8 := Lib.hid hr8; have HM8 := Lib.hid hm8; have HO8 := Lib.hid ho8; have HE8 := Lib.hid he8
      clear hr8 hb8 hm8 ho8 he8 g1 c1'
      go_wp2_with (at_builtin; refine wpl_appD Try.underlying62 info_bool rfl (by decide) (by decide) rfl _ _ rfl b _ rfl k _ HO8.out hb9 (by omega) _ rfl [.bool false] rfl (by intro u hu; simp at hu; subst hu; rfl) ?_; intro v9 w9 ho9 hd9; obtain ⟨a9, p9, rfl⟩ := owns_shape ho9; have HO9 := Lib.hid ho9; have HD9 := Lib.hid hd9; have hr9 := DF.row (HD9.out w8.heap.size w8.heap.size w8.heap.size) HR8.out (by decide) (by have := HR8.out.lt; omega); have g2 := hr9.free 2; have c2' := hr9.cell 2 (.slice ab k pb) rfl; have HR9 := Lib.hid hr9; clear ho9 hd9 hr9 c2)
      have hr10 : RowIs b 65 (newRow (.slice a7 (k + 1) p7) (.slice a9 (k + 1) p9)) (w9.setCell ⟨b, 2, none⟩ (.slice a9 (k + 1) p9)) := HR9.out.setCell 2 (.slice a9 (k + 1) p9)
      have hb10 := (Wrote.setCell HR9.out 2 (.slice a9 (k + 1) p9)).but
      have ho10 := owns_but HO9.out HR9.out (by decide) hb10
      have hm10 := owns_but (owns_df HM8.out HD9.out (by decide)) HR9.out (by decide) hb10
      have he10 := hb10.ext ((HD9.out b b b).low HE8.out hBw ⟨Nat.le_refl _, Nat.le_refl _, Nat.le_refl _⟩) hBw
      generalize w9.setCell ⟨b, 2, none⟩ (.slice a9 (k + 1) p9) = w10 at *
      have es : (List.replicate k Z).map Value.string ++ [.string Z] = (List.replicate (k + 1) Z).map Value.string := by rw [List.replicate_succ', List.map_append]; rfl
      have eb : (List.replicate k false).map Value.bool ++ [.bool false] = (List.replicate (k + 1) false).map Value.bool := by rw [List.replicate_succ', List.map_append]; rfl
      rw [es] at hm10
      rw [eb] at ho10
      have HR10 := Lib.hid hr10; have HM10 := Lib.hid hm10; have HO10 := Lib.hid ho10; have HE10 := Lib.hid he10
      clear hr10 hb10 hm10 ho10 he10 g2 c2' es eb
      go_roundw
      case rel => exact ⟨k + 1, _, _, by omega, by go_num, HR10.out, HM10.out, HO10.out, HE10.out⟩
      case measure => simp [intOf]; omega
    · obtain rfl : k = 9 := by omega
      go_wp2_with fail
      go_ret
      obtain ⟨g1, q1, e1, hg1, hl1⟩ := owns_list HOM.out (by simp) (by omega)
      obtain ⟨g2, q2, e2, hg2, hl2⟩ := owns_list HOB.out (by simp) (by omega)
      have hrr := HRK.out
      rw [e1, e2] at hrr
      refine ⟨⟨b, g1, g2, rfl, ⟨⟨.slice none 0 0, q1, q2, hrr, CacheIs.nil _ _ _⟩, ?_, hl2, Dev.ok_new, ⟨hBw, by omega, by omega⟩⟩⟩, HEX.out⟩
      show ListAt _ _ _ g1 (List.replicate 9 Dev.zero)
      rw [HZ.out]
      exact hl1
end Go.Proofs.Ytcpbpfngiimcnaa
