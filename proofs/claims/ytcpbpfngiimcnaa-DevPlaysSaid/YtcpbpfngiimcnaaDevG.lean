/- slices.Repeat at a text, nine times; the device's New. -/
import Derived.Test.YtcpbpfngiimcnaaDevF
import Derived.Laws.CopyRow
namespace Go.Proofs.Ytcpbpfngiimcnaa
open Go.RowKit
theorem wpl_copyrow {P : Program} {w : World} {ops : Array Oper} {rest : List Oper} {o : Oper} {a : Act} {Q : Exit → Act → World → Prop} (hgd : o.guard = none) (d s : Operand) (S E : TypeId) (ho : o.op = .call { callee := .builtin .copy, args := #[d, s], argTypes := #[S, S] })
    {g p x y dl dc sl sc : Nat} {T : TypeId} {cur : Array Value} (cs : List Value) (hu : P.underlying S = some (.slice E)) (hz : (P.info? E).map (·.size) = some 1) (hd : a.eval d = .slice (some ⟨g, x, none⟩) dl dc) (hs : a.eval s = .slice (some ⟨p, y, none⟩) sl sc) (hg : RowIs g T cur w) (hn : cs.length = min sl dl)
    (hsrc : ∀ j v, cs[j]? = some v → w.cell? ⟨p, y + j, none⟩ = some v) (hfit : x + cs.length ≤ cur.size) (h1 : ∀ v ∈ cs, v.oneCell' = true)
    (h : ∀ w', RowIs g T (cur.toList.take x ++ (cs ++ cur.toList.drop (x + cs.length))).toArray w' → Wrote g w w' → wpList P ops Q rest (a.put o.dst (.int .i64 (cs.length : Int))) w') : wpList P ops Q (o :: rest) a w := by
  refine wpList_plain hgd fun K hK => ?_
  have hr := run_copy_row (P := P) w S S o.type E g x dl dc ⟨p, y, none⟩ sl sc cur T cs hu hz hg hn (fun j v hj => by rw [Addr.add_lit]; exact hsrc j v hj) hfit h1
  unfold Oper.wp
  simp only [execOp, ho]
  simp [resolve, invoke, builtin, hd, hs, hr, Result.andThen]
  exact hK _ _ (h _ (setRow_heap w g cur _ T (0, 0) hg) (Wrote.setRow g w _))
set_option maxRecDepth 100000 in
set_option maxHeartbeats 4000000 in
theorem mul64_one (w : World) : Calls Try.prog 57 #[.int .u64 1, .int .u64 9] w fun e w' => e = .returned (.tuple #[.int .u64 0, .int .u64 9]) ∧ Ext w w' := by
  go_enter Try.func57, Try.ntmps57
  go_wp2_with fail
  go_ret2
  exact ⟨rfl, Ext.refl _⟩
set_option maxRecDepth 100000 in
set_option maxHeartbeats 4000000 in
theorem mul_one (w : World) : Calls Try.prog 38 #[.int .u64 1, .int .u64 9] w fun e w' => e = .returned (.tuple #[.int .u64 0, .int .u64 9]) ∧ Ext w w' := by
  go_enter Try.func38, Try.ntmps38
  go_wp2_with fail
  refine (mul64_one _).mono ?_
  rintro e w1 ⟨rfl, he1⟩
  go_wp2_with fail
  go_ret2
  exact ⟨rfl, he1⟩
theorem made9 (z : Value) : madeCells #[z] 9 = Array.replicate 9 z := by
  apply Array.ext
  · simp [madeCells]
  · intro i h1 h2
    simp [madeCells, Nat.mod_one]
theorem make9 {t e : TypeId} {z : Value} {bs : Nat} (ht : Try.prog.underlying t = some (.slice e)) (hi : (Try.prog.info? e).map (fun i => (i.zero, i.size, i.bytes)) = some (some z, 1, bs)) (hz : madeCells z.cells 9 = Array.replicate 9 z) (hb : bs ≤ 100) (w : World) :
    (Instr.makeSlice t (.int .i64 9) (.int .i64 9)).run Try.prog w = .ok (.slice (some ⟨w.heap.size, 0, none⟩) 9 9) (w.alloc (.cells (Array.replicate 9 z) e)) := by
  obtain ⟨i0, hi0, hz0, hz1, hz2⟩ := info_parts hi
  have h := run_make (P := Try.prog) w t e i0 z ht hi0 hz0 .i64 .i64 9 9 (by omega) (by omega) (by rw [hz2]; omega) (by omega)
  rw [hz1] at h
  have e9 : (9 : Int).toNat = 9 := rfl
  rw [e9, Nat.mul_one, hz] at h
  exact h
theorem info_str : (Try.prog.info? 9).map (fun i => (i.zero, i.size, i.bytes)) = some (some (.string ⟨#[]⟩), 1, 16) := by kernel_rfl
theorem info_bool : (Try.prog.info? 4).map (fun i => (i.zero, i.size, i.bytes)) = some (some (.bool false), 1, 1) := by kernel_rfl
def rowR (Z : ByteArray) (k : Nat) : Array Value := (List.replicate k (Value.string Z) ++ List.replicate (9 - k) (Value.string ⟨#[]⟩)).toArray
theorem rowR_size {Z : ByteArray} {k : Nat} (h : k ≤ 9) : (rowR Z k).size = 9 := by
  unfold rowR; simp; omega
theorem rowR_step {Z : ByteArray} {k n : Nat} (h : k + n ≤ 9) : ((rowR Z k).toList.take k ++ (List.replicate n (Value.string Z) ++ (rowR Z k).toList.drop (k + n))).toArray = rowR Z (k + n) := by
  unfold rowR
  congr 1
  simp only [List.take_append, List.drop_append, List.take_replicate, List.drop_replicate, List.length_replicate, Nat.sub_self, Nat.min_self]
  have e1 : min 0 (9 - k) = 0 := by omega
  have e2 : k - (k + n) = 0 := by omega
  have e3 : 9 - k - (k + n - k) = 9 - (k + n) := by omega
  rw [e1, e2, e3]
  simp only [List.replicate_zero, List.append_nil, List.nil_append]
  rw [← List.append_assoc, List.replicate_append_replicate]
theorem rowR_at {Z : ByteArray} {k n : Nat} (hn : n ≤ k) : ∀ (j : Nat) (v : Value), (List.replicate n (Value.string Z))[j]? = some v → (rowR Z k)[j]? = some v := fun j v hj => by
  have h1 : j < n := by simpa using (List.getElem?_eq_some_iff.1 hj).1
  unfold rowR
  rw [List.getElem?_toArray, List.getElem?_append_left (by simp; omega), List.getElem?_replicate, if_pos (by omega)]
  rw [List.getElem?_replicate, if_pos h1] at hj
  exact hj
theorem copy_rowR {Z : ByteArray} {g k n : Nat} {w : World} (hr : RowIs g 9 (rowR Z k) w) (hn : n ≤ k) (hk : k + n ≤ 9) (hm : min k (9 - k) = n) :
    ∃ w', (Builtin.copy_ #[61, 61] 3 #[.slice (some ⟨g, k, none⟩) (9 - k) (9 - k), .slice (some ⟨g, 0, none⟩) k 9]).run Try.prog w = .ok (.int .i64 (n : Int)) w' ∧ RowIs g 9 (rowR Z (k + n)) w' ∧ Wrote g w w' := by
  have h := run_copy_row (P := Try.prog) w 61 61 3 9 g k (9 - k) (9 - k) ⟨g, 0, none⟩ k 9 (rowR Z k) 9 (List.replicate n (.string Z)) Try.underlying61 (by kernel_rfl) hr (by rw [List.length_replicate]; exact hm.symm) (fun j v hj => by
    rw [Addr.add_lit, Nat.zero_add]
    exact hr.cell j v (rowR_at hn j v hj)) (by rw [rowR_size (by omega), List.length_replicate]; omega) (by intro v hv; obtain ⟨_, rfl⟩ := List.mem_replicate.1 hv; rfl)
  have hx := setRow_heap w g (rowR Z k) ((rowR Z k).toList.take k ++ (List.replicate n (Value.string Z) ++ (rowR Z k).toList.drop (k + n))).toArray 9 (0, 0) hr
  rw [rowR_step hk] at hx
  rw [List.length_replicate, List.append_assoc, rowR_step hk] at h
  exact ⟨_, h, hx, Wrote.setRow g w _⟩
set_option maxRecDepth 100000 in
set_option maxHeartbeats 4000000 in
theorem repeat9_any (Z : ByteArray) (p c : Nat) (w : World) (hZ : w.cell? ⟨p, 0, none⟩ = some (.string Z)) : Calls Try.prog 37 #[.slice (some ⟨p, 0, none⟩) 1 c, .int .i64 9] w fun e w' =>
    (∃ g, e = .returned (.slice (some ⟨g, 0, none⟩) 9 9) ∧ w.heap.size ≤ g ∧ ListAt 9 .string w' g (List.replicate 9 Z)) ∧ Ext w w' := by
  go_enter Try.func37, Try.ntmps37
  go_wp2_with fail
  refine (mul_one _).mono ?_
  rintro e w1 ⟨rfl, he1⟩
  go_wp2_with fail
  rw [make9 Try.underlying61 info_str (made9 _) (by omega)]
  have hr0 : RowIs w1.heap.size 9 (rowR Z 0) (w1.alloc (.cells (Array.replicate 9 (.string ⟨#[]⟩)) 9)) := RowIs.new _ _ _
  have he2 := he1.trans (Ext.alloc w1 (.cells (Array.replicate 9 (.string ⟨#[]⟩)) 9))
  have hg0 : w.heap.size ≤ w1.heap.size := he1.size
  generalize w1.alloc (.cells (Array.replicate 9 (.string ⟨#[]⟩)) 9) = w2 at *
  generalize w1.heap.size = g at *
  have hZ2 := cell_ext hZ he2
  have HR0 := Lib.hid hr0; have HE2 := Lib.hid he2
  clear hr0 he2 he1 hZ
  go_wp2_with (refine wpl_copyrow rfl _ _ _ 9 rfl (List.replicate 1 (.string Z)) Try.underlying61 (by kernel_rfl) rfl rfl HR0.out (by simp) (fun j v hj => by match j, hj with | 0, hj => simp at hj; subst hj; exact hZ2) (by rw [rowR_size (by omega)]; simp) (by intro v hv; obtain ⟨_, rfl⟩ := List.mem_replicate.1 hv; rfl) ?_; intro w3 hr3 hw3; have HR3 := Lib.hid ((rowR_step (Z := Z) (k := 0) (n := 1) (by omega)) ▸ hr3); have HW3 := Lib.hid hw3; clear hr3 hw3)
  have HE3 := Lib.hid (HW3.out.but.ext HE2.out hg0)
  clear HR0 HE2 HW3 hZ2
  have e1 : ((1 : Nat) : Int) = 1 := rfl
  try simp only [List.length_replicate, e1]
  clear e1
  go_loopw [8] (fun n wx => ∃ k : Nat, (k = 1 ∨ k = 2 ∨ k = 4 ∨ k = 8 ∨ k = 9) ∧ n = .int .i64 k ∧ RowIs g 9 (rowR Z k) wx ∧ Ext w wx) (fun n _ => 9 - (intOf n).toNat)
  case atStart => exact ⟨1, .inl rfl, rfl, HR3.out, HE3.out⟩
  case round =>
    obtain ⟨k, hk, rfl, hrk, hex⟩ := hrel
    have HRK := Lib.hid hrk; have HEX := Lib.hid hex
    clear hrk hex HR3 HE3
    rcases hk with rfl | rfl | rfl | rfl | rfl
    · obtain ⟨w3, hcp, hr3, hw3⟩ := copy_rowR (Z := Z) (g := g) (k := 1) (n := 1) (HRK.out.ext (Ext.drew wr)) (by omega) (by omega) (by omega)
      have HR3 := Lib.hid hr3; have HW3 := Lib.hid hw3
      clear hr3 hw3
      go_wp2_with fail
      go_region_with (fail)
      simp only [List.getElem_toArray, List.getElem_cons_succ, List.getElem_cons_zero, Act.put, List.setIfInBounds_toArray, List.set_cons_zero, List.set_cons_succ, show IntKind.i64.wrap 2 = 2 from rfl]
      go_wp2_with fail
      go_roundw
      case rel => exact ⟨2, by omega, rfl, HR3.out, HW3.out.but.ext (HEX.out.trans (Ext.drew _)) hg0⟩
      case measure => simp [intOf]
    · obtain ⟨w3, hcp, hr3, hw3⟩ := copy_rowR (Z := Z) (g := g) (k := 2) (n := 2) (HRK.out.ext (Ext.drew wr)) (by omega) (by omega) (by omega)
      have HR3 := Lib.hid hr3; have HW3 := Lib.hid hw3
      clear hr3 hw3
      go_wp2_with fail
      go_region_with (fail)
      simp only [List.getElem_toArray, List.getElem_cons_succ, List.getElem_cons_zero, Act.put, List.setIfInBounds_toArray, List.set_cons_zero, List.set_cons_succ, show IntKind.i64.wrap 4 = 4 from rfl]
      go_wp2_with fail
      go_roundw
      case rel => exact ⟨4, by omega, rfl, HR3.out, HW3.out.but.ext (HEX.out.trans (Ext.drew _)) hg0⟩
      case measure => simp [intOf]
    · obtain ⟨w3, hcp, hr3, hw3⟩ := copy_rowR (Z := Z) (g := g) (k := 4) (n := 4) (HRK.out.ext (Ext.drew wr)) (by omega) (by omega) (by omega)
      have HR3 := Lib.hid hr3; have HW3 := Lib.hid hw3
      clear hr3 hw3
      go_wp2_with fail
      go_region_with (fail)
      simp only [List.getElem_toArray, List.getElem_cons_succ, List.getElem_cons_zero, Act.put, List.setIfInBounds_toArray, List.set_cons_zero, List.set_cons_succ, show IntKind.i64.wrap 8 = 8 from rfl]
      go_wp2_with fail
      go_roundw
      case rel => exact ⟨8, by omega, rfl, HR3.out, HW3.out.but.ext (HEX.out.trans (Ext.drew _)) hg0⟩
      case measure => simp [intOf]
    · obtain ⟨w3, hcp, hr3, hw3⟩ := copy_rowR (Z := Z) (g := g) (k := 8) (n := 1) (HRK.out.ext (Ext.drew wr)) (by omega) (by omega) (by omega)
      have HR3 := Lib.hid hr3; have HW3 := Lib.hid hw3
      clear hr3 hw3
      go_wp2_with fail
      go_region_with (fail)
      simp only [List.getElem_toArray, List.getElem_cons_succ, List.getElem_cons_zero, Act.put, List.setIfInBounds_toArray, List.set_cons_zero, List.set_cons_succ, show IntKind.i64.wrap 9 = 9 from rfl]
      go_wp2_with fail
      go_roundw
      case rel => exact ⟨9, by omega, rfl, HR3.out, HW3.out.but.ext (HEX.out.trans (Ext.drew _)) hg0⟩
      case measure => simp [intOf]
    · go_wp2_with fail
      go_ret
      refine ⟨⟨g, rfl, hg0, rowR Z 9, HRK.out, fun i hi => ?_⟩, HEX.out⟩
      have hi' : i < 9 := by simpa using hi
      have h9 := rowR_at (Z := Z) (k := 9) (n := 9) (by omega) i (.string Z) (by rw [List.getElem?_replicate, if_pos hi'])
      rw [h9, List.getElem_replicate]
end Go.Proofs.Ytcpbpfngiimcnaa
