/- small laws on bytes and strings, over this program's types -/
import Derived.Test.YtbnpldilkkhgmaaRows
import Derived.WalkKit
import Derived.WalkSmall
import Derived.Laws.IdiomStrings
namespace Go.Proofs.Ytbnpldilkkhgmaa
open Go.RowKit
/-- w' is w with more memory. -/
def Ext (w w' : World) : Prop := Below w.heap.size w w'
theorem Ext.refl (w : World) : Ext w w := Below.refl _ _
theorem Ext.trans {a b c : World} (h : Ext a b) (k : Ext b c) : Ext a c := Below.trans h (k.mono h.size)
theorem Ext.drewN (w : World) (n : Nat) : Ext w (w.drewN n) := below_drewN (Below.refl _ _) n
theorem Ext.drew (w : World) : Ext w w.drew := (Below.refl _ _).drew
theorem Ext.alloc (w : World) (o : Obj) : Ext w (w.alloc o) := (Below.refl _ _).alloc (Nat.le_refl _) o
theorem cell_ext {w w' : World} {a : Addr} {v : Value} (h : w.cell? a = some v) (e : Ext w w') : w'.cell? a = some v := (e.cell (World.block_lt_of_cell? w _ h)).trans h
/-- a fresh slice of one text -/
def OneStr (s : ByteArray) (v : Value) (w : World) : Prop := ∃ pb, v = .slice (some ⟨pb, 0, none⟩) 1 1 ∧ w.cell? ⟨pb, 0, none⟩ = some (.string s)
theorem OneStr.ext {s : ByteArray} {v : Value} {w w' : World} (h : OneStr s v w) (e : Ext w w') : OneStr s v w' := let ⟨b, h1, h2⟩ := h; ⟨b, h1, cell_ext h2 e⟩
/-- The bytes l lie at the head of block b, and may be written. -/
def Row (w : World) (b : Nat) (l : List UInt8) : Prop := ∀ i (h : i < l.length), w.cell? ⟨b, i, none⟩ = some (.int .u8 (l[i].toNat : Int)) ∧ w.frozen? ⟨b, i, none⟩ = false
theorem Row.ext {w w' : World} {b : Nat} {l : List UInt8} (hb : b < w.heap.size) (h : Row w b l) (e : Ext w w') : Row w' b l := fun i hi =>
  ⟨(e.cell (p := ⟨b, i, none⟩) hb).trans (h i hi).1, (e.frozen (p := ⟨b, i, none⟩) hb).trans (h i hi).2⟩
theorem Row.set {w : World} {b : Nat} {l : List UInt8} (h : Row w b l) (q : Nat) (v : UInt8) : Row (w.setCell ⟨b, q, none⟩ (.int .u8 (v.toNat : Int))) b (l.set q v) := fun i hi => by
  have hi' : i < l.length := by simpa using hi
  refine ⟨?_, ?_⟩
  · by_cases hq : q = i
    · subst hq
      rw [World.cell?_setCell_same _ _ _ (h q hi').1]
      simp
    · rw [World.cell?_setCell_other _ _ _ _ (by intro e; injection e with _ e2; exact hq e2), (h i hi').1]
      simp [List.getElem_set_ne hq]
  · rw [World.frozen?_setCell]; exact (h i hi').2
theorem Ext.trans_set {a w : World} (h : Ext a w) {b : Nat} (hb : a.heap.size ≤ b) (q : Nat) (v : Value) : Ext a (w.setCell ⟨b, q, none⟩ v) := Below.setCell h hb v
theorem Row.len {w : World} {b : Nat} {l : List UInt8} (h : Row w b l) {n : Nat} (hn : n = l.length) (h0 : 0 < n) : b < w.heap.size := World.block_lt_of_cell? w _ (h 0 (by omega)).1
theorem info_u8 : (Try.prog.info? 5).map (fun i => (i.zero, i.size, i.bytes)) = some (some (.int .u8 0), 1, 1) := by kernel_rfl
/-- 'make([]byte, n)' -/
theorem make_bytes (w : World) (n : Nat) (hn : n ≤ 1048576) : ∃ wr, (Instr.makeSlice 48 (.int .i64 n) (.int .i64 n)).run Try.prog w = .ok (.slice (some ⟨w.heap.size, 0, none⟩) n n) wr ∧ Row wr w.heap.size (List.replicate n 0) ∧ Ext w wr ∧ w.heap.size < wr.heap.size := by
  obtain ⟨i0, hi, hz0, hz1, hz2⟩ := info_parts info_u8
  have h := run_make (P := Try.prog) w 48 5 i0 (.int .u8 0) Try.underlying48 hi hz0 .i64 .i64 (n : Int) (n : Int) (by omega) (Int.le_refl _) (by rw [hz2]; omega) (by omega)
  rw [Int.toNat_natCast] at h
  refine ⟨_, h, fun i hi' => ?_, Ext.alloc _ _, by simp⟩
  have hi2 : i < n := by simpa using hi'
  refine ⟨?_, World.frozen?_alloc_new _ _ _ _⟩
  rw [World.cell?_alloc_new]
  simp [hz1, Value.cells, madeCells, hi2, Nat.mod_one]
/-- '[]byte(s)' -/
theorem conv_bytes (w : World) (s : ByteArray) : ∃ wr cap, (convert 9 48 (.string s)).run Try.prog w = .ok (.slice (some ⟨w.heap.size, 0, none⟩) s.size cap) wr ∧ Row wr w.heap.size s.data.toList ∧ Ext w wr ∧ w.heap.size < wr.heap.size := by
  have h := run_bytes_of_string (P := Try.prog) w 9 48 5 s Try.underlying9 Try.underlying48 Try.underlying5
  refine ⟨_, _, h, fun i hi => ?_, (Ext.drew w).trans (Ext.alloc _ _), by simp⟩
  have hi' : i < s.data.size := by rw [Array.length_toList] at hi; exact hi
  have e1 := World.cell?_alloc_mark w.drew (bytesRow s (grownCap w s.size 0 5)) 5 ((bytesRow s (grownCap w s.size 0 5)).size, (bytesRow s (grownCap w s.size 0 5)).size + 1) i
  have e2 := World.frozen?_alloc_mark w.drew (bytesRow s (grownCap w s.size 0 5)) 5 (bytesRow s (grownCap w s.size 0 5)).size ((bytesRow s (grownCap w s.size 0 5)).size + 1) i
  have hr : (bytesRow s (grownCap w s.size 0 5))[i]? = some (.int .u8 (s.data[i].toNat : Int)) := by
    unfold bytesRow
    rw [Array.getElem?_append_left (by rw [Array.size_map]; exact hi')]
    simp
    exact ⟨s.data[i], by simp, rfl⟩
  refine ⟨?_, ?_⟩
  · refine Eq.trans e1 ?_
    rw [hr]; simp
  · refine Eq.trans e2 ?_
    have : i < (bytesRow s (grownCap w s.size 0 5)).size := (Array.getElem?_eq_some_iff.1 hr).1
    simp; omega
/-- 'string(b)' of bytes that lie there. -/
theorem conv_string (w : World) (b cap : Nat) (l : List UInt8) (h : Row w b l) : (convert 48 9 (.slice (some ⟨b, 0, none⟩) l.length cap)).run Try.prog w = .ok (.string ⟨l.toArray⟩) w :=
  run_convert_bytes_back (P := Try.prog) w 48 9 5 ⟨b, 0, none⟩ cap l Try.underlying48 Try.underlying5 Try.underlying9 (by
    intro j hj
    have hp : (⟨b, 0, none⟩ : Addr).add j = ⟨b, j, none⟩ := by unfold Addr.add; split <;> simp_all
    rw [hp]
    exact (h j hj).1)
/-- 'string([]byte{u})' -/
theorem conv_one (w : World) (u : UInt8) (c : Nat) : (convert 48 9 (.slice (some ⟨w.heap.size, 0, none⟩) 1 c)).run Try.prog (w.alloc (.cells #[.int .u8 (u.toNat : Int)] 5)) =
    .ok (.string ⟨#[u]⟩) (w.alloc (.cells #[.int .u8 (u.toNat : Int)] 5)) := by
  have := run_convert_bytes_back (P := Try.prog) (w.alloc (.cells #[.int .u8 (u.toNat : Int)] 5)) 48 9 5 ⟨w.heap.size, 0, none⟩ c [u] Try.underlying48 Try.underlying5 Try.underlying9 (by
    intro j hj
    match j, hj with
    | 0, _ => exact World.cell?_alloc_new _ _ _ _)
  exact this
theorem conv_two (w : World) (u v : UInt8) (c : Nat) : (convert 48 9 (.slice (some ⟨w.heap.size, 0, none⟩) 2 c)).run Try.prog (w.alloc (.cells #[.int .u8 (u.toNat : Int), .int .u8 (v.toNat : Int)] 5)) =
    .ok (.string ⟨#[u, v]⟩) (w.alloc (.cells #[.int .u8 (u.toNat : Int), .int .u8 (v.toNat : Int)] 5)) := by
  have := run_convert_bytes_back (P := Try.prog) (w.alloc (.cells #[.int .u8 (u.toNat : Int), .int .u8 (v.toNat : Int)] 5)) 48 9 5 ⟨w.heap.size, 0, none⟩ c [u, v] Try.underlying48 Try.underlying5 Try.underlying9 (by
    intro j hj
    match j, hj with
    | 0, _ => exact World.cell?_alloc_new _ _ _ _
    | 1, _ => exact World.cell?_alloc_new _ _ _ _)
  exact this
end Go.Proofs.Ytbnpldilkkhgmaa
