/- Contracts of sum.Make and of Of at one text, in the form: the answer, and a world with more memory. -/
import Derived.Test.YtbnpldilkkhgmaaSumOf
import Derived.Test.YtbnpldilkkhgmaaSumMake
import Derived.Test.YtbnpldilkkhgmaaBytes
import Derived.WalkSmall
namespace Go.Proofs.Ytbnpldilkkhgmaa
open Go.RowKit
theorem TabAt.lt {w : World} {b : Nat} (h : TabAt w b) : b < w.heap.size := World.block_lt_of_cell? w _ (h 0 (by omega))
theorem TabAt.ext {w w' : World} {b : Nat} (h : TabAt w b) (e : Ext w w') : TabAt w' b := fun i hi => (e.cell (p := ⟨b, i, none⟩) h.lt).trans (h i hi)
def TabPtr (v : Value) (w : World) : Prop := ∃ b, v = .pointer (some ⟨b, 0, none⟩) ∧ TabAt w b
theorem TabPtr.ext {v : Value} {w w' : World} (h : TabPtr v w) (e : Ext w w') : TabPtr v w' := let ⟨b, h1, h2⟩ := h; ⟨b, h1, h2.ext e⟩
theorem make_ext (w : World) : Calls Try.prog 11 #[] w fun e w' => ∃ b, e = .returned (.pointer (some ⟨b, 0, none⟩)) ∧ TabAt w' b ∧ Ext w w' :=
  (make_any w).mono fun _ _ ⟨h1, h2, h3, _⟩ => ⟨_, h1, h2, h3⟩
theorem of_one (b pb c : Nat) (s : ByteArray) (w : World) (ht : TabAt w b) (hs : s.size ≤ maxLen) (h0 : w.cell? ⟨pb, 0, none⟩ = some (.string s)) :
    Calls Try.prog 36 #[.pointer (some ⟨b, 0, none⟩), .slice (some ⟨pb, 0, none⟩) 1 c] w fun e w' => e = .returned (.int .u32 (Crc.sum s.data.toList)) ∧ Ext w w' :=
  (sumof_any b pb 0 c [s] w ht (by simp) (by simpa using hs) (by
    intro i h
    match i, h with
    | 0, _ => simpa using h0)).mono fun _ _ ⟨h1, _, h2⟩ => ⟨h1, h2 ▸ Ext.drewN _ _⟩
/-- The check of texts in a slice that was made just now. -/
theorem of_one_new (b T c r : Nat) (s : ByteArray) (w : World) (ht : TabAt w b) (hs : s.size ≤ maxLen) (hr : Crc.sum s.data.toList = r) :
    Calls Try.prog 36 #[.pointer (some ⟨b, 0, none⟩), .slice (some ⟨w.heap.size, 0, none⟩) 1 c] (w.alloc (.cells #[.string s] T)) fun e w' => e = .returned (.int .u32 r) ∧ TabAt w' b ∧ Ext w w' :=
  (of_one b _ c s _ (ht.ext (Ext.alloc _ _)) hs (World.cell?_alloc_new _ _ _ _)).mono fun _ _ ⟨h1, h2⟩ => ⟨by rw [h1, hr], (ht.ext (Ext.alloc _ _)).ext h2, (Ext.alloc _ _).trans h2⟩
end Go.Proofs.Ytbnpldilkkhgmaa
