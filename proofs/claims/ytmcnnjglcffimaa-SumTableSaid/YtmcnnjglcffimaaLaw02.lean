/- Contracts that the statements of layer 2 use, and wakes, in the form: the answer, and a world with more memory. -/
import Derived.Test.YtmcnnjglcffimaaRefSum
import Derived.Test.YtmcnnjglcffimaaDrift
import Derived.WalkSmall
namespace Go.Proofs.Ytmcnnjglcffimaa
open Go.RowKit
theorem TabAt.lt {w : World} {b : Nat} (h : TabAt w b) : b < w.heap.size := World.block_lt_of_cell? w _ (h 0 (by omega))
theorem TabAt.ext {w w' : World} {b : Nat} (h : TabAt w b) (e : Ext w w') : TabAt w' b := fun i hi => (e.cell (p := ⟨b, i, none⟩) h.lt).trans (h i hi)
def TabPtr (v : Value) (w : World) : Prop := ∃ b, v = .pointer (some ⟨b, 0, none⟩) ∧ TabAt w b
theorem TabPtr.ext {v : Value} {w w' : World} (h : TabPtr v w) (e : Ext w w') : TabPtr v w' := let ⟨b, h1, h2⟩ := h; ⟨b, h1, h2.ext e⟩
theorem make_ext (w : World) : Calls Try.prog 13 #[] w fun e w' => ∃ b, e = .returned (.pointer (some ⟨b, 0, none⟩)) ∧ TabAt w' b ∧ Ext w w' :=
  (make_any w).mono fun _ _ ⟨h1, h2, h3, _⟩ => ⟨_, h1, h2, h3⟩
theorem of_zero (b : Nat) (w : World) : Calls Try.prog 15 #[.pointer (some ⟨b, 0, none⟩), .slice none 0 0] w fun e w' => e = .returned (.int .u32 (Crc.sum [] : Nat)) ∧ Ext w w' :=
  (of_none b w).mono fun _ _ ⟨h1, h2⟩ => ⟨h1, h2 ▸ Ext.refl _⟩
theorem of_one (b pb c : Nat) (s : ByteArray) (w : World) (ht : TabAt w b) (hs : s.size ≤ maxLen) (h0 : w.cell? ⟨pb, 0, none⟩ = some (.string s)) :
    Calls Try.prog 15 #[.pointer (some ⟨b, 0, none⟩), .slice (some ⟨pb, 0, none⟩) 1 c] w fun e w' => e = .returned (.int .u32 (Crc.sum s.data.toList)) ∧ Ext w w' :=
  (of_any b pb 0 c [s] w ht (by simp) (by simpa using hs) (by
    intro i h
    match i, h with
    | 0, _ => simpa using h0)).mono fun _ _ ⟨h1, _, h2⟩ => ⟨h1, h2 ▸ Ext.drewN _ _⟩
theorem of_two (b pb c : Nat) (s t : ByteArray) (w : World) (ht : TabAt w b) (hs : s.size ≤ maxLen) (hs' : t.size ≤ maxLen) (h0 : w.cell? ⟨pb, 0, none⟩ = some (.string s)) (h1 : w.cell? ⟨pb, 1, none⟩ = some (.string t)) :
    Calls Try.prog 15 #[.pointer (some ⟨b, 0, none⟩), .slice (some ⟨pb, 0, none⟩) 2 c] w fun e w' => e = .returned (.int .u32 (Crc.sum (s.data.toList ++ t.data.toList))) ∧ Ext w w' :=
  (of_any b pb 0 c [s, t] w ht (by simp) (by simpa using ⟨hs, hs'⟩) (by
    intro i h
    match i, h with
    | 0, _ => simpa using h0
    | 1, _ => simpa using h1)).mono fun _ _ ⟨h1, _, h2⟩ => ⟨by rw [h1, Crc.ofs_two], h2 ▸ Ext.drewN _ _⟩
theorem on_ext (b : Nat) (check : Nat) (more : ByteArray) (w : World) (hm : more.size ≤ maxLen) (hc : check < 4294967296) (ht : TabAt w b) :
    Calls Try.prog 17 #[.pointer (some ⟨b, 0, none⟩), .int .u32 check, .string more] w fun e w' => e = .returned (.int .u32 (Crc.on check more.data.toList)) ∧ Ext w w' :=
  (on_any b check more w hm hc ht).mono fun _ _ ⟨h1, _, h2⟩ => ⟨h1, h2 ▸ Ext.drewN _ _⟩
/-- The check of texts in a slice that was made just now. -/
theorem of_one_new (b T c r : Nat) (s : ByteArray) (w : World) (ht : TabAt w b) (hs : s.size ≤ maxLen) (hr : Crc.sum s.data.toList = r) :
    Calls Try.prog 15 #[.pointer (some ⟨b, 0, none⟩), .slice (some ⟨w.heap.size, 0, none⟩) 1 c] (w.alloc (.cells #[.string s] T)) fun e w' => e = .returned (.int .u32 r) ∧ TabAt w' b ∧ Ext w w' :=
  (of_one b _ c s _ (ht.ext (Ext.alloc _ _)) hs (World.cell?_alloc_new _ _ _ _)).mono fun _ _ ⟨h1, h2⟩ => ⟨by rw [h1, hr], (ht.ext (Ext.alloc _ _)).ext h2, (Ext.alloc _ _).trans h2⟩
theorem of_two_new (b T c r : Nat) (s t : ByteArray) (w : World) (ht : TabAt w b) (hs : s.size ≤ maxLen) (hs' : t.size ≤ maxLen) (hr : Crc.sum (s.data.toList ++ t.data.toList) = r) :
    Calls Try.prog 15 #[.pointer (some ⟨b, 0, none⟩), .slice (some ⟨w.heap.size, 0, none⟩) 2 c] (w.alloc (.cells #[.string s, .string t] T)) fun e w' => e = .returned (.int .u32 r) ∧ TabAt w' b ∧ Ext w w' :=
  (of_two b _ c s t _ (ht.ext (Ext.alloc _ _)) hs hs' (World.cell?_alloc_new _ _ _ _) (World.cell?_alloc_new _ _ _ _)).mono fun _ _ ⟨h1, h2⟩ => ⟨by rw [h1, hr], (ht.ext (Ext.alloc _ _)).ext h2, (Ext.alloc _ _).trans h2⟩
theorem on_new (b r check : Nat) (more : ByteArray) (w : World) (ht : TabAt w b) (hm : more.size ≤ maxLen) (hc : check < 4294967296) (hr : Crc.on check more.data.toList = r) :
    Calls Try.prog 17 #[.pointer (some ⟨b, 0, none⟩), .int .u32 check, .string more] w fun e w' => e = .returned (.int .u32 r) ∧ TabAt w' b ∧ Ext w w' :=
  (on_ext b check more w hm hc ht).mono fun _ _ ⟨h1, h2⟩ => ⟨by rw [h1, hr], ht.ext h2, h2⟩
/-- Of a nil table. -/
theorem on_nil (check : Int) (more : ByteArray) (w : World) : Calls Try.prog 17 #[.pointer none, .int .u32 check, .string more] w fun e w' => e = .returned (.int .u32 0) ∧ w = w' := by
  go_enter Try.func17, Try.ntmps17
  go_wp2
  go_ret
  exact ⟨rfl, rfl⟩
theorem of_nil_new (T c : Nat) (s : ByteArray) (w : World) :
    Calls Try.prog 15 #[.pointer none, .slice (some ⟨w.heap.size, 0, none⟩) 1 c] (w.alloc (.cells #[.string s] T)) fun e w' => e = .returned (.int .u32 0) ∧ Ext w w' := by
  go_enter Try.func15, Try.ntmps15
  go_wp2_with fail
  refine wp_loop_rounds 2 ?_
  rw [rounds_succ]
  go_wp2_with (go_at_call 17; refine (on_nil _ _ _).mono ?_; rintro e w' ⟨rfl, rfl⟩)
  rw [rounds_succ]
  go_wp2_with fail
  go_ret
  exact ⟨rfl, Ext.alloc _ _⟩
theorem bytes_append (A B : ByteArray) : (A ++ B).data.toList = A.data.toList ++ B.data.toList := by simp
theorem sum_append (A B : ByteArray) : Crc.sum (A ++ B).data.toList = Crc.sum (A.data.toList ++ B.data.toList) := by rw [bytes_append]
theorem on_sum (A B : ByteArray) : Crc.on (Crc.sum A.data.toList) B.data.toList = Crc.sum (A.data.toList ++ B.data.toList) := Crc.on_on 0 (by omega) _ _
theorem crc_example : Crc.sum (([49, 50, 51, 52] : List UInt8) ++ [53, 54, 55, 56, 57]) = 3808858755 := by decide +kernel
theorem crc_empty : Crc.sum [] = 0 := by decide +kernel
theorem wakes02 (w : World) : Calls Try.prog 14 #[] w fun e w' => e = .returned (.bool true) ∧ Ext w w' := by
  go_enter Try.func14, Try.ntmps14
  go_wp2_with fail
  refine (make_ext _).mono ?_
  rintro e w1 ⟨b, rfl, hT, he⟩
  go_wp2_with fail
  have hT1 := hT.ext (Ext.alloc w1 (.cells #[.string ⟨#[49, 50, 51, 52]⟩, .string ⟨#[53, 54, 55, 56, 57]⟩] 9))
  have he1 := he.trans (Ext.alloc w1 (.cells #[.string ⟨#[49, 50, 51, 52]⟩, .string ⟨#[53, 54, 55, 56, 57]⟩] 9))
  refine (of_two b _ _ _ _ _ hT1 (by decide) (by decide) (World.cell?_alloc_new _ _ _ _) (World.cell?_alloc_new _ _ _ _)).mono ?_
  rintro e w2 ⟨rfl, he2⟩
  have hT2 := hT1.ext he2
  have he3 := he1.trans he2
  rw [crc_example]
  go_wp2_with fail
  refine (of_zero b _).mono ?_
  rintro e w3 ⟨rfl, he4⟩
  rw [crc_empty]
  go_wp2_with fail
  go_ret
  exact ⟨rfl, he3.trans he4⟩
end Go.Proofs.Ytmcnnjglcffimaa
