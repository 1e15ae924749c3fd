/- What the statements of layer 1 use, and wakes. -/
import Derived.Test.YtmcnnjglcffimaaLendRR
import Derived.WalkSmall
namespace Go.Proofs.Ytmcnnjglcffimaa
open Go.RowKit
theorem ints_new2 (w : World) (x y : Int) (k : IntKind) (T : TypeId) : Ints k (w.alloc (.cells #[.int k x, .int k y] T)) (some ⟨w.heap.size, 0, none⟩) [x, y] := by
  intro i h
  refine ⟨w.heap.size, 0, rfl, ?_⟩
  match i, h with
  | 0, _ => exact World.cell?_alloc_new _ _ _ _
  | 1, _ => exact World.cell?_alloc_new _ _ _ _
theorem wakes_write : wAns [2, 1] [2, 1] = .tuple #[.string ⟨#[2, 0, 1]⟩, .bool true] := by
  rw [wAns_some (l := [2, 0, 1]) (by decide +kernel)]
theorem wakes_nums : Lend.nums [2, 1] [2, 0, 1, 122] = some ([2, 1], [122]) := by decide +kernel
theorem wakes_split : splitAns ⟨#[2, 97, 98, 99]⟩ = .tuple #[.string ⟨#[97, 98]⟩, .string ⟨#[99]⟩, .bool true] := by
  have h : Lend.split [2, 97, 98, 99] = some ([97, 98], [99]) := by decide +kernel
  have e : splitAns ⟨#[2, 97, 98, 99]⟩ = match Lend.split [2, 97, 98, 99] with
    | some p => .tuple #[.string ⟨p.1.toArray⟩, .string ⟨p.2.toArray⟩, .bool true]
    | none => .tuple #[.string ⟨#[]⟩, .string ⟨#[]⟩, .bool false] := rfl
  rw [e, h]
theorem small21 : SmallN [2, 1] := by intro n hn; simp at hn; omega
theorem alloc_size (w : World) (o : Obj) : (w.alloc o).heap.size = w.heap.size + 1 := by simp
theorem write_new (w : World) (T U : TypeId) (c d : Nat) : Calls Try.prog 19 #[.slice (some ⟨w.heap.size, 0, none⟩) 2 c, .slice (some ⟨w.heap.size + 1, 0, none⟩) 2 d] ((w.alloc (.cells #[.int .i64 2, .int .i64 1] T)).alloc (.cells #[.int .u64 2, .int .u64 1] U)) fun e w' =>
    e = .returned (.tuple #[.string ⟨#[2, 0, 1]⟩, .bool true]) ∧ Ext w w' := by
  have e1 := (Ext.alloc w (.cells #[.int .i64 2, .int .i64 1] T))
  have h1 := ints_new2 w 2 1 .i64 T
  generalize hw1 : w.alloc (.cells #[.int .i64 2, .int .i64 1] T) = w1 at *
  have hz : w1.heap.size = w.heap.size + 1 := by rw [← hw1, alloc_size]
  rw [← hz]
  have h := write_any [2, 1] [2, 1] (some ⟨w.heap.size, 0, none⟩) (some ⟨w1.heap.size, 0, none⟩) c d (w1.alloc (.cells #[.int .u64 2, .int .u64 1] U)) (by decide) small21 (h1.ext (Ext.alloc _ _)) (ints_new2 w1 2 1 .u64 U)
  rw [wakes_write] at h
  exact h.mono fun e w' ⟨h1, h2⟩ => ⟨h1, e1.trans ((Ext.alloc _ _).trans h2)⟩
theorem read_new (w : World) (T : TypeId) (c : Nat) : Calls Try.prog 24 #[.slice (some ⟨w.heap.size, 0, none⟩) 2 c, .string ⟨#[2, 0, 1, 122]⟩] (w.alloc (.cells #[.int .i64 2, .int .i64 1] T)) fun e w' =>
    ∃ b o d, e = .returned (.tuple #[.slice (some ⟨b, o, none⟩) 2 d, .string ⟨#[122]⟩, .bool true]) ∧ w'.cell? ⟨b, o, none⟩ = some (.int .u64 2) ∧ w'.cell? ⟨b, o + 1, none⟩ = some (.int .u64 1) ∧ Ext w w' := by
  refine (read_any [2, 1] ⟨#[2, 0, 1, 122]⟩ _ c _ (by decide) (by decide) (ints_new2 w 2 1 .i64 T)).mono fun e w' h => ?_
  obtain ⟨a, d, rfl, h1, h2⟩ := readPost_some wakes_nums h
  obtain ⟨b, o, rfl, h3⟩ := h1.at 0 (by decide)
  obtain ⟨b', o', h5, h4⟩ := h1.at 1 (by decide)
  cases h5
  exact ⟨b, o, d, rfl, h3, h4, (Ext.alloc _ _).trans h2⟩
theorem size_new (w : World) (T : TypeId) (c : Nat) : Calls Try.prog 22 #[.slice (some ⟨w.heap.size, 0, none⟩) 2 c] (w.alloc (.cells #[.int .i64 8, .int .i64 1] T)) fun e w' =>
    e = .returned (.int .i64 9) ∧ Ext w w' :=
  (size_any [8, 1] _ c _ (by decide) (ints_new2 w 8 1 .i64 T)).mono fun e w' ⟨h1, h2⟩ => ⟨h1.trans (by rw [show Lend.size [8, 1] = 9 by decide +kernel]; rfl), h2 ▸ Ext.alloc _ _⟩
theorem Ints.take {k : IntKind} {w : World} {a : Option Addr} {xs : List Int} (h : Ints k w a xs) (n : Nat) : Ints k w a (xs.take n) := fun i hi => by
  have hi' : i < xs.length := by rw [List.length_take] at hi; omega
  obtain ⟨b, o, h1, h2⟩ := h i hi'
  exact ⟨b, o, h1, by rw [h2]; simp⟩
theorem Nums.take {w : World} {a : Option Addr} {ns : List Nat} (h : Nums w a ns) (n : Nat) : Nums w a (ns.take n) := by
  unfold Nums; rw [List.map_take]; exact Ints.take h n
theorem SmallN.take {ns : List Nat} (h : SmallN ns) (n : Nat) : SmallN (ns.take n) := fun x hx => h x (List.mem_of_mem_take hx)
theorem take_size {α : Type} (l : List α) (n : Nat) : (l.take n).length ≤ n := by rw [List.length_take]; omega
theorem splitAns_tuple (s : ByteArray) : ∃ x y z, splitAns s = .tuple #[.string x, .string y, .bool z] := by
  unfold splitAns; split
  · exact ⟨_, _, _, rfl⟩
  · exact ⟨_, _, _, rfl⟩
theorem wAns_tuple (ws : List Int) (ns : List Nat) : ∃ x z, wAns ws ns = .tuple #[.string x, .bool z] := by
  unfold wAns writeAns; split
  · exact ⟨_, _, rfl⟩
  · exact ⟨_, _, rfl⟩
theorem splitAns_joined (A B : ByteArray) (h : A.size < 256) : splitAns (⟨#[UInt8.ofNat A.size]⟩ ++ A ++ B) = .tuple #[.string A, .string B, .bool true] := by
  have e1 : (⟨#[UInt8.ofNat A.size]⟩ ++ A ++ B : ByteArray).data.toList = UInt8.ofNat A.size :: (A.data.toList ++ B.data.toList) := by simp
  have e2 : (UInt8.ofNat A.size).toNat = A.size := UInt8.toNat_ofNat_of_lt h
  have e3 : A.data.toList.length = A.size := by simp
  unfold splitAns
  rw [e1, Lend.split, e2, if_pos (by simp)]
  simp only [← e3, List.take_left, List.drop_left]
set_option maxRecDepth 100000 in
set_option maxHeartbeats 1000000 in
theorem wakes01 (w : World) : Calls Try.prog 21 #[] w fun e w' => e = .returned (.bool true) ∧ Ext w w' := by
  go_enter Try.func21, Try.ntmps21
  go_wp2_with fail
  refine (write_new w _ _ _ _).mono ?_
  rintro e w1 ⟨rfl, he1⟩
  go_wp2_with fail
  refine (read_new w1 _ _).mono ?_
  rintro e w2 ⟨b, o, d, rfl, hc0, hc1, he2⟩
  go_wp2_with fail
  refine (split_any _ _ (by decide)).mono ?_
  rw [wakes_split]
  rintro e w3 ⟨rfl, he3⟩
  have hd0 := cell_ext hc0 he3
  have hd1 := cell_ext hc1 he3
  go_wp2_with fail
  refine (size_new w3 _ _).mono ?_
  rintro e w4 ⟨rfl, he4⟩
  go_wp2_with fail
  go_ret
  exact ⟨rfl, he1.trans (he2.trans (he3.trans he4))⟩
end Go.Proofs.Ytmcnnjglcffimaa
