/- A superblock's image tells it again; contracts of law05.of, law05.tame. -/
import Derived.Test.YtbnpldilkkhgmaaSupD
import Derived.Test.YtbnpldilkkhgmaaEnvK
namespace Go.Proofs.Ytbnpldilkkhgmaa
open Go.RowKit
theorem tail3_of (h s c : Nat) (hh : h < 256) (hs : s < 18446744073709551616) (hc : c < 4294967296) : tail3 (Sup.tl3 h s c) = ⟨h, s, c⟩ := by
  have L := fun w n => Lend.put_length w n
  have e : Sup.tl3 h s c = Lend.put 1 h ++ (Lend.put 8 s ++ (Lend.put 4 c ++ [])) := rfl
  rw [e]
  have d1 : (Lend.put 1 h ++ (Lend.put 8 s ++ (Lend.put 4 c ++ []))).drop 1 = Lend.put 8 s ++ (Lend.put 4 c ++ []) := List.drop_left' (L 1 h)
  have d9 : (Lend.put 1 h ++ (Lend.put 8 s ++ (Lend.put 4 c ++ []))).drop 9 = Lend.put 4 c ++ [] := by
    rw [show 9 = 1 + 8 from rfl, ← List.drop_drop, d1]; exact List.drop_left' (L 8 s)
  unfold tail3
  rw [d1, d9, List.take_left' (L 1 h), List.take_left' (L 8 s), List.take_left' (L 4 c)]
  simp only [Lend.le_put]
  congr 1
  · exact Nat.mod_eq_of_lt hh
  · exact Nat.mod_eq_of_lt hs
  · exact Nat.mod_eq_of_lt hc
theorem payT_list (X r u h s c : Nat) : (payT X r u h s c).data.toList = Lend.put 4 X ++ (Lend.put 8 r ++ (Lend.put 4 u ++ Sup.tl3 h s c)) := by
  unfold payT
  rw [ByteArray.data_append, Array.toList_append]
  show (Lend.put 4 X ++ (Lend.put 8 r ++ (Lend.put 4 u ++ []))) ++ Sup.tl3 h s c = _
  simp only [List.append_assoc, List.append_nil]
theorem payT_three {X r u : Nat} (h s c : Nat) (hX : X < 4294967296) (hr : r < 18446744073709551616) (hu : u < 4294967296) : three (payT X r u h s c).data.toList = ⟨X, r, u⟩ := by
  rw [payT_list]; exact three_of X r u _ hX hr hu
theorem payT_tail {X r u h s c : Nat} (hh : h < 256) (hs : s < 18446744073709551616) (hc : c < 4294967296) : tail3 ((payT X r u h s c).data.toList.drop 16) = ⟨h, s, c⟩ := by
  have L := fun w n => Lend.put_length w n
  have e : (payT X r u h s c).data.toList.drop 16 = Sup.tl3 h s c := by
    rw [payT_list, ← List.append_assoc, ← List.append_assoc]
    exact List.drop_left' (by simp [L])
  rw [e]; exact tail3_of h s c hh hs hc
/-- a superblock's image of 128 bytes -/
def supT (g X r u h s c : Nat) : ByteArray := imgT 128 ⟨1, ((g % 2 : Nat) : Int), g⟩ (payT X r u h s c) (sumT 128 ⟨1, ((g % 2 : Nat) : Int), g⟩ (payT X r u h s c))
theorem sup_head (g : Nat) : Env.okHead ⟨1, ((g % 2 : Nat) : Int), g⟩ = true := Env.okHead_iff.2 ⟨⟨Nat.le_refl 1, (by omega : 1 ≤ 5)⟩, by simp only; omega⟩
theorem supT_size (g X r u h s c : Nat) : (supT g X r u h s c).size = 128 := imgT_size (by rw [payT_size]; decide)
theorem sup_image (b g X r u h s c : Nat) (w : World) (ht : TabAt w b) (hg : g < 18446744073709551616) (hX : X ≤ 2147483647) (hr : r < 18446744073709551616) (hu : u < 4294967296) (hs : s < 18446744073709551616) (hc : c < 4294967296) (hb : Sup.okB g r (h : Int) = true) :
    Calls Try.prog 26 #[.agg #[.int .u64 (g : Int), .int .i64 (X : Int), .int .u64 (r : Int), .int .u32 (u : Int), .int .i64 (h : Int), .int .u64 (s : Int), .int .u32 (c : Int)], .pointer (some ⟨b, 0, none⟩), .int .i64 128] w fun e w' => e = .returned (.tuple #[.string (supT g X r u h s c), .int .i64 0]) ∧ Ext w w' :=
  image_gen b g X r u h s c 128 w ht hX hr hu hs hc hb _ ((g % 2 : Nat) : Int) g (sumT 128 ⟨1, ((g % 2 : Nat) : Int), g⟩ (payT X r u h s c)) 0 fun w ht =>
    seal_ok b 128 1 (g % 2) g (payT X r u h s c) w ht (sup_head g) hg (by rw [payT_size]; decide) (by decide) (by decide)
theorem sup_opened {g X r u h s c : Nat} (hg : g < 18446744073709551616) : openAns (supT g X r u h s c) = .tuple #[.agg (hdC 1 ((g % 2 : Nat) : Int) g), .string (payT X r u h s c), .int .i64 0] :=
  (open_img (size := 128) (p := payT X r u h s c) (sup_head g) hg (by rw [payT_size]; decide) (by decide) (by decide)).1
theorem sup_open (b g X r u h s c : Nat) (w : World) (ht : TabAt w b) (hg : g < 18446744073709551616) (hX : X ≤ 2147483647) (hr : r < 18446744073709551616) (hu : u < 4294967296) (hs : s < 18446744073709551616) (hc : c < 4294967296) (hb : Sup.okB g r (h : Int) = true) :
    Calls Try.prog 30 #[.pointer (some ⟨b, 0, none⟩), .string (supT g X r u h s c)] w fun e w' => e = .returned (.tuple #[.agg (blkC g (X : Nat) r u (h : Nat) s c), .int .i64 0]) ∧ Ext w w' := by
  have hh := (Sup.okB_iff.1 hb).2
  have h1 := sopen_good b 1 (g % 2) g (supT g X r u h s c) (payT X r u h s c) w ht (by rw [supT_size]; unfold maxLen; omega) (by rw [payT_size]; unfold maxLen; omega) (sup_opened hg)
  unfold sopenAns at h1
  rw [payT_three h s c (by omega) hr hu, payT_tail (by omega) hs hc] at h1
  simp only at h1
  rw [if_pos ⟨⟨⟨payT_size _ _ _ _ _ _, hX⟩, hb⟩, trivial, trivial⟩] at h1
  exact h1
theorem of05_any (g : Nat) (a : Int) (r u : Nat) (h : Int) (s c : Nat) (w : World) : Calls Try.prog 25 #[.agg #[.int .u64 (g : Int), .int .i64 a, .int .u64 (r : Int), .int .u32 (u : Int), .int .i64 h, .int .u64 (s : Int), .int .u32 (c : Int)]] w fun e w' =>
    e = .returned (.agg #[.int .u64 (g : Int), .int .i64 a, .int .u64 (r : Int), .int .u32 (u : Int), .int .i64 h, .int .u64 (s : Int), .int .u32 (c : Int)]) ∧ Ext w w' := by
  go_enter Try.func25, Try.ntmps25
  go_wp2_with fail
  (try simp only [Exit.inBlock, Exit.then])
  refine bodyPost_ret (results_cell_row Try.results25 _ _ (w.heap.size + 1) 70 _ (0, 0) _ rfl (RowIs.new2 _ _ _ _) Try.underlying70 rfl (by kernel_rfl)) rfl ?_
  exact ⟨rfl, (Ext.alloc _ _).trans (Ext.alloc _ _)⟩
def tameG (g : Nat) : Nat := max 1 g
def tameR (g r : Nat) : Nat := min r (tameG g)
def tameH (h : Int) : Nat := (1 + max 0 h % 32).toNat
theorem tame_okB (g r : Nat) (h : Int) : Sup.okB (tameG g) (tameR g r) ((tameH h : Nat) : Int) = true :=
  Sup.okB_iff.2 ⟨⟨⟨by unfold tameG; omega, by unfold tameR; omega⟩, by unfold tameH; omega⟩, by unfold tameH; omega⟩
set_option maxRecDepth 100000 in
set_option maxHeartbeats 2000000 in
theorem tame05_any (g : Nat) (a : Int) (r u : Nat) (h : Int) (s c : Nat) (w : World) (ha : a ≤ 9223372036854775807) (hh : h ≤ 9223372036854775807) : Calls Try.prog 24 #[.agg #[.int .u64 (g : Int), .int .i64 a, .int .u64 (r : Int), .int .u32 (u : Int), .int .i64 h, .int .u64 (s : Int), .int .u32 (c : Int)]] w fun e w' =>
    e = .returned (.agg #[.int .u64 ((tameG g : Nat) : Int), .int .i64 ((tameX a : Nat) : Int), .int .u64 ((tameR g r : Nat) : Int), .int .u32 (u : Int), .int .i64 ((tameH h : Nat) : Int), .int .u64 (s : Int), .int .u32 (c : Int)]) ∧ Ext w w' := by
  have e1 : max 1 (g : Int) = ((tameG g : Nat) : Int) := by unfold tameG; omega
  have e2 : max 0 a % 2147483648 = ((tameX a : Nat) : Int) := by unfold tameX; omega
  have e3 : min (r : Int) ((tameG g : Nat) : Int) = ((tameR g r : Nat) : Int) := by unfold tameR; omega
  have e4 : 1 + max 0 h % 32 = ((tameH h : Nat) : Int) := by unfold tameH; omega
  generalize tameR g r = R at *
  generalize tameG g = G at *
  generalize tameX a = X at *
  generalize tameH h = H at *
  go_enter Try.func24, Try.ntmps24
  go_wp2_with fail
  (try simp only [Exit.inBlock, Exit.then])
  refine bodyPost_ret (results_cell_row Try.results24 _ _ (w.heap.size + 1) 65 _ (0, 0) _ rfl (RowIs.new2 _ _ _ _) Try.underlying65 rfl (by kernel_rfl)) rfl ?_
  exact ⟨rfl, (Ext.alloc _ _).trans (Ext.alloc _ _)⟩
end Go.Proofs.Ytbnpldilkkhgmaa
