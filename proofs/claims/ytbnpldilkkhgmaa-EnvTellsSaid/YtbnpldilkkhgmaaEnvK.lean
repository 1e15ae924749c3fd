/- An image tells its head, payload and check again. -/
import Derived.Test.YtbnpldilkkhgmaaEnvJ
namespace Go.Proofs.Ytbnpldilkkhgmaa
open Go.RowKit
namespace Env
theorem six_of (k n X g c : Nat) (r : List UInt8) (hk : k < 256) (hn : n < 65536) (hX : X < 4294967296) (hg : g < 18446744073709551616) (hc : c < 4294967296) :
    six (Lend.put 1 k ++ (Lend.put 1 0 ++ (Lend.put 2 n ++ (Lend.put 4 X ++ (Lend.put 8 g ++ (Lend.put 4 c ++ r)))))) = ⟨k, 0, n, X, g, c⟩ := by
  have L := fun w n => Lend.put_length w n
  have d1 : (Lend.put 1 k ++ (Lend.put 1 0 ++ (Lend.put 2 n ++ (Lend.put 4 X ++ (Lend.put 8 g ++ (Lend.put 4 c ++ r)))))).drop 1 = Lend.put 1 0 ++ (Lend.put 2 n ++ (Lend.put 4 X ++ (Lend.put 8 g ++ (Lend.put 4 c ++ r)))) := List.drop_left' (L 1 k)
  have d2 : (Lend.put 1 k ++ (Lend.put 1 0 ++ (Lend.put 2 n ++ (Lend.put 4 X ++ (Lend.put 8 g ++ (Lend.put 4 c ++ r)))))).drop 2 = Lend.put 2 n ++ (Lend.put 4 X ++ (Lend.put 8 g ++ (Lend.put 4 c ++ r))) := by
    rw [show 2 = 1 + 1 from rfl, ← List.drop_drop, d1]; exact List.drop_left' (L 1 0)
  have d4 : (Lend.put 1 k ++ (Lend.put 1 0 ++ (Lend.put 2 n ++ (Lend.put 4 X ++ (Lend.put 8 g ++ (Lend.put 4 c ++ r)))))).drop 4 = Lend.put 4 X ++ (Lend.put 8 g ++ (Lend.put 4 c ++ r)) := by
    rw [show 4 = 2 + 2 from rfl, ← List.drop_drop, d2]; exact List.drop_left' (L 2 n)
  have d8 : (Lend.put 1 k ++ (Lend.put 1 0 ++ (Lend.put 2 n ++ (Lend.put 4 X ++ (Lend.put 8 g ++ (Lend.put 4 c ++ r)))))).drop 8 = Lend.put 8 g ++ (Lend.put 4 c ++ r) := by
    rw [show 8 = 4 + 4 from rfl, ← List.drop_drop, d4]; exact List.drop_left' (L 4 X)
  have d16 : (Lend.put 1 k ++ (Lend.put 1 0 ++ (Lend.put 2 n ++ (Lend.put 4 X ++ (Lend.put 8 g ++ (Lend.put 4 c ++ r)))))).drop 16 = Lend.put 4 c ++ r := by
    rw [show 16 = 8 + 8 from rfl, ← List.drop_drop, d8]; exact List.drop_left' (L 8 g)
  unfold six
  rw [d1, d2, d4, d8, d16, List.take_left' (L 1 k), List.take_left' (L 1 0), List.take_left' (L 2 n), List.take_left' (L 4 X), List.take_left' (L 8 g), List.take_left' (L 4 c)]
  simp only [Lend.le_put]
  congr 1
  · exact Nat.mod_eq_of_lt hk
  · exact Nat.mod_eq_of_lt hn
  · exact Nat.mod_eq_of_lt hX
  · exact Nat.mod_eq_of_lt hg
  · exact Nat.mod_eq_of_lt hc
theorem img_drop4 (size : Nat) (h : Hd) (p : List UInt8) (c : Nat) : (img size h p c).drop 4 = Lend.put 1 h.kind ++ (Lend.put 1 0 ++ (Lend.put 2 p.length ++ (Lend.put 4 h.addr.toNat ++ (Lend.put 8 h.gen ++ (Lend.put 4 c ++ (p ++ List.replicate (size - 24 - p.length) 0)))))) := by
  have e : img size h p c = magic ++ (Lend.put 1 h.kind ++ (Lend.put 1 0 ++ (Lend.put 2 p.length ++ (Lend.put 4 h.addr.toNat ++ (Lend.put 8 h.gen ++ (Lend.put 4 c ++ (p ++ List.replicate (size - 24 - p.length) 0))))))) := by
    unfold img
    show magic ++ (Lend.put 1 h.kind ++ (Lend.put 1 0 ++ (Lend.put 2 p.length ++ (Lend.put 4 h.addr.toNat ++ (Lend.put 8 h.gen ++ []))))) ++ _ ++ _ ++ _ = _
    simp only [List.append_assoc, List.append_nil]
  rw [e]
  exact List.drop_left' rfl
theorem img_prefix (size : Nat) (h : Hd) (p : List UInt8) (c : Nat) : Lib.hasPrefix (img size h p c) magic = true := by
  unfold Lib.hasPrefix img
  rw [List.isPrefixOf_iff_prefix]
  simp only [List.append_assoc]
  exact List.prefix_append _ _
end Env
theorem img_payload {size : Nat} {h : Env.Hd} {p : ByteArray} {c : Nat} : (imgT size h p c).extract 24 (24 + p.size) = p := bytes_ext (by
  rw [ext_data, imgT_list]
  unfold Env.img
  have h24 : (Env.magic ++ Lend.cat Env.ws (Env.nums h p.data.toList.length) ++ Lend.put 4 c).length = 24 := by
    rw [List.length_append, List.length_append, Env.cat_len, Lend.put_length]; rfl
  rw [List.append_assoc (_ ++ Lend.put 4 c), List.drop_take, List.drop_left' h24, Nat.add_sub_cancel_left]
  exact List.take_left' (by simp))
theorem parts_img {size k X g c : Nat} {p : ByteArray} (hok : Env.okHead ⟨k, X, g⟩ = true) (hg : g < 18446744073709551616) (hc : c < 4294967296) (hs : 24 + p.size ≤ size) (h1 : 128 ≤ size) (h2 : size ≤ 1024) : Env.parts (imgT size ⟨k, X, g⟩ p c) = some (⟨k, X, g⟩, p, c) := by
  have hb := Env.okHead_iff.1 hok
  simp only at hb
  have hsz := imgT_size (h := ⟨k, X, g⟩) (c := c) hs
  have h6 : Env.six ((imgT size ⟨k, X, g⟩ p c).data.toList.drop 4) = ⟨k, 0, p.size, X, g, c⟩ := by
    rw [imgT_list, Env.img_drop4]
    have := Env.six_of k p.size X g c (p.data.toList ++ List.replicate (size - 24 - p.data.toList.length) 0) (by omega) (by omega) (by omega) hg hc
    simpa using this
  have := parts_yes (s := imgT size ⟨k, X, g⟩ p c) (by rw [imgT_list]; exact Env.img_prefix _ _ _ _) (by rw [hsz]; exact Env.okSize_iff.2 (by omega)) (by rw [h6]; simp only; rw [hok, Bool.true_and]; exact decide_eq_true (by omega))
  rw [this, h6]
  simp only [img_payload]
/-- an image that was sealed -/
theorem open_img {size k X g : Nat} {p : ByteArray} (hok : Env.okHead ⟨k, X, g⟩ = true) (hg : g < 18446744073709551616) (hs : 24 + p.size ≤ size) (h1 : 128 ≤ size) (h2 : size ≤ 1024) :
    openAns (imgT size ⟨k, X, g⟩ p (sumT size ⟨k, X, g⟩ p)) = .tuple #[.agg (hdC k X g), .string p, .int .i64 0] ∧
    ∀ (a : Int) (g' c' : Nat), meetsB a g' c' (imgT size ⟨k, X, g⟩ p (sumT size ⟨k, X, g⟩ p)) = ((((X : Int) == a) && (g == g')) && (sumT size ⟨k, X, g⟩ p == c')) := by
  have hsz := imgT_size (h := ⟨k, X, g⟩) (c := sumT size ⟨k, X, g⟩ p) hs
  have hp := parts_img (c := sumT size ⟨k, X, g⟩ p) hok hg (Crc.sum_lt _) hs h1 h2
  constructor
  · unfold openAns; rw [hp]; simp only [hsz, if_true]
  · intro a g' c'; unfold meetsB; rw [hp]; simp only [hsz, if_true]
end Go.Proofs.Ytbnpldilkkhgmaa
