/- wakes of layer 4. -/
import Derived.Test.YtbnpldilkkhgmaaEnvK
namespace Go.Proofs.Ytbnpldilkkhgmaa
open Go.RowKit
def abc : ByteArray := ⟨#[97, 98, 99]⟩
theorem wakes_head : (imgT 128 ⟨4, ((7 : Nat) : Int), 9⟩ abc (sumT 128 ⟨4, ((7 : Nat) : Int), 9⟩ abc)).extract 0 20 = ⟨#[84, 82, 78, 76, 4, 0, 3, 0, 7, 0, 0, 0, 9, 0, 0, 0, 0, 0, 0, 0]⟩ := bytes_ext (by
  rw [ext_data, imgT_list, List.drop_zero]
  unfold Env.img
  have h20 : (Env.magic ++ Lend.cat Env.ws (Env.nums ⟨4, ((7 : Nat) : Int), 9⟩ abc.data.toList.length)).length = 20 := by rw [List.length_append, Env.cat_len]; rfl
  rw [List.append_assoc, List.append_assoc, List.take_left' h20]
  decide +kernel)
set_option maxRecDepth 100000 in
set_option maxHeartbeats 1000000 in
theorem wakes04 (w : World) : Calls Try.prog 18 #[] w fun e w' => e = .returned (.bool true) ∧ Ext w w' := by
  have hok : Env.okHead ⟨4, ((7 : Nat) : Int), 9⟩ = true := by decide
  have hse := fun b w ht => seal_ok b 128 4 7 9 abc w ht hok (by decide) (by decide) (by decide) (by decide)
  obtain ⟨hop, hme⟩ := open_img (size := 128) (p := abc) hok (by decide) (by decide) (by decide) (by decide)
  have hhd := wakes_head
  have hsz := imgT_size (size := 128) (h := ⟨4, ((7 : Nat) : Int), 9⟩) (p := abc) (c := sumT 128 ⟨4, ((7 : Nat) : Int), 9⟩ abc) (by decide)
  generalize imgT 128 ⟨4, ((7 : Nat) : Int), 9⟩ abc (sumT 128 ⟨4, ((7 : Nat) : Int), 9⟩ abc) = I at *
  have hcl : sumT 128 ⟨4, ((7 : Nat) : Int), 9⟩ abc < 4294967296 := Crc.sum_lt _
  generalize sumT 128 ⟨4, ((7 : Nat) : Int), 9⟩ abc = c at *
  have hopn := fun b w ht => open_any b I w ht (by unfold maxLen; omega)
  rw [hop] at hopn
  have hmts := fun b w ht => meets_any b 7 9 c I w ht (by unfold maxLen; omega)
  have hm1 : meetsB 7 9 c I = true := by rw [hme]; simp
  rw [hm1] at hmts
  clear hm1
  have hr1 : roomOf 128 = 104 := by decide
  have hr2 : roomOf 127 = 0 := by decide
  unfold ptrC at hse
  unfold hdC at hopn
  unfold abc at hse hopn
  clear hop hme hok
  go_enter Try.func18, Try.ntmps18
  go_wp2_with fail
  refine (make_ext _).mono ?_
  rintro e w1 ⟨b, rfl, ht, he1⟩
  go_wp2_with fail
  refine (hse b _ ht).mono ?_
  rintro e w2 ⟨rfl, he2⟩
  have ht2 := ht.ext (he2.trans (Ext.alloc w2 (.cells #[.int .i64 7, .int .u64 9, .int .u32 (c : Int)] 32)))
  go_wp2_with fail
  refine (hopn b _ ht2).mono ?_
  rintro e w3 ⟨rfl, he3⟩
  have c0 := cell_ext (World.cell?_alloc_new w2 _ _ 0) he3
  have c1 := cell_ext (World.cell?_alloc_new w2 _ _ 1) he3
  have c2 := cell_ext (World.cell?_alloc_new w2 _ _ 2) he3
  have he3' := (Ext.alloc w2 _).trans he3
  replace c0 := fun o => cell_ext c0 (Ext.alloc w3 o)
  replace c1 := fun o => cell_ext c1 (Ext.alloc w3 o)
  replace c2 := fun o => cell_ext c2 (Ext.alloc w3 o)
  go_wp2_with fail
  refine (room_any 128 _).mono ?_
  rw [hr1]
  rintro e w4 ⟨rfl, he⟩
  subst he
  go_wp2_with fail
  refine (room_any 127 _).mono ?_
  rw [hr2]
  rintro e w4 ⟨rfl, he⟩
  subst he
  go_wp2_with fail
  refine (hmts b _ (((ht.ext he2).ext he3').ext (Ext.alloc _ _))).mono ?_
  rintro e w5 ⟨rfl, he5⟩
  go_wp2_with fail
  go_ret
  exact ⟨rfl, he1.trans (he2.trans (he3'.trans ((Ext.alloc _ _).trans he5)))⟩
end Go.Proofs.Ytbnpldilkkhgmaa
