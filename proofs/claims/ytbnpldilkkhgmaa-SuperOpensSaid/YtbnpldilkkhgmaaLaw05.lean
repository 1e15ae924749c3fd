/- wakes of layer 5. -/
import Derived.Test.YtbnpldilkkhgmaaSupE
namespace Go.Proofs.Ytbnpldilkkhgmaa
open Go.RowKit
set_option maxRecDepth 100000 in
set_option maxHeartbeats 2000000 in
theorem wakes05 (w : World) : Calls Try.prog 28 #[] w fun e w' => e = .returned (.bool true) ∧ Ext w w' := by
  have him := fun b w ht => sup_image b 5 9 4 0 2 7 0 w ht (by decide) (by decide) (by decide) (by decide) (by decide) (by decide) (by decide)
  have hop := fun b w ht => sup_open b 5 9 4 0 2 7 0 w ht (by decide) (by decide) (by decide) (by decide) (by decide) (by decide) (by decide)
  have hsz := supT_size 5 9 4 0 2 7 0
  generalize supT 5 9 4 0 2 7 0 = I at *
  unfold blkC at hop
  have HIM := Lib.hid him
  have HOP := Lib.hid hop
  have HSL := Lib.hid (slot_any 5)
  clear him hop
  go_enter Try.func28, Try.ntmps28
  go_wp2_with fail
  refine (make_ext _).mono ?_
  rintro e w1 ⟨b, rfl, ht, he1⟩
  go_wp2_with fail
  refine (HIM.out b _ (ht.ext (Ext.alloc _ _))).mono ?_
  rintro e w2 ⟨rfl, he2⟩
  have c0 := cell_ext (World.cell?_alloc_new w1 _ _ 0) he2
  have c1 := cell_ext (World.cell?_alloc_new w1 _ _ 1) he2
  have c2 := cell_ext (World.cell?_alloc_new w1 _ _ 2) he2
  have c3 := cell_ext (World.cell?_alloc_new w1 _ _ 3) he2
  have c4 := cell_ext (World.cell?_alloc_new w1 _ _ 4) he2
  have c5 := cell_ext (World.cell?_alloc_new w1 _ _ 5) he2
  have c6 := cell_ext (World.cell?_alloc_new w1 _ _ 6) he2
  replace he2 := (Ext.alloc w1 _).trans he2
  go_wp2_with fail
  refine (HOP.out b _ (ht.ext he2)).mono ?_
  rintro e w3 ⟨rfl, he3⟩
  replace c0 := fun o => cell_ext (cell_ext c0 he3) (Ext.alloc w3 o)
  replace c1 := fun o => cell_ext (cell_ext c1 he3) (Ext.alloc w3 o)
  replace c2 := fun o => cell_ext (cell_ext c2 he3) (Ext.alloc w3 o)
  replace c3 := fun o => cell_ext (cell_ext c3 he3) (Ext.alloc w3 o)
  replace c4 := fun o => cell_ext (cell_ext c4 he3) (Ext.alloc w3 o)
  replace c5 := fun o => cell_ext (cell_ext c5 he3) (Ext.alloc w3 o)
  replace c6 := fun o => cell_ext (cell_ext c6 he3) (Ext.alloc w3 o)
  go_wp2_with fail
  refine (HSL.out _).mono ?_
  rintro e w4 ⟨rfl, he⟩
  subst he
  go_wp2_with fail
  go_ret
  exact ⟨rfl, he1.trans (he2.trans (he3.trans (Ext.alloc _ _)))⟩
end Go.Proofs.Ytbnpldilkkhgmaa
