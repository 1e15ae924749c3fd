/- The walk of law03.DevShapes. -/
import Derived.Test.YtcpbpfngiimcnaaDevK
import Derived.Test.YtcpbpfngiimcnaaDevI
namespace Go.Proofs.Ytcpbpfngiimcnaa
open Go.RowKit
set_option maxRecDepth 100000 in
set_option maxHeartbeats 8000000 in
theorem devShapes_walk (x y i : Int) (w : World) (_hx1 : -9223372036854775808 ≤ x) (_hx2 : x ≤ 9223372036854775807) (_hy1 : -9223372036854775808 ≤ y) (_hy2 : y ≤ 9223372036854775807) (_hi1 : -9223372036854775808 ≤ i) (_hi2 : i ≤ 9223372036854775807) :
    Calls Try.prog 6 #[.agg #[.int .i64 x, .int .i64 y], .int .i64 i] w fun e w' => e = .returned (.bool true) ∧ Ext w w' := by
  go_enter Try.func6, Try.ntmps6
  go_upto_region 2 with (fail)
  have a0 := cell_ext (World.cell?_alloc_new w #[.int .i64 x, .int .i64 y] 70 0) (Ext.alloc _ (.cells #[.int .i64 x, .int .i64 y] 28))
  have a1 := cell_ext (World.cell?_alloc_new w #[.int .i64 x, .int .i64 y] 70 1) (Ext.alloc _ (.cells #[.int .i64 x, .int .i64 y] 28))
  have b0 := cell_new2 w (.cells #[.int .i64 x, .int .i64 y] 70) 28 #[.int .i64 x, .int .i64 y] 0
  have b1 := cell_new2 w (.cells #[.int .i64 x, .int .i64 y] 70) 28 #[.int .i64 x, .int .i64 y] 1
  have hx := (Ext.alloc w (.cells #[.int .i64 x, .int .i64 y] 70)).trans (Ext.alloc _ (.cells #[.int .i64 x, .int .i64 y] 28))
  generalize (w.alloc (.cells #[.int .i64 x, .int .i64 y] 70)).alloc (.cells #[.int .i64 x, .int .i64 y] 28) = w0 at *
  obtain ⟨A2, h2⟩ : ∃ A, w.heap.size + 1 = A := ⟨_, rfl⟩
  rw [h2] at b0 b1 ⊢
  clear h2
  generalize w.heap.size = A1 at *
  go_wp2_with fail
  refine (refright_any x y _).mono ?_
  rintro e w1 ⟨rfl, he1⟩
  replace b0 := cell_ext b0 he1
  replace b1 := cell_ext b1 he1
  have HE := Lib.hid (hx.trans he1)
  clear hx he1 a0 a1
  go_wp2_with fail
  refine (right_any x y _).mono ?_
  rintro e w2 ⟨rfl, he2⟩
  replace b0 := cell_ext b0 he2
  replace b1 := cell_ext b1 he2
  replace HE := Lib.hid (HE.out.trans he2)
  clear he2
  obtain ⟨r, hr⟩ : ∃ r, Dev.right x y = r := ⟨_, rfl⟩
  rw [hr]
  cases r with
  | false =>
    have HN := Lib.hid (fun w => new_no x y w hr)
    clear hr
    go_wp2_with fail
    refine (HN.out _).mono ?_
    rintro e w3 ⟨rfl, he3⟩
    replace HE := Lib.hid (HE.out.trans he3)
    clear he3 b0 b1
    go_wp2_with fail
    refine (nilread i _).mono ?_
    rintro e w9 ⟨rfl, he9⟩
    replace HE := Lib.hid (HE.out.trans he9)
    clear he9
    go_wp2_with fail
    refine (nilstick i _).mono ?_
    rintro e w9 ⟨⟨v, rfl⟩, he9⟩
    replace HE := Lib.hid (HE.out.trans he9)
    clear he9
    go_wp2_with fail
    refine (nilgarble i i 1 _).mono ?_
    rintro e w9 ⟨⟨v, rfl⟩, he9⟩
    replace HE := Lib.hid (HE.out.trans he9)
    clear he9
    go_wp2_with fail
    refine (nillose 1 _).mono ?_
    rintro e w9 ⟨⟨v, rfl⟩, he9⟩
    replace HE := Lib.hid (HE.out.trans he9)
    clear he9
    go_wp2_with fail
    refine (nilstray 1 i _).mono ?_
    rintro e w9 ⟨⟨v, rfl⟩, he9⟩
    replace HE := Lib.hid (HE.out.trans he9)
    clear he9
    go_wp2_with fail
    refine (nilkill _).mono ?_
    rintro e w9 ⟨⟨v, rfl⟩, he9⟩
    replace HE := Lib.hid (HE.out.trans he9)
    clear he9
    go_wp2_with fail
    refine (nilfuse 1 _).mono ?_
    rintro e w9 ⟨⟨v, rfl⟩, he9⟩
    replace HE := Lib.hid (HE.out.trans he9)
    clear he9
    go_wp2_with fail
    refine (nilcrash _).mono ?_
    rintro e w9 ⟨⟨v, rfl⟩, he9⟩
    replace HE := Lib.hid (HE.out.trans he9)
    clear he9
    go_wp2_with fail
    refine (nilcount _).mono ?_
    rintro e w9 ⟨rfl, he9⟩
    replace HE := Lib.hid (HE.out.trans he9)
    clear he9
    go_wp2_with fail
    refine (wakes03 _).mono ?_
    rintro e w9 ⟨rfl, he9⟩
    replace HE := Lib.hid (HE.out.trans he9)
    clear he9
    go_wp2_with fail
    refine (nilwrite i ⟨#[]⟩ _).mono ?_
    rintro e w9 ⟨rfl, he9⟩
    replace HE := Lib.hid (HE.out.trans he9)
    clear he9
    go_wp2_with fail
    refine (nilflush _).mono ?_
    rintro e w9 ⟨rfl, he9⟩
    replace HE := Lib.hid (HE.out.trans he9)
    clear he9
    go_wp2_with fail
    refine (nilmedia i _).mono ?_
    rintro e w9 ⟨rfl, he9⟩
    replace HE := Lib.hid (HE.out.trans he9)
    clear he9
    go_wp2_with fail
    refine (nildead _).mono ?_
    rintro e w9 ⟨rfl, he9⟩
    replace HE := Lib.hid (HE.out.trans he9)
    clear he9
    go_wp2_with fail
    refine (niloff _).mono ?_
    rintro e w9 ⟨rfl, he9⟩
    replace HE := Lib.hid (HE.out.trans he9)
    clear he9
    go_wp2_with fail
    refine (nilshape _).mono ?_
    rintro e w9 ⟨rfl, he9⟩
    replace HE := Lib.hid (HE.out.trans he9)
    clear he9
    go_wp2_with fail
    go_ret
    exact ⟨rfl, HE.out⟩
  | true =>
    clear hr b0 b1
    go_wp2_with fail
    refine (nilread i _).mono ?_
    rintro e w9 ⟨rfl, he9⟩
    replace HE := Lib.hid (HE.out.trans he9)
    clear he9
    go_wp2_with fail
    refine (nilstick i _).mono ?_
    rintro e w9 ⟨⟨v, rfl⟩, he9⟩
    replace HE := Lib.hid (HE.out.trans he9)
    clear he9
    go_wp2_with fail
    refine (nilgarble i i 1 _).mono ?_
    rintro e w9 ⟨⟨v, rfl⟩, he9⟩
    replace HE := Lib.hid (HE.out.trans he9)
    clear he9
    go_wp2_with fail
    refine (nillose 1 _).mono ?_
    rintro e w9 ⟨⟨v, rfl⟩, he9⟩
    replace HE := Lib.hid (HE.out.trans he9)
    clear he9
    go_wp2_with fail
    refine (nilstray 1 i _).mono ?_
    rintro e w9 ⟨⟨v, rfl⟩, he9⟩
    replace HE := Lib.hid (HE.out.trans he9)
    clear he9
    go_wp2_with fail
    refine (nilkill _).mono ?_
    rintro e w9 ⟨⟨v, rfl⟩, he9⟩
    replace HE := Lib.hid (HE.out.trans he9)
    clear he9
    go_wp2_with fail
    refine (nilfuse 1 _).mono ?_
    rintro e w9 ⟨⟨v, rfl⟩, he9⟩
    replace HE := Lib.hid (HE.out.trans he9)
    clear he9
    go_wp2_with fail
    refine (nilcrash _).mono ?_
    rintro e w9 ⟨⟨v, rfl⟩, he9⟩
    replace HE := Lib.hid (HE.out.trans he9)
    clear he9
    go_wp2_with fail
    refine (nilcount _).mono ?_
    rintro e w9 ⟨rfl, he9⟩
    replace HE := Lib.hid (HE.out.trans he9)
    clear he9
    go_wp2_with fail
    refine (wakes03 _).mono ?_
    rintro e w9 ⟨rfl, he9⟩
    replace HE := Lib.hid (HE.out.trans he9)
    clear he9
    go_wp2_with fail
    refine (nilwrite i ⟨#[]⟩ _).mono ?_
    rintro e w9 ⟨rfl, he9⟩
    replace HE := Lib.hid (HE.out.trans he9)
    clear he9
    go_wp2_with fail
    refine (nilflush _).mono ?_
    rintro e w9 ⟨rfl, he9⟩
    replace HE := Lib.hid (HE.out.trans he9)
    clear he9
    go_wp2_with fail
    refine (nilmedia i _).mono ?_
    rintro e w9 ⟨rfl, he9⟩
    replace HE := Lib.hid (HE.out.trans he9)
    clear he9
    go_wp2_with fail
    refine (nildead _).mono ?_
    rintro e w9 ⟨rfl, he9⟩
    replace HE := Lib.hid (HE.out.trans he9)
    clear he9
    go_wp2_with fail
    refine (niloff _).mono ?_
    rintro e w9 ⟨rfl, he9⟩
    replace HE := Lib.hid (HE.out.trans he9)
    clear he9
    go_wp2_with fail
    refine (nilshape _).mono ?_
    rintro e w9 ⟨rfl, he9⟩
    replace HE := Lib.hid (HE.out.trans he9)
    clear he9
    go_wp2_with fail
    go_ret
    exact ⟨rfl, HE.out⟩
end Go.Proofs.Ytcpbpfngiimcnaa
