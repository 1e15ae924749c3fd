/- Contract of (env.Ptr).Meets. -/
import Derived.Test.YtbnpldilkkhgmaaEnvI
namespace Go.Proofs.Ytbnpldilkkhgmaa
open Go.RowKit
/-- is that image the one of which that is known? -/
def meetsB (a : Int) (g c : Nat) (s : ByteArray) : Bool := match Env.parts s with
  | some (h, p, c') => if imgT s.size h p c' = s then (if sumT s.size h p = c' then ((h.addr == a && h.gen == g) && c' == c) else false) else false
  | none => false
/-- Open's answer in three cases -/
theorem open_cases (s : ByteArray) : (∃ k X g p c, Env.parts s = some (⟨k, ((X : Nat) : Int), g⟩, p, c) ∧ (g < 18446744073709551616 ∧ c < 4294967296) ∧ openAns s = .tuple #[.agg (hdC k X g), .string p, .int .i64 0] ∧ ∀ a' g' c', meetsB a' g' c' s = ((((X : Int) == a') && (g == g')) && (c == c'))) ∨
    (∃ e : Int, openAns s = .tuple #[.agg hdZ, .string ⟨#[]⟩, .int .i64 e] ∧ (e = 4 ∨ e = 5) ∧ ∀ a' g' c', meetsB a' g' c' s = false) := by
  cases hq : Env.parts s with
  | none => exact .inr ⟨4, by unfold openAns; rw [hq], .inl rfl, fun _ _ _ => by unfold meetsB; rw [hq]⟩
  | some x =>
    obtain ⟨h, p, c⟩ := x
    obtain ⟨k, X, g, rfl, _, _, _, f3, f4, _, _⟩ := parts_facts hq
    by_cases h1 : imgT s.size ⟨k, X, g⟩ p c = s
    · by_cases h2 : sumT s.size ⟨k, X, g⟩ p = c
      · exact .inl ⟨k, X, g, p, c, rfl, ⟨f3, f4⟩, by unfold openAns; rw [hq]; simp only [h1, h2, if_true], fun _ _ _ => by unfold meetsB; rw [hq]; simp only [h1, h2, if_true]⟩
      · exact .inr ⟨5, by unfold openAns; rw [hq]; simp only [h1, h2, if_true, if_false], .inr rfl, fun _ _ _ => by unfold meetsB; rw [hq]; simp only [h1, h2, if_true, if_false]⟩
    · exact .inr ⟨4, by unfold openAns; rw [hq]; simp only [h1, if_false], .inl rfl, fun _ _ _ => by unfold meetsB; rw [hq]; simp only [h1, if_false]⟩
set_option maxRecDepth 100000 in
set_option maxHeartbeats 2000000 in
theorem meets_any (b : Nat) (a : Int) (g c : Nat) (s : ByteArray) (w : World) (ht : TabAt w b) (hm : s.size ≤ maxLen) : Calls Try.prog 16 #[.agg #[.int .i64 a, .int .u64 (g : Int), .int .u32 (c : Int)], .pointer (some ⟨b, 0, none⟩), .string s] w fun e w' => e = .returned (.bool (meetsB a g c s)) ∧ Ext w w' := by
  rcases open_cases s with ⟨k, X, g', p, c', hq, ⟨f3, f4⟩, hop, hme⟩ | ⟨e, hop, he, hme⟩
  · have ho := fun w ht => open_any b s w ht hm
    have hp := fun w => parts_any s w hm
    rw [hop] at ho
    rw [parts_some hq] at hp
    rw [hme]
    unfold hdC at ho hp
    simp only at hp
    clear hop hme hq
    go_enter Try.func16, Try.ntmps16
    go_wp2_with fail
    refine (ho _ (ht.ext (Ext.alloc _ _))).mono ?_
    rintro e w1 ⟨rfl, he1⟩
    have c0 := cell_ext (World.cell?_alloc_new w _ _ 0) he1
    have c1 := cell_ext (World.cell?_alloc_new w _ _ 1) he1
    have c2 := cell_ext (World.cell?_alloc_new w _ _ 2) he1
    have he1 := (Ext.alloc w _).trans he1
    go_wp2_with fail
    refine (hp _).mono ?_
    rintro e w2 ⟨rfl, he2⟩
    have d1 := cell_ext (World.cell?_alloc_new w1 _ _ 1) he2
    have d2 := cell_ext (World.cell?_alloc_new w1 _ _ 2) he2
    have he2 := (Ext.alloc w1 _).trans he2
    replace c0 := fun o => cell_ext (cell_ext c0 he2) (Ext.alloc w2 o)
    replace c1 := fun o => cell_ext (cell_ext c1 he2) (Ext.alloc w2 o)
    replace c2 := fun o => cell_ext (cell_ext c2 he2) (Ext.alloc w2 o)
    replace d1 := fun o => cell_ext d1 (Ext.alloc w2 o)
    replace d2 := fun o => cell_ext d2 (Ext.alloc w2 o)
    go_wp2_with fail
    all_goals
      go_ret
      refine ⟨?_, he1.trans (he2.trans (Ext.alloc w2 _))⟩
      show Ending.returned (Value.bool _) = Ending.returned (Value.bool _)
      congr 2
      rw [Bool.eq_iff_iff]
      simp
      try omega
  · have ho := fun w ht => open_any b s w ht hm
    rw [hop] at ho
    rw [hme]
    unfold hdZ at ho
    clear hop hme
    have hne : (e != 0) = true := by rcases he with rfl | rfl <;> rfl
    go_enter Try.func16, Try.ntmps16
    go_wp2_with fail
    refine (ho _ (ht.ext (Ext.alloc _ _))).mono ?_
    rintro e w1 ⟨rfl, he1⟩
    go_wp2_with fail
    go_ret
    exact ⟨rfl, (Ext.alloc w _).trans (he1.trans (Ext.alloc _ _))⟩
end Go.Proofs.Ytbnpldilkkhgmaa
