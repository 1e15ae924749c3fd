/- wakes of layer 12. -/
import Derived.Test.YtemhflafiephpaaRecI
namespace Go.Proofs.Ytemhflafiephpaa
open Go.RowKit
def upA : Msg.Up := ⟨2, ⟨#[97]⟩, ⟨#[]⟩, 0⟩
def upB : Msg.Up := ⟨1, ⟨#[98]⟩, ⟨#[120, 121]⟩, 0⟩
theorem wakes_text : Rec.text [upA, upB] = ([2, 1, 97, 1, 1, 98, 2, 120, 121], 0) := by decide +kernel
theorem wakes_parse : Rec.parseAll ⟨#[2, 1, 97, 1, 1, 98, 2, 120, 121]⟩ = some [upA, upB] := by
  have h1 : Rec.first ⟨#[2, 1, 97, 1, 1, 98, 2, 120, 121]⟩ = some (upA, ⟨#[1, 1, 98, 2, 120, 121]⟩) := by
    rw [Rec.first_x (y := ⟨#[97]⟩) (r := ⟨#[1, 1, 98, 2, 120, 121]⟩) (by decide) (by decide +kernel) (by decide) (by decide)]
    rw [if_pos (by decide +kernel)]
    rfl
  have h2 : Rec.first ⟨#[1, 1, 98, 2, 120, 121]⟩ = some (upB, ⟨#[]⟩) := by
    rw [Rec.first_1y (y := ⟨#[98]⟩) (r := ⟨#[2, 120, 121]⟩) (v := ⟨#[120, 121]⟩) (r2 := ⟨#[]⟩) (by decide) (by decide +kernel) (by decide) (by decide +kernel)]
    rw [if_pos (by decide +kernel)]
    rfl
  rw [Rec.parse_some (by decide) h1, Rec.parse_some (by decide) h2, Rec.parse_empty rfl]
  rfl
theorem recs_ab (w : World) (T : TypeId) : Recs (w.alloc (.cells #[.int .u8 2, .string ⟨#[97]⟩, .string ⟨#[]⟩, .int .u64 0, .int .u8 1, .string ⟨#[98]⟩, .string ⟨#[120, 121]⟩, .int .u64 0] T)) (some ⟨w.heap.size, 0, none⟩) [upA, upB] := fun i hi => by
  refine ⟨w.heap.size, 0, rfl, ?_⟩
  rw [World.cell?_alloc_new, World.cell?_alloc_new, World.cell?_alloc_new, World.cell?_alloc_new]
  match i, hi with
  | 0, _ => exact ⟨rfl, rfl, rfl, rfl⟩
  | 1, _ => exact ⟨rfl, rfl, rfl, rfl⟩
theorem fit_ab : ∀ u ∈ [upA, upB], FitU u := by
  intro u hu
  simp only [List.mem_cons, List.not_mem_nil, or_false] at hu
  rcases hu with rfl | rfl
  · exact ⟨by decide, by decide, by decide, by decide⟩
  · exact ⟨by decide, by decide, by decide, by decide⟩
set_option maxRecDepth 100000 in
set_option maxHeartbeats 2000000 in
theorem wakes12 (w : World) : Calls Try.prog 30 #[] w fun e w' => e = .returned (.bool true) ∧ Ext w w' := by
  have htx := text_any [upA, upB] (some ⟨w.heap.size, 0, none⟩) 2 _ (by decide) (recs_ab w 37) fit_ab
  rw [wakes_text] at htx
  have hpa := fun w => rparse_any ⟨#[2, 1, 97, 1, 1, 98, 2, 120, 121]⟩ w (by decide)
  rw [wakes_parse] at hpa
  have hpy := fun a ca w hR => payload_any 3 0 [upA, upB] a ca w (by decide) (by decide) (by decide) hR fit_ab
  have hps : (payR 3 0 [upA, upB]).size = 23 := by
    unfold payR
    rw [wakes_text, if_pos rfl, ByteArray.size_append, headT_size]
    rfl
  generalize payR 3 0 [upA, upB] = P at *
  rw [wakes_text] at hpy
  have HTX := Lib.hid htx; have HPA := Lib.hid hpa; have HPY := Lib.hid hpy
  clear htx hpa hpy
  go_enter Try.func30, Try.ntmps30
  go_wp2_with fail
  refine HTX.out.mono ?_
  rintro e w1 ⟨rfl, he1⟩
  replace he1 := (Ext.alloc w _).trans he1
  go_wp2_with fail
  refine (HPA.out _).mono ?_
  rintro e w2 ⟨⟨v, rfl, hv, _⟩, he2⟩
  obtain ⟨a, cap, rfl, _, hg, hR⟩ := own_recs hv
  obtain ⟨g, rfl, _⟩ := hg (by decide)
  have c6 : w2.cell? ⟨g, 6, none⟩ = some (.string ⟨#[120, 121]⟩) := by
    obtain ⟨b1, o1, h1, _, _, h2, _⟩ := hR 1 (by decide)
    cases h1
    exact h2
  have hR2 := hR.ext (Ext.alloc w2 (.cells #[.int .u64 3, .int .u32 0, .slice (some ⟨g, 0, none⟩) 2 cap] 84))
  have HR2 := Lib.hid hR2
  clear hR hR2 hv
  replace c6 := fun o => cell_ext c6 (Ext.alloc w2 o)
  go_wp2_with fail
  refine (HPY.out _ _ _ HR2.out).mono ?_
  rintro e w3 ⟨rfl, he3⟩
  replace c6 := cell_ext (c6 _) he3
  go_wp2_with fail
  go_ret
  exact ⟨rfl, he1.trans (he2.trans ((Ext.alloc _ _).trans he3))⟩
end Go.Proofs.Ytemhflafiephpaa
