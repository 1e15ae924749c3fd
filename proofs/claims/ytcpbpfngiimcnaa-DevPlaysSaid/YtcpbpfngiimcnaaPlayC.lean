/- DevPlays: small laws for its walk. -/
import Derived.Test.YtcpbpfngiimcnaaPlayB
import Derived.Test.YtcpbpfngiimcnaaOpenActs
import Derived.Deep.CutBlock
import Derived.Deep.RegionHeld3
import Derived.Deep.RegionWith
namespace Go.Proofs.Ytcpbpfngiimcnaa
open Go.RowKit
theorem Two.ext {w w' : World} {B b m q B' b' m' q' : Nat} {d : Dev.St} (h : Two w B b m q B' b' m' q' d) (e : Ext w w') : Two w' B b m q B' b' m' q' d := ⟨h.prog.ext e, h.doc.ext e, h.ne⟩
theorem acts_cuts {w : World} {a : Option Addr} {l : List Act3} {c : Nat} (h : Acts w a l) (hc : l.length ≤ c) (hS : ∀ u ∈ l, FitAct u) (n : Nat) :
    Acts w a (l.take n) ∧ (∀ u ∈ l.take n, FitAct u) ∧ (l.take n).length ≤ n ∧ (l.take n).length ≤ c := by
  refine ⟨h.take n, fun u hu => hS u (List.mem_of_mem_take hu), ?_, ?_⟩
  · rw [List.length_take]; omega
  · rw [List.length_take]; omega
theorem PD.lts {w : World} {B b m q : Nat} {d : Dev.St} (h : PD w B b m q d) : b < w.heap.size ∧ m < w.heap.size ∧ q < w.heap.size := by
  obtain ⟨⟨cv, hb, _⟩, hm, hq, _, _⟩ := h
  exact ⟨hb.lt, hm.lt, hq.lt⟩
/-- fates that the call itself has gathered, as the program's Crash reads them -/
theorem fates_cells {w : World} {B0 B b m q n : Nat} {v : Value} {xs : List Int} (h : w.ownsRow B0 40 1 v n (xs.map fun x => .int .i64 x)) (hn : n = xs.length) (hb : b < B0 ∧ m < B0 ∧ q < B0) :
    ∃ a c, v = .slice a xs.length c ∧ ∀ w', DF 95 B b m q w w' → ∀ i (hi : i < xs.length), ∃ g o, a = some ⟨g, o, none⟩ ∧ w'.cell? ⟨g, o + i, none⟩ = some (.int .i64 xs[i]) := by
  subst hn
  obtain ⟨hx, ⟨rfl, h0⟩ | ⟨g, cap, cur, rfl, hB, hg, h1, h2, h3, ht⟩⟩ := h
  · have e : xs = [] := by simpa using h0
    subst e
    exact ⟨none, 0, rfl, fun w' _ i hi => by simp at hi⟩
  · refine ⟨_, cap, rfl, fun w' hd i hi => ⟨g, 0, rfl, ?_⟩⟩
    have hr : RowIs g 40 cur w' := hd.row (show RowIs g 40 cur w from hg) (by decide) (by omega)
    refine hr.cell _ _ ?_
    have e1 : (xs.map fun x => Value.int .i64 x)[i]? = some (.int .i64 xs[i]) := by simp [hi]
    rw [← ht, List.getElem?_take] at e1
    split at e1
    · simpa using e1
    · cases e1
end Go.Proofs.Ytcpbpfngiimcnaa
