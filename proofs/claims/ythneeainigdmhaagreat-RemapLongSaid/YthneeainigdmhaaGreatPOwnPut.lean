/- A row of one's own, written. -/
import Derived.Test.YthneeainigdmhaaGreatK36
import Derived.Test.YthneeainigdmhaaGreatPJoin0
set_option linter.unusedVariables false
set_option linter.unusedSimpArgs false
namespace Go.Proofs.YthneeainigdmhaaGreat.M
open Go.RowKit
set_option maxHeartbeats 4000000

theorem own_at {w : World} {base g n cap : Nat} {l : List Int} (h : w.ownsRow base 21 1 (.slice (some ⟨g, 0, none⟩) n cap) n (l.map (Value.int .i32))) {i : Nat} (hi : i < n) :
    w.cell? ⟨g, i, none⟩ = some (.int .i32 (rd l i)) ∧ w.frozen? ⟨g, i, none⟩ = false := by
  obtain ⟨hlen, ⟨hv, _⟩ | ⟨g', cap', cur, hv, hb, hh, hnc, hcm, hsz, htk⟩⟩ := h
  · cases hv
  · cases hv
    rw [List.length_map, Nat.mul_one] at hlen
    constructor
    · rw [cell_of_row _ _ _ _ _ (0, 0) hh]
      have h2 : (l.map (Value.int .i32))[i]? = some (.int .i32 (rd l i)) := by
        rw [List.getElem?_map, List.getElem?_eq_getElem (by omega), rd_elem l i (by omega)]
        rfl
      rw [← htk, List.getElem?_take, if_pos (by omega)] at h2
      simpa using h2
    · simp [World.frozen?, hh]
theorem own_put {w : World} {base g n cap : Nat} {l : List Int} (h : w.ownsRow base 21 1 (.slice (some ⟨g, 0, none⟩) n cap) n (l.map (Value.int .i32))) (i : Nat) (z : Int) :
    (w.setCell ⟨g, i, none⟩ (.int .i32 z)).ownsRow base 21 1 (.slice (some ⟨g, 0, none⟩) n cap) n ((l.set i z).map (Value.int .i32)) := by
  obtain ⟨hlen, ⟨hv, _⟩ | ⟨g', cap', cur, hv, hb, hh, hnc, hcm, hsz, htk⟩⟩ := h
  · cases hv
  · cases hv
    refine ⟨by simpa using hlen, .inr ⟨g, cap, cur.setIfInBounds i (.int .i32 z), rfl, hb, box_set hh i _, hnc, hcm, by simpa using hsz, ?_⟩⟩
    rw [Array.toList_setIfInBounds, List.take_set, htk, List.map_set]
theorem own_some {w : World} {base n cap : Nat} {A : Option Addr} {xs : List Value} (h : w.ownsRow base 21 1 (.slice A n cap) n xs) (hn : 0 < n) : ∃ g, A = some ⟨g, 0, none⟩ ∧ base ≤ g := by
  obtain ⟨hlen, ⟨hv, h0⟩ | ⟨g', cap', cur, hv, hb, _⟩⟩ := h
  · omega
  · cases hv
    exact ⟨g', rfl, hb⟩
end Go.Proofs.YthneeainigdmhaaGreat.M
