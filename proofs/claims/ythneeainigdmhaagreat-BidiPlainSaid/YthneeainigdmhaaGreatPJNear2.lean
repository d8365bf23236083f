/- JoinerNear: what is cut out fits as the whole. -/
import Derived.Test.YthneeainigdmhaaGreatPJNear1
set_option linter.unusedVariables false
set_option linter.unusedSimpArgs false
namespace Go.Proofs.YthneeainigdmhaaGreat.M
open Go.RowKit
set_option maxHeartbeats 8000000

/-- In parts: what stands ahead, what is T, the place, what is T, what stands behind. -/
theorem near_parts {J C : Int → Int} (p p' s s' u v : List Int) (a : Int) (hu : ∀ z ∈ u, J z = 5) (hv : ∀ z ∈ v, J z = 5)
    (hp : firstV J p.reverse = firstV J p'.reverse) (hs : firstV J s = firstV J s') (he : (p ++ u = [] ↔ p' ++ u = [])) (hl : (p ++ u).getLast? = (p' ++ u).getLast?) :
    fitsF J C (p ++ u ++ a :: (v ++ s)) ((p ++ u).length : Nat) = fitsF J C (p' ++ u ++ a :: (v ++ s')) ((p' ++ u).length : Nat) := by
  have r1 : ∀ (l r : List Int), rd (l ++ a :: r) (l.length : Nat) = a := fun l r => by
    rw [rd_elem _ _ (by simp), List.getElem_append_right (Nat.le_refl _)]
    simp
  have r2 : ∀ (l r : List Int), 0 < l.length → some (rd (l ++ a :: r) ((l.length : Nat) - 1 : Int)) = l.getLast? := fun l r h => by
    rw [show ((l.length : Nat) : Int) - 1 = ((l.length - 1 : Nat) : Int) by omega, rd_elem _ _ (by simp; omega), List.getElem_append_left (by omega), List.getLast?_eq_getElem?]
    rw [List.getElem?_eq_getElem (by omega)]
  have hz : 0 < (p ++ u).length ↔ 0 < (p' ++ u).length := by
    rw [List.length_pos_iff, List.length_pos_iff, ne_eq, ne_eq, he]
  refine fits_same (by simp) (by simp) (by rw [r1, r1]) hz (fun h => ?_) ?_ ?_
  · have h1 := r2 (p ++ u) (v ++ s) h
    have h2 := r2 (p' ++ u) (v ++ s') (hz.1 h)
    rw [hl] at h1
    exact Option.some.inj (h1.trans h2.symm)
  · rw [List.take_left, List.take_left, List.reverse_append, List.reverse_append, firstV_skip _ _ (fun z hz => hu z (List.mem_reverse.1 hz)), firstV_skip _ _ (fun z hz => hu z (List.mem_reverse.1 hz)), hp]
  · have d : ∀ (l r : List Int), (l ++ a :: r).drop (l.length + 1) = r := fun l r => by
      rw [List.drop_append, List.drop_of_length_le (by omega)]
      simp
    rw [d, d, firstV_skip _ _ hv, firstV_skip _ _ hv, hs]
end Go.Proofs.YthneeainigdmhaaGreat.M
