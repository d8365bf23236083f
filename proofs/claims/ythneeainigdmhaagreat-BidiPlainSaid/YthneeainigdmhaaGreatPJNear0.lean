/- JoinerNear: the plain law. -/
import Derived.Test.YthneeainigdmhaaGreatPJoin2
set_option linter.unusedVariables false
set_option linter.unusedSimpArgs false
namespace Go.Proofs.YthneeainigdmhaaGreat.M
open Go.RowKit
set_option maxHeartbeats 8000000

theorem firstV_skip {J : Int → Int} : ∀ (l r : List Int), (∀ z ∈ l, J z = 5) → firstV J (l ++ r) = firstV J r
  | [], r, _ => rfl
  | a :: l, r, h => by
    show (if J a = 5 then firstV J (l ++ r) else J a) = _
    rw [if_pos (h a (by simp))]
    exact firstV_skip l r (fun z hz => h z (by simp [hz]))
theorem firstV_stop {J : Int → Int} (l : List Int) (a : Int) (r : List Int) (h : ∀ z ∈ l, J z = 5) (ha : J a ≠ 5) : firstV J (l ++ a :: r) = J a := by
  rw [firstV_skip l _ h]
  show (if J a = 5 then firstV J r else J a) = _
  rw [if_neg ha]
/-- What a joiner's fitting hangs on. -/
theorem fits_same {J C : Int → Int} {x y : List Int} {i j : Nat} (hi : i < x.length) (hj : j < y.length) (hr : rd x i = rd y j) (h0 : 0 < i ↔ 0 < j) (hp : 0 < i → rd x ((i : Int) - 1) = rd y ((j : Int) - 1))
    (hd : firstV J (x.take i).reverse = firstV J (y.take j).reverse) (hu : firstV J (x.drop (i + 1)) = firstV J (y.drop (j + 1))) : fitsF J C x i = fitsF J C y j := by
  unfold fitsF
  rw [if_neg (show ¬ ((i : Int) < 0 ∨ (x.length : Int) ≤ i) by omega), if_neg (show ¬ ((j : Int) < 0 ∨ (y.length : Int) ≤ j) by omega), hr, Int.toNat_natCast, Int.toNat_natCast, hd, hu]
  by_cases h1 : rd y j ≠ 8204 ∧ rd y j ≠ 8205
  · rw [if_pos h1, if_pos h1]
  · rw [if_neg h1, if_neg h1]
    by_cases h2 : 0 < i
    · have h3 := h0.1 h2
      rw [hp h2]
      have e : (0 < (i : Int) ∧ C (rd y ((j : Int) - 1)) = 9) ↔ (0 < (j : Int) ∧ C (rd y ((j : Int) - 1)) = 9) := ⟨fun h => ⟨by omega, h.2⟩, fun h => ⟨by omega, h.2⟩⟩
      simp only [e]
    · have h3 : ¬ 0 < j := fun h => h2 (h0.2 h)
      rw [if_neg (show ¬ (0 < (i : Int) ∧ C (rd x ((i : Int) - 1)) = 9) from fun h => h2 (by omega)), if_neg (show ¬ (0 < (j : Int) ∧ C (rd y ((j : Int) - 1)) = 9) from fun h => h3 (by omega))]
end Go.Proofs.YthneeainigdmhaaGreat.M
