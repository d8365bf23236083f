/- How long a mapping may be. -/
import Derived.Test.YthneeainigdmhaaGreatPSet15
set_option linter.unusedVariables false
set_option linter.unusedSimpArgs false
namespace Go.Proofs.YthneeainigdmhaaGreat.M
open Go.RowKit
set_option maxHeartbeats 8000000
set_option maxRecDepth 100000

theorem Right.to24 {x : Rec} (h : Right x) : x.to.length ≤ 24 := by
  have hf := h.fits
  unfold fitsB at hf
  by_cases h3 : x.kind = 3
  · rw [if_pos h3] at hf
    simp [listB] at hf
    omega
  rw [if_neg h3] at hf
  by_cases h4 : x.kind = 4
  · have := (h.shift h4).2.2
    omega
  rw [if_neg h4] at hf
  by_cases h5 : x.kind = 5
  · rw [if_pos h5] at hf
    simp [listB] at hf
    omega
  rw [if_neg h5] at hf
  have hb : ∀ a b c e : Bool, bareB x a false b c e = true → x.to.length ≤ 24 := fun a b c e hh => by
    simp only [bareB, Bool.and_eq_true, Bool.false_or, decide_eq_true_eq] at hh
    omega
  have hl : ∀ lo hi : Int, hi ≤ 24 → listB x.to lo hi = true → x.to.length ≤ 24 := fun lo hi h1 hh => by
    simp only [listB, Bool.and_eq_true, decide_eq_true_eq] at hh
    omega
  clear h h3 h4 h5
  by_cases h6 : x.kind = 6
  · rw [if_pos h6, Bool.and_eq_true] at hf
    exact hb _ _ _ _ hf.1
  rw [if_neg h6] at hf
  by_cases h7 : x.kind = 7
  · rw [if_pos h7, Bool.and_eq_true, Bool.and_eq_true] at hf
    exact hl _ _ (by decide) hf.2.2
  rw [if_neg h7] at hf
  by_cases h8 : x.kind = 8
  · rw [if_pos h8, Bool.and_eq_true, Bool.and_eq_true] at hf
    exact hl _ _ (by decide) hf.2.2
  rw [if_neg h8] at hf
  by_cases h9 : x.kind = 9
  · rw [if_pos h9, Bool.and_eq_true] at hf
    exact hb _ _ _ _ hf.1
  rw [if_neg h9] at hf
  by_cases h10 : x.kind = 10
  · rw [if_pos h10, Bool.and_eq_true] at hf
    exact hb _ _ _ _ hf.1
  rw [if_neg h10] at hf
  by_cases h12 : x.kind = 12
  · rw [if_pos h12, Bool.and_eq_true] at hf
    exact hb _ _ _ _ hf.1
  rw [if_neg h12] at hf
  by_cases h13 : x.kind = 13
  · rw [if_pos h13, Bool.and_eq_true, Bool.and_eq_true] at hf
    exact hl _ _ (by decide) hf.2.2
  rw [if_neg h13] at hf
  by_cases h14 : x.kind = 14
  · rw [if_pos h14, Bool.and_eq_true] at hf
    exact hb _ _ _ _ hf.1
  rw [if_neg h14] at hf
  by_cases h15 : x.kind = 15
  · rw [if_pos h15, Bool.and_eq_true] at hf
    exact hb _ _ _ _ hf.1
  rw [if_neg h15] at hf
  exact hb _ _ _ _ hf
theorem mapF_len24 {T : List Rec} (hG : Good T) (c : Int) : (mapF T c).length ≤ 24 := by
  unfold mapF
  cases h : findR T 1 c with
  | none => simp
  | some x =>
    have hl := (hG.right x (findR_some h).1).to24
    show (if x.kind = 4 then _ else if pM x then x.to else []).length ≤ _
    split
    · simp
    · split
      · omega
      · simp
theorem oneF_len24 {T : List Rec} (hG : Good T) (fl c : Int) : (oneF T fl c).length ≤ 24 := by
  have := mapF_len24 hG c
  unfold oneF
  split
  · simp
  · split
    · exact this
    · split
      · exact this
      · simp
theorem mapsF_len24 {T : List Rec} (hG : Good T) (fl : Int) (x : List Int) : (mapsF T fl x).length ≤ 24 * x.length := by
  unfold mapsF
  induction x with
  | nil => simp
  | cons a l ih =>
    have := oneF_len24 hG fl a
    simp only [List.flatMap_cons, List.length_append, List.length_cons]
    omega
end Go.Proofs.YthneeainigdmhaaGreat.M
