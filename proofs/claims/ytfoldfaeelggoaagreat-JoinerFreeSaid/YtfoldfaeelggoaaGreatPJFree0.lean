/- JoinerFree: the plain law. -/
import Derived.Test.YtfoldfaeelggoaaGreatPJoin2
set_option linter.unusedVariables false
set_option linter.unusedSimpArgs false
namespace Go.Proofs.YtfoldfaeelggoaaGreat.M
open Go.RowKit
set_option maxHeartbeats 8000000

theorem bad_none {J C : Int → Int} {x : List Int} : ∀ (k i : Nat), i + k = x.length → (∀ j : Nat, i ≤ j → j < x.length → fitsF J C x j = true) → badJ J C x k i = -1
  | 0, _, _, _ => rfl
  | k + 1, i, h, hf => by
    show (if fitsF J C x i = true then badJ J C x k (i + 1) else (i : Int)) = -1
    rw [if_pos (hf i (Nat.le_refl _) (by omega))]
    exact bad_none k (i + 1) (by omega) (fun j h1 h2 => hf j (by omega) h2)
theorem check_none {J C : Int → Int} {x : List Int} (hf : ∀ j : Nat, j < x.length → fitsF J C x j = true) : checkJ J C x = -1 := bad_none _ 0 (Nat.zero_add _) (fun j _ h => hf j h)
/-- Numbers without a joiner. -/
def NoJ (x : List Int) : Prop := ∀ z ∈ x, z ≠ 8204 ∧ z ≠ 8205
theorem noJ_check {J C : Int → Int} {x : List Int} (h : NoJ x) : checkJ J C x = -1 := by
  refine check_none (fun j hj => fits_plain (by omega) ?_)
  have : rd x j ∈ x := by rw [rd_elem x j hj]; exact List.getElem_mem _
  exact h _ this
/-- Each joiner stands behind a virama. -/
def Led (C : Int → Int) (x : List Int) : Prop := ∀ j : Nat, j < x.length → (rd x j = 8204 ∨ rd x j = 8205) → 0 < j ∧ C (rd x ((j : Int) - 1)) = 9
theorem led_check {J C : Int → Int} {x : List Int} (h : Led C x) : checkJ J C x = -1 := by
  refine check_none (fun j hj => ?_)
  by_cases hp : rd x j ≠ 8204 ∧ rd x j ≠ 8205
  · exact fits_plain (by omega) hp
  · have hq : rd x j = 8204 ∨ rd x j = 8205 := by
      rcases Int.decEq (rd x j) 8204 with h | h
      · rcases Int.decEq (rd x j) 8205 with h' | h'
        · exact absurd ⟨h, h'⟩ hp
        · exact .inr h'
      · exact .inl h
    obtain ⟨h1, h2⟩ := h j hj hq
    exact fits_led (by omega) hp ⟨by omega, h2⟩
theorem led_nil (C : Int → Int) : Led C [] := fun j hj => absurd hj (Nat.not_lt_zero _)
theorem rd_front {x : List Int} {a : Int} {j : Nat} (h : j < x.length) : rd (x ++ [a]) j = rd x j := by
  rw [rd_elem _ j (by rw [List.length_append]; omega), rd_elem x j h, List.getElem_append_left h]
theorem rd_back (x : List Int) (a : Int) : rd (x ++ [a]) x.length = a := by
  rw [rd_elem _ _ (by rw [List.length_append]; simp), List.getElem_append_right (Nat.le_refl _)]
  simp
theorem led_plain {C : Int → Int} {x : List Int} {a : Int} (h : Led C x) (ha : a ≠ 8204 ∧ a ≠ 8205) : Led C (x ++ [a]) := by
  intro j hj hq
  rw [List.length_append] at hj
  simp only [List.length_cons, List.length_nil] at hj
  rcases Nat.lt_or_ge j x.length with hl | hl
  · rw [rd_front hl] at hq
    obtain ⟨h1, h2⟩ := h j hl hq
    refine ⟨h1, ?_⟩
    rw [show (j : Int) - 1 = ((j - 1 : Nat) : Int) by omega, rd_front (by omega), ← show (j : Int) - 1 = ((j - 1 : Nat) : Int) by omega]
    exact h2
  · have : j = x.length := by omega
    subst this
    rw [rd_back] at hq
    rcases hq with e | e
    · exact absurd e ha.1
    · exact absurd e ha.2
theorem led_joiner {C : Int → Int} {x : List Int} {v a : Int} (h : Led C x) (hv : v ≠ 8204 ∧ v ≠ 8205) (hc : C v = 9) : Led C ((x ++ [v]) ++ [a]) := by
  have h1 := led_plain h hv
  intro j hj hq
  rw [List.length_append] at hj
  simp only [List.length_cons, List.length_nil] at hj
  rcases Nat.lt_or_ge j (x ++ [v]).length with hl | hl
  · rw [rd_front hl] at hq
    obtain ⟨h2, h3⟩ := h1 j hl hq
    refine ⟨h2, ?_⟩
    rw [show (j : Int) - 1 = ((j - 1 : Nat) : Int) by omega, rd_front (by omega), ← show (j : Int) - 1 = ((j - 1 : Nat) : Int) by omega]
    exact h3
  · have hjl : j = (x ++ [v]).length := by omega
    have hx : (x ++ [v]).length = x.length + 1 := by simp
    refine ⟨by omega, ?_⟩
    rw [show (j : Int) - 1 = (x.length : Int) by omega, rd_front (by omega), rd_back]
    exact hc
theorem noJ_snoc {x : List Int} {a : Int} (h : NoJ x) (ha : a ≠ 8204 ∧ a ≠ 8205) : NoJ (x ++ [a]) := by
  intro z hz
  rcases List.mem_append.1 hz with hz | hz
  · exact h z hz
  · simp only [List.mem_singleton] at hz
    subst hz
    exact ha
end Go.Proofs.YtfoldfaeelggoaaGreat.M
