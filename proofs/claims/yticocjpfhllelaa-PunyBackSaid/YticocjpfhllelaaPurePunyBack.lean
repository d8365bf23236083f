/- In plain Lean: a sound sequence is written, and read as it was. -/
import Derived.Test.YticocjpfhllelaaXP8
import Derived.Test.YticocjpfhllelaaPP6
set_option linter.unusedVariables false
set_option linter.unusedSimpArgs false
namespace Go.Proofs.Yticocjpfhllelaa.Pure
open Go.RowKit Go.Proofs.Yticocjpfhllelaa.XP Go.Proofs.StableSort Go.Proofs.YticocjpfhllelaaW.PrintWords Go.Proofs.YticocjpfhllelaaW.PrintLast

theorem back_end (l0 w : List Int) (hw : w.length ≤ 1000) (hv : ∀ x ∈ w, validI x = true) (i : Int) (K : Nat) (hK : 50000 < K) : endonymlaw11_PunyBack.j1 K l0 w i false = some true := by
  obtain ⟨K, rfl⟩ : ∃ q, K = q + 1 := ⟨K - 1, by omega⟩
  obtain ⟨D, h1, h2, h3, h4, h5⟩ := enc_run w hv (by omega)
  have hb := basics_range hv
  have hbl := basics_length w
  have hE : ∀ x ∈ headL (basics w) ++ D, 0 ≤ x ∧ x < 256 := fun x hx => by
    rcases List.mem_append.1 hx with hx | hx
    · unfold headL at hx
      split at hx
      · rcases List.mem_append.1 hx with hx | hx
        · have := hb x hx; omega
        · simp at hx; omega
      · simp at hx
    · have := h2 x hx; omega
  have hhl : (headL (basics w)).length ≤ 1001 := by unfold headL; split <;> simp <;> omega
  have hsz : (strOfNums (headL (basics w) ++ D)).size ≤ 21001 := by rw [strOfNums_size, List.length_append]; omega
  simp only [endonymlaw11_PunyBack.j1]
  rw [if_neg (by simp), show puny_Encode.f w = _ from h1]
  simp only [Option.bind_some]
  rw [dec_f _ _ (by omega), bytesOf_strOfNums _ hE, decB_head (basics w) D (fun b hx => (hb b hx).2) h2 (by omega), h5, told_f _ (by omega)]
  simp only [Option.bind_some, if_true]
  rw [same_f w _ (by omega) (by omega)]
  rfl
theorem back_l0 (l0 : List Int) (hl : l0.length ≤ 1000000000000000) : ∀ (m i : Nat) (w : List Int), i + m = 1000 → w.length ≤ i → (∀ x ∈ w, validI x = true) → ∀ K, 2 * m + 50010 ≤ K → endonymlaw11_PunyBack.l0 K l0 w i = some true := by
  intro m
  induction m with
  | zero =>
    intro i w hi hwl hv K hK
    obtain ⟨K, rfl⟩ : ∃ q, K = q + 1 := ⟨K - 1, by omega⟩
    simp only [endonymlaw11_PunyBack.l0]
    rw [decide_eq_false (show ¬ (i : Int) < 1000 by omega), ite_self]
    exact back_end l0 w (by omega) hv i K (by omega)
  | succ m ih =>
    intro i w hi hwl hv K hK
    obtain ⟨K, rfl⟩ : ∃ q, K = q + 2 := ⟨K - 2, by omega⟩
    simp only [endonymlaw11_PunyBack.l0]
    by_cases h : (i : Int) < (l0.length : Int)
    · rw [if_pos h, decide_eq_true (show (i : Int) < 1000 by omega)]
      simp only [endonymlaw11_PunyBack.j1, if_true]
      have e1 : wrap64 ((i : Int) + 1) = ((i + 1 : Nat) : Int) := by rw [wrap64_id (by omega) (by omega)]; omega
      rw [if_pos (by omega), if_pos h, valid3_f, e1]
      simp only [Option.bind_some]
      by_cases hval : validI (rd l0 i) = true
      · rw [if_pos hval, if_pos (by omega)]
        refine ih (i + 1) _ (by omega) (by simp; omega) (fun x hx => ?_) K (by omega)
        rcases List.mem_append.1 hx with hx | hx
        · exact hv x hx
        · simp only [List.mem_singleton] at hx
          rw [hx]; exact hval
      · rw [if_neg hval]
        exact ih (i + 1) w (by omega) (by omega) hv K (by omega)
    · rw [if_neg h]
      exact back_end l0 w (by omega) hv i _ (by omega)

theorem PunyBack : endonymlaw11_PunyBack.Pure := by
  intro l0 _ h2 _
  refine ⟨60000, ?_⟩
  unfold endonymlaw11_PunyBack.f
  exact back_l0 l0 (by omega) 1000 0 [] (by omega) (by simp) (by simp) 60000 (by omega)
end Go.Proofs.Yticocjpfhllelaa.Pure
